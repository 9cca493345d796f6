/-
  package cspace: Put, DropNode.
-/
import Derived.Test.YtlkofpoginokbaaCsp2
import Derived.Test.YtlkofpoginokbaaEng16
import Derived.Test.YtlkofpoginokbaaMapD
namespace Go.Eng
set_option linter.unusedSimpArgs false
set_option linter.unusedVariables false
set_option maxRecDepth 16000
set_option maxHeartbeats 4000000
open Go Go.Proofs
section
variable {h : Heap} {F : List SP} {sb : Nat} {L : List Nd}
theorem capsL_sets (S : List Cap) (i : Nat) (c : Cap) (hi : i < S.length) : ((((((((capsL S).set (i * 8) (.int .i64 c.K)).set (i * 8 + 1) (.int .i64 c.O)).set (i * 8 + 1 + 1) (.int .i64 c.R)).set (i * 8 + 1 + 1 + 1) (.int .i64 c.B)).set (i * 8 + 1 + 1 + 1 + 1) (.int .i64 c.X)).set (i * 8 + 1 + 1 + 1 + 1 + 1) (.int .i64 c.G)).set (i * 8 + 1 + 1 + 1 + 1 + 1 + 1) (.int .i64 c.W)).set (i * 8 + 1 + 1 + 1 + 1 + 1 + 1 + 1) (.bool c.D) = capsL (S.set i c) := by
  apply List.ext_getElem?
  intro k
  have hl := capsL_len S
  have hk : k = k / 8 * 8 + k % 8 := by omega
  rw [hk]
  generalize hq : k / 8 = q
  generalize hr : k % 8 = r
  have hr8 : r < 8 := by omega
  rw [capsL_get _ _ _ hr8]
  by_cases c1 : q = i
  · subst c1
    rw [List.getElem?_set_self hi]
    have : r = 0 ∨ r = 1 ∨ r = 2 ∨ r = 3 ∨ r = 4 ∨ r = 5 ∨ r = 6 ∨ r = 7 := by omega
    rcases this with rfl | rfl | rfl | rfl | rfl | rfl | rfl | rfl
    all_goals
      simp only [List.getElem?_set, List.length_set, hl, Option.bind_some, if_true]
      repeat rw [if_neg (by omega)]
      (try simp only [if_true])
      repeat rw [if_pos (by omega)]
      rfl
  · rw [List.getElem?_set_ne (by omega), List.getElem?_set_ne (by omega), List.getElem?_set_ne (by omega), List.getElem?_set_ne (by omega), List.getElem?_set_ne (by omega), List.getElem?_set_ne (by omega), List.getElem?_set_ne (by omega), List.getElem?_set_ne (by omega), List.getElem?_set_ne (by omega), capsL_get _ _ _ hr8]
theorem cput_S (hs : Sat h (spaceS sb L :: F)) (node index : Int) (c : Cap) (hf : c.fit) : HCalls Try.prog 14 #[.pointer (some ⟨sb, 0, none⟩), .agg #[.int .i64 node, .int .i64 index], .agg c.cells.toArray] h fun v h' => v = .int .i64 (putN L node index c).2 ∧ Sat h' (spaceS sb (putN L node index c).1 :: F) := by
  refine HCalls.via fun R hR => ?_
  obtain ⟨mb, ty, es, clk, h1, h2, h3, h4, h5⟩ := space_look hs
  refine HCalls.of_dev T14 Try.func14 rfl mixed (by kernel_rfl) ?_; rw [Try.results14]
  simp (maxSteps := 2000000) (disch := first | (simp only [go_sem, Nat.reduceBEq, Nat.reduceAdd, Nat.reduceMul, Nat.reduceSub, Nat.reduceEqDiff, Nat.reduceLeDiff, Nat.reduceLT, Int.reduceEq, Int.reduceAdd, Int.reduceSub, Int.reduceMul, Int.reduceNeg, Int.reduceLT, Int.reduceLE, Int.reduceToNat, Int.reduceBEq, Int.reduceNe, reduceCtorEq]; done) | omega | (simp only [go_sem, Nat.reduceBEq, Nat.reduceAdd, Nat.reduceMul, Nat.reduceSub, Nat.reduceEqDiff, Nat.reduceLeDiff, Nat.reduceLT, Int.reduceEq, Int.reduceAdd, Int.reduceSub, Int.reduceMul, Int.reduceNeg, Int.reduceLT, Int.reduceLE, Int.reduceToNat, Int.reduceBEq, Int.reduceNe, reduceCtorEq]; omega)) only [go_sem, Nat.reduceBEq, Nat.reduceAdd, Nat.reduceMul, Nat.reduceSub, Nat.reduceEqDiff, Nat.reduceLeDiff, Nat.reduceLT, Int.reduceEq, Int.reduceAdd, Int.reduceSub, Int.reduceMul, Int.reduceNeg, Int.reduceLT, Int.reduceLE, Int.reduceToNat, Int.reduceBEq, Int.reduceNe, reduceCtorEq, w64_id, w8_id, w16_id, w32_id, tmod_pos, tdiv_pos, Bool.or_true, Bool.true_or, Bool.or_false, Bool.false_or, Bool.and_false, Bool.false_and, condK_decide]
  have x1 : Ext h ((h.push (.cells [.int .i64 node, .int .i64 index].toArray 27 (0, 0))).push (.cells c.cells.toArray 24 (0, 0))) := (Ext.push _ _).trans (Ext.push _ _)
  have x2 := x1.trans (Ext.push _ (refO node index))
  have f1 := (Ext.push _ (refO node index)).some (get_push2b (h := h) (a := (.cells [.int .i64 node, .int .i64 index].toArray 27 (0, 0))) (b := (.cells c.cells.toArray 24 (0, 0))))
  unfold refO at x2 f1
  simp only [Cap.cells_eq] at x1 x2 f1
  cases hn : findN L node with
  | none =>
    have e := h4 node hn
    have ep : putN L node index c = (L, 120) := by unfold putN; rw [hn]
    rw [ep] at hR
    refine (place_none (x1.some h1) (x1.some h2) h3 node index e).mono ?_
    rintro v h' ⟨rfl, rfl⟩
    unfold refO
    simp (maxSteps := 2000000) (disch := first | (simp only [go_sem, Nat.reduceBEq, Nat.reduceAdd, Nat.reduceMul, Nat.reduceSub, Nat.reduceEqDiff, Nat.reduceLeDiff, Nat.reduceLT, Int.reduceEq, Int.reduceAdd, Int.reduceSub, Int.reduceMul, Int.reduceNeg, Int.reduceLT, Int.reduceLE, Int.reduceToNat, Int.reduceBEq, Int.reduceNe, reduceCtorEq, f1]; done) | omega | (simp only [go_sem, Nat.reduceBEq, Nat.reduceAdd, Nat.reduceMul, Nat.reduceSub, Nat.reduceEqDiff, Nat.reduceLeDiff, Nat.reduceLT, Int.reduceEq, Int.reduceAdd, Int.reduceSub, Int.reduceMul, Int.reduceNeg, Int.reduceLT, Int.reduceLE, Int.reduceToNat, Int.reduceBEq, Int.reduceNe, reduceCtorEq, f1]; omega)) only [go_sem, Nat.reduceBEq, Nat.reduceAdd, Nat.reduceMul, Nat.reduceSub, Nat.reduceEqDiff, Nat.reduceLeDiff, Nat.reduceLT, Int.reduceEq, Int.reduceAdd, Int.reduceSub, Int.reduceMul, Int.reduceNeg, Int.reduceLT, Int.reduceLE, Int.reduceToNat, Int.reduceBEq, Int.reduceNe, reduceCtorEq, w64_id, w8_id, w16_id, w32_id, tmod_pos, tdiv_pos, Bool.or_true, Bool.true_or, Bool.or_false, Bool.false_or, Bool.and_false, Bool.false_and, condK_decide, f1]
    exact hR _ _ ⟨rfl, hs.grow x2⟩
  | some n =>
    obtain ⟨hm, hi, lb, e1, e2, back⟩ := h5 node n hn
    refine (place_some (x1.some h1) (x1.some h2) h3 node index e1).mono ?_
    rintro v h' ⟨rfl, rfl⟩
    unfold refO
    by_cases g : 0 ≤ index ∧ index < n.S.length
    · rw [if_pos g]
      have hlt : index.toNat < n.S.length := by omega
      simp (maxSteps := 2000000) (disch := first | (simp only [go_sem, Nat.reduceBEq, Nat.reduceAdd, Nat.reduceMul, Nat.reduceSub, Nat.reduceEqDiff, Nat.reduceLeDiff, Nat.reduceLT, Int.reduceEq, Int.reduceAdd, Int.reduceSub, Int.reduceMul, Int.reduceNeg, Int.reduceLT, Int.reduceLE, Int.reduceToNat, Int.reduceBEq, Int.reduceNe, reduceCtorEq, f1]; done) | omega | (simp only [go_sem, Nat.reduceBEq, Nat.reduceAdd, Nat.reduceMul, Nat.reduceSub, Nat.reduceEqDiff, Nat.reduceLeDiff, Nat.reduceLT, Int.reduceEq, Int.reduceAdd, Int.reduceSub, Int.reduceMul, Int.reduceNeg, Int.reduceLT, Int.reduceLE, Int.reduceToNat, Int.reduceBEq, Int.reduceNe, reduceCtorEq, f1]; omega)) only [go_sem, Nat.reduceBEq, Nat.reduceAdd, Nat.reduceMul, Nat.reduceSub, Nat.reduceEqDiff, Nat.reduceLeDiff, Nat.reduceLT, Int.reduceEq, Int.reduceAdd, Int.reduceSub, Int.reduceMul, Int.reduceNeg, Int.reduceLT, Int.reduceLE, Int.reduceToNat, Int.reduceBEq, Int.reduceNe, reduceCtorEq, w64_id, w8_id, w16_id, w32_id, tmod_pos, tdiv_pos, Bool.or_true, Bool.true_or, Bool.or_false, Bool.false_or, Bool.and_false, Bool.false_and, condK_decide, f1]
      refine (right_S c hf).mono ?_
      rintro v k ⟨rfl, xk⟩
      by_cases r : RightP c
      · have ep : putN L node index c = (setS L node (n.S.set index.toNat c), 0) := by unfold putN; simp only [hn, if_pos g, if_pos r]
        rw [ep] at hR
        simp (maxSteps := 2000000) (disch := first | (simp only [go_sem, Nat.reduceBEq, Nat.reduceAdd, Nat.reduceMul, Nat.reduceSub, Nat.reduceEqDiff, Nat.reduceLeDiff, Nat.reduceLT, Int.reduceEq, Int.reduceAdd, Int.reduceSub, Int.reduceMul, Int.reduceNeg, Int.reduceLT, Int.reduceLE, Int.reduceToNat, Int.reduceBEq, Int.reduceNe, reduceCtorEq, r, xk.some f1, xk.some (x2.some e2)]; done) | omega | (simp only [go_sem, Nat.reduceBEq, Nat.reduceAdd, Nat.reduceMul, Nat.reduceSub, Nat.reduceEqDiff, Nat.reduceLeDiff, Nat.reduceLT, Int.reduceEq, Int.reduceAdd, Int.reduceSub, Int.reduceMul, Int.reduceNeg, Int.reduceLT, Int.reduceLE, Int.reduceToNat, Int.reduceBEq, Int.reduceNe, reduceCtorEq, r, xk.some f1, xk.some (x2.some e2)]; omega)) only [go_sem, Nat.reduceBEq, Nat.reduceAdd, Nat.reduceMul, Nat.reduceSub, Nat.reduceEqDiff, Nat.reduceLeDiff, Nat.reduceLT, Int.reduceEq, Int.reduceAdd, Int.reduceSub, Int.reduceMul, Int.reduceNeg, Int.reduceLT, Int.reduceLE, Int.reduceToNat, Int.reduceBEq, Int.reduceNe, reduceCtorEq, w64_id, w8_id, w16_id, w32_id, tmod_pos, tdiv_pos, Bool.or_true, Bool.true_or, Bool.or_false, Bool.false_or, Bool.and_false, Bool.false_and, condK_decide, r, xk.some f1, xk.some (x2.some e2)]
        have hl := capsL_len n.S
        refine ⟨by omega, by rw [List.length_set]; omega, by simp only [List.length_set]; omega, by simp only [List.length_set]; omega, by simp only [List.length_set]; omega, by simp only [List.length_set]; omega, by simp only [List.length_set]; omega, by simp only [List.length_set]; omega, ?_⟩
        rw [capsL_sets _ _ _ hlt]
        exact hR _ _ ⟨rfl, back k _ (x2.trans xk) (List.length_set ..)⟩
      · have ep : putN L node index c = (L, 141) := by unfold putN; simp only [hn, if_pos g, if_neg r]
        rw [ep] at hR
        simp (maxSteps := 2000000) (disch := first | (simp only [go_sem, Nat.reduceBEq, Nat.reduceAdd, Nat.reduceMul, Nat.reduceSub, Nat.reduceEqDiff, Nat.reduceLeDiff, Nat.reduceLT, Int.reduceEq, Int.reduceAdd, Int.reduceSub, Int.reduceMul, Int.reduceNeg, Int.reduceLT, Int.reduceLE, Int.reduceToNat, Int.reduceBEq, Int.reduceNe, reduceCtorEq, r]; done) | omega | (simp only [go_sem, Nat.reduceBEq, Nat.reduceAdd, Nat.reduceMul, Nat.reduceSub, Nat.reduceEqDiff, Nat.reduceLeDiff, Nat.reduceLT, Int.reduceEq, Int.reduceAdd, Int.reduceSub, Int.reduceMul, Int.reduceNeg, Int.reduceLT, Int.reduceLE, Int.reduceToNat, Int.reduceBEq, Int.reduceNe, reduceCtorEq, r]; omega)) only [go_sem, Nat.reduceBEq, Nat.reduceAdd, Nat.reduceMul, Nat.reduceSub, Nat.reduceEqDiff, Nat.reduceLeDiff, Nat.reduceLT, Int.reduceEq, Int.reduceAdd, Int.reduceSub, Int.reduceMul, Int.reduceNeg, Int.reduceLT, Int.reduceLE, Int.reduceToNat, Int.reduceBEq, Int.reduceNe, reduceCtorEq, w64_id, w8_id, w16_id, w32_id, tmod_pos, tdiv_pos, Bool.or_true, Bool.true_or, Bool.or_false, Bool.false_or, Bool.and_false, Bool.false_and, condK_decide, r]
        exact hR _ _ ⟨rfl, hs.grow (x2.trans xk)⟩
    · have ep : putN L node index c = (L, 1) := by unfold putN; simp only [hn, if_neg g]
      rw [ep] at hR
      rw [if_neg g]
      simp (maxSteps := 2000000) (disch := first | (simp only [go_sem, Nat.reduceBEq, Nat.reduceAdd, Nat.reduceMul, Nat.reduceSub, Nat.reduceEqDiff, Nat.reduceLeDiff, Nat.reduceLT, Int.reduceEq, Int.reduceAdd, Int.reduceSub, Int.reduceMul, Int.reduceNeg, Int.reduceLT, Int.reduceLE, Int.reduceToNat, Int.reduceBEq, Int.reduceNe, reduceCtorEq, f1]; done) | omega | (simp only [go_sem, Nat.reduceBEq, Nat.reduceAdd, Nat.reduceMul, Nat.reduceSub, Nat.reduceEqDiff, Nat.reduceLeDiff, Nat.reduceLT, Int.reduceEq, Int.reduceAdd, Int.reduceSub, Int.reduceMul, Int.reduceNeg, Int.reduceLT, Int.reduceLE, Int.reduceToNat, Int.reduceBEq, Int.reduceNe, reduceCtorEq, f1]; omega)) only [go_sem, Nat.reduceBEq, Nat.reduceAdd, Nat.reduceMul, Nat.reduceSub, Nat.reduceEqDiff, Nat.reduceLeDiff, Nat.reduceLT, Int.reduceEq, Int.reduceAdd, Int.reduceSub, Int.reduceMul, Int.reduceNeg, Int.reduceLT, Int.reduceLE, Int.reduceToNat, Int.reduceBEq, Int.reduceNe, reduceCtorEq, w64_id, w8_id, w16_id, w32_id, tmod_pos, tdiv_pos, Bool.or_true, Bool.true_or, Bool.or_false, Bool.false_or, Bool.and_false, Bool.false_and, condK_decide, f1]
      exact hR _ _ ⟨rfl, hs.grow x2⟩

def dropN (L : List Nd) (id : Int) : List Nd × Int := match findN L id with
  | none => (L, 120)
  | some n => if n.S.all (fun c => decide (c = Cap.zero)) then (L.eraseP (fun n => n.I == id), 0) else (L, 130)
theorem Nd.wf.len16 {n : Nd} (w : n.wf) : n.S.length ≤ 16 := by
  rw [w.2.2.2.2.1]
  exact Nat.pow_le_pow_right (n := 2) (by decide) w.2.2.2.1
theorem eraseZ_fst (id : Int) (Z : List (Nd × Nat)) : (Z.eraseP (fun z => z.1.I == id)).map (·.1) = (Z.map (·.1)).eraseP (fun n => n.I == id) := by
  rw [List.eraseP_map]; rfl
theorem eraseZ {id : Int} {Z : List (Nd × Nat)} {z : Nd × Nat} (hz : findZ Z id = some z) (hw : ((Z.map (·.1)).map (·.I)).Pairwise (· < ·)) : ∃ A B a, Z = A ++ a :: B ∧ Z.eraseP (fun z => z.1.I == id) = A ++ B ∧ ∀ k, findZ (A ++ B) k = if k = id then none else findZ Z k := by
  have h1 := List.mem_of_find?_eq_some hz
  have h2 : (z.1.I == id) = true := by simpa using List.find?_some hz
  obtain ⟨a, A, B, k1, k2, k3, k4⟩ := List.exists_of_eraseP (p := fun z : Nd × Nat => z.1.I == id) h1 h2
  refine ⟨A, B, a, k3, k4, fun k => ?_⟩
  subst k3
  have k2 : a.1.I = id := by simpa using k2
  by_cases hk : k = id
  · subst hk
    rw [if_pos rfl]
    unfold findZ
    rw [List.find?_eq_none]
    intro b hb
    rcases List.mem_append.1 hb with hb | hb
    · exact k1 b hb
    · simp only [List.map_append, List.map_cons, List.map_map, List.pairwise_append, List.pairwise_cons] at hw
      have := hw.2.1.1 b.1.I (List.mem_map.2 ⟨b, hb, rfl⟩)
      simp only [beq_iff_eq]
      omega
  · rw [if_neg hk]
    unfold findZ
    rw [List.find?_append, List.find?_append, List.find?_cons_of_neg (by simp only [beq_iff_eq]; omega)]
theorem dropNode_S (hs : Sat h (spaceS sb L :: F)) (hw : wfL L) (id : Int) : HCalls Try.prog 18 #[.pointer (some ⟨sb, 0, none⟩), .int .i64 id] h fun v h' => v = .int .i64 (dropN L id).2 ∧ Sat h' (spaceS sb (dropN L id).1 :: F) := by
  refine HCalls.via fun R hR => ?_
  obtain ⟨mb, ty, es, clk, h1, h2, h3, h4, h5⟩ := space_look hs
  refine HCalls.of_dev T18 Try.func18 rfl mixed (by kernel_rfl) ?_; rw [Try.results18]
  cases hn : findN L id with
  | none =>
    have e := h4 id hn
    have ep : dropN L id = (L, 120) := by unfold dropN; rw [hn]
    rw [ep] at hR
    simp (maxSteps := 2000000) (disch := first | (simp only [go_sem, Nat.reduceBEq, Nat.reduceAdd, Nat.reduceMul, Nat.reduceSub, Nat.reduceEqDiff, Nat.reduceLeDiff, Nat.reduceLT, Int.reduceEq, Int.reduceAdd, Int.reduceSub, Int.reduceMul, Int.reduceNeg, Int.reduceLT, Int.reduceLE, Int.reduceToNat, Int.reduceBEq, Int.reduceNe, reduceCtorEq, h1, h2, h3, e]; done) | omega | (simp only [go_sem, Nat.reduceBEq, Nat.reduceAdd, Nat.reduceMul, Nat.reduceSub, Nat.reduceEqDiff, Nat.reduceLeDiff, Nat.reduceLT, Int.reduceEq, Int.reduceAdd, Int.reduceSub, Int.reduceMul, Int.reduceNeg, Int.reduceLT, Int.reduceLE, Int.reduceToNat, Int.reduceBEq, Int.reduceNe, reduceCtorEq, h1, h2, h3, e]; omega)) only [go_sem, Nat.reduceBEq, Nat.reduceAdd, Nat.reduceMul, Nat.reduceSub, Nat.reduceEqDiff, Nat.reduceLeDiff, Nat.reduceLT, Int.reduceEq, Int.reduceAdd, Int.reduceSub, Int.reduceMul, Int.reduceNeg, Int.reduceLT, Int.reduceLE, Int.reduceToNat, Int.reduceBEq, Int.reduceNe, reduceCtorEq, w64_id, w8_id, w16_id, w32_id, tmod_pos, tdiv_pos, Bool.or_true, Bool.true_or, Bool.or_false, Bool.false_or, Bool.and_false, Bool.false_and, condK_decide, h1, h2, h3, e]
    exact hR _ _ ⟨rfl, hs⟩
  | some n =>
    obtain ⟨hm, hi, lb, e1, e2, -⟩ := h5 id n hn
    simp (maxSteps := 2000000) (disch := first | (simp only [go_sem, Nat.reduceBEq, Nat.reduceAdd, Nat.reduceMul, Nat.reduceSub, Nat.reduceEqDiff, Nat.reduceLeDiff, Nat.reduceLT, Int.reduceEq, Int.reduceAdd, Int.reduceSub, Int.reduceMul, Int.reduceNeg, Int.reduceLT, Int.reduceLE, Int.reduceToNat, Int.reduceBEq, Int.reduceNe, reduceCtorEq, h1, h2, h3, e1]; done) | omega | (simp only [go_sem, Nat.reduceBEq, Nat.reduceAdd, Nat.reduceMul, Nat.reduceSub, Nat.reduceEqDiff, Nat.reduceLeDiff, Nat.reduceLT, Int.reduceEq, Int.reduceAdd, Int.reduceSub, Int.reduceMul, Int.reduceNeg, Int.reduceLT, Int.reduceLE, Int.reduceToNat, Int.reduceBEq, Int.reduceNe, reduceCtorEq, h1, h2, h3, e1]; omega)) only [go_sem, Nat.reduceBEq, Nat.reduceAdd, Nat.reduceMul, Nat.reduceSub, Nat.reduceEqDiff, Nat.reduceLeDiff, Nat.reduceLT, Int.reduceEq, Int.reduceAdd, Int.reduceSub, Int.reduceMul, Int.reduceNeg, Int.reduceLT, Int.reduceLE, Int.reduceToNat, Int.reduceBEq, Int.reduceNe, reduceCtorEq, w64_id, w8_id, w16_id, w32_id, tmod_pos, tdiv_pos, Bool.or_true, Bool.true_or, Bool.or_false, Bool.false_or, Bool.and_false, Bool.false_and, condK_decide, h1, h2, h3, e1]
    refine loopH.intro (fun i : Nat => (.cons 0 (.pointer (some ⟨sb, 0, none⟩)) true (.cons 1 (.int .i64 id) true (.cons 20 (.slice (some ⟨lb, 0, none⟩) n.S.length n.S.length) true (.cons 21 (.int .i64 n.S.length) true (.cons 22 (.int .i64 i) true .nil)))))) (fun i h' => Ext h h' ∧ i ≤ n.S.length ∧ ∀ (j : Nat) c, j < i → n.S[j]? = some c → c = Cap.zero) (fun i _ => n.S.length + 1 - i) 0 ?_ ⟨Ext.refl _, by omega, fun j c hj => by omega⟩ ?_
    · simp (maxSteps := 2000000) (disch := first | (simp only [go_sem, Nat.reduceBEq, Nat.reduceAdd, Nat.reduceMul, Nat.reduceSub, Nat.reduceEqDiff, Nat.reduceLeDiff, Nat.reduceLT, Int.reduceEq, Int.reduceAdd, Int.reduceSub, Int.reduceMul, Int.reduceNeg, Int.reduceLT, Int.reduceLE, Int.reduceToNat, Int.reduceBEq, Int.reduceNe, reduceCtorEq]; done) | omega | (simp only [go_sem, Nat.reduceBEq, Nat.reduceAdd, Nat.reduceMul, Nat.reduceSub, Nat.reduceEqDiff, Nat.reduceLeDiff, Nat.reduceLT, Int.reduceEq, Int.reduceAdd, Int.reduceSub, Int.reduceMul, Int.reduceNeg, Int.reduceLT, Int.reduceLE, Int.reduceToNat, Int.reduceBEq, Int.reduceNe, reduceCtorEq]; omega)) only [go_sem, Nat.reduceBEq, Nat.reduceAdd, Nat.reduceMul, Nat.reduceSub, Nat.reduceEqDiff, Nat.reduceLeDiff, Nat.reduceLT, Int.reduceEq, Int.reduceAdd, Int.reduceSub, Int.reduceMul, Int.reduceNeg, Int.reduceLT, Int.reduceLE, Int.reduceToNat, Int.reduceBEq, Int.reduceNe, reduceCtorEq, w64_id, w8_id, w16_id, w32_id, tmod_pos, tdiv_pos, Bool.or_true, Bool.true_or, Bool.or_false, Bool.false_or, Bool.and_false, Bool.false_and, condK_decide]; rfl
    rintro i h' ⟨hx, hi, hz⟩
    by_cases q : i < n.S.length
    · have e4 := caps_cut (List.getElem?_eq_getElem q)
      simp (maxSteps := 2000000) (disch := first | (simp only [go_sem, Nat.reduceBEq, Nat.reduceAdd, Nat.reduceMul, Nat.reduceSub, Nat.reduceEqDiff, Nat.reduceLeDiff, Nat.reduceLT, Int.reduceEq, Int.reduceAdd, Int.reduceSub, Int.reduceMul, Int.reduceNeg, Int.reduceLT, Int.reduceLE, Int.reduceToNat, Int.reduceBEq, Int.reduceNe, reduceCtorEq, hx.some e2, q, e4]; done) | omega | (simp only [go_sem, Nat.reduceBEq, Nat.reduceAdd, Nat.reduceMul, Nat.reduceSub, Nat.reduceEqDiff, Nat.reduceLeDiff, Nat.reduceLT, Int.reduceEq, Int.reduceAdd, Int.reduceSub, Int.reduceMul, Int.reduceNeg, Int.reduceLT, Int.reduceLE, Int.reduceToNat, Int.reduceBEq, Int.reduceNe, reduceCtorEq, hx.some e2, q, e4]; omega)) only [go_sem, Nat.reduceBEq, Nat.reduceAdd, Nat.reduceMul, Nat.reduceSub, Nat.reduceEqDiff, Nat.reduceLeDiff, Nat.reduceLT, Int.reduceEq, Int.reduceAdd, Int.reduceSub, Int.reduceMul, Int.reduceNeg, Int.reduceLT, Int.reduceLE, Int.reduceToNat, Int.reduceBEq, Int.reduceNe, reduceCtorEq, w64_id, w8_id, w16_id, w32_id, tmod_pos, tdiv_pos, Bool.or_true, Bool.true_or, Bool.or_false, Bool.false_or, Bool.and_false, Bool.false_and, condK_decide, hx.some e2, q, e4]
      refine ⟨fun _ => ?_, fun z => absurd (by omega) z⟩
      refine (empty_S _).mono ?_
      rintro v k ⟨rfl, xk⟩
      by_cases hc : n.S[i] = Cap.zero
      · simp (maxSteps := 2000000) (disch := first | (simp only [go_sem, Nat.reduceBEq, Nat.reduceAdd, Nat.reduceMul, Nat.reduceSub, Nat.reduceEqDiff, Nat.reduceLeDiff, Nat.reduceLT, Int.reduceEq, Int.reduceAdd, Int.reduceSub, Int.reduceMul, Int.reduceNeg, Int.reduceLT, Int.reduceLE, Int.reduceToNat, Int.reduceBEq, Int.reduceNe, reduceCtorEq, hc]; done) | omega | (simp only [go_sem, Nat.reduceBEq, Nat.reduceAdd, Nat.reduceMul, Nat.reduceSub, Nat.reduceEqDiff, Nat.reduceLeDiff, Nat.reduceLT, Int.reduceEq, Int.reduceAdd, Int.reduceSub, Int.reduceMul, Int.reduceNeg, Int.reduceLT, Int.reduceLE, Int.reduceToNat, Int.reduceBEq, Int.reduceNe, reduceCtorEq, hc]; omega)) only [go_sem, Nat.reduceBEq, Nat.reduceAdd, Nat.reduceMul, Nat.reduceSub, Nat.reduceEqDiff, Nat.reduceLeDiff, Nat.reduceLT, Int.reduceEq, Int.reduceAdd, Int.reduceSub, Int.reduceMul, Int.reduceNeg, Int.reduceLT, Int.reduceLE, Int.reduceToNat, Int.reduceBEq, Int.reduceNe, reduceCtorEq, w64_id, w8_id, w16_id, w32_id, tmod_pos, tdiv_pos, Bool.or_true, Bool.true_or, Bool.or_false, Bool.false_or, Bool.and_false, Bool.false_and, condK_decide, hc]
        refine ⟨i + 1, ?_, ⟨(hx.trans (Ext.push _ _)).trans xk, by omega, fun j c hj hc2 => ?_⟩, by simp only; omega⟩
        · have h16 := (hw.1 n hm).len16
          rw [w64_id (by omega) (by omega)]
          rfl
        · by_cases e : j = i
          · subst e
            rw [List.getElem?_eq_getElem q] at hc2
            cases hc2
            exact hc
          · exact hz j c (by omega) hc2
      · have ep : dropN L id = (L, 130) := by
          unfold dropN
          rw [hn]
          simp only
          rw [if_neg]
          intro ha
          exact hc (by simpa using List.all_eq_true.1 ha _ (List.getElem_mem q))
        rw [ep] at hR
        simp (maxSteps := 2000000) (disch := first | (simp only [go_sem, Nat.reduceBEq, Nat.reduceAdd, Nat.reduceMul, Nat.reduceSub, Nat.reduceEqDiff, Nat.reduceLeDiff, Nat.reduceLT, Int.reduceEq, Int.reduceAdd, Int.reduceSub, Int.reduceMul, Int.reduceNeg, Int.reduceLT, Int.reduceLE, Int.reduceToNat, Int.reduceBEq, Int.reduceNe, reduceCtorEq, hc]; done) | omega | (simp only [go_sem, Nat.reduceBEq, Nat.reduceAdd, Nat.reduceMul, Nat.reduceSub, Nat.reduceEqDiff, Nat.reduceLeDiff, Nat.reduceLT, Int.reduceEq, Int.reduceAdd, Int.reduceSub, Int.reduceMul, Int.reduceNeg, Int.reduceLT, Int.reduceLE, Int.reduceToNat, Int.reduceBEq, Int.reduceNe, reduceCtorEq, hc]; omega)) only [go_sem, Nat.reduceBEq, Nat.reduceAdd, Nat.reduceMul, Nat.reduceSub, Nat.reduceEqDiff, Nat.reduceLeDiff, Nat.reduceLT, Int.reduceEq, Int.reduceAdd, Int.reduceSub, Int.reduceMul, Int.reduceNeg, Int.reduceLT, Int.reduceLE, Int.reduceToNat, Int.reduceBEq, Int.reduceNe, reduceCtorEq, w64_id, w8_id, w16_id, w32_id, tmod_pos, tdiv_pos, Bool.or_true, Bool.true_or, Bool.or_false, Bool.false_or, Bool.and_false, Bool.false_and, condK_decide, hc]
        exact hR _ _ ⟨rfl, hs.grow ((hx.trans (Ext.push _ _)).trans xk)⟩
    · have ep : dropN L id = (L.eraseP (fun n => n.I == id), 0) := by
        unfold dropN
        rw [hn]
        simp only
        rw [if_pos]
        rw [List.all_eq_true]
        intro c hc
        obtain ⟨j, hj, rfl⟩ := List.getElem_of_mem hc
        exact decide_eq_true (hz j _ (by omega) (List.getElem?_eq_getElem hj))
      rw [ep] at hR
      obtain ⟨mb2, ty2, es2, clk2, Z, p, s⟩ := spaceS_iff.1 (hs.grow hx)
      have q2 : ¬ (i : Int) < n.S.length := by omega
      simp (maxSteps := 2000000) (disch := first | (simp only [go_sem, Nat.reduceBEq, Nat.reduceAdd, Nat.reduceMul, Nat.reduceSub, Nat.reduceEqDiff, Nat.reduceLeDiff, Nat.reduceLT, Int.reduceEq, Int.reduceAdd, Int.reduceSub, Int.reduceMul, Int.reduceNeg, Int.reduceLT, Int.reduceLE, Int.reduceToNat, Int.reduceBEq, Int.reduceNe, reduceCtorEq, q2, s.get]; done) | omega | (simp only [go_sem, Nat.reduceBEq, Nat.reduceAdd, Nat.reduceMul, Nat.reduceSub, Nat.reduceEqDiff, Nat.reduceLeDiff, Nat.reduceLT, Int.reduceEq, Int.reduceAdd, Int.reduceSub, Int.reduceMul, Int.reduceNeg, Int.reduceLT, Int.reduceLE, Int.reduceToNat, Int.reduceBEq, Int.reduceNe, reduceCtorEq, q2, s.get]; omega)) only [go_sem, Nat.reduceBEq, Nat.reduceAdd, Nat.reduceMul, Nat.reduceSub, Nat.reduceEqDiff, Nat.reduceLeDiff, Nat.reduceLT, Int.reduceEq, Int.reduceAdd, Int.reduceSub, Int.reduceMul, Int.reduceNeg, Int.reduceLT, Int.reduceLE, Int.reduceToNat, Int.reduceBEq, Int.reduceNe, reduceCtorEq, w64_id, w8_id, w16_id, w32_id, tmod_pos, tdiv_pos, Bool.or_true, Bool.true_or, Bool.or_false, Bool.false_or, Bool.and_false, Bool.false_and, condK_decide, q2, s.get]
      refine MapIs.delete (p.mp.is (s.front 1).get) Try.underlying62 Try.underlying3 fun es' mi mv => ?_
      simp (maxSteps := 2000000) (disch := first | (simp only [go_sem, Nat.reduceBEq, Nat.reduceAdd, Nat.reduceMul, Nat.reduceSub, Nat.reduceEqDiff, Nat.reduceLeDiff, Nat.reduceLT, Int.reduceEq, Int.reduceAdd, Int.reduceSub, Int.reduceMul, Int.reduceNeg, Int.reduceLT, Int.reduceLE, Int.reduceToNat, Int.reduceBEq, Int.reduceNe, reduceCtorEq]; done) | omega | (simp only [go_sem, Nat.reduceBEq, Nat.reduceAdd, Nat.reduceMul, Nat.reduceSub, Nat.reduceEqDiff, Nat.reduceLeDiff, Nat.reduceLT, Int.reduceEq, Int.reduceAdd, Int.reduceSub, Int.reduceMul, Int.reduceNeg, Int.reduceLT, Int.reduceLE, Int.reduceToNat, Int.reduceBEq, Int.reduceNe, reduceCtorEq]; omega)) only [go_sem, Nat.reduceBEq, Nat.reduceAdd, Nat.reduceMul, Nat.reduceSub, Nat.reduceEqDiff, Nat.reduceLeDiff, Nat.reduceLT, Int.reduceEq, Int.reduceAdd, Int.reduceSub, Int.reduceMul, Int.reduceNeg, Int.reduceLT, Int.reduceLE, Int.reduceToNat, Int.reduceBEq, Int.reduceNe, reduceCtorEq, w64_id, w8_id, w16_id, w32_id, tmod_pos, tdiv_pos, Bool.or_true, Bool.true_or, Bool.or_false, Bool.false_or, Bool.and_false, Bool.false_and, condK_decide]
      refine hR _ _ ⟨rfl, ?_⟩
      have hff := findZ_fst Z id
      rw [p.fst, hn] at hff
      cases hfz : findZ Z id with
      | none => rw [hfz] at hff; cases hff
      | some z =>
        obtain ⟨A, B, a, k1, k2, k3⟩ := eraseZ hfz (by rw [p.fst]; exact hw.2)
        have s2 := (s.front 1).set (.map es' clk2)
        refine spaceS_iff.2 ⟨mb2, ty2, es', clk2, A ++ B, ⟨mi.p, by rw [← k2, eraseZ_fst, p.fst], fun k => ?_⟩, ?_⟩
        · rw [mv k, k3 k]
          by_cases hk : k = id
          · simp only [if_pos hk]; rfl
          · simp only [if_neg hk]; exact p.val k
        · have s3 : Sat _ (nodeC a :: cellAt sb _ :: cellAt mb2 _ :: ((A ++ B).map nodeC ++ F)) := s2.perm (by
            subst k1
            simp only [List.map_append, List.map_cons, List.append_assoc, List.cons_append]
            exact (List.Perm.swap _ _ _).trans ((List.Perm.cons _ (List.Perm.cons _ List.perm_middle)).trans ((List.Perm.cons _ (List.Perm.swap _ _ _)).trans (List.Perm.swap _ _ _))))
          exact s3.tail
end
end Go.Eng
