/-
  viceroyref01: Same, of two lists of bytes.
-/
import Derived.Test.YtaijcllgdlalpaaGreatDoorZj8
import Derived.Test.YtaijcllgdlalpaaGreatDoorZj3
namespace Go.Eng
set_option linter.unusedSimpArgs false
set_option linter.unusedVariables false
set_option maxRecDepth 16000
set_option maxHeartbeats 4000000
open Go Go.Proofs
section
variable {h : Heap} {F : List SP} {n m : Nat} {f g : Nat → Int} {v u : Value}
theorem same_S (hs : Sat h (sliceS 1 n v (memL n f) :: sliceS 1 m u (memL m g) :: F)) (hn : n ≤ 1000000) (hm : m ≤ 1000000) :
    HCalls Tryz.prog 14 #[v, u] h fun r h' => ∃ b, r = .bool b ∧ (b = true ↔ n = m ∧ ∀ i, i < n → f i = g i) ∧ h' = h := by
  refine HCalls.via fun R hR => ?_
  obtain ⟨sl, cap, rfl, -, -, e1⟩ := hs.elems
  obtain ⟨sl2, cap2, rfl, -, -, e2⟩ := (hs.front 1).elems
  refine HCalls.of_dev T14 Tryz.func14 rfl mixed (by kernel_rfl) ?_; rw [Tryz.results14]
  by_cases q : n = m
  · subst q
    simp (maxSteps := 2000000) (disch := first | (simp only [go_sem, Nat.reduceBEq, Nat.reduceAdd, Nat.reduceMul, Nat.reduceSub, Nat.reduceEqDiff, Nat.reduceLeDiff, Nat.reduceLT, Int.reduceEq, Int.reduceAdd, Int.reduceSub, Int.reduceMul, Int.reduceNeg, Int.reduceLT, Int.reduceLE, Int.reduceToNat, Int.reduceBEq, Int.reduceNe, reduceCtorEq] <;> omega) | omega) only [go_sem, Nat.reduceBEq, Nat.reduceAdd, Nat.reduceMul, Nat.reduceSub, Nat.reduceEqDiff, Nat.reduceLeDiff, Nat.reduceLT, Int.reduceEq, Int.reduceAdd, Int.reduceSub, Int.reduceMul, Int.reduceNeg, Int.reduceLT, Int.reduceLE, Int.reduceToNat, Int.reduceBEq, Int.reduceNe, reduceCtorEq, w64_id, w8_id, w16_id, w32_id, tmod_pos, tdiv_pos, Bool.or_true, Bool.true_or, Bool.or_false, Bool.false_or, Bool.and_false, Bool.false_and, condK_decide]
    refine loopH.intro (fun i : Nat => (.cons 0 (.slice sl n cap) true (.cons 1 (.slice sl2 n cap2) true (.cons 5 (.int .i64 i) true .nil)))) (fun i h' => h' = h ∧ i ≤ n ∧ ∀ j, j < i → f j = g j) (fun i _ => n + 1 - i) 0 ?_ ⟨rfl, by omega, by omega⟩ ?_
    · rfl
    rintro i h2 ⟨rfl, hi, heq⟩
    by_cases k : (i : Int) < n
    · have hin : i < n := by omega
      obtain rfl | ⟨lb, rfl, g1, -⟩ := e1
      · omega
      obtain rfl | ⟨lb2, rfl, g2, -⟩ := e2
      · omega
      have g1 := g1 i (by omega)
      have g2 := g2 i (by omega)
      rw [memL_get hin] at g1 g2
      simp (maxSteps := 2000000) (disch := first | (simp only [go_sem, Nat.reduceBEq, Nat.reduceAdd, Nat.reduceMul, Nat.reduceSub, Nat.reduceEqDiff, Nat.reduceLeDiff, Nat.reduceLT, Int.reduceEq, Int.reduceAdd, Int.reduceSub, Int.reduceMul, Int.reduceNeg, Int.reduceLT, Int.reduceLE, Int.reduceToNat, Int.reduceBEq, Int.reduceNe, reduceCtorEq, k, g1, g2] <;> omega) | omega) only [go_sem, Nat.reduceBEq, Nat.reduceAdd, Nat.reduceMul, Nat.reduceSub, Nat.reduceEqDiff, Nat.reduceLeDiff, Nat.reduceLT, Int.reduceEq, Int.reduceAdd, Int.reduceSub, Int.reduceMul, Int.reduceNeg, Int.reduceLT, Int.reduceLE, Int.reduceToNat, Int.reduceBEq, Int.reduceNe, reduceCtorEq, w64_id, w8_id, w16_id, w32_id, tmod_pos, tdiv_pos, Bool.or_true, Bool.true_or, Bool.or_false, Bool.false_or, Bool.and_false, Bool.false_and, condK_decide, k, g1, g2]
      refine ⟨fun q => hR _ _ ⟨false, rfl, ⟨fun e => (by cases e), fun e => absurd (e.2 i hin) q⟩, rfl⟩, fun q => ?_⟩
      refine ⟨i + 1, rfl, ⟨rfl, by omega, fun j hj => ?_⟩, by simp only; omega⟩
      by_cases e : j = i
      · subst e; exact Decidable.not_not.1 q
      · exact heq j (by omega)
    · simp (maxSteps := 2000000) (disch := first | (simp only [go_sem, Nat.reduceBEq, Nat.reduceAdd, Nat.reduceMul, Nat.reduceSub, Nat.reduceEqDiff, Nat.reduceLeDiff, Nat.reduceLT, Int.reduceEq, Int.reduceAdd, Int.reduceSub, Int.reduceMul, Int.reduceNeg, Int.reduceLT, Int.reduceLE, Int.reduceToNat, Int.reduceBEq, Int.reduceNe, reduceCtorEq, k] <;> omega) | omega) only [go_sem, Nat.reduceBEq, Nat.reduceAdd, Nat.reduceMul, Nat.reduceSub, Nat.reduceEqDiff, Nat.reduceLeDiff, Nat.reduceLT, Int.reduceEq, Int.reduceAdd, Int.reduceSub, Int.reduceMul, Int.reduceNeg, Int.reduceLT, Int.reduceLE, Int.reduceToNat, Int.reduceBEq, Int.reduceNe, reduceCtorEq, w64_id, w8_id, w16_id, w32_id, tmod_pos, tdiv_pos, Bool.or_true, Bool.true_or, Bool.or_false, Bool.false_or, Bool.and_false, Bool.false_and, condK_decide, k]
      have : i = n := by omega
      subst this
      exact hR _ _ ⟨true, rfl, ⟨fun _ => ⟨rfl, heq⟩, fun _ => rfl⟩, rfl⟩
  · have q1 : ¬ (n : Int) = m := by omega
    simp (maxSteps := 2000000) (disch := first | (simp only [go_sem, Nat.reduceBEq, Nat.reduceAdd, Nat.reduceMul, Nat.reduceSub, Nat.reduceEqDiff, Nat.reduceLeDiff, Nat.reduceLT, Int.reduceEq, Int.reduceAdd, Int.reduceSub, Int.reduceMul, Int.reduceNeg, Int.reduceLT, Int.reduceLE, Int.reduceToNat, Int.reduceBEq, Int.reduceNe, reduceCtorEq, q1] <;> omega) | omega) only [go_sem, Nat.reduceBEq, Nat.reduceAdd, Nat.reduceMul, Nat.reduceSub, Nat.reduceEqDiff, Nat.reduceLeDiff, Nat.reduceLT, Int.reduceEq, Int.reduceAdd, Int.reduceSub, Int.reduceMul, Int.reduceNeg, Int.reduceLT, Int.reduceLE, Int.reduceToNat, Int.reduceBEq, Int.reduceNe, reduceCtorEq, w64_id, w8_id, w16_id, w32_id, tmod_pos, tdiv_pos, Bool.or_true, Bool.true_or, Bool.or_false, Bool.false_or, Bool.and_false, Bool.false_and, condK_decide, q1]
    exact hR _ _ ⟨false, rfl, ⟨fun e => (by cases e), fun e => absurd e.1 q⟩, rfl⟩
theorem appB {u : TypeId} {K : Value → Heap → Prop} {l l2 : List Value} {w : Value} (hs : Sat h (sliceS 1 n v l :: F)) (src : SrcAt h 1 m w l2) (hn : n + m ≤ 1000000) (hK : ∀ v' h', Sat h' (sliceS 1 (n + m) v' (l ++ l2) :: F) → K v' h') :
    runH Tryz.prog (iAppend #[60, 60] u #[v, w]) h K :=
  Sat.append hs src isSlice_60 ssz_60 (by kernel_rfl) (by kernel_rfl) (by rw [show (tbytes Tryz.prog (sliceElem Tryz.prog 60)).getD 0 = 1 from by kernel_rfl]; omega) (by omega) hK
theorem memL_append {n m : Nat} {f : Nat → Int} : memL n f ++ memL m (fun j => f (n + j)) = memL (n + m) f := by
  unfold memL
  rw [List.range_add, List.map_append, List.map_map]
  rfl
end
end Go.Eng
/-
  A list of lists in memory.
-/
namespace Go.Eng
set_option linter.unusedSimpArgs false
set_option linter.unusedVariables false
set_option maxRecDepth 16000
set_option maxHeartbeats 4000000
open Go
/-- The parts of a list of lists. -/
def slsL (n : Nat) (A : Nat → List Value) : List Value → Nat → List SP
  | [], _ => []
  | w :: W, k => sliceS 1 n w (A k) :: slsL n A W (k + 1)
def slsS (n : Nat) (A : Nat → List Value) (W : List Value) : SP := starL (slsL n A W 0)
theorem slsL_append (n : Nat) (A : Nat → List Value) (w : Value) : ∀ (W : List Value) (k : Nat), slsL n A (W ++ [w]) k = slsL n A W k ++ [sliceS 1 n w (A (k + W.length))]
  | [], k => rfl
  | v :: W, k => by
    show sliceS 1 n v (A k) :: slsL n A (W ++ [w]) (k + 1) = _
    rw [slsL_append n A w W (k + 1)]
    simp [slsL, Nat.add_assoc, Nat.add_comm 1]
theorem slsL_get (n : Nat) (A : Nat → List Value) : ∀ (W : List Value) (k i : Nat) (hi : i < W.length), (slsL n A W k)[i]? = some (sliceS 1 n W[i] (A (k + i)))
  | w :: W, k, 0, _ => rfl
  | w :: W, k, i + 1, hi => by
    have := slsL_get n A W (k + 1) i (by simpa using hi)
    show (slsL n A W (k + 1))[i]? = _
    rw [this, show k + 1 + i = k + (i + 1) by omega]
    rfl
theorem slsL_len (n : Nat) (A : Nat → List Value) : ∀ (W : List Value) (k : Nat), (slsL n A W k).length = W.length
  | [], _ => rfl
  | w :: W, k => by show (slsL n A W (k + 1)).length + 1 = _; rw [slsL_len n A W (k + 1)]; rfl
section
variable {h : Heap} {F : List SP} {n : Nat} {A : Nat → List Value} {W : List Value}
theorem sls_nil (hs : Sat h F) : Sat h (slsS n A [] :: F) := Sat.star.2 hs
theorem sls_add {w : Value} {k : Nat} (hk : k = W.length) (hs : Sat h (slsS n A W :: sliceS 1 n w (A k) :: F)) : Sat h (slsS n A (W ++ [w]) :: F) := by
  subst hk
  have s := Sat.star.1 hs
  refine Sat.star.2 ?_
  rw [slsL_append, Nat.zero_add]
  refine s.perm ?_
  rw [List.append_assoc]
  exact List.Perm.refl _
theorem sls_pick (hs : Sat h (slsS n A W :: F)) {i : Nat} (hi : i < W.length) : ∃ G, Sat h (sliceS 1 n W[i] (A i) :: G ++ F) := by
  have s := Sat.star.1 hs
  have hl : i < (slsL n A W 0).length := by rw [slsL_len]; exact hi
  have e := slsL_get n A W 0 i hi
  rw [List.getElem?_eq_getElem hl, Nat.zero_add] at e
  have e := Option.some.inj e
  refine ⟨(slsL n A W 0).eraseIdx i, ?_⟩
  have p := perm_pick (slsL n A W 0) i hl
  rw [e] at p
  exact s.perm (p.append_right F)
theorem sls_pick2 {B : SP} (hs : Sat h (slsS n A W :: B :: F)) {i : Nat} (hi : i < W.length) : ∃ G, Sat h (B :: sliceS 1 n W[i] (A i) :: G) := by
  obtain ⟨G, s⟩ := sls_pick hs hi
  exact ⟨G ++ F, s.perm ((List.perm_middle.cons _).trans (List.Perm.swap _ _ _))⟩
end
end Go.Eng
