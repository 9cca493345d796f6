/-
  viceroyref12: AddNode.
-/
import Derived.Test.YtlkofpoginokbaaCsr5
namespace Go.Eng
set_option linter.unusedSimpArgs false
set_option linter.unusedVariables false
set_option maxRecDepth 16000
set_option maxHeartbeats 4000000
open Go Go.Proofs
def soFar (Z : List (Nd × Nat)) (nd : Nd) (i : Nat) : Option (Nat × Nat) → List (Nd × Nat)
  | none => Z.take i
  | some (p, b) => Z.take p ++ (nd, b) :: (Z.take i).drop p
def extraS (nd : Nd) : Option (Nat × Nat) → List SP
  | none => []
  | some (_, b) => [nodeC (nd, b)]
def soOk (Z : List (Nd × Nat)) (id : Int) (i : Nat) : Option (Nat × Nat) → Prop
  | none => ∀ j z, j < i → Z[j]? = some z → z.1.I < id
  | some (p, _) => p ≤ i ∧ (∀ j z, j < p → Z[j]? = some z → z.1.I < id) ∧ ∀ z, Z[p]? = some z → id < z.1.I
theorem soFar_len {Z : List (Nd × Nat)} {nd : Nd} {i : Nat} {d : Option (Nat × Nat)} {id : Int} (hi : i ≤ Z.length) (ho : soOk Z id i d) : (soFar Z nd i d).length ≤ i + 1 := by
  cases d with
  | none => simp only [soFar, List.length_take]; omega
  | some q => obtain ⟨p, b⟩ := q; simp only [soFar, List.length_append, List.length_cons, List.length_drop, List.length_take]; have := ho.1; omega
theorem soFar_succ {Z : List (Nd × Nat)} {nd : Nd} {i : Nat} {d : Option (Nat × Nat)} {id : Int} (hi : i < Z.length) (ho : soOk Z id i d) : soFar Z nd (i + 1) d = soFar Z nd i d ++ [Z[i]] := by
  cases d with
  | none => simp only [soFar]; exact List.take_succ_eq_append_getElem hi
  | some q =>
    obtain ⟨p, b⟩ := q
    simp only [soFar]
    rw [List.take_succ_eq_append_getElem hi, List.drop_append_of_le_length (by rw [List.length_take]; have := ho.1; omega)]
    simp
theorem soFar_new {Z : List (Nd × Nat)} {nd : Nd} {i b : Nat} : soFar Z nd i (some (i, b)) = soFar Z nd i none ++ [(nd, b)] := by
  simp only [soFar]
  rw [List.drop_of_length_le (by rw [List.length_take]; omega)]
theorem soFar_fin {Z : List (Nd × Nat)} {nd : Nd} {p b i : Nat} (hi : Z.length ≤ i) (ho : soOk Z nd.I i (some (p, b))) : soFar Z nd i (some (p, b)) = insZ Z (nd, b) := by
  obtain ⟨h1, h2, h3⟩ := ho
  obtain ⟨f1, f2⟩ := take_while (p := fun m : Nd × Nat => decide (m.1.I < nd.I)) Z p (fun j r hj hr => by simpa using h2 j r hj hr) (fun r hr => by have := h3 r hr; simp only [decide_eq_false_iff_not]; omega)
  unfold insZ
  simp only [soFar]
  rw [f1, f2, List.take_of_length_le hi]
theorem nodeR_eq (z : Nd × Nat) : nodeR z = [.int .i64 z.1.I, .int .i64 z.1.X, .slice (some ⟨z.2, 0, none⟩) z.1.S.length z.1.S.length] := rfl
theorem nodesL_one (z : Nd × Nat) : nodesL [z] = nodeR z := by simp [nodesL]
section
variable {h : Heap} {F : List SP} {qb : Nat} {L : List Nd}
theorem addNode12_S (hs : Sat h (refSpS qb L :: F)) (hL : L.length ≤ 100000) (hw : wfL L) (id radix : Int) : HCalls Try.prog 27 #[.pointer (some ⟨qb, 0, none⟩), .int .i64 id, .int .i64 radix] h fun v h' => v = .int .i64 (addN L id radix).2 ∧ Sat h' (refSpS qb (addN L id radix).1 :: F) := by
  refine HCalls.via fun R hR => ?_
  refine HCalls.of_dev T27 Try.func27 rfl mixed (by kernel_rfl) ?_; rw [Try.results27]
  by_cases g1 : id < 0
  · have e : addN L id radix = (L, 1) := by unfold addN; rw [if_pos (by omega)]
    simp (maxSteps := 2000000) (disch := first | (simp only [go_sem, Nat.reduceBEq, Nat.reduceAdd, Nat.reduceMul, Nat.reduceSub, Nat.reduceEqDiff, Nat.reduceLeDiff, Nat.reduceLT, Int.reduceEq, Int.reduceAdd, Int.reduceSub, Int.reduceMul, Int.reduceNeg, Int.reduceLT, Int.reduceLE, Int.reduceToNat, Int.reduceBEq, Int.reduceNe, reduceCtorEq, g1]; done) | omega | (simp only [go_sem, Nat.reduceBEq, Nat.reduceAdd, Nat.reduceMul, Nat.reduceSub, Nat.reduceEqDiff, Nat.reduceLeDiff, Nat.reduceLT, Int.reduceEq, Int.reduceAdd, Int.reduceSub, Int.reduceMul, Int.reduceNeg, Int.reduceLT, Int.reduceLE, Int.reduceToNat, Int.reduceBEq, Int.reduceNe, reduceCtorEq, g1]; omega)) only [go_sem, Nat.reduceBEq, Nat.reduceAdd, Nat.reduceMul, Nat.reduceSub, Nat.reduceEqDiff, Nat.reduceLeDiff, Nat.reduceLT, Int.reduceEq, Int.reduceAdd, Int.reduceSub, Int.reduceMul, Int.reduceNeg, Int.reduceLT, Int.reduceLE, Int.reduceToNat, Int.reduceBEq, Int.reduceNe, reduceCtorEq, w64_id, w8_id, w16_id, w32_id, tmod_pos, tdiv_pos, Bool.or_true, Bool.true_or, Bool.or_false, Bool.false_or, Bool.and_false, Bool.false_and, condK_decide, g1]
    all_goals (try refine rdK_any fun _ => ?_)
    all_goals exact hR _ _ ⟨by rw [e], by rw [e]; exact hs⟩
  by_cases g2 : 1023 < id
  · have e : addN L id radix = (L, 1) := by unfold addN; rw [if_pos (by omega)]
    simp (maxSteps := 2000000) (disch := first | (simp only [go_sem, Nat.reduceBEq, Nat.reduceAdd, Nat.reduceMul, Nat.reduceSub, Nat.reduceEqDiff, Nat.reduceLeDiff, Nat.reduceLT, Int.reduceEq, Int.reduceAdd, Int.reduceSub, Int.reduceMul, Int.reduceNeg, Int.reduceLT, Int.reduceLE, Int.reduceToNat, Int.reduceBEq, Int.reduceNe, reduceCtorEq, g1, g2]; done) | omega | (simp only [go_sem, Nat.reduceBEq, Nat.reduceAdd, Nat.reduceMul, Nat.reduceSub, Nat.reduceEqDiff, Nat.reduceLeDiff, Nat.reduceLT, Int.reduceEq, Int.reduceAdd, Int.reduceSub, Int.reduceMul, Int.reduceNeg, Int.reduceLT, Int.reduceLE, Int.reduceToNat, Int.reduceBEq, Int.reduceNe, reduceCtorEq, g1, g2]; omega)) only [go_sem, Nat.reduceBEq, Nat.reduceAdd, Nat.reduceMul, Nat.reduceSub, Nat.reduceEqDiff, Nat.reduceLeDiff, Nat.reduceLT, Int.reduceEq, Int.reduceAdd, Int.reduceSub, Int.reduceMul, Int.reduceNeg, Int.reduceLT, Int.reduceLE, Int.reduceToNat, Int.reduceBEq, Int.reduceNe, reduceCtorEq, w64_id, w8_id, w16_id, w32_id, tmod_pos, tdiv_pos, Bool.or_true, Bool.true_or, Bool.or_false, Bool.false_or, Bool.and_false, Bool.false_and, condK_decide, g1, g2]
    exact hR _ _ ⟨by rw [e], by rw [e]; exact hs⟩
  by_cases g3 : radix < 1
  · have e : addN L id radix = (L, 1) := by unfold addN; rw [if_pos (by omega)]
    simp (maxSteps := 2000000) (disch := first | (simp only [go_sem, Nat.reduceBEq, Nat.reduceAdd, Nat.reduceMul, Nat.reduceSub, Nat.reduceEqDiff, Nat.reduceLeDiff, Nat.reduceLT, Int.reduceEq, Int.reduceAdd, Int.reduceSub, Int.reduceMul, Int.reduceNeg, Int.reduceLT, Int.reduceLE, Int.reduceToNat, Int.reduceBEq, Int.reduceNe, reduceCtorEq, g1, g2, g3]; done) | omega | (simp only [go_sem, Nat.reduceBEq, Nat.reduceAdd, Nat.reduceMul, Nat.reduceSub, Nat.reduceEqDiff, Nat.reduceLeDiff, Nat.reduceLT, Int.reduceEq, Int.reduceAdd, Int.reduceSub, Int.reduceMul, Int.reduceNeg, Int.reduceLT, Int.reduceLE, Int.reduceToNat, Int.reduceBEq, Int.reduceNe, reduceCtorEq, g1, g2, g3]; omega)) only [go_sem, Nat.reduceBEq, Nat.reduceAdd, Nat.reduceMul, Nat.reduceSub, Nat.reduceEqDiff, Nat.reduceLeDiff, Nat.reduceLT, Int.reduceEq, Int.reduceAdd, Int.reduceSub, Int.reduceMul, Int.reduceNeg, Int.reduceLT, Int.reduceLE, Int.reduceToNat, Int.reduceBEq, Int.reduceNe, reduceCtorEq, w64_id, w8_id, w16_id, w32_id, tmod_pos, tdiv_pos, Bool.or_true, Bool.true_or, Bool.or_false, Bool.false_or, Bool.and_false, Bool.false_and, condK_decide, g1, g2, g3]
    exact hR _ _ ⟨by rw [e], by rw [e]; exact hs⟩
  by_cases g4 : 4 < radix
  · have e : addN L id radix = (L, 1) := by unfold addN; rw [if_pos (by omega)]
    simp (maxSteps := 2000000) (disch := first | (simp only [go_sem, Nat.reduceBEq, Nat.reduceAdd, Nat.reduceMul, Nat.reduceSub, Nat.reduceEqDiff, Nat.reduceLeDiff, Nat.reduceLT, Int.reduceEq, Int.reduceAdd, Int.reduceSub, Int.reduceMul, Int.reduceNeg, Int.reduceLT, Int.reduceLE, Int.reduceToNat, Int.reduceBEq, Int.reduceNe, reduceCtorEq, g1, g2, g3, g4]; done) | omega | (simp only [go_sem, Nat.reduceBEq, Nat.reduceAdd, Nat.reduceMul, Nat.reduceSub, Nat.reduceEqDiff, Nat.reduceLeDiff, Nat.reduceLT, Int.reduceEq, Int.reduceAdd, Int.reduceSub, Int.reduceMul, Int.reduceNeg, Int.reduceLT, Int.reduceLE, Int.reduceToNat, Int.reduceBEq, Int.reduceNe, reduceCtorEq, g1, g2, g3, g4]; omega)) only [go_sem, Nat.reduceBEq, Nat.reduceAdd, Nat.reduceMul, Nat.reduceSub, Nat.reduceEqDiff, Nat.reduceLeDiff, Nat.reduceLT, Int.reduceEq, Int.reduceAdd, Int.reduceSub, Int.reduceMul, Int.reduceNeg, Int.reduceLT, Int.reduceLE, Int.reduceToNat, Int.reduceBEq, Int.reduceNe, reduceCtorEq, w64_id, w8_id, w16_id, w32_id, tmod_pos, tdiv_pos, Bool.or_true, Bool.true_or, Bool.or_false, Bool.false_or, Bool.and_false, Bool.false_and, condK_decide, g1, g2, g3, g4]
    exact hR _ _ ⟨by rw [e], by rw [e]; exact hs⟩
  simp (maxSteps := 2000000) (disch := first | (simp only [go_sem, Nat.reduceBEq, Nat.reduceAdd, Nat.reduceMul, Nat.reduceSub, Nat.reduceEqDiff, Nat.reduceLeDiff, Nat.reduceLT, Int.reduceEq, Int.reduceAdd, Int.reduceSub, Int.reduceMul, Int.reduceNeg, Int.reduceLT, Int.reduceLE, Int.reduceToNat, Int.reduceBEq, Int.reduceNe, reduceCtorEq, g1, g2, g3, g4]; done) | omega | (simp only [go_sem, Nat.reduceBEq, Nat.reduceAdd, Nat.reduceMul, Nat.reduceSub, Nat.reduceEqDiff, Nat.reduceLeDiff, Nat.reduceLT, Int.reduceEq, Int.reduceAdd, Int.reduceSub, Int.reduceMul, Int.reduceNeg, Int.reduceLT, Int.reduceLE, Int.reduceToNat, Int.reduceBEq, Int.reduceNe, reduceCtorEq, g1, g2, g3, g4]; omega)) only [go_sem, Nat.reduceBEq, Nat.reduceAdd, Nat.reduceMul, Nat.reduceSub, Nat.reduceEqDiff, Nat.reduceLeDiff, Nat.reduceLT, Int.reduceEq, Int.reduceAdd, Int.reduceSub, Int.reduceMul, Int.reduceNeg, Int.reduceLT, Int.reduceLE, Int.reduceToNat, Int.reduceBEq, Int.reduceNe, reduceCtorEq, w64_id, w8_id, w16_id, w32_id, tmod_pos, tdiv_pos, Bool.or_true, Bool.true_or, Bool.or_false, Bool.false_or, Bool.and_false, Bool.false_and, condK_decide, g1, g2, g3, g4]
  refine (at12_S hs hL id).mono ?_
  rintro v h' ⟨rfl, rfl⟩
  obtain ⟨v, ty, Z, rfl, s⟩ := refSp_iff.1 hs
  obtain ⟨sl, cap, rfl, hcap, -⟩ := nodes_elems s.tail
  rcases atZ_cases Z id with ⟨e, e2⟩ | ⟨k, z, e, e1, e2, e3, e4, e5⟩
  case inr =>
    have ha : addN (Z.map (·.1)) id radix = (Z.map (·.1), 130) := by unfold addN; rw [if_neg (by omega), e3]; rfl
    rw [ha] at hR
    simp (maxSteps := 2000000) (disch := first | (simp only [go_sem, Nat.reduceBEq, Nat.reduceAdd, Nat.reduceMul, Nat.reduceSub, Nat.reduceEqDiff, Nat.reduceLeDiff, Nat.reduceLT, Int.reduceEq, Int.reduceAdd, Int.reduceSub, Int.reduceMul, Int.reduceNeg, Int.reduceLT, Int.reduceLE, Int.reduceToNat, Int.reduceBEq, Int.reduceNe, reduceCtorEq, e]; done) | omega | (simp only [go_sem, Nat.reduceBEq, Nat.reduceAdd, Nat.reduceMul, Nat.reduceSub, Nat.reduceEqDiff, Nat.reduceLeDiff, Nat.reduceLT, Int.reduceEq, Int.reduceAdd, Int.reduceSub, Int.reduceMul, Int.reduceNeg, Int.reduceLT, Int.reduceLE, Int.reduceToNat, Int.reduceBEq, Int.reduceNe, reduceCtorEq, e]; omega)) only [go_sem, Nat.reduceBEq, Nat.reduceAdd, Nat.reduceMul, Nat.reduceSub, Nat.reduceEqDiff, Nat.reduceLeDiff, Nat.reduceLT, Int.reduceEq, Int.reduceAdd, Int.reduceSub, Int.reduceMul, Int.reduceNeg, Int.reduceLT, Int.reduceLE, Int.reduceToNat, Int.reduceBEq, Int.reduceNe, reduceCtorEq, w64_id, w8_id, w16_id, w32_id, tmod_pos, tdiv_pos, Bool.or_true, Bool.true_or, Bool.or_false, Bool.false_or, Bool.and_false, Bool.false_and, condK_decide, e]
    exact hR _ _ ⟨rfl, hs⟩
  obtain ⟨n, rfl⟩ := Int.eq_ofNat_of_zero_le (show 0 ≤ radix by omega)
  obtain ⟨nd, hnd⟩ : ∃ nd : Nd, nd = ⟨id, n, List.replicate (2 ^ n) Cap.zero⟩ := ⟨_, rfl⟩
  have ha : addN (Z.map (·.1)) id n = (insN (Z.map (·.1)) nd, 0) := by unfold addN; rw [if_neg (by omega), e2, hnd]; rfl
  rw [ha] at hR
  rw [List.length_map] at hL
  have hzn : ∀ z ∈ Z, z.1.I ≠ id := by
    have := findZ_fst Z id
    rw [e2] at this
    cases hz : findZ Z id with
    | none => exact findZ_none hz
    | some z => rw [hz] at this; cases this
  simp (maxSteps := 2000000) (disch := first | (simp only [go_sem, Nat.reduceBEq, Nat.reduceAdd, Nat.reduceMul, Nat.reduceSub, Nat.reduceEqDiff, Nat.reduceLeDiff, Nat.reduceLT, Int.reduceEq, Int.reduceAdd, Int.reduceSub, Int.reduceMul, Int.reduceNeg, Int.reduceLT, Int.reduceLE, Int.reduceToNat, Int.reduceBEq, Int.reduceNe, reduceCtorEq, e]; done) | omega | (simp only [go_sem, Nat.reduceBEq, Nat.reduceAdd, Nat.reduceMul, Nat.reduceSub, Nat.reduceEqDiff, Nat.reduceLeDiff, Nat.reduceLT, Int.reduceEq, Int.reduceAdd, Int.reduceSub, Int.reduceMul, Int.reduceNeg, Int.reduceLT, Int.reduceLE, Int.reduceToNat, Int.reduceBEq, Int.reduceNe, reduceCtorEq, e]; omega)) only [go_sem, Nat.reduceBEq, Nat.reduceAdd, Nat.reduceMul, Nat.reduceSub, Nat.reduceEqDiff, Nat.reduceLeDiff, Nat.reduceLT, Int.reduceEq, Int.reduceAdd, Int.reduceSub, Int.reduceMul, Int.reduceNeg, Int.reduceLT, Int.reduceLE, Int.reduceToNat, Int.reduceBEq, Int.reduceNe, reduceCtorEq, w64_id, w8_id, w16_id, w32_id, tmod_pos, tdiv_pos, Bool.or_true, Bool.true_or, Bool.or_false, Bool.false_or, Bool.and_false, Bool.false_and, condK_decide, e]
  have s3 := Sat.nilS (sz := 3) s
  refine loopH.intro (fun t : Nat × Value × Option (Nat × Nat) => (.cons 0 (.pointer (some ⟨qb, 0, none⟩)) true (.cons 1 (.int .i64 id) true (.cons 2 (.int .i64 n) true (.cons 8 (t.2.1) true (.cons 9 (.bool t.2.2.isSome) true (.cons 10 (.int .i64 t.1) true .nil)))))))
    (fun t h' => Sat h' (sliceS 3 (soFar Z nd t.1 t.2.2).length t.2.1 (nodesL (soFar Z nd t.1 t.2.2)) :: cellAt qb (.cells [.slice sl Z.length cap].toArray ty (0, 0)) :: sliceS 3 Z.length (.slice sl Z.length cap) (nodesL Z) :: (extraS nd t.2.2 ++ (Z.map nodeC ++ F))) ∧
      t.1 ≤ Z.length ∧ soOk Z id t.1 t.2.2) (fun t _ => Z.length + 1 - t.1) (0, .slice none 0 0, none) ?_ ⟨s3, by simp, by simp [soOk]⟩ ?_
  · simp (maxSteps := 2000000) (disch := first | (simp only [go_sem, Nat.reduceBEq, Nat.reduceAdd, Nat.reduceMul, Nat.reduceSub, Nat.reduceEqDiff, Nat.reduceLeDiff, Nat.reduceLT, Int.reduceEq, Int.reduceAdd, Int.reduceSub, Int.reduceMul, Int.reduceNeg, Int.reduceLT, Int.reduceLE, Int.reduceToNat, Int.reduceBEq, Int.reduceNe, reduceCtorEq]; done) | omega | (simp only [go_sem, Nat.reduceBEq, Nat.reduceAdd, Nat.reduceMul, Nat.reduceSub, Nat.reduceEqDiff, Nat.reduceLeDiff, Nat.reduceLT, Int.reduceEq, Int.reduceAdd, Int.reduceSub, Int.reduceMul, Int.reduceNeg, Int.reduceLT, Int.reduceLE, Int.reduceToNat, Int.reduceBEq, Int.reduceNe, reduceCtorEq]; omega)) only [go_sem, Nat.reduceBEq, Nat.reduceAdd, Nat.reduceMul, Nat.reduceSub, Nat.reduceEqDiff, Nat.reduceLeDiff, Nat.reduceLT, Int.reduceEq, Int.reduceAdd, Int.reduceSub, Int.reduceMul, Int.reduceNeg, Int.reduceLT, Int.reduceLE, Int.reduceToNat, Int.reduceBEq, Int.reduceNe, reduceCtorEq, w64_id, w8_id, w16_id, w32_id, tmod_pos, tdiv_pos, Bool.or_true, Bool.true_or, Bool.or_false, Bool.false_or, Bool.and_false, Bool.false_and, condK_decide]; rfl
  clear s3 s
  rintro ⟨i, v, d⟩ h3 ⟨s, hi, ho⟩
  simp only at s hi ho
  obtain ⟨sl', cap', e', -, hel⟩ := nodes_elems (s.front 2)
  cases e'
  obtain ⟨sl2, cap2, rfl, -⟩ := s.elems
  have hsl := soFar_len (nd := nd) hi ho
  have hby : ∀ n, n ≤ 200009 → (2 * n + 1024) * (tbytes Try.prog (sliceElem Try.prog 32)).getD 0 ≤ 281474976710656 := fun n hn => by
    rw [selem_32, tbytes_83]; simp only [Option.getD_some]; omega
  have n4 : n ≤ 4 := by omega
  have hsz : 2 ^ n ≤ 16 := by
    have : n = 0 ∨ n = 1 ∨ n = 2 ∨ n = 3 ∨ n = 4 := by omega
    rcases this with rfl | rfl | rfl | rfl | rfl <;> decide
  have b1 : (tbytes Try.prog (sliceElem Try.prog 72)).getD 0 * 2 ^ n ≤ 281474976710656 := by
    have e1 : (tbytes Try.prog (sliceElem Try.prog 72)).getD 0 ≤ 128 := by decide
    exact Nat.le_trans (Nat.mul_le_mul e1 hsz) (by decide)
  have b2 : 2 ^ n ≤ 9223372036854775807 := by omega
  have ec : (Obj.cells (zrow Try.prog 72 (2 ^ n)) (sliceElem Try.prog 72) (0, 0)) = Obj.cells (capsL (List.replicate (2 ^ n) Cap.zero)).toArray 24 (0, 0) := by
    rw [zrow_caps n4]; rfl
  have fin : ∀ h4 v4 b, soOk Z nd.I i (some (i, b)) ∨ True → ∀ Y, Y = insZ Z (nd, b) → Sat h4 (sliceS 3 Y.length v4 (nodesL Y) :: cellAt qb (.cells [.slice sl Z.length cap].toArray ty (0, 0)) :: sliceS 3 Z.length (.slice sl Z.length cap) (nodesL Z) :: (extraS nd (some (0, b)) ++ (Z.map nodeC ++ F))) →
      Sat (h4.setIfInBounds qb (.cells [v4].toArray ty (0, 0))) (refSpS qb (insN (Z.map (·.1)) nd) :: F) := by
    intro h4 v4 b _ Y hY s
    subst hY
    have s2 := ((s.front 1).set (.cells [v4].toArray ty (0, 0))).drop2
    refine refSp_iff.2 ⟨v4, ty, insZ Z (nd, b), insZ_fst Z (nd, b), s2.perm ?_⟩
    have := ((insZ_perm Z (nd, b)).map nodeC).append_right F
    exact List.Perm.cons _ (List.Perm.cons _ this.symm)
  by_cases hlt : i < Z.length
  · obtain ⟨lb, rfl, e0, -, -, e4⟩ := hel i Z[i] (List.getElem?_eq_getElem hlt)
    have hlt' : (i : Int) < Z.length := by omega
    rw [nodeR_eq] at e4
    cases d with
    | some q =>
      obtain ⟨p, b⟩ := q
      simp (maxSteps := 2000000) (disch := first | (simp only [go_sem, Nat.reduceBEq, Nat.reduceAdd, Nat.reduceMul, Nat.reduceSub, Nat.reduceEqDiff, Nat.reduceLeDiff, Nat.reduceLT, Int.reduceEq, Int.reduceAdd, Int.reduceSub, Int.reduceMul, Int.reduceNeg, Int.reduceLT, Int.reduceLE, Int.reduceToNat, Int.reduceBEq, Int.reduceNe, reduceCtorEq, (s.front 1).get, e0, e4, hlt']; done) | omega | (simp only [go_sem, Nat.reduceBEq, Nat.reduceAdd, Nat.reduceMul, Nat.reduceSub, Nat.reduceEqDiff, Nat.reduceLeDiff, Nat.reduceLT, Int.reduceEq, Int.reduceAdd, Int.reduceSub, Int.reduceMul, Int.reduceNeg, Int.reduceLT, Int.reduceLE, Int.reduceToNat, Int.reduceBEq, Int.reduceNe, reduceCtorEq, (s.front 1).get, e0, e4, hlt']; omega)) only [go_sem, Nat.reduceBEq, Nat.reduceAdd, Nat.reduceMul, Nat.reduceSub, Nat.reduceEqDiff, Nat.reduceLeDiff, Nat.reduceLT, Int.reduceEq, Int.reduceAdd, Int.reduceSub, Int.reduceMul, Int.reduceNeg, Int.reduceLT, Int.reduceLE, Int.reduceToNat, Int.reduceBEq, Int.reduceNe, reduceCtorEq, w64_id, w8_id, w16_id, w32_id, tmod_pos, tdiv_pos, Bool.or_true, Bool.true_or, Bool.or_false, Bool.false_or, Bool.and_false, Bool.false_and, condK_decide, (s.front 1).get, e0, e4, hlt']
      have s4 := (s.push (.cells (nodeR Z[i]).toArray 83 (0, 0))).swap
      simp only [nodeR_eq] at s4
      refine Sat.append s4 (SrcAt.lit (n := 1) (s4.front 1).get rfl (nodeR_single Z[i])) isSlice_32 ssz_32 (by kernel_rfl) (by kernel_rfl) (hby _ (by omega)) (by omega) ?_
      intro v5 h5 s5
      rw [← nodeR_eq, ← nodesL_one, ← nodesL_append, ← soFar_succ hlt ho] at s5
      simp (maxSteps := 2000000) (disch := first | (simp only [go_sem, Nat.reduceBEq, Nat.reduceAdd, Nat.reduceMul, Nat.reduceSub, Nat.reduceEqDiff, Nat.reduceLeDiff, Nat.reduceLT, Int.reduceEq, Int.reduceAdd, Int.reduceSub, Int.reduceMul, Int.reduceNeg, Int.reduceLT, Int.reduceLE, Int.reduceToNat, Int.reduceBEq, Int.reduceNe, reduceCtorEq]; done) | omega | (simp only [go_sem, Nat.reduceBEq, Nat.reduceAdd, Nat.reduceMul, Nat.reduceSub, Nat.reduceEqDiff, Nat.reduceLeDiff, Nat.reduceLT, Int.reduceEq, Int.reduceAdd, Int.reduceSub, Int.reduceMul, Int.reduceNeg, Int.reduceLT, Int.reduceLE, Int.reduceToNat, Int.reduceBEq, Int.reduceNe, reduceCtorEq]; omega)) only [go_sem, Nat.reduceBEq, Nat.reduceAdd, Nat.reduceMul, Nat.reduceSub, Nat.reduceEqDiff, Nat.reduceLeDiff, Nat.reduceLT, Int.reduceEq, Int.reduceAdd, Int.reduceSub, Int.reduceMul, Int.reduceNeg, Int.reduceLT, Int.reduceLE, Int.reduceToNat, Int.reduceBEq, Int.reduceNe, reduceCtorEq, w64_id, w8_id, w16_id, w32_id, tmod_pos, tdiv_pos, Bool.or_true, Bool.true_or, Bool.or_false, Bool.false_or, Bool.and_false, Bool.false_and, condK_decide]
      refine ⟨(i + 1, v5, some (p, b)), rfl, ⟨?_, by simp only; omega, ?_⟩, by simp only; omega⟩
      · have el : (soFar Z nd (i + 1) (some (p, b))).length = (soFar Z nd i (some (p, b))).length + 1 := by rw [soFar_succ hlt ho]; simp
        simp only [el]
        exact s5.drop1
      · obtain ⟨q1, q2, q3⟩ := ho
        exact ⟨by simp only; omega, q2, q3⟩
    | none =>
      by_cases hF : id < Z[i].1.I
      · simp (maxSteps := 2000000) (disch := first | (simp only [go_sem, Nat.reduceBEq, Nat.reduceAdd, Nat.reduceMul, Nat.reduceSub, Nat.reduceEqDiff, Nat.reduceLeDiff, Nat.reduceLT, Int.reduceEq, Int.reduceAdd, Int.reduceSub, Int.reduceMul, Int.reduceNeg, Int.reduceLT, Int.reduceLE, Int.reduceToNat, Int.reduceBEq, Int.reduceNe, reduceCtorEq, (s.front 1).get, e0, e4, hlt', hF]; done) | omega | (simp only [go_sem, Nat.reduceBEq, Nat.reduceAdd, Nat.reduceMul, Nat.reduceSub, Nat.reduceEqDiff, Nat.reduceLeDiff, Nat.reduceLT, Int.reduceEq, Int.reduceAdd, Int.reduceSub, Int.reduceMul, Int.reduceNeg, Int.reduceLT, Int.reduceLE, Int.reduceToNat, Int.reduceBEq, Int.reduceNe, reduceCtorEq, (s.front 1).get, e0, e4, hlt', hF]; omega)) only [go_sem, Nat.reduceBEq, Nat.reduceAdd, Nat.reduceMul, Nat.reduceSub, Nat.reduceEqDiff, Nat.reduceLeDiff, Nat.reduceLT, Int.reduceEq, Int.reduceAdd, Int.reduceSub, Int.reduceMul, Int.reduceNeg, Int.reduceLT, Int.reduceLE, Int.reduceToNat, Int.reduceBEq, Int.reduceNe, reduceCtorEq, w64_id, w8_id, w16_id, w32_id, tmod_pos, tdiv_pos, Bool.or_true, Bool.true_or, Bool.or_false, Bool.false_or, Bool.and_false, Bool.false_and, condK_decide, (s.front 1).get, e0, e4, hlt', hF]
        rw [shl_n n4, runH_makeSlice (n := 2 ^ n) (by rfl) (by rfl) b1 b2, ec]
        have s0 := (s.push (.cells (capsL (List.replicate (2 ^ n) Cap.zero)).toArray 24 (0, 0))).swap
        simp (maxSteps := 2000000) (disch := first | (simp only [go_sem, Nat.reduceBEq, Nat.reduceAdd, Nat.reduceMul, Nat.reduceSub, Nat.reduceEqDiff, Nat.reduceLeDiff, Nat.reduceLT, Int.reduceEq, Int.reduceAdd, Int.reduceSub, Int.reduceMul, Int.reduceNeg, Int.reduceLT, Int.reduceLE, Int.reduceToNat, Int.reduceBEq, Int.reduceNe, reduceCtorEq]; done) | omega | (simp only [go_sem, Nat.reduceBEq, Nat.reduceAdd, Nat.reduceMul, Nat.reduceSub, Nat.reduceEqDiff, Nat.reduceLeDiff, Nat.reduceLT, Int.reduceEq, Int.reduceAdd, Int.reduceSub, Int.reduceMul, Int.reduceNeg, Int.reduceLT, Int.reduceLE, Int.reduceToNat, Int.reduceBEq, Int.reduceNe, reduceCtorEq]; omega)) only [go_sem, Nat.reduceBEq, Nat.reduceAdd, Nat.reduceMul, Nat.reduceSub, Nat.reduceEqDiff, Nat.reduceLeDiff, Nat.reduceLT, Int.reduceEq, Int.reduceAdd, Int.reduceSub, Int.reduceMul, Int.reduceNeg, Int.reduceLT, Int.reduceLE, Int.reduceToNat, Int.reduceBEq, Int.reduceNe, reduceCtorEq, w64_id, w8_id, w16_id, w32_id, tmod_pos, tdiv_pos, Bool.or_true, Bool.true_or, Bool.or_false, Bool.false_or, Bool.and_false, Bool.false_and, condK_decide]
        have s4 := (s0.push (.cells (nodeR (nd, h3.size)).toArray 83 (0, 0))).swap
        simp only [nodeR_eq, hnd, List.length_replicate, size_push'] at s4
        refine Sat.append s4 (SrcAt.lit (n := 1) (s4.front 1).get rfl (by simp [single])) isSlice_32 ssz_32 (by kernel_rfl) (by kernel_rfl) (hby _ (by rw [← hnd]; omega)) (by rw [← hnd]; omega) ?_
        intro v5 h5 s5
        have s5 : Sat h5 (sliceS 3 ((soFar Z nd i none).length + 1) v5 (nodesL (soFar Z nd i (some (i, h3.size)))) :: cellAt qb (.cells [.slice (some ⟨lb, 0, none⟩) Z.length cap].toArray ty (0, 0)) :: sliceS 3 Z.length (.slice (some ⟨lb, 0, none⟩) Z.length cap) (nodesL Z) :: (extraS nd (some (i, h3.size)) ++ (Z.map nodeC ++ F))) := by
          rw [soFar_new, nodesL_append, nodesL_one]
          have := s5.drop1
          simp only [hnd, extraS, nodeC, nodeR, nodeV, List.length_replicate] at this ⊢
          exact this.perm (List.Perm.cons _ ((List.Perm.swap _ _ _).trans (List.Perm.cons _ (List.Perm.swap _ _ _))))
        have ho2 : soOk Z id i (some (i, h3.size)) := ⟨by omega, ho, fun z hz => by rw [List.getElem?_eq_getElem hlt] at hz; cases hz; exact hF⟩
        have hsl2 := soFar_len (nd := nd) hi ho2
        have k0 := (s5.front 1).get
        obtain ⟨_, _, e', -, hel5⟩ := nodes_elems (s5.front 2)
        cases e'
        obtain ⟨_, q, e00, -, -, e44⟩ := hel5 i Z[i] (List.getElem?_eq_getElem hlt)
        cases q
        rw [nodeR_eq] at e44
        simp (maxSteps := 2000000) (disch := first | (simp only [go_sem, Nat.reduceBEq, Nat.reduceAdd, Nat.reduceMul, Nat.reduceSub, Nat.reduceEqDiff, Nat.reduceLeDiff, Nat.reduceLT, Int.reduceEq, Int.reduceAdd, Int.reduceSub, Int.reduceMul, Int.reduceNeg, Int.reduceLT, Int.reduceLE, Int.reduceToNat, Int.reduceBEq, Int.reduceNe, reduceCtorEq, k0, e00, e44, hlt']; done) | omega | (simp only [go_sem, Nat.reduceBEq, Nat.reduceAdd, Nat.reduceMul, Nat.reduceSub, Nat.reduceEqDiff, Nat.reduceLeDiff, Nat.reduceLT, Int.reduceEq, Int.reduceAdd, Int.reduceSub, Int.reduceMul, Int.reduceNeg, Int.reduceLT, Int.reduceLE, Int.reduceToNat, Int.reduceBEq, Int.reduceNe, reduceCtorEq, k0, e00, e44, hlt']; omega)) only [go_sem, Nat.reduceBEq, Nat.reduceAdd, Nat.reduceMul, Nat.reduceSub, Nat.reduceEqDiff, Nat.reduceLeDiff, Nat.reduceLT, Int.reduceEq, Int.reduceAdd, Int.reduceSub, Int.reduceMul, Int.reduceNeg, Int.reduceLT, Int.reduceLE, Int.reduceToNat, Int.reduceBEq, Int.reduceNe, reduceCtorEq, w64_id, w8_id, w16_id, w32_id, tmod_pos, tdiv_pos, Bool.or_true, Bool.true_or, Bool.or_false, Bool.false_or, Bool.and_false, Bool.false_and, condK_decide, k0, e00, e44, hlt']
        rw [show (soFar Z nd i none).length + 1 = (soFar Z nd i (some (i, h3.size))).length by rw [soFar_new]; simp] at s5
        have s6 := (s5.push (.cells (nodeR Z[i]).toArray 83 (0, 0))).swap
        simp only [nodeR_eq] at s6
        refine Sat.append s6 (SrcAt.lit (n := 1) (s6.front 1).get rfl (nodeR_single Z[i])) isSlice_32 ssz_32 (by kernel_rfl) (by kernel_rfl) (hby _ (by omega)) (by omega) ?_
        intro v6 h6 s7
        rw [← nodeR_eq, ← nodesL_one, ← nodesL_append, ← soFar_succ hlt ho2] at s7
        simp (maxSteps := 2000000) (disch := first | (simp only [go_sem, Nat.reduceBEq, Nat.reduceAdd, Nat.reduceMul, Nat.reduceSub, Nat.reduceEqDiff, Nat.reduceLeDiff, Nat.reduceLT, Int.reduceEq, Int.reduceAdd, Int.reduceSub, Int.reduceMul, Int.reduceNeg, Int.reduceLT, Int.reduceLE, Int.reduceToNat, Int.reduceBEq, Int.reduceNe, reduceCtorEq]; done) | omega | (simp only [go_sem, Nat.reduceBEq, Nat.reduceAdd, Nat.reduceMul, Nat.reduceSub, Nat.reduceEqDiff, Nat.reduceLeDiff, Nat.reduceLT, Int.reduceEq, Int.reduceAdd, Int.reduceSub, Int.reduceMul, Int.reduceNeg, Int.reduceLT, Int.reduceLE, Int.reduceToNat, Int.reduceBEq, Int.reduceNe, reduceCtorEq]; omega)) only [go_sem, Nat.reduceBEq, Nat.reduceAdd, Nat.reduceMul, Nat.reduceSub, Nat.reduceEqDiff, Nat.reduceLeDiff, Nat.reduceLT, Int.reduceEq, Int.reduceAdd, Int.reduceSub, Int.reduceMul, Int.reduceNeg, Int.reduceLT, Int.reduceLE, Int.reduceToNat, Int.reduceBEq, Int.reduceNe, reduceCtorEq, w64_id, w8_id, w16_id, w32_id, tmod_pos, tdiv_pos, Bool.or_true, Bool.true_or, Bool.or_false, Bool.false_or, Bool.and_false, Bool.false_and, condK_decide]
        refine ⟨(i + 1, v6, some (i, h3.size)), rfl, ⟨?_, by simp only; omega, ?_⟩, by simp only; omega⟩
        · have el : (soFar Z nd (i + 1) (some (i, h3.size))).length = (soFar Z nd i (some (i, h3.size))).length + 1 := by rw [soFar_succ hlt ho2]; simp
          simp only [el]
          exact s7.drop1
        · obtain ⟨q1, q2, q3⟩ := ho2
          exact ⟨by simp only; omega, q2, q3⟩
      · simp (maxSteps := 2000000) (disch := first | (simp only [go_sem, Nat.reduceBEq, Nat.reduceAdd, Nat.reduceMul, Nat.reduceSub, Nat.reduceEqDiff, Nat.reduceLeDiff, Nat.reduceLT, Int.reduceEq, Int.reduceAdd, Int.reduceSub, Int.reduceMul, Int.reduceNeg, Int.reduceLT, Int.reduceLE, Int.reduceToNat, Int.reduceBEq, Int.reduceNe, reduceCtorEq, (s.front 1).get, e0, e4, hlt', hF]; done) | omega | (simp only [go_sem, Nat.reduceBEq, Nat.reduceAdd, Nat.reduceMul, Nat.reduceSub, Nat.reduceEqDiff, Nat.reduceLeDiff, Nat.reduceLT, Int.reduceEq, Int.reduceAdd, Int.reduceSub, Int.reduceMul, Int.reduceNeg, Int.reduceLT, Int.reduceLE, Int.reduceToNat, Int.reduceBEq, Int.reduceNe, reduceCtorEq, (s.front 1).get, e0, e4, hlt', hF]; omega)) only [go_sem, Nat.reduceBEq, Nat.reduceAdd, Nat.reduceMul, Nat.reduceSub, Nat.reduceEqDiff, Nat.reduceLeDiff, Nat.reduceLT, Int.reduceEq, Int.reduceAdd, Int.reduceSub, Int.reduceMul, Int.reduceNeg, Int.reduceLT, Int.reduceLE, Int.reduceToNat, Int.reduceBEq, Int.reduceNe, reduceCtorEq, w64_id, w8_id, w16_id, w32_id, tmod_pos, tdiv_pos, Bool.or_true, Bool.true_or, Bool.or_false, Bool.false_or, Bool.and_false, Bool.false_and, condK_decide, (s.front 1).get, e0, e4, hlt', hF]
        have s4 := (s.push (.cells (nodeR Z[i]).toArray 83 (0, 0))).swap
        simp only [nodeR_eq] at s4
        refine Sat.append s4 (SrcAt.lit (n := 1) (s4.front 1).get rfl (nodeR_single Z[i])) isSlice_32 ssz_32 (by kernel_rfl) (by kernel_rfl) (hby _ (by omega)) (by omega) ?_
        intro v5 h5 s5
        rw [← nodeR_eq, ← nodesL_one, ← nodesL_append, ← soFar_succ hlt ho] at s5
        simp (maxSteps := 2000000) (disch := first | (simp only [go_sem, Nat.reduceBEq, Nat.reduceAdd, Nat.reduceMul, Nat.reduceSub, Nat.reduceEqDiff, Nat.reduceLeDiff, Nat.reduceLT, Int.reduceEq, Int.reduceAdd, Int.reduceSub, Int.reduceMul, Int.reduceNeg, Int.reduceLT, Int.reduceLE, Int.reduceToNat, Int.reduceBEq, Int.reduceNe, reduceCtorEq]; done) | omega | (simp only [go_sem, Nat.reduceBEq, Nat.reduceAdd, Nat.reduceMul, Nat.reduceSub, Nat.reduceEqDiff, Nat.reduceLeDiff, Nat.reduceLT, Int.reduceEq, Int.reduceAdd, Int.reduceSub, Int.reduceMul, Int.reduceNeg, Int.reduceLT, Int.reduceLE, Int.reduceToNat, Int.reduceBEq, Int.reduceNe, reduceCtorEq]; omega)) only [go_sem, Nat.reduceBEq, Nat.reduceAdd, Nat.reduceMul, Nat.reduceSub, Nat.reduceEqDiff, Nat.reduceLeDiff, Nat.reduceLT, Int.reduceEq, Int.reduceAdd, Int.reduceSub, Int.reduceMul, Int.reduceNeg, Int.reduceLT, Int.reduceLE, Int.reduceToNat, Int.reduceBEq, Int.reduceNe, reduceCtorEq, w64_id, w8_id, w16_id, w32_id, tmod_pos, tdiv_pos, Bool.or_true, Bool.true_or, Bool.or_false, Bool.false_or, Bool.and_false, Bool.false_and, condK_decide]
        refine ⟨(i + 1, v5, none), rfl, ⟨?_, by simp only; omega, ?_⟩, by simp only; omega⟩
        · have el : (soFar Z nd (i + 1) none).length = (soFar Z nd i none).length + 1 := by rw [soFar_succ hlt ho]; simp
          simp only [el]
          exact s5.drop1
        · intro j z hj hz
          simp only at hj
          by_cases q : j = i
          · subst q
            rw [List.getElem?_eq_getElem hlt] at hz
            cases hz
            have := hzn _ (List.getElem_mem hlt)
            omega
          · exact ho j z (by omega) hz
  · have hlt' : ¬ ((i : Int) < Z.length) := by omega
    cases d with
    | none =>
      simp (maxSteps := 2000000) (disch := first | (simp only [go_sem, Nat.reduceBEq, Nat.reduceAdd, Nat.reduceMul, Nat.reduceSub, Nat.reduceEqDiff, Nat.reduceLeDiff, Nat.reduceLT, Int.reduceEq, Int.reduceAdd, Int.reduceSub, Int.reduceMul, Int.reduceNeg, Int.reduceLT, Int.reduceLE, Int.reduceToNat, Int.reduceBEq, Int.reduceNe, reduceCtorEq, (s.front 1).get, hlt']; done) | omega | (simp only [go_sem, Nat.reduceBEq, Nat.reduceAdd, Nat.reduceMul, Nat.reduceSub, Nat.reduceEqDiff, Nat.reduceLeDiff, Nat.reduceLT, Int.reduceEq, Int.reduceAdd, Int.reduceSub, Int.reduceMul, Int.reduceNeg, Int.reduceLT, Int.reduceLE, Int.reduceToNat, Int.reduceBEq, Int.reduceNe, reduceCtorEq, (s.front 1).get, hlt']; omega)) only [go_sem, Nat.reduceBEq, Nat.reduceAdd, Nat.reduceMul, Nat.reduceSub, Nat.reduceEqDiff, Nat.reduceLeDiff, Nat.reduceLT, Int.reduceEq, Int.reduceAdd, Int.reduceSub, Int.reduceMul, Int.reduceNeg, Int.reduceLT, Int.reduceLE, Int.reduceToNat, Int.reduceBEq, Int.reduceNe, reduceCtorEq, w64_id, w8_id, w16_id, w32_id, tmod_pos, tdiv_pos, Bool.or_true, Bool.true_or, Bool.or_false, Bool.false_or, Bool.and_false, Bool.false_and, condK_decide, (s.front 1).get, hlt']
      rw [shl_n n4, runH_makeSlice (n := 2 ^ n) (by rfl) (by rfl) b1 b2, ec]
      have s0 := (s.push (.cells (capsL (List.replicate (2 ^ n) Cap.zero)).toArray 24 (0, 0))).swap
      simp (maxSteps := 2000000) (disch := first | (simp only [go_sem, Nat.reduceBEq, Nat.reduceAdd, Nat.reduceMul, Nat.reduceSub, Nat.reduceEqDiff, Nat.reduceLeDiff, Nat.reduceLT, Int.reduceEq, Int.reduceAdd, Int.reduceSub, Int.reduceMul, Int.reduceNeg, Int.reduceLT, Int.reduceLE, Int.reduceToNat, Int.reduceBEq, Int.reduceNe, reduceCtorEq]; done) | omega | (simp only [go_sem, Nat.reduceBEq, Nat.reduceAdd, Nat.reduceMul, Nat.reduceSub, Nat.reduceEqDiff, Nat.reduceLeDiff, Nat.reduceLT, Int.reduceEq, Int.reduceAdd, Int.reduceSub, Int.reduceMul, Int.reduceNeg, Int.reduceLT, Int.reduceLE, Int.reduceToNat, Int.reduceBEq, Int.reduceNe, reduceCtorEq]; omega)) only [go_sem, Nat.reduceBEq, Nat.reduceAdd, Nat.reduceMul, Nat.reduceSub, Nat.reduceEqDiff, Nat.reduceLeDiff, Nat.reduceLT, Int.reduceEq, Int.reduceAdd, Int.reduceSub, Int.reduceMul, Int.reduceNeg, Int.reduceLT, Int.reduceLE, Int.reduceToNat, Int.reduceBEq, Int.reduceNe, reduceCtorEq, w64_id, w8_id, w16_id, w32_id, tmod_pos, tdiv_pos, Bool.or_true, Bool.true_or, Bool.or_false, Bool.false_or, Bool.and_false, Bool.false_and, condK_decide]
      have s4 := (s0.push (.cells (nodeR (nd, h3.size)).toArray 83 (0, 0))).swap
      simp only [nodeR_eq, hnd, List.length_replicate, size_push'] at s4
      refine Sat.append s4 (SrcAt.lit (n := 1) (s4.front 1).get rfl (by simp [single])) isSlice_32 ssz_32 (by kernel_rfl) (by kernel_rfl) (hby _ (by rw [← hnd]; omega)) (by rw [← hnd]; omega) ?_
      intro v5 h5 s5
      have s5 : Sat h5 (sliceS 3 ((soFar Z nd i none).length + 1) v5 (nodesL (soFar Z nd i (some (i, h3.size)))) :: cellAt qb (.cells [.slice sl Z.length cap].toArray ty (0, 0)) :: sliceS 3 Z.length (.slice sl Z.length cap) (nodesL Z) :: (extraS nd (some (i, h3.size)) ++ (Z.map nodeC ++ F))) := by
        rw [soFar_new, nodesL_append, nodesL_one]
        have := s5.drop1
        simp only [hnd, extraS, nodeC, nodeR, nodeV, List.length_replicate] at this ⊢
        exact this.perm (List.Perm.cons _ ((List.Perm.swap _ _ _).trans (List.Perm.cons _ (List.Perm.swap _ _ _))))
      rw [show (soFar Z nd i none).length + 1 = (soFar Z nd i (some (i, h3.size))).length by rw [soFar_new]; simp] at s5
      obtain ⟨_, _, rfl, -⟩ := s5.elems
      simp (maxSteps := 2000000) (disch := first | (simp only [go_sem, Nat.reduceBEq, Nat.reduceAdd, Nat.reduceMul, Nat.reduceSub, Nat.reduceEqDiff, Nat.reduceLeDiff, Nat.reduceLT, Int.reduceEq, Int.reduceAdd, Int.reduceSub, Int.reduceMul, Int.reduceNeg, Int.reduceLT, Int.reduceLE, Int.reduceToNat, Int.reduceBEq, Int.reduceNe, reduceCtorEq, (s5.front 1).get]; done) | omega | (simp only [go_sem, Nat.reduceBEq, Nat.reduceAdd, Nat.reduceMul, Nat.reduceSub, Nat.reduceEqDiff, Nat.reduceLeDiff, Nat.reduceLT, Int.reduceEq, Int.reduceAdd, Int.reduceSub, Int.reduceMul, Int.reduceNeg, Int.reduceLT, Int.reduceLE, Int.reduceToNat, Int.reduceBEq, Int.reduceNe, reduceCtorEq, (s5.front 1).get]; omega)) only [go_sem, Nat.reduceBEq, Nat.reduceAdd, Nat.reduceMul, Nat.reduceSub, Nat.reduceEqDiff, Nat.reduceLeDiff, Nat.reduceLT, Int.reduceEq, Int.reduceAdd, Int.reduceSub, Int.reduceMul, Int.reduceNeg, Int.reduceLT, Int.reduceLE, Int.reduceToNat, Int.reduceBEq, Int.reduceNe, reduceCtorEq, w64_id, w8_id, w16_id, w32_id, tmod_pos, tdiv_pos, Bool.or_true, Bool.true_or, Bool.or_false, Bool.false_or, Bool.and_false, Bool.false_and, condK_decide, (s5.front 1).get]
      have hI : nd.I = id := by rw [hnd]
      have ho2 : soOk Z nd.I i (some (i, h3.size)) := ⟨by omega, hI ▸ ho, fun z hz => by rw [List.getElem?_eq_none (by omega)] at hz; cases hz⟩
      exact hR _ _ ⟨rfl, fin _ _ h3.size (.inr trivial) _ (soFar_fin (by omega) ho2) s5⟩
    | some q =>
      obtain ⟨p, b⟩ := q
      simp (maxSteps := 2000000) (disch := first | (simp only [go_sem, Nat.reduceBEq, Nat.reduceAdd, Nat.reduceMul, Nat.reduceSub, Nat.reduceEqDiff, Nat.reduceLeDiff, Nat.reduceLT, Int.reduceEq, Int.reduceAdd, Int.reduceSub, Int.reduceMul, Int.reduceNeg, Int.reduceLT, Int.reduceLE, Int.reduceToNat, Int.reduceBEq, Int.reduceNe, reduceCtorEq, (s.front 1).get, hlt']; done) | omega | (simp only [go_sem, Nat.reduceBEq, Nat.reduceAdd, Nat.reduceMul, Nat.reduceSub, Nat.reduceEqDiff, Nat.reduceLeDiff, Nat.reduceLT, Int.reduceEq, Int.reduceAdd, Int.reduceSub, Int.reduceMul, Int.reduceNeg, Int.reduceLT, Int.reduceLE, Int.reduceToNat, Int.reduceBEq, Int.reduceNe, reduceCtorEq, (s.front 1).get, hlt']; omega)) only [go_sem, Nat.reduceBEq, Nat.reduceAdd, Nat.reduceMul, Nat.reduceSub, Nat.reduceEqDiff, Nat.reduceLeDiff, Nat.reduceLT, Int.reduceEq, Int.reduceAdd, Int.reduceSub, Int.reduceMul, Int.reduceNeg, Int.reduceLT, Int.reduceLE, Int.reduceToNat, Int.reduceBEq, Int.reduceNe, reduceCtorEq, w64_id, w8_id, w16_id, w32_id, tmod_pos, tdiv_pos, Bool.or_true, Bool.true_or, Bool.or_false, Bool.false_or, Bool.and_false, Bool.false_and, condK_decide, (s.front 1).get, hlt']
      have hI : nd.I = id := by rw [hnd]
      exact hR _ _ ⟨rfl, fin _ _ b (.inr trivial) _ (soFar_fin (by omega) (hI ▸ ho)) s⟩
end
end Go.Eng
