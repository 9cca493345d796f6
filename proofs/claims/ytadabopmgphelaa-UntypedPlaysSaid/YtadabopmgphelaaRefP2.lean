/-
  viceroyref14: Add, Drop.
-/
import Derived.Test.YtadabopmgphelaaRefP1
import Derived.Test.YtadabopmgphelaaEng16
namespace Go.Eng
set_option linter.unusedSimpArgs false
set_option linter.unusedVariables false
set_option maxRecDepth 16000
set_option maxHeartbeats 4000000
open Go Go.Proofs
section
variable {h : Heap} {F : List SP} {qb : Nat} {L : List Reg}

def insM (L : List Reg) (x : Reg) : List Reg := L.takeWhile (fun r => decide (r.F < x.F)) ++ x :: L.dropWhile (fun r => decide (r.F < x.F))
def addL (L : List Reg) (x : Reg) : List Reg × Int := if mayAdd x then (match L.find? (fun r => r.F == x.F) with | some _ => (L, 130) | none => (insM L x, 0)) else (L, 1)

theorem addRef_S (hs : Sat h (refS qb L :: F)) (hL : L.length ≤ 100000) (x : Reg) (hx : -9223372036854775808 ≤ x.N ∧ x.N ≤ 9223372036854775807) :
    HCalls Try.prog 30 #[.pointer (some ⟨qb, 0, none⟩), .agg x.cells.toArray] h fun v h' => v = .int .i64 (addL L x).2 ∧ Sat h' (refS qb (addL L x).1 :: F) := by
  refine HCalls.via fun R hR => ?_
  refine HCalls.of_dev T30 Try.func30 rfl mixed (by kernel_rfl) ?_; rw [Try.results30]
  simp (maxSteps := 2000000) (disch := first | (simp only [go_sem, Nat.reduceBEq, Nat.reduceAdd, Nat.reduceMul, Nat.reduceSub, Nat.reduceEqDiff, Nat.reduceLeDiff, Nat.reduceLT, Int.reduceEq, Int.reduceAdd, Int.reduceSub, Int.reduceMul, Int.reduceNeg, Int.reduceLT, Int.reduceLE, Int.reduceToNat, Int.reduceBEq, Int.reduceNe, reduceCtorEq]; done) | omega | (simp only [go_sem, Nat.reduceBEq, Nat.reduceAdd, Nat.reduceMul, Nat.reduceSub, Nat.reduceEqDiff, Nat.reduceLeDiff, Nat.reduceLT, Int.reduceEq, Int.reduceAdd, Int.reduceSub, Int.reduceMul, Int.reduceNeg, Int.reduceLT, Int.reduceLE, Int.reduceToNat, Int.reduceBEq, Int.reduceNe, reduceCtorEq]; omega)) only [go_sem, Nat.reduceBEq, Nat.reduceAdd, Nat.reduceMul, Nat.reduceSub, Nat.reduceEqDiff, Nat.reduceLeDiff, Nat.reduceLT, Int.reduceEq, Int.reduceAdd, Int.reduceSub, Int.reduceMul, Int.reduceNeg, Int.reduceLT, Int.reduceLE, Int.reduceToNat, Int.reduceBEq, Int.reduceNe, reduceCtorEq, w64_id, w8_id, w16_id, w32_id, tmod_pos, tdiv_pos, Bool.or_true, Bool.true_or, Bool.or_false, Bool.false_or, Bool.and_false, Bool.false_and, condK_decide]
  have s0 := hs.push (.cells x.cells.toArray 28 (0, 0))
  refine (may_S x hx).mono ?_
  rintro v h1 ⟨rfl, e1⟩
  have s1 := s0.grow e1
  clear s0 e1
  by_cases hm : mayAdd x
  case neg =>
    simp (maxSteps := 2000000) (disch := first | (simp only [go_sem, Nat.reduceBEq, Nat.reduceAdd, Nat.reduceMul, Nat.reduceSub, Nat.reduceEqDiff, Nat.reduceLeDiff, Nat.reduceLT, Int.reduceEq, Int.reduceAdd, Int.reduceSub, Int.reduceMul, Int.reduceNeg, Int.reduceLT, Int.reduceLE, Int.reduceToNat, Int.reduceBEq, Int.reduceNe, reduceCtorEq, hm]; done) | omega | (simp only [go_sem, Nat.reduceBEq, Nat.reduceAdd, Nat.reduceMul, Nat.reduceSub, Nat.reduceEqDiff, Nat.reduceLeDiff, Nat.reduceLT, Int.reduceEq, Int.reduceAdd, Int.reduceSub, Int.reduceMul, Int.reduceNeg, Int.reduceLT, Int.reduceLE, Int.reduceToNat, Int.reduceBEq, Int.reduceNe, reduceCtorEq, hm]; omega)) only [go_sem, Nat.reduceBEq, Nat.reduceAdd, Nat.reduceMul, Nat.reduceSub, Nat.reduceEqDiff, Nat.reduceLeDiff, Nat.reduceLT, Int.reduceEq, Int.reduceAdd, Int.reduceSub, Int.reduceMul, Int.reduceNeg, Int.reduceLT, Int.reduceLE, Int.reduceToNat, Int.reduceBEq, Int.reduceNe, reduceCtorEq, w64_id, w8_id, w16_id, w32_id, tmod_pos, tdiv_pos, Bool.or_true, Bool.true_or, Bool.or_false, Bool.false_or, Bool.and_false, Bool.false_and, condK_decide, hm]
    exact hR _ _ ⟨by unfold addL; rw [if_neg hm], by unfold addL; rw [if_neg hm]; exact s1.tail⟩
  simp (maxSteps := 2000000) (disch := first | (simp only [go_sem, Nat.reduceBEq, Nat.reduceAdd, Nat.reduceMul, Nat.reduceSub, Nat.reduceEqDiff, Nat.reduceLeDiff, Nat.reduceLT, Int.reduceEq, Int.reduceAdd, Int.reduceSub, Int.reduceMul, Int.reduceNeg, Int.reduceLT, Int.reduceLE, Int.reduceToNat, Int.reduceBEq, Int.reduceNe, reduceCtorEq, hm, s1.get]; done) | omega | (simp only [go_sem, Nat.reduceBEq, Nat.reduceAdd, Nat.reduceMul, Nat.reduceSub, Nat.reduceEqDiff, Nat.reduceLeDiff, Nat.reduceLT, Int.reduceEq, Int.reduceAdd, Int.reduceSub, Int.reduceMul, Int.reduceNeg, Int.reduceLT, Int.reduceLE, Int.reduceToNat, Int.reduceBEq, Int.reduceNe, reduceCtorEq, hm, s1.get]; omega)) only [go_sem, Nat.reduceBEq, Nat.reduceAdd, Nat.reduceMul, Nat.reduceSub, Nat.reduceEqDiff, Nat.reduceLeDiff, Nat.reduceLT, Int.reduceEq, Int.reduceAdd, Int.reduceSub, Int.reduceMul, Int.reduceNeg, Int.reduceLT, Int.reduceLE, Int.reduceToNat, Int.reduceBEq, Int.reduceNe, reduceCtorEq, w64_id, w8_id, w16_id, w32_id, tmod_pos, tdiv_pos, Bool.or_true, Bool.true_or, Bool.or_false, Bool.false_or, Bool.and_false, Bool.false_and, condK_decide, hm, s1.get]
  refine (at_S (s1.front 1) hL x.F).mono ?_
  rintro v h2 ⟨rfl, rfl⟩
  rcases atM_cases L x.F with ⟨e, e2⟩ | ⟨k, r, e, e1, e2, e3, e4⟩
  case inr =>
    rw [e]
    have ha : addL L x = (L, 130) := by unfold addL; rw [if_pos hm, e3]
    rw [ha] at hR
    simp (maxSteps := 2000000) (disch := first | (simp only [go_sem, Nat.reduceBEq, Nat.reduceAdd, Nat.reduceMul, Nat.reduceSub, Nat.reduceEqDiff, Nat.reduceLeDiff, Nat.reduceLT, Int.reduceEq, Int.reduceAdd, Int.reduceSub, Int.reduceMul, Int.reduceNeg, Int.reduceLT, Int.reduceLE, Int.reduceToNat, Int.reduceBEq, Int.reduceNe, reduceCtorEq]; done) | omega | (simp only [go_sem, Nat.reduceBEq, Nat.reduceAdd, Nat.reduceMul, Nat.reduceSub, Nat.reduceEqDiff, Nat.reduceLeDiff, Nat.reduceLT, Int.reduceEq, Int.reduceAdd, Int.reduceSub, Int.reduceMul, Int.reduceNeg, Int.reduceLT, Int.reduceLE, Int.reduceToNat, Int.reduceBEq, Int.reduceNe, reduceCtorEq]; omega)) only [go_sem, Nat.reduceBEq, Nat.reduceAdd, Nat.reduceMul, Nat.reduceSub, Nat.reduceEqDiff, Nat.reduceLeDiff, Nat.reduceLT, Int.reduceEq, Int.reduceAdd, Int.reduceSub, Int.reduceMul, Int.reduceNeg, Int.reduceLT, Int.reduceLE, Int.reduceToNat, Int.reduceBEq, Int.reduceNe, reduceCtorEq, w64_id, w8_id, w16_id, w32_id, tmod_pos, tdiv_pos, Bool.or_true, Bool.true_or, Bool.or_false, Bool.false_or, Bool.and_false, Bool.false_and, condK_decide]
    exact hR _ _ ⟨rfl, s1.tail⟩
  rw [e]
  have ha : addL L x = (insM L x, 0) := by unfold addL; rw [if_pos hm, e2]
  rw [ha] at hR
  simp (maxSteps := 2000000) (disch := first | (simp only [go_sem, Nat.reduceBEq, Nat.reduceAdd, Nat.reduceMul, Nat.reduceSub, Nat.reduceEqDiff, Nat.reduceLeDiff, Nat.reduceLT, Int.reduceEq, Int.reduceAdd, Int.reduceSub, Int.reduceMul, Int.reduceNeg, Int.reduceLT, Int.reduceLE, Int.reduceToNat, Int.reduceBEq, Int.reduceNe, reduceCtorEq]; done) | omega | (simp only [go_sem, Nat.reduceBEq, Nat.reduceAdd, Nat.reduceMul, Nat.reduceSub, Nat.reduceEqDiff, Nat.reduceLeDiff, Nat.reduceLT, Int.reduceEq, Int.reduceAdd, Int.reduceSub, Int.reduceMul, Int.reduceNeg, Int.reduceLT, Int.reduceLE, Int.reduceToNat, Int.reduceBEq, Int.reduceNe, reduceCtorEq]; omega)) only [go_sem, Nat.reduceBEq, Nat.reduceAdd, Nat.reduceMul, Nat.reduceSub, Nat.reduceEqDiff, Nat.reduceLeDiff, Nat.reduceLT, Int.reduceEq, Int.reduceAdd, Int.reduceSub, Int.reduceMul, Int.reduceNeg, Int.reduceLT, Int.reduceLE, Int.reduceToNat, Int.reduceBEq, Int.reduceNe, reduceCtorEq, w64_id, w8_id, w16_id, w32_id, tmod_pos, tdiv_pos, Bool.or_true, Bool.true_or, Bool.or_false, Bool.false_or, Bool.and_false, Bool.false_and, condK_decide]
  obtain ⟨v, ty, s2⟩ := refS_iff.1 (s1.front 1)
  have s3 := Sat.nilS (sz := 4) s2
  obtain ⟨sl, cap, rfl, hcap, -⟩ := regs_elems s2.tail
  clear s1 s2
  refine loopH.intro (fun t : Nat × Value => (.cons 0 (.pointer (some ⟨qb, 0, none⟩)) true (.cons 3 (.pointer (some ⟨h.size, 0, none⟩)) true (.cons 7 (t.2) true (.cons 8 (.int .i64 t.1) true .nil)))))
    (fun t h' => Sat h' (sliceS 4 t.1 t.2 (regsL (L.take t.1)) :: cellAt qb (.cells [.slice sl L.length cap].toArray ty (0, 0)) :: sliceS 4 L.length (.slice sl L.length cap) (regsL L) :: cellAt h.size (.cells x.cells.toArray 28 (0, 0)) :: F) ∧
      t.1 ≤ L.length ∧ ∀ (j : Nat) r, j < t.1 → L[j]? = some r → r.F < x.F) (fun t _ => L.length + 1 - t.1) (0, .slice none 0 0) ?_ ⟨s3, by simp, by simp⟩ ?_
  · simp (maxSteps := 2000000) (disch := first | (simp only [go_sem, Nat.reduceBEq, Nat.reduceAdd, Nat.reduceMul, Nat.reduceSub, Nat.reduceEqDiff, Nat.reduceLeDiff, Nat.reduceLT, Int.reduceEq, Int.reduceAdd, Int.reduceSub, Int.reduceMul, Int.reduceNeg, Int.reduceLT, Int.reduceLE, Int.reduceToNat, Int.reduceBEq, Int.reduceNe, reduceCtorEq]; done) | omega | (simp only [go_sem, Nat.reduceBEq, Nat.reduceAdd, Nat.reduceMul, Nat.reduceSub, Nat.reduceEqDiff, Nat.reduceLeDiff, Nat.reduceLT, Int.reduceEq, Int.reduceAdd, Int.reduceSub, Int.reduceMul, Int.reduceNeg, Int.reduceLT, Int.reduceLE, Int.reduceToNat, Int.reduceBEq, Int.reduceNe, reduceCtorEq]; omega)) only [go_sem, Nat.reduceBEq, Nat.reduceAdd, Nat.reduceMul, Nat.reduceSub, Nat.reduceEqDiff, Nat.reduceLeDiff, Nat.reduceLT, Int.reduceEq, Int.reduceAdd, Int.reduceSub, Int.reduceMul, Int.reduceNeg, Int.reduceLT, Int.reduceLE, Int.reduceToNat, Int.reduceBEq, Int.reduceNe, reduceCtorEq, w64_id, w8_id, w16_id, w32_id, tmod_pos, tdiv_pos, Bool.or_true, Bool.true_or, Bool.or_false, Bool.false_or, Bool.and_false, Bool.false_and, condK_decide]; rfl
  rintro ⟨i, v⟩ h3 ⟨s, hi, hall⟩
  simp only at s hi hall
  obtain ⟨sl', cap', e, -, hel⟩ := regs_elems (s.front 2)
  cases e
  obtain ⟨sl2, cap2, rfl, -⟩ := s.elems
  -- the end, from a place on
  have fin : (∀ r, L[i]? = some r → x.F ≤ r.F) → L.takeWhile (fun r => decide (r.F < x.F)) = L.take i ∧ L.dropWhile (fun r => decide (r.F < x.F)) = L.drop i := fun q =>
    take_while L i (fun j r hj hr => by simpa using hall j r hj hr) (fun r hr => by simpa using q r hr)
  have hreg : ∀ h4 v4 (F : List SP), (∀ r, L[i]? = some r → x.F ≤ r.F) → Sat h4 (sliceS 4 (i + 1 + (L.length - i)) v4 (regsL (L.take i) ++ x.cells ++ (regsL L).drop (i * 4)) :: F) → Sat h4 (sliceS 4 (insM L x).length v4 (regsL (insM L x)) :: F) := by
    intro h4 v4 F q s4
    obtain ⟨f1, f2⟩ := fin q
    have e1 : insM L x = L.take i ++ x :: L.drop i := by unfold insM; rw [f1, f2]
    have e2 : (regsL L).drop (i * 4) = regsL (L.drop i) := by
      have : regsL L = regsL (L.take i) ++ regsL (L.drop i) := by rw [← regsL_append, List.take_append_drop]
      rw [this, List.drop_left' (by rw [regsL_len, List.length_take, Nat.min_eq_left hi])]
    have e3 : regsL (insM L x) = regsL (L.take i) ++ x.cells ++ (regsL L).drop (i * 4) := by
      rw [e1, e2, regsL_append, List.append_assoc]; rfl
    have e4 : (insM L x).length = i + 1 + (L.length - i) := by
      rw [e1]; simp only [List.length_append, List.length_take, List.length_cons, List.length_drop]; omega
    rw [e3, e4]; exact s4
  have hby : ∀ n, n ≤ 200001 → (2 * n + 1024) * (tbytes Try.prog (sliceElem Try.prog 53)).getD 0 ≤ 281474976710656 := fun n hn => by
    rw [selem_53, tbytes_28]; simp only [Option.getD_some]; omega
  by_cases hgo : ∃ hlt : i < L.length, L[i].F < x.F
  · obtain ⟨hlt, hF⟩ := hgo
    obtain ⟨lb, rfl, -, e0, e4⟩ := hel i L[i] (List.getElem?_eq_getElem hlt)
    have hlt' : (i : Int) < L.length := by omega
    simp (maxSteps := 2000000) (disch := first | (simp only [go_sem, Nat.reduceBEq, Nat.reduceAdd, Nat.reduceMul, Nat.reduceSub, Nat.reduceEqDiff, Nat.reduceLeDiff, Nat.reduceLT, Int.reduceEq, Int.reduceAdd, Int.reduceSub, Int.reduceMul, Int.reduceNeg, Int.reduceLT, Int.reduceLE, Int.reduceToNat, Int.reduceBEq, Int.reduceNe, reduceCtorEq, (s.front 1).get, (s.front 3).get, e0, e4, hlt', hF]; done) | omega | (simp only [go_sem, Nat.reduceBEq, Nat.reduceAdd, Nat.reduceMul, Nat.reduceSub, Nat.reduceEqDiff, Nat.reduceLeDiff, Nat.reduceLT, Int.reduceEq, Int.reduceAdd, Int.reduceSub, Int.reduceMul, Int.reduceNeg, Int.reduceLT, Int.reduceLE, Int.reduceToNat, Int.reduceBEq, Int.reduceNe, reduceCtorEq, (s.front 1).get, (s.front 3).get, e0, e4, hlt', hF]; omega)) only [go_sem, Nat.reduceBEq, Nat.reduceAdd, Nat.reduceMul, Nat.reduceSub, Nat.reduceEqDiff, Nat.reduceLeDiff, Nat.reduceLT, Int.reduceEq, Int.reduceAdd, Int.reduceSub, Int.reduceMul, Int.reduceNeg, Int.reduceLT, Int.reduceLE, Int.reduceToNat, Int.reduceBEq, Int.reduceNe, reduceCtorEq, w64_id, w8_id, w16_id, w32_id, tmod_pos, tdiv_pos, Bool.or_true, Bool.true_or, Bool.or_false, Bool.false_or, Bool.and_false, Bool.false_and, condK_decide, (s.front 1).get, (s.front 3).get, e0, e4, hlt', hF]
    have s4 := (s.push (.cells L[i].cells.toArray 28 (0, 0))).swap
    refine Sat.append s4 (SrcAt.lit (n := 1) (s4.front 1).get rfl (Reg.cells_single _)) isSlice_53 ssz_53 (by kernel_rfl) (by kernel_rfl) (hby _ (by omega)) (by omega) ?_
    intro v5 h5 s5
    simp (maxSteps := 2000000) (disch := first | (simp only [go_sem, Nat.reduceBEq, Nat.reduceAdd, Nat.reduceMul, Nat.reduceSub, Nat.reduceEqDiff, Nat.reduceLeDiff, Nat.reduceLT, Int.reduceEq, Int.reduceAdd, Int.reduceSub, Int.reduceMul, Int.reduceNeg, Int.reduceLT, Int.reduceLE, Int.reduceToNat, Int.reduceBEq, Int.reduceNe, reduceCtorEq]; done) | omega | (simp only [go_sem, Nat.reduceBEq, Nat.reduceAdd, Nat.reduceMul, Nat.reduceSub, Nat.reduceEqDiff, Nat.reduceLeDiff, Nat.reduceLT, Int.reduceEq, Int.reduceAdd, Int.reduceSub, Int.reduceMul, Int.reduceNeg, Int.reduceLT, Int.reduceLE, Int.reduceToNat, Int.reduceBEq, Int.reduceNe, reduceCtorEq]; omega)) only [go_sem, Nat.reduceBEq, Nat.reduceAdd, Nat.reduceMul, Nat.reduceSub, Nat.reduceEqDiff, Nat.reduceLeDiff, Nat.reduceLT, Int.reduceEq, Int.reduceAdd, Int.reduceSub, Int.reduceMul, Int.reduceNeg, Int.reduceLT, Int.reduceLE, Int.reduceToNat, Int.reduceBEq, Int.reduceNe, reduceCtorEq, w64_id, w8_id, w16_id, w32_id, tmod_pos, tdiv_pos, Bool.or_true, Bool.true_or, Bool.or_false, Bool.false_or, Bool.and_false, Bool.false_and, condK_decide]
    refine ⟨(i + 1, v5), rfl, ⟨?_, by simp only; omega, fun j r hj hr => ?_⟩, by simp only; omega⟩
    · have e : regsL (L.take (i + 1)) = regsL (L.take i) ++ L[i].cells := by
        rw [List.take_succ_eq_append_getElem hlt, regsL_append]; simp [regsL]
      simp only [e]
      exact s5.drop1
    · simp only at hj
      by_cases q : j = i
      · subst q; rw [List.getElem?_eq_getElem hlt] at hr; cases hr; exact hF
      · exact hall j r (by omega) hr
  have hq : ∀ r, L[i]? = some r → x.F ≤ r.F := fun r hr => by
    obtain ⟨hlt, rfl⟩ := List.getElem?_eq_some_iff.1 hr
    exact Int.not_lt.1 fun q => hgo ⟨hlt, q⟩
  by_cases hlt : i < L.length
  case' pos =>
    obtain ⟨lb, rfl, -, e0, e4⟩ := hel i L[i] (List.getElem?_eq_getElem hlt)
    have hlt' : (i : Int) < L.length := by omega
    have hF : ¬ L[i].F < x.F := fun q => hgo ⟨hlt, q⟩
    simp (maxSteps := 2000000) (disch := first | (simp only [go_sem, Nat.reduceBEq, Nat.reduceAdd, Nat.reduceMul, Nat.reduceSub, Nat.reduceEqDiff, Nat.reduceLeDiff, Nat.reduceLT, Int.reduceEq, Int.reduceAdd, Int.reduceSub, Int.reduceMul, Int.reduceNeg, Int.reduceLT, Int.reduceLE, Int.reduceToNat, Int.reduceBEq, Int.reduceNe, reduceCtorEq, (s.front 1).get, (s.front 3).get, e0, e4, hlt', hF]; done) | omega | (simp only [go_sem, Nat.reduceBEq, Nat.reduceAdd, Nat.reduceMul, Nat.reduceSub, Nat.reduceEqDiff, Nat.reduceLeDiff, Nat.reduceLT, Int.reduceEq, Int.reduceAdd, Int.reduceSub, Int.reduceMul, Int.reduceNeg, Int.reduceLT, Int.reduceLE, Int.reduceToNat, Int.reduceBEq, Int.reduceNe, reduceCtorEq, (s.front 1).get, (s.front 3).get, e0, e4, hlt', hF]; omega)) only [go_sem, Nat.reduceBEq, Nat.reduceAdd, Nat.reduceMul, Nat.reduceSub, Nat.reduceEqDiff, Nat.reduceLeDiff, Nat.reduceLT, Int.reduceEq, Int.reduceAdd, Int.reduceSub, Int.reduceMul, Int.reduceNeg, Int.reduceLT, Int.reduceLE, Int.reduceToNat, Int.reduceBEq, Int.reduceNe, reduceCtorEq, w64_id, w8_id, w16_id, w32_id, tmod_pos, tdiv_pos, Bool.or_true, Bool.true_or, Bool.or_false, Bool.false_or, Bool.and_false, Bool.false_and, condK_decide, (s.front 1).get, (s.front 3).get, e0, e4, hlt', hF]
  case' neg =>
    have hlt' : ¬ ((i : Int) < L.length) := by omega
    simp (maxSteps := 2000000) (disch := first | (simp only [go_sem, Nat.reduceBEq, Nat.reduceAdd, Nat.reduceMul, Nat.reduceSub, Nat.reduceEqDiff, Nat.reduceLeDiff, Nat.reduceLT, Int.reduceEq, Int.reduceAdd, Int.reduceSub, Int.reduceMul, Int.reduceNeg, Int.reduceLT, Int.reduceLE, Int.reduceToNat, Int.reduceBEq, Int.reduceNe, reduceCtorEq, (s.front 1).get, (s.front 3).get, hlt']; done) | omega | (simp only [go_sem, Nat.reduceBEq, Nat.reduceAdd, Nat.reduceMul, Nat.reduceSub, Nat.reduceEqDiff, Nat.reduceLeDiff, Nat.reduceLT, Int.reduceEq, Int.reduceAdd, Int.reduceSub, Int.reduceMul, Int.reduceNeg, Int.reduceLT, Int.reduceLE, Int.reduceToNat, Int.reduceBEq, Int.reduceNe, reduceCtorEq, (s.front 1).get, (s.front 3).get, hlt']; omega)) only [go_sem, Nat.reduceBEq, Nat.reduceAdd, Nat.reduceMul, Nat.reduceSub, Nat.reduceEqDiff, Nat.reduceLeDiff, Nat.reduceLT, Int.reduceEq, Int.reduceAdd, Int.reduceSub, Int.reduceMul, Int.reduceNeg, Int.reduceLT, Int.reduceLE, Int.reduceToNat, Int.reduceBEq, Int.reduceNe, reduceCtorEq, w64_id, w8_id, w16_id, w32_id, tmod_pos, tdiv_pos, Bool.or_true, Bool.true_or, Bool.or_false, Bool.false_or, Bool.and_false, Bool.false_and, condK_decide, (s.front 1).get, (s.front 3).get, hlt']
    refine rdK_any fun _ => rdK_any fun _ => rdK_any fun _ => rdK_any fun _ => ?_
  all_goals
    have s4 := (s.push (.cells x.cells.toArray 28 (0, 0))).swap
    refine Sat.append s4 (SrcAt.lit (n := 1) (s4.front 1).get rfl (Reg.cells_single _)) isSlice_53 ssz_53 (by kernel_rfl) (by kernel_rfl) (hby _ (by omega)) (by omega) ?_
    intro v5 h5 s5
    obtain ⟨w, ew, sw⟩ := (s5.front 3).part (t := 53) (k := i) (m := L.length) (lo := some (.int .i64 i)) (hi := none) isSlice_53 ssz_53 hi (Nat.le_refl _) (fun cap _ _ => sliceBounds_from hi)
    simp (maxSteps := 2000000) (disch := first | (simp only [go_sem, Nat.reduceBEq, Nat.reduceAdd, Nat.reduceMul, Nat.reduceSub, Nat.reduceEqDiff, Nat.reduceLeDiff, Nat.reduceLT, Int.reduceEq, Int.reduceAdd, Int.reduceSub, Int.reduceMul, Int.reduceNeg, Int.reduceLT, Int.reduceLE, Int.reduceToNat, Int.reduceBEq, Int.reduceNe, reduceCtorEq, (s5.front 2).get, ew]; done) | omega | (simp only [go_sem, Nat.reduceBEq, Nat.reduceAdd, Nat.reduceMul, Nat.reduceSub, Nat.reduceEqDiff, Nat.reduceLeDiff, Nat.reduceLT, Int.reduceEq, Int.reduceAdd, Int.reduceSub, Int.reduceMul, Int.reduceNeg, Int.reduceLT, Int.reduceLE, Int.reduceToNat, Int.reduceBEq, Int.reduceNe, reduceCtorEq, (s5.front 2).get, ew]; omega)) only [go_sem, Nat.reduceBEq, Nat.reduceAdd, Nat.reduceMul, Nat.reduceSub, Nat.reduceEqDiff, Nat.reduceLeDiff, Nat.reduceLT, Int.reduceEq, Int.reduceAdd, Int.reduceSub, Int.reduceMul, Int.reduceNeg, Int.reduceLT, Int.reduceLE, Int.reduceToNat, Int.reduceBEq, Int.reduceNe, reduceCtorEq, w64_id, w8_id, w16_id, w32_id, tmod_pos, tdiv_pos, Bool.or_true, Bool.true_or, Bool.or_false, Bool.false_or, Bool.and_false, Bool.false_and, condK_decide, (s5.front 2).get, ew]
    refine Sat.append s5.drop1 sw isSlice_53 ssz_53 (by kernel_rfl) (by kernel_rfl) (hby _ (by omega)) (by omega) ?_
    intro v6 h6 s6
    have e : ((regsL L).drop (i * 4)).take ((L.length - i) * 4) = (regsL L).drop (i * 4) := by
      rw [List.take_of_length_le]
      rw [List.length_drop, regsL_len]; omega
    rw [e] at s6
    obtain ⟨_, _, rfl, -⟩ := s6.elems
    simp (maxSteps := 2000000) (disch := first | (simp only [go_sem, Nat.reduceBEq, Nat.reduceAdd, Nat.reduceMul, Nat.reduceSub, Nat.reduceEqDiff, Nat.reduceLeDiff, Nat.reduceLT, Int.reduceEq, Int.reduceAdd, Int.reduceSub, Int.reduceMul, Int.reduceNeg, Int.reduceLT, Int.reduceLE, Int.reduceToNat, Int.reduceBEq, Int.reduceNe, reduceCtorEq, (s6.front 1).get]; done) | omega | (simp only [go_sem, Nat.reduceBEq, Nat.reduceAdd, Nat.reduceMul, Nat.reduceSub, Nat.reduceEqDiff, Nat.reduceLeDiff, Nat.reduceLT, Int.reduceEq, Int.reduceAdd, Int.reduceSub, Int.reduceMul, Int.reduceNeg, Int.reduceLT, Int.reduceLE, Int.reduceToNat, Int.reduceBEq, Int.reduceNe, reduceCtorEq, (s6.front 1).get]; omega)) only [go_sem, Nat.reduceBEq, Nat.reduceAdd, Nat.reduceMul, Nat.reduceSub, Nat.reduceEqDiff, Nat.reduceLeDiff, Nat.reduceLT, Int.reduceEq, Int.reduceAdd, Int.reduceSub, Int.reduceMul, Int.reduceNeg, Int.reduceLT, Int.reduceLE, Int.reduceToNat, Int.reduceBEq, Int.reduceNe, reduceCtorEq, w64_id, w8_id, w16_id, w32_id, tmod_pos, tdiv_pos, Bool.or_true, Bool.true_or, Bool.or_false, Bool.false_or, Bool.and_false, Bool.false_and, condK_decide, (s6.front 1).get]
    exact hR _ _ ⟨rfl, refS_iff.2 ⟨_, _, (hreg _ _ _ hq ((s6.front 1).set _).drop2.drop2.swap).swap⟩⟩
end
end Go.Eng
