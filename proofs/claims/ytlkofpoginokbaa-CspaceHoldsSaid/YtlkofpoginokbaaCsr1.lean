/-
  viceroyref12: the nodes; at, Radix, Get, bits.
-/
import Derived.Test.YtlkofpoginokbaaCsp5
import Derived.Test.YtlkofpoginokbaaEng16
namespace Go.Eng
set_option linter.unusedSimpArgs false
set_option linter.unusedVariables false
set_option maxRecDepth 16000
set_option maxHeartbeats 4000000
open Go Go.Proofs
def nodeR (z : Nd × Nat) : List Value := [.int .i64 z.1.I, .int .i64 z.1.X, nodeV z]
theorem nodeR_len (z : Nd × Nat) : (nodeR z).length = 3 := rfl
theorem nodeR_single (z : Nd × Nat) : ∀ x ∈ nodeR z, single x = true := by simp [nodeR, nodeV, single]
def nodesL (Z : List (Nd × Nat)) : List Value := Z.flatMap nodeR
theorem nodesL_len (Z : List (Nd × Nat)) : (nodesL Z).length = Z.length * 3 := flat_len nodeR_len Z
theorem nodesL_get (Z : List (Nd × Nat)) (i j : Nat) (hj : j < 3) : (nodesL Z)[i * 3 + j]? = (Z[i]?).bind fun x => (nodeR x)[j]? := flat_get nodeR_len Z i j hj
theorem nodesL_append (Z Y : List (Nd × Nat)) : nodesL (Z ++ Y) = nodesL Z ++ nodesL Y := by simp [nodesL]
/-- The document's space. -/
def refSpS (qb : Nat) (L : List Nd) : SP := exS fun x : Value × TypeId × List (Nd × Nat) =>
  starL (pureS (x.2.2.map (·.1) = L) :: cellAt qb (.cells [x.1].toArray x.2.1 (0, 0)) :: sliceS 3 x.2.2.length x.1 (nodesL x.2.2) :: x.2.2.map nodeC)
section
variable {h : Heap} {F : List SP} {qb : Nat} {L : List Nd}
theorem refSp_iff : Sat h (refSpS qb L :: F) ↔ ∃ v ty Z, Z.map (·.1) = L ∧ Sat h (cellAt qb (.cells [v].toArray ty (0, 0)) :: sliceS 3 Z.length v (nodesL Z) :: (Z.map nodeC ++ F)) := by
  unfold refSpS
  rw [Sat.ex]
  constructor
  · rintro ⟨x, hx⟩
    have := Sat.star.1 hx
    exact ⟨x.1, x.2.1, x.2.2, (Sat.pure.1 this).1, (Sat.pure.1 this).2⟩
  · rintro ⟨v, ty, Z, hp, hs⟩
    exact ⟨(v, ty, Z), Sat.star.2 (Sat.pure.2 ⟨hp, hs⟩)⟩
theorem nodes_elems {v : Value} {Z : List (Nd × Nat)} {G : List SP} (hs : Sat h (sliceS 3 Z.length v (nodesL Z) :: G)) : ∃ sl cap, v = .slice sl Z.length cap ∧ Z.length ≤ cap ∧ ∀ (i : Nat) z, Z[i]? = some z → ∃ lb, sl = some ⟨lb, 0, none⟩ ∧ hcellO h[lb]? (i * 3) = some (.int .i64 z.1.I) ∧ hcellO h[lb]? (i * 3 + 1) = some (.int .i64 z.1.X) ∧ hcellO h[lb]? (i * 3 + 2) = some (nodeV z) ∧ hreadO h[lb]? (i * 3) 3 = some (nodeR z).toArray := by
  obtain ⟨sl, cap, rfl, h1, h2, h3⟩ := hs.elems
  refine ⟨sl, cap, rfl, h1, fun i z hi => ?_⟩
  have hlt := (List.getElem?_eq_some_iff.1 hi).1
  rcases h3 with h3 | ⟨lb, rfl, h3, h4⟩
  · omega
  · have h5 : ∀ j, j < 3 → hcellO h[lb]? (i * 3 + j) = (nodeR z)[j]? := fun j hj => by rw [h3 _ (by omega), nodesL_get Z i j hj, hi]; rfl
    refine ⟨lb, rfl, h5 0 (by omega), h5 1 (by omega), h5 2 (by omega), ?_⟩
    rw [h4 _ _ (by omega)]
    congr 2
    apply List.ext_getElem?
    intro j
    rw [List.getElem?_take, List.getElem?_drop]
    by_cases hj : j < 3
    · rw [if_pos hj, nodesL_get Z i j hj, hi]; rfl
    · rw [if_neg hj, List.getElem?_eq_none (by rw [nodeR_len]; omega)]

/-- A node's place; below 0: there is none. -/
def atN (L : List Nd) (id : Int) : Int := match L.findIdx? (fun n => n.I == id) with | some k => k | none => -1
theorem at12_S (hs : Sat h (refSpS qb L :: F)) (hL : L.length ≤ 100000) (id : Int) : HCalls Try.prog 44 #[.pointer (some ⟨qb, 0, none⟩), .int .i64 id] h fun v h' => v = .int .i64 (atN L id) ∧ h' = h := by
  refine HCalls.via fun R hR => ?_
  obtain ⟨v, ty, Z, rfl, s⟩ := refSp_iff.1 hs
  obtain ⟨sl, cap, rfl, hcap, hel⟩ := nodes_elems s.tail
  have hq := s.get
  rw [List.length_map] at hL
  have ea : atN (Z.map (·.1)) id = match Z.findIdx? (fun z => z.1.I == id) with | some k => (k : Int) | none => -1 := by
    unfold atN; rw [List.findIdx?_map]; rfl
  rw [ea] at hR
  refine HCalls.of_dev T44 Try.func44 rfl mixed (by kernel_rfl) ?_; rw [Try.results44]
  simp (maxSteps := 2000000) (disch := first | (simp only [go_sem, Nat.reduceBEq, Nat.reduceAdd, Nat.reduceMul, Nat.reduceSub, Nat.reduceEqDiff, Nat.reduceLeDiff, Nat.reduceLT, Int.reduceEq, Int.reduceAdd, Int.reduceSub, Int.reduceMul, Int.reduceNeg, Int.reduceLT, Int.reduceLE, Int.reduceToNat, Int.reduceBEq, Int.reduceNe, reduceCtorEq]; done) | omega | (simp only [go_sem, Nat.reduceBEq, Nat.reduceAdd, Nat.reduceMul, Nat.reduceSub, Nat.reduceEqDiff, Nat.reduceLeDiff, Nat.reduceLT, Int.reduceEq, Int.reduceAdd, Int.reduceSub, Int.reduceMul, Int.reduceNeg, Int.reduceLT, Int.reduceLE, Int.reduceToNat, Int.reduceBEq, Int.reduceNe, reduceCtorEq]; omega)) only [go_sem, Nat.reduceBEq, Nat.reduceAdd, Nat.reduceMul, Nat.reduceSub, Nat.reduceEqDiff, Nat.reduceLeDiff, Nat.reduceLT, Int.reduceEq, Int.reduceAdd, Int.reduceSub, Int.reduceMul, Int.reduceNeg, Int.reduceLT, Int.reduceLE, Int.reduceToNat, Int.reduceBEq, Int.reduceNe, reduceCtorEq, w64_id, w8_id, w16_id, w32_id, tmod_pos, tdiv_pos, Bool.or_true, Bool.true_or, Bool.or_false, Bool.false_or, Bool.and_false, Bool.false_and, condK_decide]
  refine loopH.intro (fun i : Nat => (.cons 0 (.pointer (some ⟨qb, 0, none⟩)) true (.cons 1 (.int .i64 id) true (.cons 5 (.int .i64 i) true .nil)))) (fun i h' => h' = h ∧ i ≤ Z.length ∧ ∀ j, j < i → (Z[j]?).map (·.1.I) ≠ some id) (fun i _ => Z.length + 1 - i) 0 ?_ ⟨rfl, by omega, fun j hj => by omega⟩ ?_
  · simp (maxSteps := 2000000) (disch := first | (simp only [go_sem, Nat.reduceBEq, Nat.reduceAdd, Nat.reduceMul, Nat.reduceSub, Nat.reduceEqDiff, Nat.reduceLeDiff, Nat.reduceLT, Int.reduceEq, Int.reduceAdd, Int.reduceSub, Int.reduceMul, Int.reduceNeg, Int.reduceLT, Int.reduceLE, Int.reduceToNat, Int.reduceBEq, Int.reduceNe, reduceCtorEq]; done) | omega | (simp only [go_sem, Nat.reduceBEq, Nat.reduceAdd, Nat.reduceMul, Nat.reduceSub, Nat.reduceEqDiff, Nat.reduceLeDiff, Nat.reduceLT, Int.reduceEq, Int.reduceAdd, Int.reduceSub, Int.reduceMul, Int.reduceNeg, Int.reduceLT, Int.reduceLE, Int.reduceToNat, Int.reduceBEq, Int.reduceNe, reduceCtorEq]; omega)) only [go_sem, Nat.reduceBEq, Nat.reduceAdd, Nat.reduceMul, Nat.reduceSub, Nat.reduceEqDiff, Nat.reduceLeDiff, Nat.reduceLT, Int.reduceEq, Int.reduceAdd, Int.reduceSub, Int.reduceMul, Int.reduceNeg, Int.reduceLT, Int.reduceLE, Int.reduceToNat, Int.reduceBEq, Int.reduceNe, reduceCtorEq, w64_id, w8_id, w16_id, w32_id, tmod_pos, tdiv_pos, Bool.or_true, Bool.true_or, Bool.or_false, Bool.false_or, Bool.and_false, Bool.false_and, condK_decide]; rfl
  rintro i h' ⟨rfl, hi, hno⟩
  simp (maxSteps := 2000000) (disch := first | (simp only [go_sem, Nat.reduceBEq, Nat.reduceAdd, Nat.reduceMul, Nat.reduceSub, Nat.reduceEqDiff, Nat.reduceLeDiff, Nat.reduceLT, Int.reduceEq, Int.reduceAdd, Int.reduceSub, Int.reduceMul, Int.reduceNeg, Int.reduceLT, Int.reduceLE, Int.reduceToNat, Int.reduceBEq, Int.reduceNe, reduceCtorEq, hq]; done) | omega | (simp only [go_sem, Nat.reduceBEq, Nat.reduceAdd, Nat.reduceMul, Nat.reduceSub, Nat.reduceEqDiff, Nat.reduceLeDiff, Nat.reduceLT, Int.reduceEq, Int.reduceAdd, Int.reduceSub, Int.reduceMul, Int.reduceNeg, Int.reduceLT, Int.reduceLE, Int.reduceToNat, Int.reduceBEq, Int.reduceNe, reduceCtorEq, hq]; omega)) only [go_sem, Nat.reduceBEq, Nat.reduceAdd, Nat.reduceMul, Nat.reduceSub, Nat.reduceEqDiff, Nat.reduceLeDiff, Nat.reduceLT, Int.reduceEq, Int.reduceAdd, Int.reduceSub, Int.reduceMul, Int.reduceNeg, Int.reduceLT, Int.reduceLE, Int.reduceToNat, Int.reduceBEq, Int.reduceNe, reduceCtorEq, w64_id, w8_id, w16_id, w32_id, tmod_pos, tdiv_pos, Bool.or_true, Bool.true_or, Bool.or_false, Bool.false_or, Bool.and_false, Bool.false_and, condK_decide, hq]
  refine ⟨fun hc => ?_, fun hc => ?_⟩
  · have hlt : i < Z.length := by omega
    obtain ⟨lb, rfl, e0, -, -, -⟩ := hel i Z[i] (List.getElem?_eq_getElem hlt)
    simp (maxSteps := 2000000) (disch := first | (simp only [go_sem, Nat.reduceBEq, Nat.reduceAdd, Nat.reduceMul, Nat.reduceSub, Nat.reduceEqDiff, Nat.reduceLeDiff, Nat.reduceLT, Int.reduceEq, Int.reduceAdd, Int.reduceSub, Int.reduceMul, Int.reduceNeg, Int.reduceLT, Int.reduceLE, Int.reduceToNat, Int.reduceBEq, Int.reduceNe, reduceCtorEq, hq, e0]; done) | omega | (simp only [go_sem, Nat.reduceBEq, Nat.reduceAdd, Nat.reduceMul, Nat.reduceSub, Nat.reduceEqDiff, Nat.reduceLeDiff, Nat.reduceLT, Int.reduceEq, Int.reduceAdd, Int.reduceSub, Int.reduceMul, Int.reduceNeg, Int.reduceLT, Int.reduceLE, Int.reduceToNat, Int.reduceBEq, Int.reduceNe, reduceCtorEq, hq, e0]; omega)) only [go_sem, Nat.reduceBEq, Nat.reduceAdd, Nat.reduceMul, Nat.reduceSub, Nat.reduceEqDiff, Nat.reduceLeDiff, Nat.reduceLT, Int.reduceEq, Int.reduceAdd, Int.reduceSub, Int.reduceMul, Int.reduceNeg, Int.reduceLT, Int.reduceLE, Int.reduceToNat, Int.reduceBEq, Int.reduceNe, reduceCtorEq, w64_id, w8_id, w16_id, w32_id, tmod_pos, tdiv_pos, Bool.or_true, Bool.true_or, Bool.or_false, Bool.false_or, Bool.and_false, Bool.false_and, condK_decide, hq, e0]
    refine ⟨fun e => hR _ _ ⟨?_, rfl⟩, fun e => ?_⟩
    · have : Z.findIdx? (fun r => r.1.I == id) = some i := by
        rw [List.findIdx?_eq_some_iff_getElem]
        refine ⟨hlt, by simpa using e, fun j hj => ?_⟩
        have := hno j hj
        rw [List.getElem?_eq_getElem (by omega)] at this
        simpa using this
      rw [this]
    · refine ⟨i + 1, rfl, ⟨rfl, by omega, fun j hj => ?_⟩, by simp only; omega⟩
      by_cases q : j = i
      · subst q; rw [List.getElem?_eq_getElem hlt]; simpa using e
      · exact hno j (by omega)
  · refine hR _ _ ⟨?_, rfl⟩
    have : Z.findIdx? (fun r => r.1.I == id) = none := by
      rw [List.findIdx?_eq_none_iff]
      intro r hr
      obtain ⟨j, hj, rfl⟩ := List.getElem_of_mem hr
      have := hno j (by omega)
      rw [List.getElem?_eq_getElem hj] at this
      simpa using this
    rw [this]
end
end Go.Eng
