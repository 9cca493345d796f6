/-
  viceroyref14: the list of regions; at, may, Get.
-/
import Derived.Test.YtadabopmgphelaaUnt11
import Derived.Test.YtadabopmgphelaaEng16
namespace Go.Eng
set_option linter.unusedSimpArgs false
set_option linter.unusedVariables false
set_option maxRecDepth 16000
set_option maxHeartbeats 4000000
open Go Go.Proofs

theorem Reg.cells_len (r : Reg) : r.cells.length = 4 := rfl
theorem Reg.cells_single (r : Reg) : ∀ x ∈ r.cells, single x = true := by simp [Reg.cells, single]
def regsL (L : List Reg) : List Value := L.flatMap Reg.cells
theorem regsL_len (L : List Reg) : (regsL L).length = L.length * 4 := flat_len Reg.cells_len L
theorem regsL_get (L : List Reg) (i j : Nat) (hj : j < 4) : (regsL L)[i * 4 + j]? = (L[i]?).bind fun x => x.cells[j]? := flat_get Reg.cells_len L i j hj
theorem regsL_single (L : List Reg) : ∀ x ∈ regsL L, single x = true := by
  intro x hx
  obtain ⟨r, -, h2⟩ := List.mem_flatMap.1 hx
  exact r.cells_single x h2
theorem regsL_append (L M : List Reg) : regsL (L ++ M) = regsL L ++ regsL M := by simp [regsL]

/-- The document's pool. -/
def refS (qb : Nat) (L : List Reg) : SP := exS fun x : Value × TypeId => starL [cellAt qb (.cells [x.1].toArray x.2 (0, 0)), sliceS 4 L.length x.1 (regsL L)]
theorem refS_iff {h : Heap} {F : List SP} {qb : Nat} {L : List Reg} : Sat h (refS qb L :: F) ↔ ∃ v ty, Sat h (cellAt qb (.cells [v].toArray ty (0, 0)) :: sliceS 4 L.length v (regsL L) :: F) := by
  unfold refS
  rw [Sat.ex]
  exact ⟨fun ⟨x, hx⟩ => ⟨x.1, x.2, Sat.star.1 hx⟩, fun ⟨v, ty, hx⟩ => ⟨(v, ty), Sat.star.2 hx⟩⟩

theorem regs_elems {h : Heap} {F : List SP} {v : Value} {L : List Reg} (hs : Sat h (sliceS 4 L.length v (regsL L) :: F)) : ∃ sl cap, v = .slice sl L.length cap ∧ L.length ≤ cap ∧ ∀ (i : Nat) (r : Reg), L[i]? = some r → ∃ lb, sl = some ⟨lb, 0, none⟩ ∧ (∀ j, j < 4 → hcellO h[lb]? (i * 4 + j) = r.cells[j]?) ∧ hcellO h[lb]? (i * 4) = some (.int .i64 r.F) ∧ hreadO h[lb]? (i * 4) 4 = some r.cells.toArray := by
  obtain ⟨sl, cap, rfl, h1, h2, h3⟩ := hs.elems
  refine ⟨sl, cap, rfl, h1, fun i r hi => ?_⟩
  have hlt := (List.getElem?_eq_some_iff.1 hi).1
  rcases h3 with h3 | ⟨lb, rfl, h3, h4⟩
  · omega
  · have h5 : ∀ j, j < 4 → hcellO h[lb]? (i * 4 + j) = r.cells[j]? := fun j hj => by rw [h3 _ (by omega), regsL_get L i j hj, hi]; rfl
    refine ⟨lb, rfl, h5, h5 0 (by omega), ?_⟩
    rw [h4 _ _ (by omega)]
    congr 2
    apply List.ext_getElem?
    intro j
    rw [List.getElem?_take, List.getElem?_drop]
    by_cases hj : j < 4
    · rw [if_pos hj, regsL_get L i j hj, hi]; rfl
    · rw [if_neg hj, List.getElem?_eq_none (by rw [Reg.cells_len]; omega)]

/-- A region's place; below 0: there is none. -/
def atM (L : List Reg) (first : Int) : Int := match L.findIdx? (fun r => r.F == first) with | some k => k | none => -1

section
variable {h : Heap} {F : List SP} {qb : Nat} {L : List Reg}

set_option maxHeartbeats 1000000 in
theorem at_S (hs : Sat h (refS qb L :: F)) (hL : L.length ≤ 100000) (first : Int) : HCalls Try.prog 43 #[.pointer (some ⟨qb, 0, none⟩), .int .i64 first] h fun v h' => v = .int .i64 (atM L first) ∧ h' = h := by
  refine HCalls.via fun R hR => ?_
  obtain ⟨v, ty, s⟩ := refS_iff.1 hs
  obtain ⟨sl, cap, rfl, hcap, hel⟩ := regs_elems s.tail
  have hq := s.get
  refine HCalls.of_dev T43 Try.func43 rfl mixed (by kernel_rfl) ?_; rw [Try.results43]
  simp (maxSteps := 2000000) only [↓condK_decide, go_sem, Nat.reduceBEq, Nat.reduceAdd, Nat.reduceMul, Nat.reduceSub, Nat.reduceEqDiff, Nat.reduceLeDiff, Nat.reduceLT, Int.reduceEq, Int.reduceAdd, Int.reduceSub, Int.reduceMul, Int.reduceNeg, Int.reduceLT, Int.reduceLE, Int.reduceToNat, Int.reduceBEq, Int.reduceNe]
  refine loopH.intro (fun i : Nat => (.cons 0 (.pointer (some ⟨qb, 0, none⟩)) true (.cons 1 (.int .i64 first) true (.cons 5 (.int .i64 i) true .nil)))) (fun i h' => h' = h ∧ i ≤ L.length ∧ ∀ j, j < i → (L[j]?).map (·.F) ≠ some first) (fun i _ => L.length + 1 - i) 0 ?_ ⟨rfl, by omega, fun j hj => by omega⟩ ?_
  · simp (maxSteps := 2000000) only [↓condK_decide, go_sem, Nat.reduceBEq, Nat.reduceAdd, Nat.reduceMul, Nat.reduceSub, Nat.reduceEqDiff, Nat.reduceLeDiff, Nat.reduceLT, Int.reduceEq, Int.reduceAdd, Int.reduceSub, Int.reduceMul, Int.reduceNeg, Int.reduceLT, Int.reduceLE, Int.reduceToNat, Int.reduceBEq, Int.reduceNe]; rfl
  rintro i h' ⟨rfl, hi, hno⟩
  simp (maxSteps := 2000000) only [↓condK_decide, go_sem, Nat.reduceBEq, Nat.reduceAdd, Nat.reduceMul, Nat.reduceSub, Nat.reduceEqDiff, Nat.reduceLeDiff, Nat.reduceLT, Int.reduceEq, Int.reduceAdd, Int.reduceSub, Int.reduceMul, Int.reduceNeg, Int.reduceLT, Int.reduceLE, Int.reduceToNat, Int.reduceBEq, Int.reduceNe, hq]
  refine ⟨fun hc => ?_, fun hc => ?_⟩
  · have hlt : i < L.length := by omega
    obtain ⟨lb, rfl, -, e0, -⟩ := hel i L[i] (List.getElem?_eq_getElem hlt)
    simp (maxSteps := 2000000) (disch := first | (simp only [go_sem, Nat.reduceBEq, Nat.reduceAdd, Nat.reduceMul, Nat.reduceSub, Nat.reduceEqDiff, Nat.reduceLeDiff, Nat.reduceLT, Int.reduceEq, Int.reduceAdd, Int.reduceSub, Int.reduceMul, Int.reduceNeg, Int.reduceLT, Int.reduceLE, Int.reduceToNat, Int.reduceBEq, Int.reduceNe, reduceCtorEq, hq, e0]; done) | omega | (simp only [go_sem, Nat.reduceBEq, Nat.reduceAdd, Nat.reduceMul, Nat.reduceSub, Nat.reduceEqDiff, Nat.reduceLeDiff, Nat.reduceLT, Int.reduceEq, Int.reduceAdd, Int.reduceSub, Int.reduceMul, Int.reduceNeg, Int.reduceLT, Int.reduceLE, Int.reduceToNat, Int.reduceBEq, Int.reduceNe, reduceCtorEq, hq, e0]; omega)) only [go_sem, Nat.reduceBEq, Nat.reduceAdd, Nat.reduceMul, Nat.reduceSub, Nat.reduceEqDiff, Nat.reduceLeDiff, Nat.reduceLT, Int.reduceEq, Int.reduceAdd, Int.reduceSub, Int.reduceMul, Int.reduceNeg, Int.reduceLT, Int.reduceLE, Int.reduceToNat, Int.reduceBEq, Int.reduceNe, reduceCtorEq, w64_id, w8_id, w16_id, w32_id, tmod_pos, tdiv_pos, Bool.or_true, Bool.true_or, Bool.or_false, Bool.false_or, Bool.and_false, Bool.false_and, condK_decide, hq, e0]
    refine ⟨fun e => hR _ _ ⟨?_, rfl⟩, fun e => ?_⟩
    · have : L.findIdx? (fun r => r.F == first) = some i := by
        rw [List.findIdx?_eq_some_iff_getElem]
        refine ⟨hlt, by simpa using e, fun j hj => ?_⟩
        have := hno j hj
        rw [List.getElem?_eq_getElem (by omega)] at this
        simpa using this
      unfold atM; rw [this]
    · refine ⟨i + 1, rfl, ⟨rfl, by omega, fun j hj => ?_⟩, by simp only; omega⟩
      by_cases q : j = i
      · subst q; rw [List.getElem?_eq_getElem hlt]; simpa using e
      · exact hno j (by omega)
  · refine hR _ _ ⟨?_, rfl⟩
    have : L.findIdx? (fun r => r.F == first) = none := by
      rw [List.findIdx?_eq_none_iff]
      intro r hr
      obtain ⟨j, hj, rfl⟩ := List.getElem_of_mem hr
      have := hno j (by omega)
      rw [List.getElem?_eq_getElem hj] at this
      simpa using this
    unfold atM; rw [this]

theorem may_S (x : Reg) (hx : -9223372036854775808 ≤ x.N ∧ x.N ≤ 9223372036854775807) : HCalls Try.prog 42 #[.agg x.cells.toArray] h fun v h' => v = .bool (decide (mayAdd x)) ∧ Ext h h' := by
  refine HCalls.via fun R hR => ?_
  refine HCalls.of_dev T42 Try.func42 rfl mixed (by kernel_rfl) ?_; rw [Try.results42]
  simp (maxSteps := 2000000) (disch := first | (simp only [go_sem, Nat.reduceBEq, Nat.reduceAdd, Nat.reduceMul, Nat.reduceSub, Nat.reduceEqDiff, Nat.reduceLeDiff, Nat.reduceLT, Int.reduceEq, Int.reduceAdd, Int.reduceSub, Int.reduceMul, Int.reduceNeg, Int.reduceLT, Int.reduceLE, Int.reduceToNat, Int.reduceBEq, Int.reduceNe, reduceCtorEq]; done) | omega | (simp only [go_sem, Nat.reduceBEq, Nat.reduceAdd, Nat.reduceMul, Nat.reduceSub, Nat.reduceEqDiff, Nat.reduceLeDiff, Nat.reduceLT, Int.reduceEq, Int.reduceAdd, Int.reduceSub, Int.reduceMul, Int.reduceNeg, Int.reduceLT, Int.reduceLE, Int.reduceToNat, Int.reduceBEq, Int.reduceNe, reduceCtorEq]; omega)) only [go_sem, Nat.reduceBEq, Nat.reduceAdd, Nat.reduceMul, Nat.reduceSub, Nat.reduceEqDiff, Nat.reduceLeDiff, Nat.reduceLT, Int.reduceEq, Int.reduceAdd, Int.reduceSub, Int.reduceMul, Int.reduceNeg, Int.reduceLT, Int.reduceLE, Int.reduceToNat, Int.reduceBEq, Int.reduceNe, reduceCtorEq, w64_id, w8_id, w16_id, w32_id, tmod_pos, tdiv_pos, Bool.or_true, Bool.true_or, Bool.or_false, Bool.false_or, Bool.and_false, Bool.false_and, condK_decide]
  refine hR _ _ ⟨?_, Ext.push _ _⟩
  congr 1
  unfold mayAdd
  by_cases c : 0 ≤ x.F ∧ x.F ≤ 1023 ∧ 1 ≤ x.N ∧ x.N ≤ 1024
  · rw [w64_id (by omega) (by omega)]
    simp only [← Bool.decide_and]
    congr 1
    apply propext
    constructor <;> intro q <;> omega
  · simp only [← Bool.decide_and]
    congr 1
    apply propext
    constructor <;> intro q <;> omega

/-- A region, by its place. -/
def getL (L : List Reg) (first : Int) : Reg × Int := match L.find? (fun r => r.F == first) with | some r => (r, 0) | none => (⟨0, 0, 0, false⟩, 131)
theorem atM_cases (L : List Reg) (first : Int) : (atM L first = -1 ∧ L.find? (fun r => r.F == first) = none) ∨ ∃ k r, atM L first = ((k : Nat) : Int) ∧ L[k]? = some r ∧ r.F = first ∧ L.find? (fun r => r.F == first) = some r ∧ k < L.length := by
  unfold atM
  cases hf : L.findIdx? (fun r => r.F == first) with
  | none =>
    left
    refine ⟨rfl, ?_⟩
    rw [List.findIdx?_eq_none_iff] at hf
    rw [List.find?_eq_none]
    intro r hr
    simpa using hf r hr
  | some k =>
    right
    obtain ⟨hk, h1, h2⟩ := List.findIdx?_eq_some_iff_getElem.1 hf
    refine ⟨k, L[k], rfl, List.getElem?_eq_getElem hk, by simpa using h1, ?_, hk⟩
    rw [List.find?_eq_some_iff_getElem]
    exact ⟨by simpa using h1, k, hk, rfl, fun j hj => by simpa using h2 j hj⟩

theorem getRef_S (hs : Sat h (refS qb L :: F)) (hL : L.length ≤ 100000) (first : Int) : HCalls Try.prog 33 #[.pointer (some ⟨qb, 0, none⟩), .int .i64 first] h fun v h' => v = regI (getL L first) ∧ Sat h' (refS qb L :: F) := by
  refine HCalls.via fun R hR => ?_
  have hs1 := fun o => (hs.push o).front 1
  refine HCalls.of_dev T33 Try.func33 rfl mixed (by kernel_rfl) ?_; rw [Try.results33]
  simp (maxSteps := 2000000) only [↓condK_decide, go_sem, Nat.reduceBEq, Nat.reduceAdd, Nat.reduceMul, Nat.reduceSub, Nat.reduceEqDiff, Nat.reduceLeDiff, Nat.reduceLT, Int.reduceEq, Int.reduceAdd, Int.reduceSub, Int.reduceMul, Int.reduceNeg, Int.reduceLT, Int.reduceLE, Int.reduceToNat, Int.reduceBEq, Int.reduceNe]
  refine (at_S (hs1 _) hL first).mono ?_
  rintro v h' ⟨rfl, rfl⟩
  have s := hs1 (.cells [.int .i64 0, .int .i64 0, .int .i64 0, .bool false].toArray 28 (0, 0))
  obtain ⟨v, ty, s⟩ := refS_iff.1 s
  obtain ⟨sl, cap, rfl, hcap, hel⟩ := regs_elems s.tail
  have hq := s.get
  rcases atM_cases L first with ⟨e, e2⟩ | ⟨k, r, e, e1, e2, e3, e4⟩
  · have e5 : getL L first = (⟨0, 0, 0, false⟩, 131) := by unfold getL; rw [e2]
    rw [e5] at hR
    simp (maxSteps := 2000000) (disch := first | (simp only [go_sem, Nat.reduceBEq, Nat.reduceAdd, Nat.reduceMul, Nat.reduceSub, Nat.reduceEqDiff, Nat.reduceLeDiff, Nat.reduceLT, Int.reduceEq, Int.reduceAdd, Int.reduceSub, Int.reduceMul, Int.reduceNeg, Int.reduceLT, Int.reduceLE, Int.reduceToNat, Int.reduceBEq, Int.reduceNe, reduceCtorEq, (s.front 2).get, e]; done) | omega | (simp only [go_sem, Nat.reduceBEq, Nat.reduceAdd, Nat.reduceMul, Nat.reduceSub, Nat.reduceEqDiff, Nat.reduceLeDiff, Nat.reduceLT, Int.reduceEq, Int.reduceAdd, Int.reduceSub, Int.reduceMul, Int.reduceNeg, Int.reduceLT, Int.reduceLE, Int.reduceToNat, Int.reduceBEq, Int.reduceNe, reduceCtorEq, (s.front 2).get, e]; omega)) only [go_sem, Nat.reduceBEq, Nat.reduceAdd, Nat.reduceMul, Nat.reduceSub, Nat.reduceEqDiff, Nat.reduceLeDiff, Nat.reduceLT, Int.reduceEq, Int.reduceAdd, Int.reduceSub, Int.reduceMul, Int.reduceNeg, Int.reduceLT, Int.reduceLE, Int.reduceToNat, Int.reduceBEq, Int.reduceNe, reduceCtorEq, w64_id, w8_id, w16_id, w32_id, tmod_pos, tdiv_pos, Bool.or_true, Bool.true_or, Bool.or_false, Bool.false_or, Bool.and_false, Bool.false_and, condK_decide, (s.front 2).get, e]
    exact hR _ _ ⟨rfl, (hs1 _).drop1⟩
  · have e5 : getL L first = (r, 0) := by unfold getL; rw [e3]
    rw [e5] at hR
    obtain ⟨lb, rfl, -, -, hcell⟩ := hel k r e1
    simp (maxSteps := 2000000) (disch := first | (simp only [go_sem, Nat.reduceBEq, Nat.reduceAdd, Nat.reduceMul, Nat.reduceSub, Nat.reduceEqDiff, Nat.reduceLeDiff, Nat.reduceLT, Int.reduceEq, Int.reduceAdd, Int.reduceSub, Int.reduceMul, Int.reduceNeg, Int.reduceLT, Int.reduceLE, Int.reduceToNat, Int.reduceBEq, Int.reduceNe, reduceCtorEq, hq, e, hcell, (s.front 2).get]; done) | omega | (simp only [go_sem, Nat.reduceBEq, Nat.reduceAdd, Nat.reduceMul, Nat.reduceSub, Nat.reduceEqDiff, Nat.reduceLeDiff, Nat.reduceLT, Int.reduceEq, Int.reduceAdd, Int.reduceSub, Int.reduceMul, Int.reduceNeg, Int.reduceLT, Int.reduceLE, Int.reduceToNat, Int.reduceBEq, Int.reduceNe, reduceCtorEq, hq, e, hcell, (s.front 2).get]; omega)) only [go_sem, Nat.reduceBEq, Nat.reduceAdd, Nat.reduceMul, Nat.reduceSub, Nat.reduceEqDiff, Nat.reduceLeDiff, Nat.reduceLT, Int.reduceEq, Int.reduceAdd, Int.reduceSub, Int.reduceMul, Int.reduceNeg, Int.reduceLT, Int.reduceLE, Int.reduceToNat, Int.reduceBEq, Int.reduceNe, reduceCtorEq, w64_id, w8_id, w16_id, w32_id, tmod_pos, tdiv_pos, Bool.or_true, Bool.true_or, Bool.or_false, Bool.false_or, Bool.and_false, Bool.false_and, condK_decide, hq, e, hcell, (s.front 2).get]
    exact ⟨fun q => absurd q (by omega), fun _ => hR _ _ ⟨rfl, (hs1 _).drop1⟩⟩
end
end Go.Eng
