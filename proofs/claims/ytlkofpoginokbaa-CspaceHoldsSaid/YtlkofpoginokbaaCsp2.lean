/-
  package cspace: Radix, empty, place, Get, Put, take.
-/
import Derived.Test.YtlkofpoginokbaaCsp1
import Derived.Test.YtlkofpoginokbaaCaps2
namespace Go.Eng
set_option linter.unusedSimpArgs false
set_option linter.unusedVariables false
set_option maxRecDepth 16000
set_option maxHeartbeats 4000000
open Go Go.Proofs

def setS (L : List Nd) (id : Int) (S : List Cap) : List Nd := match L with
  | [] => []
  | n :: L => if n.I = id then { n with S := S } :: L else n :: setS L id S
def setZ (Z : List (Nd × Nat)) (id : Int) (S : List Cap) : List (Nd × Nat) := match Z with
  | [] => []
  | z :: Z => if z.1.I = id then ({ z.1 with S := S }, z.2) :: Z else z :: setZ Z id S
theorem setZ_fst (id : Int) (S : List Cap) : ∀ Z : List (Nd × Nat), (setZ Z id S).map (·.1) = setS (Z.map (·.1)) id S
  | [] => rfl
  | z :: Z => by
    simp only [setZ, setS, List.map_cons]
    split
    · rfl
    · rw [List.map_cons, setZ_fst id S Z]
theorem findZ_cons {z : Nd × Nat} {Z : List (Nd × Nat)} {k : Int} : findZ (z :: Z) k = if z.1.I = k then some z else findZ Z k := by
  unfold findZ
  rw [List.find?_cons]
  by_cases q : z.1.I = k
  · simp [q]
  · rw [if_neg q, show (z.1.I == k) = false by simpa using q]
theorem setZ_val {id : Int} {S : List Cap} {z : Nd × Nat} : ∀ {Z : List (Nd × Nat)}, findZ Z id = some z → S.length = z.1.S.length → ∀ k, (findZ (setZ Z id S) k).map nodeV = (findZ Z k).map nodeV
  | [], hz, _, k => by cases hz
  | w :: Z, hz, hS, k => by
    rw [findZ_cons] at hz
    unfold setZ
    by_cases q : w.1.I = id
    · rw [if_pos q] at hz ⊢
      cases hz
      rw [findZ_cons, findZ_cons]
      simp only
      split
      · simp only [nodeV, Option.map_some, hS]
      · rfl
    · rw [if_neg q] at hz ⊢
      rw [findZ_cons, findZ_cons, apply_ite (Option.map nodeV), apply_ite (Option.map nodeV), setZ_val hz hS k]
theorem setZ_split {id : Int} {z : Nd × Nat} : ∀ {Z : List (Nd × Nat)}, findZ Z id = some z → ∃ A B, Z = A ++ z :: B ∧ z.1.I = id ∧ ∀ S, setZ Z id S = A ++ ({ z.1 with S := S }, z.2) :: B
  | [], hz => by cases hz
  | w :: Z, hz => by
    rw [findZ_cons] at hz
    by_cases q : w.1.I = id
    · rw [if_pos q] at hz
      cases hz
      exact ⟨[], Z, rfl, q, fun S => by simp only [setZ, if_pos q, List.nil_append]⟩
    · rw [if_neg q] at hz
      obtain ⟨A, B, rfl, e2, e3⟩ := setZ_split hz
      exact ⟨w :: A, B, rfl, e2, fun S => by simp only [setZ, if_neg q, e3 S, List.cons_append]⟩
theorem caps_cut {S : List Cap} {i : Nat} {c : Cap} (hi : S[i]? = some c) : cutN (capsL S) (i * 8) 8 = some c.cells := by
  have hlt := (List.getElem?_eq_some_iff.1 hi).1
  have hl := capsL_len S
  rw [cutN_eq, if_pos (by omega)]
  congr 1
  apply List.ext_getElem?
  intro j
  rw [List.getElem?_take, List.getElem?_drop]
  by_cases hj : j < 8
  · rw [if_pos (by omega), capsL_get S i j hj, hi]; rfl
  · rw [if_neg (by omega), List.getElem?_eq_none (by rw [Cap.cells_len]; omega)]
theorem caps_read {S : List Cap} {i : Nat} {c : Cap} {ty : TypeId} {fr : Nat × Nat} (hi : S[i]? = some c) : hreadO (some (.cells (capsL S).toArray ty fr)) (i * 8) 8 = some c.cells.toArray := by
  have hlt := (List.getElem?_eq_some_iff.1 hi).1
  have hl := capsL_len S
  have e : hreadO (some (.cells (capsL S).toArray ty fr)) (i * 8) 8 = some ((capsL S).toArray.extract (i * 8) (i * 8 + 8)) := by
    unfold hreadO
    simp only
    rw [if_pos (by rw [List.size_toArray]; omega)]
  rw [e]
  congr 1
  apply Array.ext'
  rw [List.extract_toArray]
  simp only [List.extract_eq_take_drop]
  apply List.ext_getElem?
  intro j
  rw [List.getElem?_take, List.getElem?_drop]
  by_cases hj : j < 8
  · rw [if_pos (by omega), capsL_get S i j hj, hi]; rfl
  · rw [if_neg (by omega), List.getElem?_eq_none (by rw [Cap.cells_len]; omega)]

section
variable {h : Heap} {F : List SP} {sb : Nat} {L : List Nd}
theorem space_look (hs : Sat h (spaceS sb L :: F)) : ∃ mb ty es clk, h[sb]? = some (.cells [.map (some mb)].toArray ty (0, 0)) ∧ h[mb]? = some (.map es clk) ∧ isIntMap (some (.map es clk)) = True ∧
    (∀ id, findN L id = none → mapOf es id = none) ∧
    ∀ id n, findN L id = some n → n ∈ L ∧ n.I = id ∧ ∃ lb, mapOf es id = some (.slice (some ⟨lb, 0, none⟩) n.S.length n.S.length) ∧ h[lb]? = some (.cells (capsL n.S).toArray 24 (0, 0)) ∧
      ∀ k S, Ext h k → S.length = n.S.length → Sat (k.setIfInBounds lb (.cells (capsL S).toArray 24 (0, 0))) (spaceS sb (setS L id S) :: F) := by
  obtain ⟨mb, ty, es, clk, Z, p, s⟩ := spaceS_iff.1 hs
  have hm := (s.front 1).get
  refine ⟨mb, ty, es, clk, s.get, hm, (p.mp.is hm).isInt, fun id hn => ?_, fun id n hn => ?_⟩
  · rw [p.val id]
    have := findZ_fst Z id
    rw [p.fst, hn] at this
    cases hz : findZ Z id with
    | none => rfl
    | some z => rw [hz] at this; cases this
  · have := findZ_fst Z id
    rw [p.fst, hn] at this
    cases hz : findZ Z id with
    | none => rw [hz] at this; cases this
    | some z =>
      rw [hz] at this
      obtain rfl : z.1 = n := by simpa using this
      obtain ⟨A, B, rfl, e2, e3⟩ := setZ_split hz
      refine ⟨by rw [← p.fst]; simp, e2, z.2, by rw [p.val id, hz]; rfl, ?_, fun k S hk hS => ?_⟩
      · have s2 : Sat h (cellAt z.2 (.cells (capsL z.1.S).toArray 24 (0, 0)) :: (cellAt sb _ :: cellAt mb _ :: ((A ++ B).map nodeC ++ F))) := s.perm (by
          simp only [List.map_append, List.map_cons, List.append_assoc, List.cons_append]
          exact (List.Perm.cons _ (List.Perm.cons _ List.perm_middle)).trans ((List.Perm.cons _ (List.Perm.swap _ _ _)).trans (List.Perm.swap _ _ _)))
        exact s2.get
      · have s2 : Sat h (cellAt z.2 (.cells (capsL z.1.S).toArray 24 (0, 0)) :: (cellAt sb _ :: cellAt mb _ :: ((A ++ B).map nodeC ++ F))) := s.perm (by
          simp only [List.map_append, List.map_cons, List.append_assoc, List.cons_append]
          exact (List.Perm.cons _ (List.Perm.cons _ List.perm_middle)).trans ((List.Perm.cons _ (List.Perm.swap _ _ _)).trans (List.Perm.swap _ _ _)))
        have s3 := (s2.grow hk).set (.cells (capsL S).toArray 24 (0, 0))
        refine spaceS_iff.2 ⟨mb, ty, es, clk, setZ (A ++ z :: B) id S, ⟨p.mp, by rw [setZ_fst, p.fst], fun k => by rw [p.val k, setZ_val hz hS k]⟩, ?_⟩
        rw [e3 S]
        refine s3.perm ?_
        simp only [List.map_append, List.map_cons, List.append_assoc, List.cons_append]
        exact ((List.Perm.cons _ (List.Perm.cons _ List.perm_middle)).trans ((List.Perm.cons _ (List.Perm.swap _ _ _)).trans (List.Perm.swap _ _ _))).symm

def halves (X r : Nat) : Int := 2 ^ (X - r)
theorem halves_one {X r : Nat} (hX : X ≤ 4) (hr : r ≤ X) : (1 < halves X r ↔ r < X) ∧ (r < X → halves X r / 2 = halves X (r + 1)) ∧ 0 ≤ halves X r ∧ halves X r ≤ 16 := by
  have : ∀ X : Nat, X ≤ 4 → ∀ r : Nat, r ≤ X → (1 < halves X r ↔ r < X) ∧ (r < X → halves X r / 2 = halves X (r + 1)) ∧ 0 ≤ halves X r ∧ halves X r ≤ 16 := by unfold halves; decide
  exact this X hX r hr

theorem radix_S (hs : Sat h (spaceS sb L :: F)) (hw : wfL L) (id : Int) : HCalls Try.prog 19 #[.pointer (some ⟨sb, 0, none⟩), .int .i64 id] h fun v h' => v = .int .i64 (radixN L id) ∧ h' = h := by
  refine HCalls.via fun R hR => ?_
  obtain ⟨mb, ty, es, clk, h1, h2, h3, h4, h5⟩ := space_look hs
  refine HCalls.of_dev T19 Try.func19 rfl mixed (by kernel_rfl) ?_; rw [Try.results19]
  cases hn : findN L id with
  | none =>
    have e := h4 id hn
    have er : radixN L id = 0 := by unfold radixN; rw [hn]
    rw [er] at hR
    simp (maxSteps := 2000000) (disch := first | (simp only [go_sem, Nat.reduceBEq, Nat.reduceAdd, Nat.reduceMul, Nat.reduceSub, Nat.reduceEqDiff, Nat.reduceLeDiff, Nat.reduceLT, Int.reduceEq, Int.reduceAdd, Int.reduceSub, Int.reduceMul, Int.reduceNeg, Int.reduceLT, Int.reduceLE, Int.reduceToNat, Int.reduceBEq, Int.reduceNe, reduceCtorEq, h1, h2, h3, e]; done) | omega | (simp only [go_sem, Nat.reduceBEq, Nat.reduceAdd, Nat.reduceMul, Nat.reduceSub, Nat.reduceEqDiff, Nat.reduceLeDiff, Nat.reduceLT, Int.reduceEq, Int.reduceAdd, Int.reduceSub, Int.reduceMul, Int.reduceNeg, Int.reduceLT, Int.reduceLE, Int.reduceToNat, Int.reduceBEq, Int.reduceNe, reduceCtorEq, h1, h2, h3, e]; omega)) only [go_sem, Nat.reduceBEq, Nat.reduceAdd, Nat.reduceMul, Nat.reduceSub, Nat.reduceEqDiff, Nat.reduceLeDiff, Nat.reduceLT, Int.reduceEq, Int.reduceAdd, Int.reduceSub, Int.reduceMul, Int.reduceNeg, Int.reduceLT, Int.reduceLE, Int.reduceToNat, Int.reduceBEq, Int.reduceNe, reduceCtorEq, w64_id, w8_id, w16_id, w32_id, tmod_pos, tdiv_pos, Bool.or_true, Bool.true_or, Bool.or_false, Bool.false_or, Bool.and_false, Bool.false_and, condK_decide, h1, h2, h3, e]
    refine loopH.intro (fun _ : Nat => (.cons 5 (.int .i64 0) true (.cons 6 (.int .i64 0) true .nil))) (fun _ h' => h' = h) (fun _ _ => 0) 0 ?_ rfl ?_
    · simp (maxSteps := 2000000) (disch := first | (simp only [go_sem, Nat.reduceBEq, Nat.reduceAdd, Nat.reduceMul, Nat.reduceSub, Nat.reduceEqDiff, Nat.reduceLeDiff, Nat.reduceLT, Int.reduceEq, Int.reduceAdd, Int.reduceSub, Int.reduceMul, Int.reduceNeg, Int.reduceLT, Int.reduceLE, Int.reduceToNat, Int.reduceBEq, Int.reduceNe, reduceCtorEq]; done) | omega | (simp only [go_sem, Nat.reduceBEq, Nat.reduceAdd, Nat.reduceMul, Nat.reduceSub, Nat.reduceEqDiff, Nat.reduceLeDiff, Nat.reduceLT, Int.reduceEq, Int.reduceAdd, Int.reduceSub, Int.reduceMul, Int.reduceNeg, Int.reduceLT, Int.reduceLE, Int.reduceToNat, Int.reduceBEq, Int.reduceNe, reduceCtorEq]; omega)) only [go_sem, Nat.reduceBEq, Nat.reduceAdd, Nat.reduceMul, Nat.reduceSub, Nat.reduceEqDiff, Nat.reduceLeDiff, Nat.reduceLT, Int.reduceEq, Int.reduceAdd, Int.reduceSub, Int.reduceMul, Int.reduceNeg, Int.reduceLT, Int.reduceLE, Int.reduceToNat, Int.reduceBEq, Int.reduceNe, reduceCtorEq, w64_id, w8_id, w16_id, w32_id, tmod_pos, tdiv_pos, Bool.or_true, Bool.true_or, Bool.or_false, Bool.false_or, Bool.and_false, Bool.false_and, condK_decide]; rfl
    rintro i h' rfl
    simp (maxSteps := 2000000) (disch := first | (simp only [go_sem, Nat.reduceBEq, Nat.reduceAdd, Nat.reduceMul, Nat.reduceSub, Nat.reduceEqDiff, Nat.reduceLeDiff, Nat.reduceLT, Int.reduceEq, Int.reduceAdd, Int.reduceSub, Int.reduceMul, Int.reduceNeg, Int.reduceLT, Int.reduceLE, Int.reduceToNat, Int.reduceBEq, Int.reduceNe, reduceCtorEq]; done) | omega | (simp only [go_sem, Nat.reduceBEq, Nat.reduceAdd, Nat.reduceMul, Nat.reduceSub, Nat.reduceEqDiff, Nat.reduceLeDiff, Nat.reduceLT, Int.reduceEq, Int.reduceAdd, Int.reduceSub, Int.reduceMul, Int.reduceNeg, Int.reduceLT, Int.reduceLE, Int.reduceToNat, Int.reduceBEq, Int.reduceNe, reduceCtorEq]; omega)) only [go_sem, Nat.reduceBEq, Nat.reduceAdd, Nat.reduceMul, Nat.reduceSub, Nat.reduceEqDiff, Nat.reduceLeDiff, Nat.reduceLT, Int.reduceEq, Int.reduceAdd, Int.reduceSub, Int.reduceMul, Int.reduceNeg, Int.reduceLT, Int.reduceLE, Int.reduceToNat, Int.reduceBEq, Int.reduceNe, reduceCtorEq, w64_id, w8_id, w16_id, w32_id, tmod_pos, tdiv_pos, Bool.or_true, Bool.true_or, Bool.or_false, Bool.false_or, Bool.and_false, Bool.false_and, condK_decide]
    exact hR _ _ ⟨rfl, rfl⟩
  | some n =>
    obtain ⟨hm, hi, lb, e1, e2, -⟩ := h5 id n hn
    have w := hw.1 n hm
    have er : radixN L id = n.X := by unfold radixN; rw [hn]
    have el : (n.S.length : Int) = halves n.X 0 := by rw [w.2.2.2.2.1]; simp [halves]
    rw [er] at hR
    simp (maxSteps := 2000000) (disch := first | (simp only [go_sem, Nat.reduceBEq, Nat.reduceAdd, Nat.reduceMul, Nat.reduceSub, Nat.reduceEqDiff, Nat.reduceLeDiff, Nat.reduceLT, Int.reduceEq, Int.reduceAdd, Int.reduceSub, Int.reduceMul, Int.reduceNeg, Int.reduceLT, Int.reduceLE, Int.reduceToNat, Int.reduceBEq, Int.reduceNe, reduceCtorEq, h1, h2, h3, e1]; done) | omega | (simp only [go_sem, Nat.reduceBEq, Nat.reduceAdd, Nat.reduceMul, Nat.reduceSub, Nat.reduceEqDiff, Nat.reduceLeDiff, Nat.reduceLT, Int.reduceEq, Int.reduceAdd, Int.reduceSub, Int.reduceMul, Int.reduceNeg, Int.reduceLT, Int.reduceLE, Int.reduceToNat, Int.reduceBEq, Int.reduceNe, reduceCtorEq, h1, h2, h3, e1]; omega)) only [go_sem, Nat.reduceBEq, Nat.reduceAdd, Nat.reduceMul, Nat.reduceSub, Nat.reduceEqDiff, Nat.reduceLeDiff, Nat.reduceLT, Int.reduceEq, Int.reduceAdd, Int.reduceSub, Int.reduceMul, Int.reduceNeg, Int.reduceLT, Int.reduceLE, Int.reduceToNat, Int.reduceBEq, Int.reduceNe, reduceCtorEq, w64_id, w8_id, w16_id, w32_id, tmod_pos, tdiv_pos, Bool.or_true, Bool.true_or, Bool.or_false, Bool.false_or, Bool.and_false, Bool.false_and, condK_decide, h1, h2, h3, e1]
    refine loopH.intro (fun r : Nat => (.cons 5 (.int .i64 r) true (.cons 6 (.int .i64 (halves n.X r)) true .nil))) (fun r h' => h' = h ∧ r ≤ n.X) (fun r _ => n.X - r) 0 ?_ ⟨rfl, by omega⟩ ?_
    · simp (maxSteps := 2000000) (disch := first | (simp only [go_sem, Nat.reduceBEq, Nat.reduceAdd, Nat.reduceMul, Nat.reduceSub, Nat.reduceEqDiff, Nat.reduceLeDiff, Nat.reduceLT, Int.reduceEq, Int.reduceAdd, Int.reduceSub, Int.reduceMul, Int.reduceNeg, Int.reduceLT, Int.reduceLE, Int.reduceToNat, Int.reduceBEq, Int.reduceNe, reduceCtorEq, el]; done) | omega | (simp only [go_sem, Nat.reduceBEq, Nat.reduceAdd, Nat.reduceMul, Nat.reduceSub, Nat.reduceEqDiff, Nat.reduceLeDiff, Nat.reduceLT, Int.reduceEq, Int.reduceAdd, Int.reduceSub, Int.reduceMul, Int.reduceNeg, Int.reduceLT, Int.reduceLE, Int.reduceToNat, Int.reduceBEq, Int.reduceNe, reduceCtorEq, el]; omega)) only [go_sem, Nat.reduceBEq, Nat.reduceAdd, Nat.reduceMul, Nat.reduceSub, Nat.reduceEqDiff, Nat.reduceLeDiff, Nat.reduceLT, Int.reduceEq, Int.reduceAdd, Int.reduceSub, Int.reduceMul, Int.reduceNeg, Int.reduceLT, Int.reduceLE, Int.reduceToNat, Int.reduceBEq, Int.reduceNe, reduceCtorEq, w64_id, w8_id, w16_id, w32_id, tmod_pos, tdiv_pos, Bool.or_true, Bool.true_or, Bool.or_false, Bool.false_or, Bool.and_false, Bool.false_and, condK_decide, el]; rfl
    rintro r h' ⟨rfl, hr⟩
    have hh := halves_one w.2.2.2.1 hr
    simp (maxSteps := 2000000) (disch := first | (simp only [go_sem, Nat.reduceBEq, Nat.reduceAdd, Nat.reduceMul, Nat.reduceSub, Nat.reduceEqDiff, Nat.reduceLeDiff, Nat.reduceLT, Int.reduceEq, Int.reduceAdd, Int.reduceSub, Int.reduceMul, Int.reduceNeg, Int.reduceLT, Int.reduceLE, Int.reduceToNat, Int.reduceBEq, Int.reduceNe, reduceCtorEq, hh.1]; done) | omega | (simp only [go_sem, Nat.reduceBEq, Nat.reduceAdd, Nat.reduceMul, Nat.reduceSub, Nat.reduceEqDiff, Nat.reduceLeDiff, Nat.reduceLT, Int.reduceEq, Int.reduceAdd, Int.reduceSub, Int.reduceMul, Int.reduceNeg, Int.reduceLT, Int.reduceLE, Int.reduceToNat, Int.reduceBEq, Int.reduceNe, reduceCtorEq, hh.1]; omega)) only [go_sem, Nat.reduceBEq, Nat.reduceAdd, Nat.reduceMul, Nat.reduceSub, Nat.reduceEqDiff, Nat.reduceLeDiff, Nat.reduceLT, Int.reduceEq, Int.reduceAdd, Int.reduceSub, Int.reduceMul, Int.reduceNeg, Int.reduceLT, Int.reduceLE, Int.reduceToNat, Int.reduceBEq, Int.reduceNe, reduceCtorEq, w64_id, w8_id, w16_id, w32_id, tmod_pos, tdiv_pos, Bool.or_true, Bool.true_or, Bool.or_false, Bool.false_or, Bool.and_false, Bool.false_and, condK_decide, hh.1]
    refine ⟨fun q => ?_, fun q => hR _ _ ⟨by congr 1; omega, rfl⟩⟩
    have h2 := (halves_one w.2.2.2.1 (show r + 1 ≤ n.X by omega)).2.2
    have hX4 := w.2.2.2.1
    rw [hh.2.1 q, w64_id (a := (r : Int) + 1) (by omega) (by omega)]
    exact ⟨r + 1, rfl, ⟨rfl, by omega⟩, by simp only; omega⟩

theorem empty_S (c : Cap) : HCalls Try.prog 39 #[.agg c.cells.toArray] h fun v h' => v = .bool (decide (c = Cap.zero)) ∧ Ext h h' := by
  refine HCalls.via fun R hR => ?_
  refine HCalls.of_dev T39 Try.func39 rfl mixed (by kernel_rfl) ?_; rw [Try.results39]
  simp (maxSteps := 2000000) (disch := first | (simp only [go_sem, Nat.reduceBEq, Nat.reduceAdd, Nat.reduceMul, Nat.reduceSub, Nat.reduceEqDiff, Nat.reduceLeDiff, Nat.reduceLT, Int.reduceEq, Int.reduceAdd, Int.reduceSub, Int.reduceMul, Int.reduceNeg, Int.reduceLT, Int.reduceLE, Int.reduceToNat, Int.reduceBEq, Int.reduceNe, reduceCtorEq]; done) | omega | (simp only [go_sem, Nat.reduceBEq, Nat.reduceAdd, Nat.reduceMul, Nat.reduceSub, Nat.reduceEqDiff, Nat.reduceLeDiff, Nat.reduceLT, Int.reduceEq, Int.reduceAdd, Int.reduceSub, Int.reduceMul, Int.reduceNeg, Int.reduceLT, Int.reduceLE, Int.reduceToNat, Int.reduceBEq, Int.reduceNe, reduceCtorEq]; omega)) only [go_sem, Nat.reduceBEq, Nat.reduceAdd, Nat.reduceMul, Nat.reduceSub, Nat.reduceEqDiff, Nat.reduceLeDiff, Nat.reduceLT, Int.reduceEq, Int.reduceAdd, Int.reduceSub, Int.reduceMul, Int.reduceNeg, Int.reduceLT, Int.reduceLE, Int.reduceToNat, Int.reduceBEq, Int.reduceNe, reduceCtorEq, w64_id, w8_id, w16_id, w32_id, tmod_pos, tdiv_pos, Bool.or_true, Bool.true_or, Bool.or_false, Bool.false_or, Bool.and_false, Bool.false_and, condK_decide]
  refine hR _ _ ⟨?_, Ext.push _ _⟩
  congr 1
  obtain ⟨K, O, P, B, X, G, W, D⟩ := c
  rw [Bool.eq_iff_iff]
  simp only [Bool.and_eq_true, decide_eq_true_eq, beq_iff_eq, Cap.zero, Cap.mk.injEq]

/-- The argument's own cell. -/
def refO (node index : Int) : Obj := .cells [.int .i64 node, .int .i64 index].toArray 27 (0, 0)
theorem place_none {mb : Nat} {ty : TypeId} {es : Array MapEntry} {clk : Nat} (h1 : h[sb]? = some (.cells [.map (some mb)].toArray ty (0, 0))) (h2 : h[mb]? = some (.map es clk)) (h3 : isIntMap (some (.map es clk)) = True) (node index : Int) (hv : mapOf es node = none) :
    HCalls Try.prog 36 #[.pointer (some ⟨sb, 0, none⟩), .agg #[.int .i64 node, .int .i64 index]] h fun v h' => v = .tuple #[.pointer none, .int .i64 120] ∧ h' = h.push (refO node index) := by
  refine HCalls.via fun R hR => ?_
  have g1 := (Ext.push h (refO node index)).some h1
  have g2 := (Ext.push h (refO node index)).some h2
  unfold refO at g1 g2 hR
  refine HCalls.of_dev T36 Try.func36 rfl mixed (by kernel_rfl) ?_; rw [Try.results36]
  simp (maxSteps := 2000000) (disch := first | (simp only [go_sem, Nat.reduceBEq, Nat.reduceAdd, Nat.reduceMul, Nat.reduceSub, Nat.reduceEqDiff, Nat.reduceLeDiff, Nat.reduceLT, Int.reduceEq, Int.reduceAdd, Int.reduceSub, Int.reduceMul, Int.reduceNeg, Int.reduceLT, Int.reduceLE, Int.reduceToNat, Int.reduceBEq, Int.reduceNe, reduceCtorEq, g1, g2, h3, hv]; done) | omega | (simp only [go_sem, Nat.reduceBEq, Nat.reduceAdd, Nat.reduceMul, Nat.reduceSub, Nat.reduceEqDiff, Nat.reduceLeDiff, Nat.reduceLT, Int.reduceEq, Int.reduceAdd, Int.reduceSub, Int.reduceMul, Int.reduceNeg, Int.reduceLT, Int.reduceLE, Int.reduceToNat, Int.reduceBEq, Int.reduceNe, reduceCtorEq, g1, g2, h3, hv]; omega)) only [go_sem, Nat.reduceBEq, Nat.reduceAdd, Nat.reduceMul, Nat.reduceSub, Nat.reduceEqDiff, Nat.reduceLeDiff, Nat.reduceLT, Int.reduceEq, Int.reduceAdd, Int.reduceSub, Int.reduceMul, Int.reduceNeg, Int.reduceLT, Int.reduceLE, Int.reduceToNat, Int.reduceBEq, Int.reduceNe, reduceCtorEq, w64_id, w8_id, w16_id, w32_id, tmod_pos, tdiv_pos, Bool.or_true, Bool.true_or, Bool.or_false, Bool.false_or, Bool.and_false, Bool.false_and, condK_decide, g1, g2, h3, hv]
  exact hR _ _ ⟨rfl, rfl⟩
theorem place_some {mb : Nat} {ty : TypeId} {es : Array MapEntry} {clk : Nat} (h1 : h[sb]? = some (.cells [.map (some mb)].toArray ty (0, 0))) (h2 : h[mb]? = some (.map es clk)) (h3 : isIntMap (some (.map es clk)) = True) (node index : Int) {lb n : Nat} (hv : mapOf es node = some (.slice (some ⟨lb, 0, none⟩) n n)) :
    HCalls Try.prog 36 #[.pointer (some ⟨sb, 0, none⟩), .agg #[.int .i64 node, .int .i64 index]] h fun v h' => v = (if 0 ≤ index ∧ index < n then .tuple #[.pointer (some ⟨lb, index.toNat * 8, none⟩), .int .i64 0] else .tuple #[.pointer none, .int .i64 1]) ∧ h' = h.push (refO node index) := by
  refine HCalls.via fun R hR => ?_
  have g1 := (Ext.push h (refO node index)).some h1
  have g2 := (Ext.push h (refO node index)).some h2
  unfold refO at g1 g2 hR
  refine HCalls.of_dev T36 Try.func36 rfl mixed (by kernel_rfl) ?_; rw [Try.results36]
  by_cases c1 : index < 0
  · simp (maxSteps := 2000000) (disch := first | (simp only [go_sem, Nat.reduceBEq, Nat.reduceAdd, Nat.reduceMul, Nat.reduceSub, Nat.reduceEqDiff, Nat.reduceLeDiff, Nat.reduceLT, Int.reduceEq, Int.reduceAdd, Int.reduceSub, Int.reduceMul, Int.reduceNeg, Int.reduceLT, Int.reduceLE, Int.reduceToNat, Int.reduceBEq, Int.reduceNe, reduceCtorEq, g1, g2, h3, hv, c1]; done) | omega | (simp only [go_sem, Nat.reduceBEq, Nat.reduceAdd, Nat.reduceMul, Nat.reduceSub, Nat.reduceEqDiff, Nat.reduceLeDiff, Nat.reduceLT, Int.reduceEq, Int.reduceAdd, Int.reduceSub, Int.reduceMul, Int.reduceNeg, Int.reduceLT, Int.reduceLE, Int.reduceToNat, Int.reduceBEq, Int.reduceNe, reduceCtorEq, g1, g2, h3, hv, c1]; omega)) only [go_sem, Nat.reduceBEq, Nat.reduceAdd, Nat.reduceMul, Nat.reduceSub, Nat.reduceEqDiff, Nat.reduceLeDiff, Nat.reduceLT, Int.reduceEq, Int.reduceAdd, Int.reduceSub, Int.reduceMul, Int.reduceNeg, Int.reduceLT, Int.reduceLE, Int.reduceToNat, Int.reduceBEq, Int.reduceNe, reduceCtorEq, w64_id, w8_id, w16_id, w32_id, tmod_pos, tdiv_pos, Bool.or_true, Bool.true_or, Bool.or_false, Bool.false_or, Bool.and_false, Bool.false_and, condK_decide, g1, g2, h3, hv, c1]
    refine hR _ _ ⟨?_, rfl⟩
    rw [if_neg (by omega)]
  · obtain ⟨i, rfl⟩ := Int.eq_ofNat_of_zero_le (show 0 ≤ index by omega)
    by_cases c2 : i < n
    · have c3 : ¬ (n : Int) ≤ i := by omega
      simp (maxSteps := 2000000) (disch := first | (simp only [go_sem, Nat.reduceBEq, Nat.reduceAdd, Nat.reduceMul, Nat.reduceSub, Nat.reduceEqDiff, Nat.reduceLeDiff, Nat.reduceLT, Int.reduceEq, Int.reduceAdd, Int.reduceSub, Int.reduceMul, Int.reduceNeg, Int.reduceLT, Int.reduceLE, Int.reduceToNat, Int.reduceBEq, Int.reduceNe, reduceCtorEq, g1, g2, h3, hv, c1, c2, c3]; done) | omega | (simp only [go_sem, Nat.reduceBEq, Nat.reduceAdd, Nat.reduceMul, Nat.reduceSub, Nat.reduceEqDiff, Nat.reduceLeDiff, Nat.reduceLT, Int.reduceEq, Int.reduceAdd, Int.reduceSub, Int.reduceMul, Int.reduceNeg, Int.reduceLT, Int.reduceLE, Int.reduceToNat, Int.reduceBEq, Int.reduceNe, reduceCtorEq, g1, g2, h3, hv, c1, c2, c3]; omega)) only [go_sem, Nat.reduceBEq, Nat.reduceAdd, Nat.reduceMul, Nat.reduceSub, Nat.reduceEqDiff, Nat.reduceLeDiff, Nat.reduceLT, Int.reduceEq, Int.reduceAdd, Int.reduceSub, Int.reduceMul, Int.reduceNeg, Int.reduceLT, Int.reduceLE, Int.reduceToNat, Int.reduceBEq, Int.reduceNe, reduceCtorEq, w64_id, w8_id, w16_id, w32_id, tmod_pos, tdiv_pos, Bool.or_true, Bool.true_or, Bool.or_false, Bool.false_or, Bool.and_false, Bool.false_and, condK_decide, g1, g2, h3, hv, c1, c2, c3]
      refine hR _ _ ⟨?_, rfl⟩
      rw [if_pos (by omega)]
      simp
    · have c3 : (n : Int) ≤ i := by omega
      simp (maxSteps := 2000000) (disch := first | (simp only [go_sem, Nat.reduceBEq, Nat.reduceAdd, Nat.reduceMul, Nat.reduceSub, Nat.reduceEqDiff, Nat.reduceLeDiff, Nat.reduceLT, Int.reduceEq, Int.reduceAdd, Int.reduceSub, Int.reduceMul, Int.reduceNeg, Int.reduceLT, Int.reduceLE, Int.reduceToNat, Int.reduceBEq, Int.reduceNe, reduceCtorEq, g1, g2, h3, hv, c1, c3]; done) | omega | (simp only [go_sem, Nat.reduceBEq, Nat.reduceAdd, Nat.reduceMul, Nat.reduceSub, Nat.reduceEqDiff, Nat.reduceLeDiff, Nat.reduceLT, Int.reduceEq, Int.reduceAdd, Int.reduceSub, Int.reduceMul, Int.reduceNeg, Int.reduceLT, Int.reduceLE, Int.reduceToNat, Int.reduceBEq, Int.reduceNe, reduceCtorEq, g1, g2, h3, hv, c1, c3]; omega)) only [go_sem, Nat.reduceBEq, Nat.reduceAdd, Nat.reduceMul, Nat.reduceSub, Nat.reduceEqDiff, Nat.reduceLeDiff, Nat.reduceLT, Int.reduceEq, Int.reduceAdd, Int.reduceSub, Int.reduceMul, Int.reduceNeg, Int.reduceLT, Int.reduceLE, Int.reduceToNat, Int.reduceBEq, Int.reduceNe, reduceCtorEq, w64_id, w8_id, w16_id, w32_id, tmod_pos, tdiv_pos, Bool.or_true, Bool.true_or, Bool.or_false, Bool.false_or, Bool.and_false, Bool.false_and, condK_decide, g1, g2, h3, hv, c1, c3]
      refine hR _ _ ⟨?_, rfl⟩
      rw [if_neg (by omega)]

def getN (L : List Nd) (node index : Int) : Cap × Int := match findN L node with
  | none => (Cap.zero, 120)
  | some n => if 0 ≤ index then (match n.S[index.toNat]? with | some c => (c, 0) | none => (Cap.zero, 1)) else (Cap.zero, 1)
def capI (x : Cap × Int) : Value := .tuple #[.agg x.1.cells.toArray, .int .i64 x.2]
theorem cget_S (hs : Sat h (spaceS sb L :: F)) (node index : Int) : HCalls Try.prog 15 #[.pointer (some ⟨sb, 0, none⟩), .agg #[.int .i64 node, .int .i64 index]] h fun v h' => v = capI (getN L node index) ∧ Ext h h' := by
  refine HCalls.via fun R hR => ?_
  obtain ⟨mb, ty, es, clk, h1, h2, h3, h4, h5⟩ := space_look hs
  refine HCalls.of_dev T15 Try.func15 rfl mixed (by kernel_rfl) ?_; rw [Try.results15]
  simp (maxSteps := 2000000) (disch := first | (simp only [go_sem, Nat.reduceBEq, Nat.reduceAdd, Nat.reduceMul, Nat.reduceSub, Nat.reduceEqDiff, Nat.reduceLeDiff, Nat.reduceLT, Int.reduceEq, Int.reduceAdd, Int.reduceSub, Int.reduceMul, Int.reduceNeg, Int.reduceLT, Int.reduceLE, Int.reduceToNat, Int.reduceBEq, Int.reduceNe, reduceCtorEq]; done) | omega | (simp only [go_sem, Nat.reduceBEq, Nat.reduceAdd, Nat.reduceMul, Nat.reduceSub, Nat.reduceEqDiff, Nat.reduceLeDiff, Nat.reduceLT, Int.reduceEq, Int.reduceAdd, Int.reduceSub, Int.reduceMul, Int.reduceNeg, Int.reduceLT, Int.reduceLE, Int.reduceToNat, Int.reduceBEq, Int.reduceNe, reduceCtorEq]; omega)) only [go_sem, Nat.reduceBEq, Nat.reduceAdd, Nat.reduceMul, Nat.reduceSub, Nat.reduceEqDiff, Nat.reduceLeDiff, Nat.reduceLT, Int.reduceEq, Int.reduceAdd, Int.reduceSub, Int.reduceMul, Int.reduceNeg, Int.reduceLT, Int.reduceLE, Int.reduceToNat, Int.reduceBEq, Int.reduceNe, reduceCtorEq, w64_id, w8_id, w16_id, w32_id, tmod_pos, tdiv_pos, Bool.or_true, Bool.true_or, Bool.or_false, Bool.false_or, Bool.and_false, Bool.false_and, condK_decide]
  have x1 : Ext h ((h.push (.cells [.int .i64 node, .int .i64 index].toArray 27 (0, 0))).push (.cells Cap.zero.cells.toArray 24 (0, 0))) := (Ext.push _ _).trans (Ext.push _ _)
  have x2 := x1.trans (Ext.push _ (refO node index))
  have f1 := (Ext.push _ (refO node index)).some (get_push2b (h := h) (a := (.cells [.int .i64 node, .int .i64 index].toArray 27 (0, 0))) (b := (.cells Cap.zero.cells.toArray 24 (0, 0))))
  unfold refO at x2 f1
  simp only [Cap.cells_eq, Cap.zero] at x1 x2 f1
  cases hn : findN L node with
  | none =>
    have e := h4 node hn
    refine (place_none (x1.some h1) (x1.some h2) h3 node index e).mono ?_
    rintro v h' ⟨rfl, rfl⟩
    unfold refO
    simp (maxSteps := 2000000) (disch := first | (simp only [go_sem, Nat.reduceBEq, Nat.reduceAdd, Nat.reduceMul, Nat.reduceSub, Nat.reduceEqDiff, Nat.reduceLeDiff, Nat.reduceLT, Int.reduceEq, Int.reduceAdd, Int.reduceSub, Int.reduceMul, Int.reduceNeg, Int.reduceLT, Int.reduceLE, Int.reduceToNat, Int.reduceBEq, Int.reduceNe, reduceCtorEq, f1]; done) | omega | (simp only [go_sem, Nat.reduceBEq, Nat.reduceAdd, Nat.reduceMul, Nat.reduceSub, Nat.reduceEqDiff, Nat.reduceLeDiff, Nat.reduceLT, Int.reduceEq, Int.reduceAdd, Int.reduceSub, Int.reduceMul, Int.reduceNeg, Int.reduceLT, Int.reduceLE, Int.reduceToNat, Int.reduceBEq, Int.reduceNe, reduceCtorEq, f1]; omega)) only [go_sem, Nat.reduceBEq, Nat.reduceAdd, Nat.reduceMul, Nat.reduceSub, Nat.reduceEqDiff, Nat.reduceLeDiff, Nat.reduceLT, Int.reduceEq, Int.reduceAdd, Int.reduceSub, Int.reduceMul, Int.reduceNeg, Int.reduceLT, Int.reduceLE, Int.reduceToNat, Int.reduceBEq, Int.reduceNe, reduceCtorEq, w64_id, w8_id, w16_id, w32_id, tmod_pos, tdiv_pos, Bool.or_true, Bool.true_or, Bool.or_false, Bool.false_or, Bool.and_false, Bool.false_and, condK_decide, f1]
    refine hR _ _ ⟨?_, x2⟩
    unfold getN; rw [hn]; rfl
  | some n =>
    obtain ⟨hm, hi, lb, e1, e2, -⟩ := h5 node n hn
    refine (place_some (x1.some h1) (x1.some h2) h3 node index e1).mono ?_
    rintro v h' ⟨rfl, rfl⟩
    unfold refO
    by_cases g : 0 ≤ index ∧ index < n.S.length
    · rw [if_pos g]
      have hlt : index.toNat < n.S.length := by omega
      have e3 := x2.some e2
      have e4 := caps_cut (List.getElem?_eq_getElem hlt)
      simp (maxSteps := 2000000) (disch := first | (simp only [go_sem, Nat.reduceBEq, Nat.reduceAdd, Nat.reduceMul, Nat.reduceSub, Nat.reduceEqDiff, Nat.reduceLeDiff, Nat.reduceLT, Int.reduceEq, Int.reduceAdd, Int.reduceSub, Int.reduceMul, Int.reduceNeg, Int.reduceLT, Int.reduceLE, Int.reduceToNat, Int.reduceBEq, Int.reduceNe, reduceCtorEq, f1, e3, e4]; done) | omega | (simp only [go_sem, Nat.reduceBEq, Nat.reduceAdd, Nat.reduceMul, Nat.reduceSub, Nat.reduceEqDiff, Nat.reduceLeDiff, Nat.reduceLT, Int.reduceEq, Int.reduceAdd, Int.reduceSub, Int.reduceMul, Int.reduceNeg, Int.reduceLT, Int.reduceLE, Int.reduceToNat, Int.reduceBEq, Int.reduceNe, reduceCtorEq, f1, e3, e4]; omega)) only [go_sem, Nat.reduceBEq, Nat.reduceAdd, Nat.reduceMul, Nat.reduceSub, Nat.reduceEqDiff, Nat.reduceLeDiff, Nat.reduceLT, Int.reduceEq, Int.reduceAdd, Int.reduceSub, Int.reduceMul, Int.reduceNeg, Int.reduceLT, Int.reduceLE, Int.reduceToNat, Int.reduceBEq, Int.reduceNe, reduceCtorEq, w64_id, w8_id, w16_id, w32_id, tmod_pos, tdiv_pos, Bool.or_true, Bool.true_or, Bool.or_false, Bool.false_or, Bool.and_false, Bool.false_and, condK_decide, f1, e3, e4]
      refine hR _ _ ⟨?_, ((Ext.push _ _).trans (Ext.push _ _)).trans (Ext.push _ _)⟩
      unfold getN
      rw [hn]
      simp only [if_pos g.1, List.getElem?_eq_getElem hlt]
      rfl
    · rw [if_neg g]
      simp (maxSteps := 2000000) (disch := first | (simp only [go_sem, Nat.reduceBEq, Nat.reduceAdd, Nat.reduceMul, Nat.reduceSub, Nat.reduceEqDiff, Nat.reduceLeDiff, Nat.reduceLT, Int.reduceEq, Int.reduceAdd, Int.reduceSub, Int.reduceMul, Int.reduceNeg, Int.reduceLT, Int.reduceLE, Int.reduceToNat, Int.reduceBEq, Int.reduceNe, reduceCtorEq, f1]; done) | omega | (simp only [go_sem, Nat.reduceBEq, Nat.reduceAdd, Nat.reduceMul, Nat.reduceSub, Nat.reduceEqDiff, Nat.reduceLeDiff, Nat.reduceLT, Int.reduceEq, Int.reduceAdd, Int.reduceSub, Int.reduceMul, Int.reduceNeg, Int.reduceLT, Int.reduceLE, Int.reduceToNat, Int.reduceBEq, Int.reduceNe, reduceCtorEq, f1]; omega)) only [go_sem, Nat.reduceBEq, Nat.reduceAdd, Nat.reduceMul, Nat.reduceSub, Nat.reduceEqDiff, Nat.reduceLeDiff, Nat.reduceLT, Int.reduceEq, Int.reduceAdd, Int.reduceSub, Int.reduceMul, Int.reduceNeg, Int.reduceLT, Int.reduceLE, Int.reduceToNat, Int.reduceBEq, Int.reduceNe, reduceCtorEq, w64_id, w8_id, w16_id, w32_id, tmod_pos, tdiv_pos, Bool.or_true, Bool.true_or, Bool.or_false, Bool.false_or, Bool.and_false, Bool.false_and, condK_decide, f1]
      refine hR _ _ ⟨?_, x2⟩
      unfold getN
      rw [hn]
      by_cases g0 : 0 ≤ index
      · simp only [if_pos g0, List.getElem?_eq_none (show n.S.length ≤ index.toNat by omega)]; rfl
      · simp only [if_neg g0]; rfl

def takeV (w left n : Int) : Int := w / 2 ^ (left - n).toNat % 2 ^ n.toNat
theorem take_law {w a n : Int} (hw : 0 ≤ w ∧ w ≤ 4294967295) (ha : 0 ≤ a) (ha' : a ≤ 16) (hn : 0 ≤ n) (hn' : n ≤ 16) :
    ((BitVec.ofInt 32 (w.fdiv (2 ^ min a.toNat 32)) &&& BitVec.ofInt 32 (IntKind.u32.wrap (IntKind.u32.wrap (1 * 2 ^ min n.toNat 32) - 1))).toNat : Int) = w / 2 ^ a.toNat % 2 ^ n.toNat := by
  obtain ⟨a, rfl⟩ := Int.eq_ofNat_of_zero_le ha
  obtain ⟨n, rfl⟩ := Int.eq_ofNat_of_zero_le hn
  obtain ⟨w, rfl⟩ := Int.eq_ofNat_of_zero_le hw.1
  simp only [Int.toNat_natCast]
  have q : ∀ n : Nat, n ≤ 16 → IntKind.u32.wrap (IntKind.u32.wrap (1 * 2 ^ min n 32) - 1) = ((2 ^ n - 1 : Nat) : Int) := by decide
  rw [q n (by omega), Nat.min_eq_left (show a ≤ 32 by omega), Int.fdiv_eq_ediv_of_nonneg _ (Int.pow_nonneg (by decide))]
  have e1 : (w : Int) / 2 ^ a = ((w / 2 ^ a : Nat) : Int) := by simp
  rw [e1, BitVec.ofInt_natCast, BitVec.ofInt_natCast, BitVec.toNat_and, BitVec.toNat_ofNat, BitVec.toNat_ofNat]
  have hp : 2 ^ n ≤ 2 ^ 16 := Nat.pow_le_pow_right (by decide) (by omega)
  rw [Nat.mod_eq_of_lt (show w / 2 ^ a < 2 ^ 32 from Nat.lt_of_le_of_lt (Nat.div_le_self _ _) (by omega)), Nat.mod_eq_of_lt (show 2 ^ n - 1 < 2 ^ 32 by omega), Nat.and_two_pow_sub_one_eq_mod]
  simp
theorem take_S {bb : Nat} {w left : Int} {ty : TypeId} (hs : Sat h (cellAt bb (.cells [.int .u32 w, .int .i64 left].toArray ty (0, 0)) :: F)) (hw : 0 ≤ w ∧ w ≤ 4294967295) (hl : 0 ≤ left ∧ left ≤ 16) (n : Int) (hn : 0 ≤ n) : HCalls Try.prog 35 #[.pointer (some ⟨bb, 0, none⟩), .int .i64 n] h fun v h' =>
    (left < n ∧ v = .tuple #[.int .i64 0, .bool false] ∧ h' = h) ∨ (n ≤ left ∧ v = .tuple #[.int .i64 (takeV w left n), .bool true] ∧ h' = h.setIfInBounds bb (.cells [.int .u32 w, .int .i64 (left - n)].toArray ty (0, 0))) := by
  refine HCalls.via fun R hR => ?_
  have hq := hs.get
  refine HCalls.of_dev T35 Try.func35 rfl mixed (by kernel_rfl) ?_; rw [Try.results35]
  by_cases g : left < n
  · simp (maxSteps := 2000000) (disch := first | (simp only [go_sem, Nat.reduceBEq, Nat.reduceAdd, Nat.reduceMul, Nat.reduceSub, Nat.reduceEqDiff, Nat.reduceLeDiff, Nat.reduceLT, Int.reduceEq, Int.reduceAdd, Int.reduceSub, Int.reduceMul, Int.reduceNeg, Int.reduceLT, Int.reduceLE, Int.reduceToNat, Int.reduceBEq, Int.reduceNe, reduceCtorEq, hq, g]; done) | omega | (simp only [go_sem, Nat.reduceBEq, Nat.reduceAdd, Nat.reduceMul, Nat.reduceSub, Nat.reduceEqDiff, Nat.reduceLeDiff, Nat.reduceLT, Int.reduceEq, Int.reduceAdd, Int.reduceSub, Int.reduceMul, Int.reduceNeg, Int.reduceLT, Int.reduceLE, Int.reduceToNat, Int.reduceBEq, Int.reduceNe, reduceCtorEq, hq, g]; omega)) only [go_sem, Nat.reduceBEq, Nat.reduceAdd, Nat.reduceMul, Nat.reduceSub, Nat.reduceEqDiff, Nat.reduceLeDiff, Nat.reduceLT, Int.reduceEq, Int.reduceAdd, Int.reduceSub, Int.reduceMul, Int.reduceNeg, Int.reduceLT, Int.reduceLE, Int.reduceToNat, Int.reduceBEq, Int.reduceNe, reduceCtorEq, w64_id, w8_id, w16_id, w32_id, tmod_pos, tdiv_pos, Bool.or_true, Bool.true_or, Bool.or_false, Bool.false_or, Bool.and_false, Bool.false_and, condK_decide, hq, g]
    exact hR _ _ (.inl ⟨g, rfl, rfl⟩)
  · have hq2 := (hs.set (.cells [.int .u32 w, .int .i64 (left - n)].toArray ty (0, 0))).get
    have hw2 : IntKind.i64.wrap (left - n) = left - n := w64_id (by omega) (by omega)
    simp (maxSteps := 2000000) (disch := first | (simp only [go_sem, Nat.reduceBEq, Nat.reduceAdd, Nat.reduceMul, Nat.reduceSub, Nat.reduceEqDiff, Nat.reduceLeDiff, Nat.reduceLT, Int.reduceEq, Int.reduceAdd, Int.reduceSub, Int.reduceMul, Int.reduceNeg, Int.reduceLT, Int.reduceLE, Int.reduceToNat, Int.reduceBEq, Int.reduceNe, reduceCtorEq, hq, g, hw2, hq2]; done) | omega | (simp only [go_sem, Nat.reduceBEq, Nat.reduceAdd, Nat.reduceMul, Nat.reduceSub, Nat.reduceEqDiff, Nat.reduceLeDiff, Nat.reduceLT, Int.reduceEq, Int.reduceAdd, Int.reduceSub, Int.reduceMul, Int.reduceNeg, Int.reduceLT, Int.reduceLE, Int.reduceToNat, Int.reduceBEq, Int.reduceNe, reduceCtorEq, hq, g, hw2, hq2]; omega)) only [go_sem, Nat.reduceBEq, Nat.reduceAdd, Nat.reduceMul, Nat.reduceSub, Nat.reduceEqDiff, Nat.reduceLeDiff, Nat.reduceLT, Int.reduceEq, Int.reduceAdd, Int.reduceSub, Int.reduceMul, Int.reduceNeg, Int.reduceLT, Int.reduceLE, Int.reduceToNat, Int.reduceBEq, Int.reduceNe, reduceCtorEq, w64_id, w8_id, w16_id, w32_id, tmod_pos, tdiv_pos, Bool.or_true, Bool.true_or, Bool.or_false, Bool.false_or, Bool.and_false, Bool.false_and, condK_decide, hq, g, hw2, hq2]
    erw [take_law hw (by omega) (by omega) hn (by omega)]
    exact hR _ _ (.inr ⟨by omega, rfl, rfl⟩)

def putN (L : List Nd) (node index : Int) (c : Cap) : List Nd × Int := match findN L node with
  | none => (L, 120)
  | some n => if 0 ≤ index ∧ index < n.S.length then (if RightP c then (setS L node (n.S.set index.toNat c), 0) else (L, 141)) else (L, 1)
theorem capsL_set (S : List Cap) (i : Nat) (c : Cap) (hi : i < S.length) : capsL (S.set i c) = (capsL S).take (i * 8) ++ c.cells ++ (capsL S).drop (i * 8 + 8) := by
  apply List.ext_getElem?
  intro k
  have hl := capsL_len S
  have hl2 := capsL_len (S.set i c)
  rw [List.length_set] at hl2
  have hk : k = k / 8 * 8 + k % 8 := by omega
  rw [hk, capsL_get _ _ _ (by omega), List.append_assoc]
  generalize hq : k / 8 = q
  generalize hr : k % 8 = r
  have hr8 : r < 8 := by omega
  rcases Nat.lt_trichotomy q i with c1 | c1 | c1
  · rw [List.getElem?_append_left (by rw [List.length_take]; omega), List.getElem?_take, if_pos (by omega), capsL_get _ _ _ hr8, List.getElem?_set_ne (by omega)]
  · subst c1
    rw [List.getElem?_append_right (by rw [List.length_take]; omega), List.getElem?_append_left (by rw [List.length_take, Cap.cells_len]; omega), List.length_take, List.getElem?_set_self hi]
    simp only [Option.bind_some]
    congr 1
    omega
  · rw [List.getElem?_append_right (by rw [List.length_take]; omega), List.getElem?_append_right (by rw [List.length_take, Cap.cells_len]; omega), List.length_take, Cap.cells_len, List.getElem?_drop, List.getElem?_set_ne (by omega), ← capsL_get _ _ _ hr8]
    congr 1
    omega
end
end Go.Eng
