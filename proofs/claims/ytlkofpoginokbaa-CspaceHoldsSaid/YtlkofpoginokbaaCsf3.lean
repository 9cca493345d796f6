/-
  viceroylaw12.refs; package cspace: Full, up to the sort.
-/
import Derived.Test.YtlkofpoginokbaaCsf2
import Derived.Test.YtlkofpoginokbaaMapD
namespace Go.Eng
set_option linter.unusedSimpArgs false
set_option linter.unusedVariables false
set_option maxRecDepth 16000
set_option maxHeartbeats 4000000
open Go Go.Proofs
section
variable {h : Heap} {F G : List SP}
theorem refs_read {v : Value} {Y : List (Int × Int)} (hs : Sat h (sliceS 2 Y.length v (refsL Y) :: F)) : ∃ sl cap, v = .slice sl Y.length cap ∧ ∀ (j : Nat) (hj : j < Y.length), ∃ lb, sl = some ⟨lb, 0, none⟩ ∧ hreadO h[lb]? (j * 2) 2 = some [.int .i64 Y[j].1, .int .i64 Y[j].2].toArray := by
  obtain ⟨sl, cap, rfl, -, -, hel⟩ := hs.elems
  refine ⟨sl, cap, rfl, fun j q => ?_⟩
  rcases hel with hel | ⟨lb, rfl, -, hrd⟩
  · omega
  refine ⟨lb, rfl, ?_⟩
  rw [hrd _ _ (by omega)]
  congr 2
  apply List.ext_getElem?
  intro m
  rw [List.getElem?_take, List.getElem?_drop]
  by_cases hm : m < 2
  · rw [if_pos hm, refsL_get Y j m hm, List.getElem?_eq_getElem q]; rfl
  · rw [if_neg hm, List.getElem?_eq_none (by simp; omega)]
theorem refs_S {v w : Value} {Y X : List (Int × Int)} (hs : Sat h (sliceS 2 Y.length v (refsL Y) :: F)) (hs2 : Sat h (sliceS 2 X.length w (refsL X) :: G)) (hb : Y.length ≤ 100000) : HCalls Try.prog 22 #[v, w] h fun r h' => r = .bool (decide (Y = X)) ∧ Ext h h' := by
  refine HCalls.via fun R hR => ?_
  obtain ⟨sl, cap, rfl, h1⟩ := refs_read hs
  obtain ⟨sl2, cap2, rfl, h2⟩ := refs_read hs2
  refine HCalls.of_dev T22 Try.func22 rfl mixed (by kernel_rfl) ?_; rw [Try.results22]
  by_cases hl : Y.length = X.length
  case neg =>
    have hl2 : ¬ (Y.length : Int) = X.length := by omega
    simp (maxSteps := 2000000) (disch := first | (simp only [go_sem, Nat.reduceBEq, Nat.reduceAdd, Nat.reduceMul, Nat.reduceSub, Nat.reduceEqDiff, Nat.reduceLeDiff, Nat.reduceLT, Int.reduceEq, Int.reduceAdd, Int.reduceSub, Int.reduceMul, Int.reduceNeg, Int.reduceLT, Int.reduceLE, Int.reduceToNat, Int.reduceBEq, Int.reduceNe, reduceCtorEq, hl2]; done) | omega | (simp only [go_sem, Nat.reduceBEq, Nat.reduceAdd, Nat.reduceMul, Nat.reduceSub, Nat.reduceEqDiff, Nat.reduceLeDiff, Nat.reduceLT, Int.reduceEq, Int.reduceAdd, Int.reduceSub, Int.reduceMul, Int.reduceNeg, Int.reduceLT, Int.reduceLE, Int.reduceToNat, Int.reduceBEq, Int.reduceNe, reduceCtorEq, hl2]; omega)) only [go_sem, Nat.reduceBEq, Nat.reduceAdd, Nat.reduceMul, Nat.reduceSub, Nat.reduceEqDiff, Nat.reduceLeDiff, Nat.reduceLT, Int.reduceEq, Int.reduceAdd, Int.reduceSub, Int.reduceMul, Int.reduceNeg, Int.reduceLT, Int.reduceLE, Int.reduceToNat, Int.reduceBEq, Int.reduceNe, reduceCtorEq, w64_id, w8_id, w16_id, w32_id, tmod_pos, tdiv_pos, Bool.or_true, Bool.true_or, Bool.or_false, Bool.false_or, Bool.and_false, Bool.false_and, condK_decide, hl2]
    refine hR _ _ ⟨?_, Ext.refl _⟩
    rw [decide_eq_false (fun e => hl (by rw [e]))]
  have hl2 : (Y.length : Int) = X.length := by omega
  simp (maxSteps := 2000000) (disch := first | (simp only [go_sem, Nat.reduceBEq, Nat.reduceAdd, Nat.reduceMul, Nat.reduceSub, Nat.reduceEqDiff, Nat.reduceLeDiff, Nat.reduceLT, Int.reduceEq, Int.reduceAdd, Int.reduceSub, Int.reduceMul, Int.reduceNeg, Int.reduceLT, Int.reduceLE, Int.reduceToNat, Int.reduceBEq, Int.reduceNe, reduceCtorEq, hl2]; done) | omega | (simp only [go_sem, Nat.reduceBEq, Nat.reduceAdd, Nat.reduceMul, Nat.reduceSub, Nat.reduceEqDiff, Nat.reduceLeDiff, Nat.reduceLT, Int.reduceEq, Int.reduceAdd, Int.reduceSub, Int.reduceMul, Int.reduceNeg, Int.reduceLT, Int.reduceLE, Int.reduceToNat, Int.reduceBEq, Int.reduceNe, reduceCtorEq, hl2]; omega)) only [go_sem, Nat.reduceBEq, Nat.reduceAdd, Nat.reduceMul, Nat.reduceSub, Nat.reduceEqDiff, Nat.reduceLeDiff, Nat.reduceLT, Int.reduceEq, Int.reduceAdd, Int.reduceSub, Int.reduceMul, Int.reduceNeg, Int.reduceLT, Int.reduceLE, Int.reduceToNat, Int.reduceBEq, Int.reduceNe, reduceCtorEq, w64_id, w8_id, w16_id, w32_id, tmod_pos, tdiv_pos, Bool.or_true, Bool.true_or, Bool.or_false, Bool.false_or, Bool.and_false, Bool.false_and, condK_decide, hl2]
  refine loopH.intro (fun j : Nat => (.cons 0 (.slice sl Y.length cap) true (.cons 1 (.slice sl2 X.length cap2) true (.cons 5 (.int .i64 j) true .nil))))
    (fun j h' => h' = h ∧ j ≤ Y.length ∧ ∀ m, m < j → Y[m]? = X[m]?) (fun j _ => Y.length + 1 - j) 0 ?_ ⟨rfl, by omega, fun m hm => by omega⟩ ?_
  · simp (maxSteps := 2000000) (disch := first | (simp only [go_sem, Nat.reduceBEq, Nat.reduceAdd, Nat.reduceMul, Nat.reduceSub, Nat.reduceEqDiff, Nat.reduceLeDiff, Nat.reduceLT, Int.reduceEq, Int.reduceAdd, Int.reduceSub, Int.reduceMul, Int.reduceNeg, Int.reduceLT, Int.reduceLE, Int.reduceToNat, Int.reduceBEq, Int.reduceNe, reduceCtorEq, hl2]; done) | omega | (simp only [go_sem, Nat.reduceBEq, Nat.reduceAdd, Nat.reduceMul, Nat.reduceSub, Nat.reduceEqDiff, Nat.reduceLeDiff, Nat.reduceLT, Int.reduceEq, Int.reduceAdd, Int.reduceSub, Int.reduceMul, Int.reduceNeg, Int.reduceLT, Int.reduceLE, Int.reduceToNat, Int.reduceBEq, Int.reduceNe, reduceCtorEq, hl2]; omega)) only [go_sem, Nat.reduceBEq, Nat.reduceAdd, Nat.reduceMul, Nat.reduceSub, Nat.reduceEqDiff, Nat.reduceLeDiff, Nat.reduceLT, Int.reduceEq, Int.reduceAdd, Int.reduceSub, Int.reduceMul, Int.reduceNeg, Int.reduceLT, Int.reduceLE, Int.reduceToNat, Int.reduceBEq, Int.reduceNe, reduceCtorEq, w64_id, w8_id, w16_id, w32_id, tmod_pos, tdiv_pos, Bool.or_true, Bool.true_or, Bool.or_false, Bool.false_or, Bool.and_false, Bool.false_and, condK_decide, hl2]; simp only [hl]; rfl
  rintro j h' ⟨rfl, hj, hall⟩
  by_cases q : j < Y.length
  · obtain ⟨lb, rfl, e1⟩ := h1 j q
    obtain ⟨lb2, rfl, e2⟩ := h2 j (by omega)
    have q2 : (j : Int) < Y.length := by omega
    have q3 : (j : Int) < X.length := by omega
    simp (maxSteps := 2000000) (disch := first | (simp only [go_sem, Nat.reduceBEq, Nat.reduceAdd, Nat.reduceMul, Nat.reduceSub, Nat.reduceEqDiff, Nat.reduceLeDiff, Nat.reduceLT, Int.reduceEq, Int.reduceAdd, Int.reduceSub, Int.reduceMul, Int.reduceNeg, Int.reduceLT, Int.reduceLE, Int.reduceToNat, Int.reduceBEq, Int.reduceNe, reduceCtorEq, q2, q3, e1, e2]; done) | omega | (simp only [go_sem, Nat.reduceBEq, Nat.reduceAdd, Nat.reduceMul, Nat.reduceSub, Nat.reduceEqDiff, Nat.reduceLeDiff, Nat.reduceLT, Int.reduceEq, Int.reduceAdd, Int.reduceSub, Int.reduceMul, Int.reduceNeg, Int.reduceLT, Int.reduceLE, Int.reduceToNat, Int.reduceBEq, Int.reduceNe, reduceCtorEq, q2, q3, e1, e2]; omega)) only [go_sem, Nat.reduceBEq, Nat.reduceAdd, Nat.reduceMul, Nat.reduceSub, Nat.reduceEqDiff, Nat.reduceLeDiff, Nat.reduceLT, Int.reduceEq, Int.reduceAdd, Int.reduceSub, Int.reduceMul, Int.reduceNeg, Int.reduceLT, Int.reduceLE, Int.reduceToNat, Int.reduceBEq, Int.reduceNe, reduceCtorEq, w64_id, w8_id, w16_id, w32_id, tmod_pos, tdiv_pos, Bool.or_true, Bool.true_or, Bool.or_false, Bool.false_or, Bool.and_false, Bool.false_and, condK_decide, q2, q3, e1, e2]
    by_cases e : Y[j] = X[j]
    · have ee1 : Y[j].1 = X[j].1 := by rw [e]
      have ee2 : Y[j].2 = X[j].2 := by rw [e]
      refine ⟨fun z => by simp [ee1, ee2] at z, fun _ => ?_⟩
      refine ⟨j + 1, rfl, ⟨rfl, by omega, fun m hm => ?_⟩, by simp only; omega⟩
      by_cases em : m = j
      · subst em; rw [List.getElem?_eq_getElem q, List.getElem?_eq_getElem (by omega), e]
      · exact hall m (by omega)
    · have hne : (decide (Y[j].1 = X[j].1) && decide (Y[j].2 = X[j].2)) = false := by
        rw [Bool.eq_false_iff]
        intro z
        simp only [Bool.and_eq_true, decide_eq_true_eq] at z
        exact e (Prod.ext z.1 z.2)
      refine ⟨fun _ => hR _ _ ⟨?_, Ext.refl _⟩, fun z => by rw [hne] at z; cases z⟩
      rw [decide_eq_false]
      rintro rfl
      exact e rfl
  · have q2 : ¬ (j : Int) < Y.length := by omega
    simp (maxSteps := 2000000) (disch := first | (simp only [go_sem, Nat.reduceBEq, Nat.reduceAdd, Nat.reduceMul, Nat.reduceSub, Nat.reduceEqDiff, Nat.reduceLeDiff, Nat.reduceLT, Int.reduceEq, Int.reduceAdd, Int.reduceSub, Int.reduceMul, Int.reduceNeg, Int.reduceLT, Int.reduceLE, Int.reduceToNat, Int.reduceBEq, Int.reduceNe, reduceCtorEq, q2]; done) | omega | (simp only [go_sem, Nat.reduceBEq, Nat.reduceAdd, Nat.reduceMul, Nat.reduceSub, Nat.reduceEqDiff, Nat.reduceLeDiff, Nat.reduceLT, Int.reduceEq, Int.reduceAdd, Int.reduceSub, Int.reduceMul, Int.reduceNeg, Int.reduceLT, Int.reduceLE, Int.reduceToNat, Int.reduceBEq, Int.reduceNe, reduceCtorEq, q2]; omega)) only [go_sem, Nat.reduceBEq, Nat.reduceAdd, Nat.reduceMul, Nat.reduceSub, Nat.reduceEqDiff, Nat.reduceLeDiff, Nat.reduceLT, Int.reduceEq, Int.reduceAdd, Int.reduceSub, Int.reduceMul, Int.reduceNeg, Int.reduceLT, Int.reduceLE, Int.reduceToNat, Int.reduceBEq, Int.reduceNe, reduceCtorEq, w64_id, w8_id, w16_id, w32_id, tmod_pos, tdiv_pos, Bool.or_true, Bool.true_or, Bool.or_false, Bool.false_or, Bool.and_false, Bool.false_and, condK_decide, q2]
    refine hR _ _ ⟨?_, Ext.refl _⟩
    rw [decide_eq_true]
    apply List.ext_getElem?
    intro m
    by_cases hm : m < j
    · exact hall m hm
    · rw [List.getElem?_eq_none (by omega), List.getElem?_eq_none (by omega)]
variable {sb : Nat} {L : List Nd}
def gRefs (L : List Nd) (k : Option Int) : List (Int × Int) := match k with
  | some k => (match findN L k with | some n => fullNode n | none => [])
  | none => []
theorem findN_mem {L : List Nd} (hw : wfL L) {n : Nd} (hn : n ∈ L) : findN L n.I = some n := by
  have hp := List.pairwise_map.1 hw.2
  clear hw
  induction L with
  | nil => cases hn
  | cons m L ih =>
    obtain ⟨p1, p2⟩ := List.pairwise_cons.1 hp
    unfold findN at ih ⊢
    rw [List.find?_cons]
    rcases List.mem_cons.1 hn with rfl | hn
    · simp
    · have := p1 n hn
      rw [show (m.I == n.I) = false by simp only [beq_eq_false_iff_ne, ne_eq]; omega]
      exact ih hn p2
theorem mapOf_mem {es : Array MapEntry} (hn : (es.toList.map keyI).Nodup) {e : MapEntry} {k : Int} (he : e ∈ es.toList) (hk : keyI e = some k) : mapOf es k = some e.val := by
  unfold mapOf findI
  generalize es.toList = l at *
  have : l.find? (fun e => keyI e == some k) = some e := by
    induction l with
    | nil => cases he
    | cons x l ih =>
      rw [List.find?_cons]
      simp only [List.map_cons, List.nodup_cons] at hn
      rcases List.mem_cons.1 he with rfl | he
      · rw [hk]; simp
      · have : (keyI x == some k) = false := by
          simp only [beq_eq_false_iff_ne, ne_eq]
          intro q
          exact hn.1 (List.mem_map.2 ⟨e, he, by rw [hk, q]⟩)
        rw [this]
        exact ih hn.2 he
  rw [this]; rfl
/-- The map's keys are the nodes' numbers. -/
theorem keys_perm {es : Array MapEntry} {clk : Nat} {Z : List (Nd × Nat)} (hw : wfL L) (p : SpaceP L es clk Z) : (es.toList.map keyI).Perm (L.map fun n => some n.I) := by
  refine (List.perm_ext_iff_of_nodup p.mp.nodup ?_).2 fun k => ?_
  · have := hw.2
    rw [List.pairwise_map] at this
    unfold List.Nodup
    rw [List.pairwise_map]
    refine this.imp fun {a b} h q => ?_
    simp only [Option.some.injEq] at q
    omega
  · constructor
    · intro h
      obtain ⟨e, he, rfl⟩ := List.mem_map.1 h
      obtain ⟨k, hk⟩ := Option.isSome_iff_exists.1 (p.mp.keys e he)
      have h1 := mapOf_mem p.mp.nodup he hk
      rw [p.val k] at h1
      have h2 := findZ_fst Z k
      rw [p.fst] at h2
      cases hz : findZ Z k with
      | none => rw [hz] at h1; cases h1
      | some z =>
        rw [hz] at h2
        have h3 := List.mem_of_find?_eq_some (p := fun n : Nd => n.I == k) (l := L) (a := z.1) h2.symm
        have h4 : z.1.I = k := by simpa using List.find?_some (p := fun n : Nd => n.I == k) (l := L) (a := z.1) h2.symm
        rw [hk]
        exact List.mem_map.2 ⟨z.1, h3, by rw [h4]⟩
    · intro h
      obtain ⟨n, hn, rfl⟩ := List.mem_map.1 h
      have h1 := findN_mem hw hn
      have h2 := findZ_fst Z n.I
      rw [p.fst, h1] at h2
      have h3 := p.val n.I
      cases hz : findZ Z n.I with
      | none => rw [hz] at h2; cases h2
      | some z =>
        rw [hz] at h3
        unfold mapOf at h3
        cases hf : findI es.toList n.I with
        | none => rw [hf] at h3; cases h3
        | some e =>
          unfold findI at hf
          exact List.mem_map.2 ⟨e, List.mem_of_find?_eq_some hf, by simpa using List.find?_some hf⟩
theorem full_perm {es : Array MapEntry} {clk : Nat} {Z : List (Nd × Nat)} (hw : wfL L) (p : SpaceP L es clk Z) : ((es.toList.map keyI).flatMap (gRefs L)).Perm (fullN L) := by
  refine ((keys_perm hw p).flatMap_right _).trans ?_
  have : (L.map fun n => some n.I).flatMap (gRefs L) = fullN L := by
    unfold fullN
    rw [List.flatMap_map]
    have : ∀ M : List Nd, (∀ n ∈ M, n ∈ L) → M.flatMap (fun n => gRefs L (some n.I)) = M.flatMap fullNode := by
      intro M
      induction M with
      | nil => intro _; rfl
      | cons n M ih =>
        intro h
        rw [List.flatMap_cons, List.flatMap_cons, ih fun m hm => h m (by simp [hm])]
        congr 1
        unfold gRefs
        simp only [findN_mem hw (h n (by simp))]
    exact this L fun n hn => hn
  rw [this]
end
end Go.Eng
