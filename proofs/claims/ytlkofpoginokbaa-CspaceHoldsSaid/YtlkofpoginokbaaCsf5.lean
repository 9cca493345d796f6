/-
  package cspace: Full.
-/
import Derived.Test.YtlkofpoginokbaaCsf4
namespace Go.Eng
set_option linter.unusedSimpArgs false
set_option linter.unusedVariables false
set_option maxRecDepth 16000
set_option maxHeartbeats 4000000
open Go Go.Proofs
def gotR (L : List Nd) (done : List MapEntry) : List (Int × Int) := (done.map keyI).flatMap (gRefs L)
theorem gotR_one {L : List Nd} {done : List MapEntry} {e : MapEntry} {k : Int} {n : Nd} (hk : keyI e = some k) (hn : findN L k = some n) : gotR L (done ++ [e]) = gotR L done ++ fullNode n := by
  unfold gotR
  rw [List.map_append, List.flatMap_append]
  congr 1
  simp only [List.map_cons, List.map_nil, List.flatMap_cons, List.flatMap_nil, List.append_nil, hk, gRefs, hn]
theorem iter_left {es done rest : List MapEntry} (hp : (done ++ rest).Perm es) (hn : (es.map (·.born)).Nodup) {e : MapEntry} (he : e ∈ es) (hb : e.born ∉ done.map (·.born)) : ∃ rest', ((done ++ [e]) ++ rest').Perm es := by
  have h1 : e ∈ done ++ rest := hp.symm.subset he
  rcases List.mem_append.1 h1 with h | h
  · exact (hb (List.mem_map.2 ⟨e, h, rfl⟩)).elim
  · obtain ⟨A, B, rfl⟩ := List.append_of_mem h
    refine ⟨A ++ B, List.Perm.trans ?_ hp⟩
    rw [List.append_assoc]
    refine List.Perm.append_left _ ?_
    simpa using (List.perm_middle (a := e) (l₁ := A) (l₂ := B)).symm
theorem iter_done {es done rest : List MapEntry} (hp : (done ++ rest).Perm es) (hn : (es.map (·.born)).Nodup) (h : ∀ e ∈ es, e.born ∈ done.map (·.born)) : rest = [] := by
  cases rest with
  | nil => rfl
  | cons e rest =>
    exfalso
    have h1 : e ∈ es := hp.subset (by simp)
    have h2 := h e h1
    have h3 : ((done ++ e :: rest).map (·.born)).Nodup := (hp.map _).nodup_iff.2 hn
    rw [List.map_append, List.map_cons] at h3
    have := (List.nodup_append.1 h3).2.2 _ h2 e.born (by simp)
    exact this rfl
section
variable {h : Heap} {F : List SP} {sb : Nat} {L : List Nd}
theorem full_S (hs : Sat h (spaceS sb L :: F)) (hw : wfL L)
    (hsort : ∀ (v : Value) (Y : List (Int × Int)) (h : Heap) (F : List SP), Sat h (sliceS 2 Y.length v (refsL Y) :: F) → Y.length ≤ 100000 → HCalls Try.prog 40 #[v, .func (.func 41) #[] #[]] h fun r h' => r = .tuple #[] ∧ ∃ Z : List (Int × Int), Z.Perm Y ∧ Z.Pairwise (fun x y => ¬ ltR y x) ∧ Sat h' (sliceS 2 Z.length v (refsL Z) :: F)) :
    HCalls Try.prog 20 #[.pointer (some ⟨sb, 0, none⟩)] h fun v h' => Sat h' (sliceS 2 (fullN L).length v (refsL (fullN L)) :: spaceS sb L :: F) := by
  refine HCalls.via fun R hR => ?_
  have hL := hw.len
  obtain ⟨mb, ty, es, clk, Z, p, s⟩ := spaceS_iff.1 hs
  have hfp := full_perm hw p
  have hfl := fullN_len hw.1
  refine HCalls.of_dev T20 Try.func20 rfl mixed (by kernel_rfl) ?_; rw [Try.results20]
  simp (maxSteps := 2000000) (disch := first | (simp only [go_sem, Nat.reduceBEq, Nat.reduceAdd, Nat.reduceMul, Nat.reduceSub, Nat.reduceEqDiff, Nat.reduceLeDiff, Nat.reduceLT, Int.reduceEq, Int.reduceAdd, Int.reduceSub, Int.reduceMul, Int.reduceNeg, Int.reduceLT, Int.reduceLE, Int.reduceToNat, Int.reduceBEq, Int.reduceNe, reduceCtorEq, s.get]; done) | omega | (simp only [go_sem, Nat.reduceBEq, Nat.reduceAdd, Nat.reduceMul, Nat.reduceSub, Nat.reduceEqDiff, Nat.reduceLeDiff, Nat.reduceLT, Int.reduceEq, Int.reduceAdd, Int.reduceSub, Int.reduceMul, Int.reduceNeg, Int.reduceLT, Int.reduceLE, Int.reduceToNat, Int.reduceBEq, Int.reduceNe, reduceCtorEq, s.get]; omega)) only [go_sem, Nat.reduceBEq, Nat.reduceAdd, Nat.reduceMul, Nat.reduceSub, Nat.reduceEqDiff, Nat.reduceLeDiff, Nat.reduceLT, Int.reduceEq, Int.reduceAdd, Int.reduceSub, Int.reduceMul, Int.reduceNeg, Int.reduceLT, Int.reduceLE, Int.reduceToNat, Int.reduceBEq, Int.reduceNe, reduceCtorEq, w64_id, w8_id, w16_id, w32_id, tmod_pos, tdiv_pos, Bool.or_true, Bool.true_or, Bool.or_false, Bool.false_or, Bool.and_false, Bool.false_and, condK_decide, s.get]
  rw [runH_range Try.underlying62 (s.front 1).get]
  have s1 := Sat.nilS (sz := 2) (s.push (.mapIter (some mb) clk #[] clk))
  simp (maxSteps := 2000000) (disch := first | (simp only [go_sem, Nat.reduceBEq, Nat.reduceAdd, Nat.reduceMul, Nat.reduceSub, Nat.reduceEqDiff, Nat.reduceLeDiff, Nat.reduceLT, Int.reduceEq, Int.reduceAdd, Int.reduceSub, Int.reduceMul, Int.reduceNeg, Int.reduceLT, Int.reduceLE, Int.reduceToNat, Int.reduceBEq, Int.reduceNe, reduceCtorEq]; done) | omega | (simp only [go_sem, Nat.reduceBEq, Nat.reduceAdd, Nat.reduceMul, Nat.reduceSub, Nat.reduceEqDiff, Nat.reduceLeDiff, Nat.reduceLT, Int.reduceEq, Int.reduceAdd, Int.reduceSub, Int.reduceMul, Int.reduceNeg, Int.reduceLT, Int.reduceLE, Int.reduceToNat, Int.reduceBEq, Int.reduceNe, reduceCtorEq]; omega)) only [go_sem, Nat.reduceBEq, Nat.reduceAdd, Nat.reduceMul, Nat.reduceSub, Nat.reduceEqDiff, Nat.reduceLeDiff, Nat.reduceLT, Int.reduceEq, Int.reduceAdd, Int.reduceSub, Int.reduceMul, Int.reduceNeg, Int.reduceLT, Int.reduceLE, Int.reduceToNat, Int.reduceBEq, Int.reduceNe, reduceCtorEq, w64_id, w8_id, w16_id, w32_id, tmod_pos, tdiv_pos, Bool.or_true, Bool.true_or, Bool.or_false, Bool.false_or, Bool.and_false, Bool.false_and, condK_decide]
  refine loopH.intro (fun t : Value × List MapEntry => (.cons 3 (t.1) true (.cons 12 (.pointer (some ⟨h.size, 0, none⟩)) true .nil)))
    (fun t h' => Sat h' (sliceS 2 (gotR L t.2).length t.1 (refsL (gotR L t.2)) :: cellAt h.size (.mapIter (some mb) clk (t.2.map (·.born)).toArray clk) :: cellAt sb (.cells [.map (some mb)].toArray ty (0, 0)) :: cellAt mb (.map es clk) :: (Z.map nodeC ++ F)) ∧
      ∃ rest, (t.2 ++ rest).Perm es.toList) (fun t _ => es.toList.length + 1 - t.2.length) (.slice none 0 0, []) ?_ ⟨s1, es.toList, List.Perm.refl _⟩ ?_
  · simp (maxSteps := 2000000) (disch := first | (simp only [go_sem, Nat.reduceBEq, Nat.reduceAdd, Nat.reduceMul, Nat.reduceSub, Nat.reduceEqDiff, Nat.reduceLeDiff, Nat.reduceLT, Int.reduceEq, Int.reduceAdd, Int.reduceSub, Int.reduceMul, Int.reduceNeg, Int.reduceLT, Int.reduceLE, Int.reduceToNat, Int.reduceBEq, Int.reduceNe, reduceCtorEq]; done) | omega | (simp only [go_sem, Nat.reduceBEq, Nat.reduceAdd, Nat.reduceMul, Nat.reduceSub, Nat.reduceEqDiff, Nat.reduceLeDiff, Nat.reduceLT, Int.reduceEq, Int.reduceAdd, Int.reduceSub, Int.reduceMul, Int.reduceNeg, Int.reduceLT, Int.reduceLE, Int.reduceToNat, Int.reduceBEq, Int.reduceNe, reduceCtorEq]; omega)) only [go_sem, Nat.reduceBEq, Nat.reduceAdd, Nat.reduceMul, Nat.reduceSub, Nat.reduceEqDiff, Nat.reduceLeDiff, Nat.reduceLT, Int.reduceEq, Int.reduceAdd, Int.reduceSub, Int.reduceMul, Int.reduceNeg, Int.reduceLT, Int.reduceLE, Int.reduceToNat, Int.reduceBEq, Int.reduceNe, reduceCtorEq, w64_id, w8_id, w16_id, w32_id, tmod_pos, tdiv_pos, Bool.or_true, Bool.true_or, Bool.or_false, Bool.false_or, Bool.and_false, Bool.false_and, condK_decide]
  clear s1 s hs
  rintro ⟨v, done⟩ h2 ⟨s, rest, hp⟩
  simp only at s hp
  obtain ⟨sl2, cap2, rfl, -⟩ := s.elems
  have hlen : (gotR L done).length ≤ 16 * 1024 := by
    have h1 : gotR L (done ++ rest) = gotR L done ++ gotR L rest := by unfold gotR; rw [List.map_append, List.flatMap_append]
    have h2 : (gotR L (done ++ rest)).Perm (gotR L es.toList) := (hp.map keyI).flatMap_right _
    have h3 := (h2.trans hfp).length_eq
    rw [h1, List.length_append] at h3
    omega
  simp (maxSteps := 2000000) (disch := first | (simp only [go_sem, Nat.reduceBEq, Nat.reduceAdd, Nat.reduceMul, Nat.reduceSub, Nat.reduceEqDiff, Nat.reduceLeDiff, Nat.reduceLT, Int.reduceEq, Int.reduceAdd, Int.reduceSub, Int.reduceMul, Int.reduceNeg, Int.reduceLT, Int.reduceLE, Int.reduceToNat, Int.reduceBEq, Int.reduceNe, reduceCtorEq]; done) | omega | (simp only [go_sem, Nat.reduceBEq, Nat.reduceAdd, Nat.reduceMul, Nat.reduceSub, Nat.reduceEqDiff, Nat.reduceLeDiff, Nat.reduceLT, Int.reduceEq, Int.reduceAdd, Int.reduceSub, Int.reduceMul, Int.reduceNeg, Int.reduceLT, Int.reduceLE, Int.reduceToNat, Int.reduceBEq, Int.reduceNe, reduceCtorEq]; omega)) only [go_sem, Nat.reduceBEq, Nat.reduceAdd, Nat.reduceMul, Nat.reduceSub, Nat.reduceEqDiff, Nat.reduceLeDiff, Nat.reduceLT, Int.reduceEq, Int.reduceAdd, Int.reduceSub, Int.reduceMul, Int.reduceNeg, Int.reduceLT, Int.reduceLE, Int.reduceToNat, Int.reduceBEq, Int.reduceNe, reduceCtorEq, w64_id, w8_id, w16_id, w32_id, tmod_pos, tdiv_pos, Bool.or_true, Bool.true_or, Bool.or_false, Bool.false_or, Bool.and_false, Bool.false_and, condK_decide]
  refine runH_next (s.front 1).get (s.front 3).get p.mp.old ?_ ?_
  · intro hall
    have : rest = [] := iter_done hp p.mp.stamps (fun e he => by simpa using hall e he)
    subst this
    rw [List.append_nil] at hp
    simp (maxSteps := 2000000) (disch := first | (simp only [go_sem, Nat.reduceBEq, Nat.reduceAdd, Nat.reduceMul, Nat.reduceSub, Nat.reduceEqDiff, Nat.reduceLeDiff, Nat.reduceLT, Int.reduceEq, Int.reduceAdd, Int.reduceSub, Int.reduceMul, Int.reduceNeg, Int.reduceLT, Int.reduceLE, Int.reduceToNat, Int.reduceBEq, Int.reduceNe, reduceCtorEq]; done) | omega | (simp only [go_sem, Nat.reduceBEq, Nat.reduceAdd, Nat.reduceMul, Nat.reduceSub, Nat.reduceEqDiff, Nat.reduceLeDiff, Nat.reduceLT, Int.reduceEq, Int.reduceAdd, Int.reduceSub, Int.reduceMul, Int.reduceNeg, Int.reduceLT, Int.reduceLE, Int.reduceToNat, Int.reduceBEq, Int.reduceNe, reduceCtorEq]; omega)) only [go_sem, Nat.reduceBEq, Nat.reduceAdd, Nat.reduceMul, Nat.reduceSub, Nat.reduceEqDiff, Nat.reduceLeDiff, Nat.reduceLT, Int.reduceEq, Int.reduceAdd, Int.reduceSub, Int.reduceMul, Int.reduceNeg, Int.reduceLT, Int.reduceLE, Int.reduceToNat, Int.reduceBEq, Int.reduceNe, reduceCtorEq, w64_id, w8_id, w16_id, w32_id, tmod_pos, tdiv_pos, Bool.or_true, Bool.true_or, Bool.or_false, Bool.false_or, Bool.and_false, Bool.false_and, condK_decide]
    refine (hsort _ (gotR L done) _ _ s (by omega)).mono ?_
    rintro r h3 ⟨rfl, Y, y1, y2, s3⟩
    have hfin : Y = fullN L := sorted_unique (y1.trans (((hp.map keyI).flatMap_right (gRefs L)).trans hfp)) (fullN_sorted hw) y2
    subst hfin
    have hYl := y1.length_eq
    simp (maxSteps := 2000000) (disch := first | (simp only [go_sem, Nat.reduceBEq, Nat.reduceAdd, Nat.reduceMul, Nat.reduceSub, Nat.reduceEqDiff, Nat.reduceLeDiff, Nat.reduceLT, Int.reduceEq, Int.reduceAdd, Int.reduceSub, Int.reduceMul, Int.reduceNeg, Int.reduceLT, Int.reduceLE, Int.reduceToNat, Int.reduceBEq, Int.reduceNe, reduceCtorEq]; done) | omega | (simp only [go_sem, Nat.reduceBEq, Nat.reduceAdd, Nat.reduceMul, Nat.reduceSub, Nat.reduceEqDiff, Nat.reduceLeDiff, Nat.reduceLT, Int.reduceEq, Int.reduceAdd, Int.reduceSub, Int.reduceMul, Int.reduceNeg, Int.reduceLT, Int.reduceLE, Int.reduceToNat, Int.reduceBEq, Int.reduceNe, reduceCtorEq]; omega)) only [go_sem, Nat.reduceBEq, Nat.reduceAdd, Nat.reduceMul, Nat.reduceSub, Nat.reduceEqDiff, Nat.reduceLeDiff, Nat.reduceLT, Int.reduceEq, Int.reduceAdd, Int.reduceSub, Int.reduceMul, Int.reduceNeg, Int.reduceLT, Int.reduceLE, Int.reduceToNat, Int.reduceBEq, Int.reduceNe, reduceCtorEq, w64_id, w8_id, w16_id, w32_id, tmod_pos, tdiv_pos, Bool.or_true, Bool.true_or, Bool.or_false, Bool.false_or, Bool.and_false, Bool.false_and, condK_decide]
    refine hR _ _ ?_
    obtain ⟨a, b, k1, k2, k3, k4, k5⟩ := s3
    refine ⟨a, b, k1, k2, k3, k4, ?_⟩
    unfold spaceS
    exact SatP.ex.2 ⟨((mb, ty), (es, clk), Z), SatP.star.2 (SatP.pure.2 ⟨p, SatP.tail k5⟩)⟩
  · intro e he hne
    have hne2 : e.born ∉ done.map (·.born) := by simpa using hne
    obtain ⟨rest', hp'⟩ := iter_left hp p.mp.stamps he hne2
    obtain ⟨k, hk⟩ := Option.isSome_iff_exists.1 (p.mp.keys e he)
    have hkey := keyI_eq hk
    have hmo := mapOf_mem p.mp.nodup he hk
    rw [p.val k] at hmo
    have hff := findZ_fst Z k
    rw [p.fst] at hff
    obtain ⟨z, hz, hzv⟩ : ∃ z, findZ Z k = some z ∧ nodeV z = e.val := by
      cases hz : findZ Z k with
      | none => rw [hz] at hmo; cases hmo
      | some z => rw [hz] at hmo; exact ⟨z, rfl, by simpa using hmo⟩
    rw [hz] at hff
    have hfn : findN L k = some z.1 := hff.symm
    have hzL : z.1 ∈ L := List.mem_of_find?_eq_some hfn
    have hzI : z.1.I = k := by simpa using List.find?_some (p := fun n : Nd => n.I == k) hfn
    have wz := hw.1 z.1 hzL
    have w16 := wz.len16
    have s4 := (s.front 1).set (.mapIter (some mb) clk ((done.map (·.born)).toArray.push e.born) clk)
    have s4 := s4.swap
    have hent := runD_entry (P := Try.prog) s4.swap.get (s4.front 3).get p.mp.stamps he
    rw [hkey, ← hzv]
    unfold nodeV
    rw [hkey, ← hzv] at hent
    unfold nodeV at hent
    simp (maxSteps := 2000000) (disch := first | (simp only [go_sem, Nat.reduceBEq, Nat.reduceAdd, Nat.reduceMul, Nat.reduceSub, Nat.reduceEqDiff, Nat.reduceLeDiff, Nat.reduceLT, Int.reduceEq, Int.reduceAdd, Int.reduceSub, Int.reduceMul, Int.reduceNeg, Int.reduceLT, Int.reduceLE, Int.reduceToNat, Int.reduceBEq, Int.reduceNe, reduceCtorEq, hent]; done) | omega | (simp only [go_sem, Nat.reduceBEq, Nat.reduceAdd, Nat.reduceMul, Nat.reduceSub, Nat.reduceEqDiff, Nat.reduceLeDiff, Nat.reduceLT, Int.reduceEq, Int.reduceAdd, Int.reduceSub, Int.reduceMul, Int.reduceNeg, Int.reduceLT, Int.reduceLE, Int.reduceToNat, Int.reduceBEq, Int.reduceNe, reduceCtorEq, hent]; omega)) only [go_sem, Nat.reduceBEq, Nat.reduceAdd, Nat.reduceMul, Nat.reduceSub, Nat.reduceEqDiff, Nat.reduceLeDiff, Nat.reduceLT, Int.reduceEq, Int.reduceAdd, Int.reduceSub, Int.reduceMul, Int.reduceNeg, Int.reduceLT, Int.reduceLE, Int.reduceToNat, Int.reduceBEq, Int.reduceNe, reduceCtorEq, w64_id, w8_id, w16_id, w32_id, tmod_pos, tdiv_pos, Bool.or_true, Bool.true_or, Bool.or_false, Bool.false_or, Bool.and_false, Bool.false_and, condK_decide, hent]
    have hpush : (done.map (·.born)).toArray.push e.born = ((done ++ [e]).map (·.born)).toArray := by simp
    rw [hpush] at s4 ⊢
    clear s hent
    have hby : ∀ n, n ≤ 200009 → (2 * n + 1024) * (tbytes Try.prog (sliceElem Try.prog 41)).getD 0 ≤ 281474976710656 := fun n hn => by
      rw [selem_41, tbytes_27]; simp only [Option.getD_some]; omega
    have hgot := gotR_one (done := done) hk hfn
    have hzZ : z ∈ Z := List.mem_of_find?_eq_some hz
    generalize gotR L done = Y at *
    refine loopH.intro (fun t : Nat × Value => (.cons 3 (t.2) true (.cons 4 (.int .i64 k) true (.cons 12 (.pointer (some ⟨h.size, 0, none⟩)) true (.cons 18 (.slice (some ⟨z.2, 0, none⟩) z.1.S.length z.1.S.length) true (.cons 19 (.int .i64 z.1.S.length) true (.cons 20 (.int .i64 t.1) true .nil)))))))
      (fun t h' => Sat h' (sliceS 2 (Y ++ fullTo z.1 t.1).length t.2 (refsL (Y ++ fullTo z.1 t.1)) :: cellAt h.size (.mapIter (some mb) clk ((done ++ [e]).map (·.born)).toArray clk) :: cellAt sb (.cells [.map (some mb)].toArray ty (0, 0)) :: cellAt mb (.map es clk) :: (Z.map nodeC ++ F)) ∧ t.1 ≤ z.1.S.length) (fun t _ => z.1.S.length + 1 - t.1) (0, _) ?_ ⟨by simp only [fullTo, List.range_zero, List.flatMap_nil, List.append_nil]; exact s4, by simp⟩ ?_
    · simp (maxSteps := 2000000) (disch := first | (simp only [go_sem, Nat.reduceBEq, Nat.reduceAdd, Nat.reduceMul, Nat.reduceSub, Nat.reduceEqDiff, Nat.reduceLeDiff, Nat.reduceLT, Int.reduceEq, Int.reduceAdd, Int.reduceSub, Int.reduceMul, Int.reduceNeg, Int.reduceLT, Int.reduceLE, Int.reduceToNat, Int.reduceBEq, Int.reduceNe, reduceCtorEq]; done) | omega | (simp only [go_sem, Nat.reduceBEq, Nat.reduceAdd, Nat.reduceMul, Nat.reduceSub, Nat.reduceEqDiff, Nat.reduceLeDiff, Nat.reduceLT, Int.reduceEq, Int.reduceAdd, Int.reduceSub, Int.reduceMul, Int.reduceNeg, Int.reduceLT, Int.reduceLE, Int.reduceToNat, Int.reduceBEq, Int.reduceNe, reduceCtorEq]; omega)) only [go_sem, Nat.reduceBEq, Nat.reduceAdd, Nat.reduceMul, Nat.reduceSub, Nat.reduceEqDiff, Nat.reduceLeDiff, Nat.reduceLT, Int.reduceEq, Int.reduceAdd, Int.reduceSub, Int.reduceMul, Int.reduceNeg, Int.reduceLT, Int.reduceLE, Int.reduceToNat, Int.reduceBEq, Int.reduceNe, reduceCtorEq, w64_id, w8_id, w16_id, w32_id, tmod_pos, tdiv_pos, Bool.or_true, Bool.true_or, Bool.or_false, Bool.false_or, Bool.and_false, Bool.false_and, condK_decide]; rfl
    clear s4
    rintro ⟨j, v⟩ h3 ⟨s, hj⟩
    simp only at s hj
    obtain ⟨sl3, cap3, rfl, -⟩ := s.elems
    have c2 : h3[z.2]? = some (.cells (capsL z.1.S).toArray 24 (0, 0)) := by
      obtain ⟨X, W, hXW⟩ := List.append_of_mem hzZ
      have s9 := s.tail.tail.tail.tail
      rw [hXW] at s9
      have : Sat h3 (nodeC z :: ((X ++ W).map nodeC ++ F)) := s9.perm (by
        simp only [List.map_append, List.map_cons, List.append_assoc, List.cons_append]
        exact List.perm_middle)
      exact this.get
    have hlt := fullTo_len z.1 j
    by_cases q3 : j < z.1.S.length
    case neg =>
      have q4 : ¬ (j : Int) < z.1.S.length := by omega
      simp (maxSteps := 2000000) (disch := first | (simp only [go_sem, Nat.reduceBEq, Nat.reduceAdd, Nat.reduceMul, Nat.reduceSub, Nat.reduceEqDiff, Nat.reduceLeDiff, Nat.reduceLT, Int.reduceEq, Int.reduceAdd, Int.reduceSub, Int.reduceMul, Int.reduceNeg, Int.reduceLT, Int.reduceLE, Int.reduceToNat, Int.reduceBEq, Int.reduceNe, reduceCtorEq, q4]; done) | omega | (simp only [go_sem, Nat.reduceBEq, Nat.reduceAdd, Nat.reduceMul, Nat.reduceSub, Nat.reduceEqDiff, Nat.reduceLeDiff, Nat.reduceLT, Int.reduceEq, Int.reduceAdd, Int.reduceSub, Int.reduceMul, Int.reduceNeg, Int.reduceLT, Int.reduceLE, Int.reduceToNat, Int.reduceBEq, Int.reduceNe, reduceCtorEq, q4]; omega)) only [go_sem, Nat.reduceBEq, Nat.reduceAdd, Nat.reduceMul, Nat.reduceSub, Nat.reduceEqDiff, Nat.reduceLeDiff, Nat.reduceLT, Int.reduceEq, Int.reduceAdd, Int.reduceSub, Int.reduceMul, Int.reduceNeg, Int.reduceLT, Int.reduceLE, Int.reduceToNat, Int.reduceBEq, Int.reduceNe, reduceCtorEq, w64_id, w8_id, w16_id, w32_id, tmod_pos, tdiv_pos, Bool.or_true, Bool.true_or, Bool.or_false, Bool.false_or, Bool.and_false, Bool.false_and, condK_decide, q4]
      obtain rfl : j = z.1.S.length := by omega
      have hpl := hp'.length_eq
      rw [List.length_append, List.length_append, List.length_singleton] at hpl
      refine ⟨(_, done ++ [e]), rfl, ⟨?_, rest', hp'⟩, by simp only [List.length_append, List.length_singleton]; omega⟩
      simp only
      rw [hgot]
      exact s
    have q4 : (j : Int) < z.1.S.length := by omega
    have e4 := caps_cut (List.getElem?_eq_getElem q3)
    have hsl : slotR z.1 j = if z.1.S[j] = Cap.zero then [] else [(z.1.I, (j : Int))] := by
      unfold slotR
      rw [List.getElem?_eq_getElem q3]
    simp (maxSteps := 2000000) (disch := first | (simp only [go_sem, Nat.reduceBEq, Nat.reduceAdd, Nat.reduceMul, Nat.reduceSub, Nat.reduceEqDiff, Nat.reduceLeDiff, Nat.reduceLT, Int.reduceEq, Int.reduceAdd, Int.reduceSub, Int.reduceMul, Int.reduceNeg, Int.reduceLT, Int.reduceLE, Int.reduceToNat, Int.reduceBEq, Int.reduceNe, reduceCtorEq, q4, c2, e4]; done) | omega | (simp only [go_sem, Nat.reduceBEq, Nat.reduceAdd, Nat.reduceMul, Nat.reduceSub, Nat.reduceEqDiff, Nat.reduceLeDiff, Nat.reduceLT, Int.reduceEq, Int.reduceAdd, Int.reduceSub, Int.reduceMul, Int.reduceNeg, Int.reduceLT, Int.reduceLE, Int.reduceToNat, Int.reduceBEq, Int.reduceNe, reduceCtorEq, q4, c2, e4]; omega)) only [go_sem, Nat.reduceBEq, Nat.reduceAdd, Nat.reduceMul, Nat.reduceSub, Nat.reduceEqDiff, Nat.reduceLeDiff, Nat.reduceLT, Int.reduceEq, Int.reduceAdd, Int.reduceSub, Int.reduceMul, Int.reduceNeg, Int.reduceLT, Int.reduceLE, Int.reduceToNat, Int.reduceBEq, Int.reduceNe, reduceCtorEq, w64_id, w8_id, w16_id, w32_id, tmod_pos, tdiv_pos, Bool.or_true, Bool.true_or, Bool.or_false, Bool.false_or, Bool.and_false, Bool.false_and, condK_decide, q4, c2, e4]
    refine (empty_S z.1.S[j]).mono ?_
    rintro v k3 ⟨rfl, xk⟩
    have s6 := (s.grow (Ext.push _ _)).grow xk
    by_cases hzz : z.1.S[j] = Cap.zero
    · rw [if_pos hzz] at hsl
      simp (maxSteps := 2000000) (disch := first | (simp only [go_sem, Nat.reduceBEq, Nat.reduceAdd, Nat.reduceMul, Nat.reduceSub, Nat.reduceEqDiff, Nat.reduceLeDiff, Nat.reduceLT, Int.reduceEq, Int.reduceAdd, Int.reduceSub, Int.reduceMul, Int.reduceNeg, Int.reduceLT, Int.reduceLE, Int.reduceToNat, Int.reduceBEq, Int.reduceNe, reduceCtorEq, hzz]; done) | omega | (simp only [go_sem, Nat.reduceBEq, Nat.reduceAdd, Nat.reduceMul, Nat.reduceSub, Nat.reduceEqDiff, Nat.reduceLeDiff, Nat.reduceLT, Int.reduceEq, Int.reduceAdd, Int.reduceSub, Int.reduceMul, Int.reduceNeg, Int.reduceLT, Int.reduceLE, Int.reduceToNat, Int.reduceBEq, Int.reduceNe, reduceCtorEq, hzz]; omega)) only [go_sem, Nat.reduceBEq, Nat.reduceAdd, Nat.reduceMul, Nat.reduceSub, Nat.reduceEqDiff, Nat.reduceLeDiff, Nat.reduceLT, Int.reduceEq, Int.reduceAdd, Int.reduceSub, Int.reduceMul, Int.reduceNeg, Int.reduceLT, Int.reduceLE, Int.reduceToNat, Int.reduceBEq, Int.reduceNe, reduceCtorEq, w64_id, w8_id, w16_id, w32_id, tmod_pos, tdiv_pos, Bool.or_true, Bool.true_or, Bool.or_false, Bool.false_or, Bool.and_false, Bool.false_and, condK_decide, hzz]
      refine ⟨(j + 1, .slice sl3 (Y ++ fullTo z.1 j).length cap3), ?_, ⟨?_, by simp only; omega⟩, by simp only; omega⟩
      · rfl
      · simp only
        rw [fullTo_succ, hsl, List.append_nil]
        exact s6
    · rw [if_neg hzz] at hsl
      simp (maxSteps := 2000000) (disch := first | (simp only [go_sem, Nat.reduceBEq, Nat.reduceAdd, Nat.reduceMul, Nat.reduceSub, Nat.reduceEqDiff, Nat.reduceLeDiff, Nat.reduceLT, Int.reduceEq, Int.reduceAdd, Int.reduceSub, Int.reduceMul, Int.reduceNeg, Int.reduceLT, Int.reduceLE, Int.reduceToNat, Int.reduceBEq, Int.reduceNe, reduceCtorEq, hzz]; done) | omega | (simp only [go_sem, Nat.reduceBEq, Nat.reduceAdd, Nat.reduceMul, Nat.reduceSub, Nat.reduceEqDiff, Nat.reduceLeDiff, Nat.reduceLT, Int.reduceEq, Int.reduceAdd, Int.reduceSub, Int.reduceMul, Int.reduceNeg, Int.reduceLT, Int.reduceLE, Int.reduceToNat, Int.reduceBEq, Int.reduceNe, reduceCtorEq, hzz]; omega)) only [go_sem, Nat.reduceBEq, Nat.reduceAdd, Nat.reduceMul, Nat.reduceSub, Nat.reduceEqDiff, Nat.reduceLeDiff, Nat.reduceLT, Int.reduceEq, Int.reduceAdd, Int.reduceSub, Int.reduceMul, Int.reduceNeg, Int.reduceLT, Int.reduceLE, Int.reduceToNat, Int.reduceBEq, Int.reduceNe, reduceCtorEq, w64_id, w8_id, w16_id, w32_id, tmod_pos, tdiv_pos, Bool.or_true, Bool.true_or, Bool.or_false, Bool.false_or, Bool.and_false, Bool.false_and, condK_decide, hzz]
      have s7 := (s6.push (.cells [.int .i64 k, .int .i64 j].toArray 27 (0, 0))).swap
      refine Sat.append s7 (SrcAt.lit (n := 1) (s7.front 1).get rfl (refC_single (k, (j : Int)))) isSlice_41 ssz_41 (by kernel_rfl) (by kernel_rfl) (hby _ (by rw [List.length_append]; omega)) (by rw [List.length_append]; omega) ?_
      intro v5 h5 s5
      simp (maxSteps := 2000000) (disch := first | (simp only [go_sem, Nat.reduceBEq, Nat.reduceAdd, Nat.reduceMul, Nat.reduceSub, Nat.reduceEqDiff, Nat.reduceLeDiff, Nat.reduceLT, Int.reduceEq, Int.reduceAdd, Int.reduceSub, Int.reduceMul, Int.reduceNeg, Int.reduceLT, Int.reduceLE, Int.reduceToNat, Int.reduceBEq, Int.reduceNe, reduceCtorEq]; done) | omega | (simp only [go_sem, Nat.reduceBEq, Nat.reduceAdd, Nat.reduceMul, Nat.reduceSub, Nat.reduceEqDiff, Nat.reduceLeDiff, Nat.reduceLT, Int.reduceEq, Int.reduceAdd, Int.reduceSub, Int.reduceMul, Int.reduceNeg, Int.reduceLT, Int.reduceLE, Int.reduceToNat, Int.reduceBEq, Int.reduceNe, reduceCtorEq]; omega)) only [go_sem, Nat.reduceBEq, Nat.reduceAdd, Nat.reduceMul, Nat.reduceSub, Nat.reduceEqDiff, Nat.reduceLeDiff, Nat.reduceLT, Int.reduceEq, Int.reduceAdd, Int.reduceSub, Int.reduceMul, Int.reduceNeg, Int.reduceLT, Int.reduceLE, Int.reduceToNat, Int.reduceBEq, Int.reduceNe, reduceCtorEq, w64_id, w8_id, w16_id, w32_id, tmod_pos, tdiv_pos, Bool.or_true, Bool.true_or, Bool.or_false, Bool.false_or, Bool.and_false, Bool.false_and, condK_decide]
      refine ⟨(j + 1, v5), ?_, ⟨?_, by simp only; omega⟩, by simp only; omega⟩
      · try rw [w64_id (by omega) (by omega)]
        rfl
      · have e1 : Y ++ fullTo z.1 (j + 1) = (Y ++ fullTo z.1 j) ++ [(k, (j : Int))] := by rw [fullTo_succ, hsl, List.append_assoc, hzI]
        simp only
        rw [e1, refsL_append, refsL_one, List.length_append]
        exact s5.drop1
end
end Go.Eng
