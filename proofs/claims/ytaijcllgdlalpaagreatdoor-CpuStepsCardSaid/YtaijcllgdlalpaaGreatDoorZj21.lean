/-
  package vgic: the running priority; all.
-/
import Derived.Test.YtaijcllgdlalpaaGreatDoorZj20
import Derived.Test.YtaijcllgdlalpaaGreatDoorZj19
set_option linter.unusedSimpArgs false
set_option linter.unusedVariables false
set_option maxRecDepth 16000
set_option maxHeartbeats 4000000
namespace Go.Eng
open Go Go.Proofs
theorem howV_eq {x : Int × Bool} : howV x = .agg #[.int .i64 x.1, .bool x.2] := rfl
section
variable {h : Heap} {es : Array MapEntry} {c r : Nat} {f : Int → Option (Int × Bool)}
theorem lookV (o : mapO es c f) (g : h[r]? = some (.map es c)) (k : Int) : runD Tryz.prog (iLookup 146 (.map (some r)) (.int .i64 k) true) h = some (.tuple #[.agg #[.int .i64 ((f k).getD (0, false)).1, .bool ((f k).getD (0, false)).2], .bool (f k).isSome]) := by
  rw [runD_lookup (by rw [g]; exact o.keys) (by kernel_rfl), g, lookO_ok, o.val]
  cases f k with
  | none => kernel_rfl
  | some x => rfl
theorem lookV1 (o : mapO es c f) (g : h[r]? = some (.map es c)) (k : Int) : runD Tryz.prog (iLookup 146 (.map (some r)) (.int .i64 k) false) h = some (.agg #[.int .i64 ((f k).getD (0, false)).1, .bool ((f k).getD (0, false)).2]) := by
  rw [runD_lookup (by rw [g]; exact o.keys) (by kernel_rfl), g, lookO_some, o.val]
  cases f k with
  | none => kernel_rfl
  | some x => rfl
end
section
variable {h : Heap} {F : List SP} {vv : Value} {V : Vg}
/-- What is met of a map, so far. -/
def metR (V : Vg) (done : List MapEntry) (r : Int) : Prop := r ≤ 256 ∧ (∀ e ∈ done, ∀ a l, e.val = howV (a, l) → r ≤ a) ∧ (r = 256 ∨ ∃ e ∈ done, ∃ l, e.val = howV (r, l))
theorem running_S (hs : Sat h (vS vv (some V) :: F)) : HCalls Tryz.prog 147 #[vv] h fun v h' => v = .int .i64 (runV V 64) ∧ Sat h' (vS vv (some V) :: F) := by
  refine HCalls.via fun R hR => ?_
  obtain ⟨vb, x, rfl, ok, s⟩ := vS_some.1 hs
  have g := s.get
  simp only [vgicL, List.replicate, List.cons_append, List.nil_append] at g
  refine HCalls.of_dev T147 Tryz.func147 rfl mixed (by kernel_rfl) ?_; rw [Tryz.results147]
  simp (maxSteps := 2000000) (disch := first | (simp only [go_sem, simprocAttr, g] <;> omega) | omega) only [go_sem, simprocAttr, g]
  rw [runH_range Tryz.underlying146 (s.front 2).get]
  have s1 := s.push (.mapIter (some x.am) x.c2 #[] x.c2)
  simp (maxSteps := 2000000) (disch := first | (simp only [go_sem, simprocAttr] <;> omega) | omega) only [go_sem, simprocAttr]
  refine loopH.intro (fun t : Int × List MapEntry => (.cons 3 (.int .i64 t.1) true (.cons 10 (.pointer (some ⟨h.size, 0, none⟩)) true .nil)))
    (fun t h' => 0 ≤ t.1 ∧ metR V t.2 t.1 ∧ Sat h' (cellAt h.size (.mapIter (some x.am) x.c2 (t.2.map (·.born)).toArray x.c2) :: cellAt vb (.cells (vgicL x.l V.mask x.a x.b x.c x.pm x.am).toArray x.ty (0, 0)) :: cellAt x.pm (.map x.e1 x.c1) :: cellAt x.am (.map x.e2 x.c2) :: F) ∧
      ∃ rest, (t.2 ++ rest).Perm x.e2.toList) (fun t _ => x.e2.toList.length + 1 - t.2.length) (256, []) ?_ ⟨by decide, ⟨by decide, by simp, .inl rfl⟩, s1, x.e2.toList, List.Perm.refl _⟩ ?_
  · simp (maxSteps := 2000000) (disch := first | (simp only [go_sem, simprocAttr] <;> omega) | omega) only [go_sem, simprocAttr]
  clear s1 g
  rintro ⟨r, done⟩ h2 ⟨r0, ⟨m1, m2, m3⟩, s1, rest, hp⟩
  simp only at r0 m1 m2 m3 s1 hp
  simp (maxSteps := 2000000) (disch := first | (simp only [go_sem, simprocAttr] <;> omega) | omega) only [go_sem, simprocAttr]
  refine runH_next s1.get (s1.front 3).get ok.a.old ?_ ?_
  · intro hall
    have : rest = [] := iter_done hp ok.a.stamps (fun e he => by simpa using hall e he)
    subst this
    rw [List.append_nil] at hp
    simp (maxSteps := 2000000) (disch := first | (simp only [go_sem, simprocAttr] <;> omega) | omega) only [go_sem, simprocAttr]
    have hfin : r = runV V 64 := by
      refine minV_uniq (V := V) (n := 64) ⟨m1, fun k a l hk e => ?_, ?_⟩ (runV_min V 64)
      · have := ok.a.val k
        rw [e] at this
        obtain ⟨en, he, -, hv⟩ := mapOf_has this
        exact m2 en (hp.symm.subset he) a l hv
      · rcases m3 with q | ⟨en, he, l, hv⟩
        · exact .inl q
        · right
          have he := hp.subset he
          obtain ⟨k, hk⟩ := Option.isSome_iff_exists.1 (ok.a.keys en he)
          have hm := mapOf_mem ok.a.nodup he hk
          rw [ok.a.val k, hv] at hm
          cases hA : V.A k with
          | none => rw [hA] at hm; cases hm
          | some y =>
            obtain ⟨a, l2⟩ := y
            rw [hA] at hm
            have e2 : a = r := by
              simp only [Option.map_some, howV, Option.some.injEq, Value.agg.injEq] at hm
              have := congrArg (fun z : Array Value => z[0]?) hm
              simpa using this
            obtain ⟨k0, k1, -, -⟩ := ok.ok.a _ _ _ hA
            exact ⟨k.toNat, l2, by omega, by rw [show ((k.toNat : Nat) : Int) = k by omega, hA, e2]⟩
    rw [hfin]
    exact hR _ _ ⟨rfl, vS_some.2 ⟨vb, x, rfl, ok, s1.tail⟩⟩
  · intro e he hne
    have hne2 : e.born ∉ done.map (·.born) := by simpa using hne
    obtain ⟨rest', hp'⟩ := iter_left hp he hne2
    obtain ⟨k, hk⟩ := Option.isSome_iff_exists.1 (ok.a.keys e he)
    have hkey := keyI_eq hk
    have hmo := mapOf_mem ok.a.nodup he hk
    rw [ok.a.val k] at hmo
    obtain ⟨a, l, hA, hrv⟩ : ∃ a l, V.A k = some (a, l) ∧ e.val = howV (a, l) := by
      cases hz : V.A k with
      | none => rw [hz] at hmo; cases hmo
      | some z => rw [hz] at hmo; exact ⟨z.1, z.2, rfl, by simpa using hmo.symm⟩
    obtain ⟨-, -, a0, a1⟩ := ok.ok.a _ _ _ hA
    have s4 := s1.set (.mapIter (some x.am) x.c2 ((done.map (·.born)).toArray.push e.born) x.c2)
    have hent := runD_entry (P := Tryz.prog) s4.get (s4.front 3).get ok.a.stamps he
    rw [hkey, hrv, howV_eq] at hent
    rw [hkey, hrv, howV_eq]
    have s5 := s4.push (.cells #[.int .i64 0, .bool false] 143 (0, 0))
    simp only [Array.size_setIfInBounds] at s5
    have s6 := s5.set (.cells #[.int .i64 a, .bool l] 143 (0, 0))
    simp (maxSteps := 2000000) (disch := first | (simp only [go_sem, simprocAttr, hent, s5.get, s6.get] <;> omega) | omega) only [go_sem, simprocAttr, hent, s5.get, s6.get]
    have hpush : (done.map (·.born)).toArray.push e.born = ((done ++ [e]).map (·.born)).toArray := by simp
    rw [hpush] at s6 ⊢
    have hpl := hp'.length_eq
    rw [List.length_append, List.length_append, List.length_singleton] at hpl
    refine ⟨(min r a, done ++ [e]), rfl, ⟨by simp only; omega, ⟨by simp only; omega, ?_, ?_⟩, s6.tail, rest', hp'⟩, by simp only [List.length_append, List.length_singleton]; omega⟩
    · intro e' he' a' l' hv
      rcases List.mem_append.1 he' with q | q
      · have := m2 e' q a' l' hv
        simp only; omega
      · obtain rfl : e' = e := by simpa using q
        rw [hrv] at hv
        have e2 : a = a' := by
          simp only [howV, Value.agg.injEq] at hv
          have := congrArg (fun z : Array Value => z[0]?) hv
          simpa using this
        simp only; omega
    · simp only
      by_cases q : r ≤ a
      · rw [Int.min_eq_left q]
        rcases m3 with z | ⟨e', he', l', hv⟩
        · exact .inl z
        · exact .inr ⟨e', List.mem_append_left _ he', l', hv⟩
      · rw [Int.min_eq_right (by omega)]
        exact .inr ⟨e, by simp, l, hrv⟩
end
end Go.Eng
/-
  package vgic: all, in the order of the list registers; the next one.
-/
namespace Go.Eng
open Go Go.Proofs
section
variable {h : Heap} {F : List SP} {vv : Value} {V : Vg}
theorem is_S (i : Int) : HCalls Tryz.prog 56 #[.int .i64 i] h fun v h' => v = .bool (decide (0 ≤ i) && decide (i < 64)) ∧ h' = h := by
  refine HCalls.via fun R hR => ?_
  refine HCalls.of_dev T56 Tryz.func56 rfl mixed (by kernel_rfl) ?_; rw [Tryz.results56]
  by_cases c0 : 0 ≤ i
  · simp (maxSteps := 2000000) (disch := first | (simp only [go_sem, simprocAttr, c0] <;> omega) | omega) only [go_sem, simprocAttr, c0]
    by_cases c1 : i < 64
    · simp (maxSteps := 2000000) (disch := first | (simp only [go_sem, simprocAttr, c0, c1] <;> omega) | omega) only [go_sem, simprocAttr, c0, c1]
      exact hR _ _ ⟨by simp [c0, c1], rfl⟩
    · simp (maxSteps := 2000000) (disch := first | (simp only [go_sem, simprocAttr, c0, c1] <;> omega) | omega) only [go_sem, simprocAttr, c0, c1]
      exact hR _ _ ⟨by simp [c0, c1], rfl⟩
  · simp (maxSteps := 2000000) (disch := first | (simp only [go_sem, simprocAttr, c0] <;> omega) | omega) only [go_sem, simprocAttr, c0]
    exact hR _ _ ⟨by simp [c0], rfl⟩
theorem rawV_cr (V : Vg) (n : Nat) : Cr (rawV V n) := (rawV_up V n).imp fun {a b} h => cL_spec h
theorem lrL_append (A B : List Lr) : lrL (A ++ B) = lrL A ++ lrL B := List.flatMap_append ..
theorem oneV_at {k a : Int} {l : Bool} (h : V.A k = some (a, l)) : oneV V k = some ⟨k, a, l, (V.P k).isSome, true⟩ := by unfold oneV; rw [h]
theorem oneV_pt {k a : Int} {l : Bool} (h : V.A k = none) (h2 : V.P k = some (a, l)) : oneV V k = some ⟨k, a, l, true, false⟩ := by unfold oneV; rw [h, h2]
theorem oneV_nt {k : Int} (h : V.A k = none) (h2 : V.P k = none) : oneV V k = none := by unfold oneV; rw [h, h2]
theorem all_S (hs : Sat h (vS vv (some V) :: F)) : HCalls Tryz.prog 61 #[vv] h fun v h' => Sat h' (sliceS 5 (allV V).length v (lrL (allV V)) :: vS vv (some V) :: F) := by
  refine HCalls.via fun R hR => ?_
  obtain ⟨vb, x, rfl, ok, s⟩ := vS_some.1 hs
  refine HCalls.of_dev T61 Tryz.func61 rfl mixed (by kernel_rfl) ?_; rw [Tryz.results61]
  simp (maxSteps := 2000000) (disch := first | (simp only [go_sem, simprocAttr] <;> omega) | omega) only [go_sem, simprocAttr]
  refine loopH.intro (fun t : Nat × Value => (.cons 0 (.pointer (some ⟨vb, 0, none⟩)) true (.cons 3 (t.2) true (.cons 9 (.int .i64 t.1) true .nil))))
    (fun t h' => t.1 ≤ 64 ∧ Sat h' (sliceS 5 (rawV V t.1).length t.2 (lrL (rawV V t.1)) :: cellAt vb (.cells (vgicL x.l V.mask x.a x.b x.c x.pm x.am).toArray x.ty (0, 0)) :: cellAt x.pm (.map x.e1 x.c1) :: cellAt x.am (.map x.e2 x.c2) :: F)) (fun t _ => 65 - t.1) (0, .slice none 0 0) ?_ ⟨by simp only; omega, Sat.nilS s⟩ ?_
  · simp (maxSteps := 2000000) (disch := first | (simp only [go_sem, simprocAttr] <;> omega) | omega) only [go_sem, simprocAttr]
    try rfl
  clear hs s
  rintro ⟨i, v⟩ h2 ⟨hi, s⟩
  simp only at hi s
  obtain ⟨sl, cap, rfl, -⟩ := s.elems
  have rl := rawV_len V i
  by_cases q : i < 64
  case neg =>
    have q1 : ¬ (i : Int) < 64 := by omega
    obtain rfl : i = 64 := by omega
    simp (maxSteps := 2000000) (disch := first | (simp only [go_sem, simprocAttr, q1] <;> omega) | omega) only [go_sem, simprocAttr, q1]
    refine (stable_S (W := rawV V 64) (by omega) rfl (rawV_cr V 64) s).mono ?_
    rintro v h3 ⟨rfl, Z, p, o, s3⟩
    have e : Z = allV V := sorted_uniqL (p.trans (rawV_perm ok.ok)) (allV_up V) o
    subst e
    have el := p.length_eq
    simp (maxSteps := 2000000) (disch := first | (simp only [go_sem, simprocAttr] <;> omega) | omega) only [go_sem, simprocAttr]
    refine hR _ _ ?_
    rw [← el] at s3 ⊢
    exact Sat.swap (vS_some.2 ⟨vb, x, rfl, ok, s3.back 3⟩)
  have q1 : (i : Int) < 64 := by omega
  have g := (s.front 1).get
  simp only [vgicL, List.replicate, List.cons_append, List.nil_append] at g
  have lk := lookV ok.p (s.front 2).get i
  have s1 := s.push (.cells #[.int .i64 0, .bool false] 143 (0, 0))
  have s2 := s.push (.cells #[.int .i64 ((V.P i).getD (0, false)).1, .bool ((V.P i).getD (0, false)).2] 143 (0, 0))
  have lk2 := lookV ok.a (s2.front 4).get i
  have g1 := (s2.front 2).get
  simp only [vgicL, List.replicate, List.cons_append, List.nil_append] at g1
  have hby : ∀ n, n ≤ 200009 → (2 * n + 1024) * (tbytes Tryz.prog (sliceElem Tryz.prog 160)).getD 0 ≤ 281474976710656 := fun n hn => by
    rw [selem_160, tbytes_163]; simp only [Option.getD_some]; omega
  have rs := rawV_succ V i
  cases hA : V.A i with
  | some y =>
    obtain ⟨a, l⟩ := y
    rw [oneV_at hA] at rs
    rw [hA] at lk2
    simp (maxSteps := 2000000) (disch := first | (simp only [go_sem, simprocAttr, q1, g, lk, s1.get, g1, lk2] <;> omega) | omega) only [go_sem, simprocAttr, q1, g, lk, s1.get, g1, lk2]
    have s3 := ((s2.push (.cells #[.int .i64 a, .bool l] 143 (0, 0))).push (.cells (⟨i, a, l, (V.P i).isSome, true⟩ : Lr).cells.toArray 163 (0, 0))).front 3
    simp only [Lr.cells_eq, size_push'] at s3
    refine Sat.append s3 (SrcAt.lit (n := 1) (s3.front 1).get rfl (Lr.cells_single ⟨i, a, l, (V.P i).isSome, true⟩)) isSlice_160 ssz_160 (by kernel_rfl) (by kernel_rfl) (hby _ (by omega)) (by omega) ?_
    intro v5 h5 s5
    simp (maxSteps := 2000000) (disch := first | (simp only [go_sem, simprocAttr] <;> omega) | omega) only [go_sem, simprocAttr]
    refine ⟨(i + 1, v5), rfl, ⟨by simp only; omega, ?_⟩, by simp only; omega⟩
    try simp only
    rw [rs, List.length_append, lrL_append]
    exact s5.drop1.drop1.drop1
  | none =>
    cases hP : V.P i with
    | some y =>
      obtain ⟨a, l⟩ := y
      rw [oneV_pt hA hP] at rs
      rw [hA] at lk2
      simp only [hP, Option.getD_some, Option.isSome_some] at lk s2 g1 lk2
      simp (maxSteps := 2000000) (disch := first | (simp only [go_sem, simprocAttr, q1, g, lk, s1.get, g1, lk2] <;> omega) | omega) only [go_sem, simprocAttr, q1, g, lk, s1.get, g1, lk2]
      have s3 := ((s2.push (.cells #[.int .i64 0, .bool false] 143 (0, 0))).push (.cells (⟨i, a, l, true, false⟩ : Lr).cells.toArray 163 (0, 0))).front 3
      simp only [Lr.cells_eq, size_push'] at s3
      refine Sat.append s3 (SrcAt.lit (n := 1) (s3.front 1).get rfl (Lr.cells_single ⟨i, a, l, true, false⟩)) isSlice_160 ssz_160 (by kernel_rfl) (by kernel_rfl) (hby _ (by omega)) (by omega) ?_
      intro v5 h5 s5
      simp (maxSteps := 2000000) (disch := first | (simp only [go_sem, simprocAttr] <;> omega) | omega) only [go_sem, simprocAttr]
      refine ⟨(i + 1, v5), rfl, ⟨by simp only; omega, ?_⟩, by simp only; omega⟩
      try simp only
      rw [rs, List.length_append, lrL_append]
      exact s5.drop1.drop1.drop1
    | none =>
      rw [oneV_nt hA hP] at rs
      rw [hA] at lk2
      simp only [hP, Option.getD_none, Option.isSome_none] at lk s2 g1 lk2
      simp (maxSteps := 2000000) (disch := first | (simp only [go_sem, simprocAttr, q1, g, lk, s1.get, g1, lk2] <;> omega) | omega) only [go_sem, simprocAttr, q1, g, lk, s1.get, g1, lk2]
      have s3 := (s2.push (.cells #[.int .i64 0, .bool false] 143 (0, 0))).front 2
      simp only [size_push'] at s3
      refine ⟨(i + 1, _), rfl, ⟨by simp only; omega, ?_⟩, by simp only; omega⟩
      try simp only
      rw [rs, Option.toList_none, List.append_nil]
      exact s3.drop1.drop1
end
end Go.Eng
