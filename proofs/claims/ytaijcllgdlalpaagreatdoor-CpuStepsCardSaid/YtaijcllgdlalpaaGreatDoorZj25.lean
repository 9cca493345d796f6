/-
  viceroyref08: Ack, End, Inject.
-/
import Derived.Test.YtaijcllgdlalpaaGreatDoorZj24
set_option linter.unusedSimpArgs false
set_option linter.unusedVariables false
set_option maxRecDepth 16000
set_option maxHeartbeats 4000000
namespace Go.Eng
open Go Go.Proofs
theorem relV_get {V : Vg} {D : List One} (r : relV V D) {k : Int} (h0 : 0 ≤ k) (h1 : k < 64) : ∃ (n : Nat) (o : One), k = n ∧ n < 64 ∧ D[n]? = some o ∧ relO V k o :=
  ⟨k.toNat, D[k.toNat]'(by rw [r.len]; omega), by omega, by omega, List.getElem?_eq_getElem _, by
    have := r.one k.toNat _ (List.getElem?_eq_getElem (by rw [r.len]; omega))
    rwa [show ((k.toNat : Nat) : Int) = k by omega] at this⟩
theorem relV_put {V V' : Vg} {D : List One} (r : relV V D) {n : Nat} {o : One} (hn : n < 64) (ok : V'.ok) (ho : relO V' n o) (h : ∀ k : Int, k ≠ n → V'.P k = V.P k ∧ V'.A k = V.A k) : relV V' (D.set n o) := by
  refine ⟨by rw [List.length_set]; exact r.len, fun k o' hk => ?_, ok⟩
  rw [List.getElem?_set] at hk
  by_cases q : n = k
  · subst q
    rw [if_pos rfl, if_pos (by rw [r.len]; exact hn)] at hk
    cases hk
    exact ho
  · rw [if_neg q] at hk
    obtain ⟨h1, h2⟩ := h k (by omega)
    have := r.one k o' hk
    exact ⟨by rw [h1]; exact this.pe, by rw [h2]; exact this.ac, by rw [h1]; exact this.p, by rw [h2]; exact this.a⟩
section
variable {D : List One} {lr m a b c : Int} {ty : TypeId} {n j : Nat} {o1 o2 : One} {v : Value}
theorem rvL_set2 (hD : D.length = 64) (hn : n < 64) (hj : j < 7) (ho : o1.cells.set j v = o2.cells) : (rvL (D.set n o1) lr m a b c).set (n * 7 + j) v = rvL (D.set n o2) lr m a b c := by
  have h1 : (D.set n o1)[n]? = some o1 := by rw [List.getElem?_set, if_pos rfl, if_pos (by rw [hD]; exact hn)]
  rw [rvL_set h1 hj ho, List.set_set]
theorem rvL_lt (hD : D.length = 64) (hn : n < 64) (hj : j < 7) : n * 7 + j < (rvL (D.set n o1) lr m a b c).length := by
  rw [rvL_len _ _ _ _ _ _ (by rw [List.length_set]; exact hD)]; omega
theorem rvL_lt0 (hD : D.length = 64) (hn : n < 64) (hj : j < 7) : n * 7 + j < (rvL D lr m a b c).length := by
  rw [rvL_len _ _ _ _ _ _ hD]; omega
theorem rvL_lt4 (hD : D.length = 64) (hj : j < 453) : j < (rvL (D.set n o1) lr m a b c).length := by
  rw [rvL_len _ _ _ _ _ _ (by rw [List.length_set]; exact hD)]; exact hj
theorem rvL_at1 {k : Nat} {o : One} (hk : D[k]? = some o) (hj : j < 7) : nthL (rvL D lr m a b c) (k * 7 + j) = o.cells[j]? := by
  have := rvL_at (lr := lr) (m := m) (a := a) (b := b) (c := c) (ty := 0) hk hj
  rw [hcellO_arr, List.getElem?_toArray] at this
  rw [nthL_eq]; exact this
theorem rvL_at2 (hD : D.length = 64) (hn : n < 64) (hj : j < 7) : nthL (rvL (D.set n o1) lr m a b c) (n * 7 + j) = o1.cells[j]? :=
  rvL_at1 (by rw [List.getElem?_set, if_pos rfl, if_pos (by rw [hD]; exact hn)]) hj
theorem rvL_at4 (hD : D.length = 64) : nthL (rvL (D.set n o1) lr m a b c) (448 + j) = [Value.int .i64 lr, .int .i64 m, .int .i64 a, .int .i64 b, .int .i64 c][j]? := by
  rw [nthL_eq]
  exact rvL_tail (by rw [List.length_set]; exact hD) j
end
section
variable {h : Heap} {F : List SP} {wv : Value} {V : Vg}
theorem ris_S (i : Int) : HCalls Tryz.prog 57 #[.int .i64 i] h fun v h' => v = .bool (decide (0 ≤ i) && decide (i < 64)) ∧ h' = h := by
  refine HCalls.via fun R hR => ?_
  refine HCalls.of_dev T57 Tryz.func57 rfl mixed (by kernel_rfl) ?_; rw [Tryz.results57]
  by_cases c0 : 0 ≤ i
  · simp (maxSteps := 2000000) (disch := first | (simp only [go_sem, simprocAttr, c0] <;> omega) | omega) only [go_sem, simprocAttr, c0]
    by_cases c1 : i < 64
    · simp (maxSteps := 2000000) (disch := first | (simp only [go_sem, simprocAttr, c0, c1] <;> omega) | omega) only [go_sem, simprocAttr, c0, c1]
      exact hR _ _ ⟨by simp [c0, c1], rfl⟩
    · simp (maxSteps := 2000000) (disch := first | (simp only [go_sem, simprocAttr, c0, c1] <;> omega) | omega) only [go_sem, simprocAttr, c0, c1]
      exact hR _ _ ⟨by simp [c0, c1], rfl⟩
  · simp (maxSteps := 2000000) (disch := first | (simp only [go_sem, simprocAttr, c0] <;> omega) | omega) only [go_sem, simprocAttr, c0]
    exact hR _ _ ⟨by simp [c0], rfl⟩
theorem rack_S (hs : Sat h (rvS wv (some V) :: F)) : HCalls Tryz.prog 110 #[wv] h fun v h' => v = .int .i64 (ackV V).2 ∧ Sat h' (rvS wv (some (ackV V).1) :: F) := by
  refine HCalls.via fun R hR => ?_
  refine HCalls.of_dev T110 Tryz.func110 rfl mixed (by kernel_rfl) ?_; rw [Tryz.results110]
  simp (maxSteps := 2000000) (disch := first | (simp only [go_sem, simprocAttr] <;> omega) | omega) only [go_sem, simprocAttr]
  refine (rnext_S hs).mono ?_
  rintro v h1 ⟨rfl, s1⟩
  obtain ⟨wb, x, rfl, rel, s⟩ := rvS_some.1 s1
  have aok := ackV_ok rel.ok
  unfold ackV at hR aok
  cases hn : nextV V with
  | none =>
    rw [hn] at hR
    simp (maxSteps := 2000000) (disch := first | (simp only [go_sem, simprocAttr] <;> omega) | omega) only [go_sem, simprocAttr]
    exact hR _ _ ⟨rfl, s1⟩
  | some k =>
    rw [hn] at hR aok
    obtain ⟨k0, k1, hA, p, l, hP⟩ := nextV_is rel.ok hn
    obtain ⟨n, o, rfl, n1, ho, ro⟩ := relV_get rel k0 k1
    obtain ⟨op, ol⟩ := ro.p p l hP
    have hl := rel.len
    have g := s.get
    have ok4 := rvL_acked (D := x.D.set n ⟨false, true, o.P, o.P, o.L, o.L⟩) (lr := x.lr) (m := V.mask) (a := x.a) (b := x.b) (c := x.c) (k := IntKind.i64.wrap (x.b + 1)) (by rw [List.length_set]; exact hl)
    have e1 := rvL_set (lr := x.lr) (m := V.mask) (a := x.a) (b := x.b) (c := x.c) ho (j := 1) (v := .bool false) (o' := ⟨false, o.Ac, o.P, o.A, o.L, o.Fl⟩) (by decide) rfl
    have e2 := rvL_set2 (lr := x.lr) (m := V.mask) (a := x.a) (b := x.b) (c := x.c) hl n1 (j := 2) (v := .bool true) (o1 := ⟨false, o.Ac, o.P, o.A, o.L, o.Fl⟩) (o2 := ⟨false, true, o.P, o.A, o.L, o.Fl⟩) (by decide) rfl
    have e3 := rvL_set2 (lr := x.lr) (m := V.mask) (a := x.a) (b := x.b) (c := x.c) hl n1 (j := 4) (v := .int .i64 o.P) (o1 := ⟨false, true, o.P, o.A, o.L, o.Fl⟩) (o2 := ⟨false, true, o.P, o.P, o.L, o.Fl⟩) (by decide) rfl
    have e4 := rvL_set2 (lr := x.lr) (m := V.mask) (a := x.a) (b := x.b) (c := x.c) hl n1 (j := 6) (v := .bool o.L) (o1 := ⟨false, true, o.P, o.P, o.L, o.Fl⟩) (o2 := ⟨false, true, o.P, o.P, o.L, o.L⟩) (by decide) rfl
    have s2 := s.set (.cells (rvL (x.D.set n ⟨false, o.Ac, o.P, o.A, o.L, o.Fl⟩) x.lr V.mask x.a x.b x.c).toArray x.ty (0, 0))
    have s3 := s2.set (.cells (rvL (x.D.set n ⟨false, true, o.P, o.A, o.L, o.Fl⟩) x.lr V.mask x.a x.b x.c).toArray x.ty (0, 0))
    have s4 := s3.set (.cells (rvL (x.D.set n ⟨false, true, o.P, o.P, o.L, o.Fl⟩) x.lr V.mask x.a x.b x.c).toArray x.ty (0, 0))
    have s5 := s4.set (.cells (rvL (x.D.set n ⟨false, true, o.P, o.P, o.L, o.L⟩) x.lr V.mask x.a x.b x.c).toArray x.ty (0, 0))
    have s6 := s5.set (.cells (rvL (x.D.set n ⟨false, true, o.P, o.P, o.L, o.L⟩) x.lr V.mask x.a (IntKind.i64.wrap (x.b + 1)) x.c).toArray x.ty (0, 0))
    have b1 : n * 7 + 1 < (rvL x.D x.lr V.mask x.a x.b x.c).length := rvL_lt0 hl n1 (by decide)
    have b2 : n * 7 + 2 < (rvL (x.D.set n ⟨false, o.Ac, o.P, o.A, o.L, o.Fl⟩) x.lr V.mask x.a x.b x.c).length := rvL_lt hl n1 (by decide)
    have b3 : n * 7 + 4 < (rvL (x.D.set n ⟨false, true, o.P, o.A, o.L, o.Fl⟩) x.lr V.mask x.a x.b x.c).length := rvL_lt hl n1 (by decide)
    have b4 : n * 7 + 6 < (rvL (x.D.set n ⟨false, true, o.P, o.P, o.L, o.Fl⟩) x.lr V.mask x.a x.b x.c).length := rvL_lt hl n1 (by decide)
    have b5 : 451 < (rvL (x.D.set n ⟨false, true, o.P, o.P, o.L, o.L⟩) x.lr V.mask x.a x.b x.c).length := rvL_lt4 hl (by decide)
    have c3 : nthL (rvL (x.D.set n ⟨false, true, o.P, o.A, o.L, o.Fl⟩) x.lr V.mask x.a x.b x.c) (n * 7 + 3) = some (.int .i64 o.P) := rvL_at2 hl n1 (by decide)
    have c4 : nthL (rvL (x.D.set n ⟨false, true, o.P, o.P, o.L, o.Fl⟩) x.lr V.mask x.a x.b x.c) (n * 7 + 5) = some (.bool o.L) := rvL_at2 hl n1 (by decide)
    have c5 : nthL (rvL (x.D.set n ⟨false, true, o.P, o.P, o.L, o.L⟩) x.lr V.mask x.a x.b x.c) 451 = some (.int .i64 x.b) := rvL_at4 (j := 3) hl
    simp (maxSteps := 2000000) (disch := first | (simp only [go_sem, simprocAttr, g, b1, e1, s2.get, b2, e2, s3.get, c3, b3, e3, s4.get, c4, b4, e4, s5.get, c5, b5, ok4] <;> omega) | omega) only [go_sem, simprocAttr, g, b1, e1, s2.get, b2, e2, s3.get, c3, b3, e3, s4.get, c4, b4, e4, s5.get, c5, b5, ok4]
    refine hR _ _ ⟨rfl, rvS_some.2 ⟨wb, ⟨x.D.set n ⟨false, true, o.P, o.P, o.L, o.L⟩, x.lr, x.a, IntKind.i64.wrap (x.b + 1), x.c, x.ty⟩, rfl, relV_put rel n1 aok ⟨?_, ?_, ?_, ?_⟩ ?_, s6⟩⟩
    · simp only [setF, if_true]; rfl
    · simp only [setF, if_true, hP]; rfl
    · intro a b e; simp only [setF, if_true] at e; cases e
    · intro a b e
      simp only [setF, if_true, hP] at e
      cases e
      exact ⟨op, ol⟩
    · intro j hj
      simp only [setF, if_neg hj]
      exact ⟨trivial, trivial⟩
theorem rend_S (hs : Sat h (rvS wv (some V) :: F)) (id : Int) : HCalls Tryz.prog 111 #[wv, .int .i64 id] h fun v h' => (∃ e, v = .tuple #[.bool (endV V id).2, .int .i64 e]) ∧ Sat h' (rvS wv (some (endV V id).1) :: F) := by
  refine HCalls.via fun R hR => ?_
  obtain ⟨wb, x, rfl, rel, s⟩ := rvS_some.1 hs
  have eok := endV_ok rel.ok id
  unfold endV at hR eok
  refine HCalls.of_dev T111 Tryz.func111 rfl mixed (by kernel_rfl) ?_; rw [Tryz.results111]
  simp (maxSteps := 2000000) (disch := first | (simp only [go_sem, simprocAttr] <;> omega) | omega) only [go_sem, simprocAttr]
  refine (ris_S id).mono ?_
  rintro v h1 ⟨rfl, rfl⟩
  by_cases c : 0 ≤ id ∧ id < 64
  case neg =>
    have hA : V.A id = none := by
      cases e : V.A id with
      | none => rfl
      | some y => obtain ⟨q1, q2, -⟩ := rel.ok.a id y.1 y.2 e; exact absurd ⟨q1, q2⟩ c
    rw [hA] at hR
    rw [show (decide (0 ≤ id) && decide (id < 64)) = false by rw [Bool.and_eq_false_iff, decide_eq_false_iff_not, decide_eq_false_iff_not]; omega]
    simp (maxSteps := 2000000) (disch := first | (simp only [go_sem, simprocAttr] <;> omega) | omega) only [go_sem, simprocAttr]
    exact hR _ _ ⟨⟨_, rfl⟩, hs⟩
  obtain ⟨i0, i1⟩ := c
  obtain ⟨n, o, rfl, n1, ho, ro⟩ := relV_get rel i0 i1
  rw [decide_eq_true i0, decide_eq_true i1]
  have hl := rel.len
  have g := s.get
  have c2 : nthL (rvL x.D x.lr V.mask x.a x.b x.c) (n * 7 + 2) = some (.bool o.Ac) := rvL_at1 ho (by decide)
  have ac := ro.ac
  cases hA : V.A n with
  | none =>
    rw [hA] at hR ac
    rw [Option.isSome_none] at ac
    rw [ac] at c2
    simp (maxSteps := 2000000) (disch := first | (simp only [go_sem, simprocAttr, g, c2] <;> omega) | omega) only [go_sem, simprocAttr, g, c2]
    exact hR _ _ ⟨⟨_, rfl⟩, hs⟩
  | some y =>
    obtain ⟨a, l⟩ := y
    rw [hA] at hR ac eok
    rw [Option.isSome_some] at ac
    rw [ac] at c2
    obtain ⟨oa, rfl⟩ := ro.a a l hA
    have e1 := rvL_set (lr := x.lr) (m := V.mask) (a := x.a) (b := x.b) (c := x.c) ho (j := 2) (v := .bool false) (o' := ⟨o.Pe, false, o.P, o.A, o.L, o.Fl⟩) (by decide) rfl
    have ok4 := rvL_ended (D := x.D.set n ⟨o.Pe, false, o.P, o.A, o.L, o.Fl⟩) (lr := x.lr) (m := V.mask) (a := x.a) (b := x.b) (c := x.c) (k := IntKind.i64.wrap (x.c + 1)) (by rw [List.length_set]; exact hl)
    have s2 := s.set (.cells (rvL (x.D.set n ⟨o.Pe, false, o.P, o.A, o.L, o.Fl⟩) x.lr V.mask x.a x.b x.c).toArray x.ty (0, 0))
    have s3 := s2.set (.cells (rvL (x.D.set n ⟨o.Pe, false, o.P, o.A, o.L, o.Fl⟩) x.lr V.mask x.a x.b (IntKind.i64.wrap (x.c + 1))).toArray x.ty (0, 0))
    have b1 : n * 7 + 2 < (rvL x.D x.lr V.mask x.a x.b x.c).length := rvL_lt0 hl n1 (by decide)
    have b5 : 452 < (rvL (x.D.set n ⟨o.Pe, false, o.P, o.A, o.L, o.Fl⟩) x.lr V.mask x.a x.b x.c).length := rvL_lt4 hl (by decide)
    have c5 : nthL (rvL (x.D.set n ⟨o.Pe, false, o.P, o.A, o.L, o.Fl⟩) x.lr V.mask x.a x.b x.c) 452 = some (.int .i64 x.c) := rvL_at4 (j := 4) hl
    have c6 : nthL (rvL (x.D.set n ⟨o.Pe, false, o.P, o.A, o.L, o.Fl⟩) x.lr V.mask x.a x.b (IntKind.i64.wrap (x.c + 1))) (n * 7 + 6) = some (.bool o.Fl) := rvL_at2 hl n1 (by decide)
    simp (maxSteps := 2000000) (disch := first | (simp only [go_sem, simprocAttr, g, c2, b1, e1, s2.get, c5, b5, ok4, s3.get, c6] <;> omega) | omega) only [go_sem, simprocAttr, g, c2, b1, e1, s2.get, c5, b5, ok4, s3.get, c6]
    refine hR _ _ ⟨⟨_, rfl⟩, rvS_some.2 ⟨wb, ⟨x.D.set n ⟨o.Pe, false, o.P, o.A, o.L, o.Fl⟩, x.lr, x.a, x.b, IntKind.i64.wrap (x.c + 1), x.ty⟩, rfl, relV_put rel n1 eok ⟨ro.pe, ?_, ro.p, ?_⟩ ?_, s3⟩⟩
    · simp only [setF, if_true]; rfl
    · intro a b e; simp only [setF, if_true] at e; cases e
    · intro j hj
      simp only [setF, if_neg hj]
      exact ⟨trivial, trivial⟩
theorem rinject_S (hs : Sat h (rvS wv (some V) :: F)) (id p : Int) (l : Bool) : HCalls Tryz.prog 20 #[wv, .int .i64 id, .int .i64 p, .bool l] h fun v h' => v = .int .i64 (injV V id p l).2 ∧ Sat h' (rvS wv (some (injV V id p l).1) :: F) := by
  refine HCalls.via fun R hR => ?_
  obtain ⟨wb, x, rfl, rel, s⟩ := rvS_some.1 hs
  have iok := injV_ok rel.ok id p l
  unfold injV at hR iok
  refine HCalls.of_dev T20 Tryz.func20 rfl mixed (by kernel_rfl) ?_; rw [Tryz.results20]
  simp (maxSteps := 2000000) (disch := first | (simp only [go_sem, simprocAttr] <;> omega) | omega) only [go_sem, simprocAttr]
  refine (ris_S id).mono ?_
  rintro v h1 ⟨rfl, rfl⟩
  by_cases c : id < 0 ∨ 64 ≤ id ∨ p < 0 ∨ 256 ≤ p
  · simp only [if_pos c] at hR
    by_cases c1 : 0 ≤ id
    · by_cases c2 : id < 64
      · by_cases c3 : p < 0
        · simp (maxSteps := 2000000) (disch := first | (simp only [go_sem, simprocAttr, c1, c2, c3] <;> omega) | omega) only [go_sem, simprocAttr, c1, c2, c3]
          exact hR _ _ ⟨rfl, hs⟩
        · have c4 : 255 < p := by omega
          simp (maxSteps := 2000000) (disch := first | (simp only [go_sem, simprocAttr, c1, c2, c3, c4] <;> omega) | omega) only [go_sem, simprocAttr, c1, c2, c3, c4]
          exact hR _ _ ⟨rfl, hs⟩
      · simp (maxSteps := 2000000) (disch := first | (simp only [go_sem, simprocAttr, c1, c2] <;> omega) | omega) only [go_sem, simprocAttr, c1, c2]
        exact hR _ _ ⟨rfl, hs⟩
    · simp (maxSteps := 2000000) (disch := first | (simp only [go_sem, simprocAttr, c1] <;> omega) | omega) only [go_sem, simprocAttr, c1]
      exact hR _ _ ⟨rfl, hs⟩
  simp only [if_neg c] at hR iok
  have c1 : 0 ≤ id := by omega
  have c2 : id < 64 := by omega
  have c3 : ¬ p < 0 := by omega
  have c4 : ¬ 255 < p := by omega
  obtain ⟨n, o, rfl, n1, ho, ro⟩ := relV_get rel c1 c2
  have hl := rel.len
  have g := s.get
  have d1 : nthL (rvL x.D x.lr V.mask x.a x.b x.c) (n * 7 + 1) = some (.bool o.Pe) := rvL_at1 ho (by decide)
  have pe := ro.pe
  cases hP : V.P n with
  | some y =>
    rw [hP] at hR pe
    rw [Option.isSome_some] at pe
    rw [pe] at d1
    simp (maxSteps := 2000000) (disch := first | (simp only [go_sem, simprocAttr, c1, c2, c3, c4, g, d1] <;> omega) | omega) only [go_sem, simprocAttr, c1, c2, c3, c4, g, d1]
    exact hR _ _ ⟨rfl, hs⟩
  | none =>
    rw [hP] at hR iok pe
    rw [Option.isSome_none] at pe
    rw [pe] at d1
    have e1 := rvL_set (lr := x.lr) (m := V.mask) (a := x.a) (b := x.b) (c := x.c) ho (j := 1) (v := .bool true) (o' := ⟨true, o.Ac, o.P, o.A, o.L, o.Fl⟩) (by decide) rfl
    have e2 := rvL_set2 (lr := x.lr) (m := V.mask) (a := x.a) (b := x.b) (c := x.c) hl n1 (j := 3) (v := .int .i64 p) (o1 := ⟨true, o.Ac, o.P, o.A, o.L, o.Fl⟩) (o2 := ⟨true, o.Ac, p, o.A, o.L, o.Fl⟩) (by decide) rfl
    have e3 := rvL_set2 (lr := x.lr) (m := V.mask) (a := x.a) (b := x.b) (c := x.c) hl n1 (j := 5) (v := .bool l) (o1 := ⟨true, o.Ac, p, o.A, o.L, o.Fl⟩) (o2 := ⟨true, o.Ac, p, o.A, l, o.Fl⟩) (by decide) rfl
    have ok4 := rvL_inj (D := x.D.set n ⟨true, o.Ac, p, o.A, l, o.Fl⟩) (lr := x.lr) (m := V.mask) (a := x.a) (b := x.b) (c := x.c) (k := IntKind.i64.wrap (x.a + 1)) (by rw [List.length_set]; exact hl)
    have s2 := s.set (.cells (rvL (x.D.set n ⟨true, o.Ac, o.P, o.A, o.L, o.Fl⟩) x.lr V.mask x.a x.b x.c).toArray x.ty (0, 0))
    have s3 := s2.set (.cells (rvL (x.D.set n ⟨true, o.Ac, p, o.A, o.L, o.Fl⟩) x.lr V.mask x.a x.b x.c).toArray x.ty (0, 0))
    have s4 := s3.set (.cells (rvL (x.D.set n ⟨true, o.Ac, p, o.A, l, o.Fl⟩) x.lr V.mask x.a x.b x.c).toArray x.ty (0, 0))
    have s5 := s4.set (.cells (rvL (x.D.set n ⟨true, o.Ac, p, o.A, l, o.Fl⟩) x.lr V.mask (IntKind.i64.wrap (x.a + 1)) x.b x.c).toArray x.ty (0, 0))
    have b1 : n * 7 + 1 < (rvL x.D x.lr V.mask x.a x.b x.c).length := rvL_lt0 hl n1 (by decide)
    have b2 : n * 7 + 3 < (rvL (x.D.set n ⟨true, o.Ac, o.P, o.A, o.L, o.Fl⟩) x.lr V.mask x.a x.b x.c).length := rvL_lt hl n1 (by decide)
    have b3 : n * 7 + 5 < (rvL (x.D.set n ⟨true, o.Ac, p, o.A, o.L, o.Fl⟩) x.lr V.mask x.a x.b x.c).length := rvL_lt hl n1 (by decide)
    have b5 : 450 < (rvL (x.D.set n ⟨true, o.Ac, p, o.A, l, o.Fl⟩) x.lr V.mask x.a x.b x.c).length := rvL_lt4 hl (by decide)
    have c5 : nthL (rvL (x.D.set n ⟨true, o.Ac, p, o.A, l, o.Fl⟩) x.lr V.mask x.a x.b x.c) 450 = some (.int .i64 x.a) := rvL_at4 (j := 2) hl
    simp (maxSteps := 2000000) (disch := first | (simp only [go_sem, simprocAttr, c1, c2, c3, c4, g, d1, b1, e1, s2.get, b2, e2, s3.get, b3, e3, s4.get, c5, b5, ok4] <;> omega) | omega) only [go_sem, simprocAttr, c1, c2, c3, c4, g, d1, b1, e1, s2.get, b2, e2, s3.get, b3, e3, s4.get, c5, b5, ok4]
    refine hR _ _ ⟨rfl, rvS_some.2 ⟨wb, ⟨x.D.set n ⟨true, o.Ac, p, o.A, l, o.Fl⟩, x.lr, IntKind.i64.wrap (x.a + 1), x.b, x.c, x.ty⟩, rfl, relV_put rel n1 iok ⟨?_, ro.ac, ?_, ro.a⟩ ?_, s5⟩⟩
    · simp only [setF, if_true]; rfl
    · intro a b e
      simp only [setF, if_true] at e
      cases e
      exact ⟨rfl, rfl⟩
    · intro j hj
      simp only [setF, if_neg hj]
      exact ⟨trivial, trivial⟩
end
end Go.Eng
/-
  viceroyref08: All.
-/
namespace Go.Eng
open Go Go.Proofs
theorem docO_of {V : Vg} {k p : Int} {o : One} (r : relO V k o) : docO V true p k = if o.Ac = true ∧ o.A = p then some ⟨k, p, o.Fl, o.Pe, true⟩ else none := by
  unfold docO oneV
  rw [r.ac]
  cases hA : V.A k with
  | some y =>
    obtain ⟨a, l⟩ := y
    obtain ⟨e1, e2⟩ := r.a a l hA
    subst e1 e2
    simp only [Option.filter_some, decide_true, Bool.true_and, Option.isSome_some, true_and, r.pe]
    by_cases q : o.A = p
    · subst q; simp
    · simp [q]
  | none =>
    cases hP : V.P k with
    | none => simp
    | some y => obtain ⟨a, l⟩ := y; simp
theorem docO_of2 {V : Vg} {k p : Int} {o : One} (r : relO V k o) : docO V false p k = if o.Ac = false ∧ o.Pe = true ∧ o.P = p then some ⟨k, p, o.L, true, false⟩ else none := by
  unfold docO oneV
  rw [r.ac, r.pe]
  cases hA : V.A k with
  | some y => obtain ⟨a, l⟩ := y; simp
  | none =>
    cases hP : V.P k with
    | none => simp
    | some y =>
      obtain ⟨a, l⟩ := y
      obtain ⟨e1, e2⟩ := r.p a l hP
      subst e1 e2
      simp only [Option.filter_some, decide_true, Bool.true_and, Option.isSome_some, Option.isSome_none, true_and]
      by_cases q : o.P = p
      · subst q; simp
      · simp [q]
theorem len_snoc (X : List Lr) (y : Lr) : (X ++ [y]).length = X.length + 1 := by rw [List.length_append]; rfl
section
variable {h : Heap} {F : List SP} {wv : Value} {V : Vg}
theorem rall_S (hs : Sat h (rvS wv (some V) :: F)) : HCalls Tryz.prog 62 #[wv] h fun v h' => Sat h' (sliceS 5 (allV V).length v (lrL (allV V)) :: rvS wv (some V) :: F) := by
  refine HCalls.via fun R hR => ?_
  obtain ⟨wb, x, rfl, rel, s⟩ := rvS_some.1 hs
  have hby : ∀ n, n ≤ 200009 → (2 * n + 1024) * (tbytes Tryz.prog (sliceElem Tryz.prog 160)).getD 0 ≤ 281474976710656 := fun n hn => by
    rw [selem_160, tbytes_163]; simp only [Option.getD_some]; omega
  refine HCalls.of_dev T62 Tryz.func62 rfl mixed (by kernel_rfl) ?_; rw [Tryz.results62]
  simp (maxSteps := 2000000) (disch := first | (simp only [go_sem, simprocAttr] <;> omega) | omega) only [go_sem, simprocAttr]
  refine loopH.intro (fun t : Nat × Value => (.cons 0 (.pointer (some ⟨wb, 0, none⟩)) true (.cons 3 (t.2) true (.cons 4 (.int .i64 t.1) true .nil))))
    (fun t h' => t.1 ≤ 256 ∧ Sat h' (sliceS 5 (docA V true t.1).length t.2 (lrL (docA V true t.1)) :: cellAt wb (.cells (rvL x.D x.lr V.mask x.a x.b x.c).toArray x.ty (0, 0)) :: F)) (fun t _ => 257 - t.1) (0, .slice none 0 0) ?_ ⟨by simp only; omega, Sat.nilS s⟩ ?_
  · simp (maxSteps := 2000000) (disch := first | (simp only [go_sem, simprocAttr] <;> omega) | omega) only [go_sem, simprocAttr]
    try rfl
  clear hs s
  rintro ⟨p, v⟩ h2 ⟨hp, s⟩
  simp only at hp s
  have ml := docA_len V true p
  by_cases q : p < 256
  · have q1 : (p : Int) < 256 := by omega
    simp (maxSteps := 2000000) (disch := first | (simp only [go_sem, simprocAttr, q1] <;> omega) | omega) only [go_sem, simprocAttr, q1]
    refine loopH.intro (fun t : Nat × Value => (.cons 0 (.pointer (some ⟨wb, 0, none⟩)) true (.cons 3 (t.2) true (.cons 4 (.int .i64 p) true (.cons 5 (.int .i64 t.1) true .nil)))))
      (fun t h' => t.1 ≤ 64 ∧ Sat h' (sliceS 5 (docA V true p ++ docR V true p t.1).length t.2 (lrL (docA V true p ++ docR V true p t.1)) :: cellAt wb (.cells (rvL x.D x.lr V.mask x.a x.b x.c).toArray x.ty (0, 0)) :: F)) (fun t _ => 65 - t.1) (0, v) ?_ ⟨by simp only; omega, by simpa [docR] using s⟩ ?_
    · simp (maxSteps := 2000000) (disch := first | (simp only [go_sem, simprocAttr] <;> omega) | omega) only [go_sem, simprocAttr]
      try rfl
    clear s
    rintro ⟨i, v⟩ h3 ⟨hi, s⟩
    simp only at hi s
    have ml2 := docR_len V true p i
    have ml3 : (docA V true p ++ docR V true p i).length ≤ 20000 := by rw [List.length_append]; omega
    obtain ⟨sl, cap, rfl, -⟩ := s.elems
    by_cases q2 : i < 64
    case neg =>
      have q3 : ¬ (i : Int) < 64 := by omega
      obtain rfl : i = 64 := by omega
      simp (maxSteps := 2000000) (disch := first | (simp only [go_sem, simprocAttr, q3] <;> omega) | omega) only [go_sem, simprocAttr, q3]
      refine ⟨(p + 1, _), rfl, ⟨by simp only; omega, ?_⟩, by simp only; omega⟩
      try simp only
      rw [docA_succ]
      exact s
    have q3 : (i : Int) < 64 := by omega
    obtain ⟨o, ho⟩ : ∃ o, x.D[i]? = some o := ⟨_, List.getElem?_eq_getElem (by rw [rel.len]; exact q2)⟩
    have ro := rel.one i o ho
    have mo := docO_of (p := p) ro
    have ds := docR_succ V true p i
    have g := (s.front 1).get
    have rd : hreadO h3[wb]? (i * 7) 7 = some o.cells.toArray := by rw [g]; exact rvL_read ho
    have s1 := s.push (.cells #[.bool false, .bool false, .bool false, .int .i64 0, .int .i64 0, .bool false, .bool false] 150 (0, 0))
    have s2 := s.push (.cells o.cells.toArray 150 (0, 0))
    simp only [One.cells_eq] at s2
    simp (maxSteps := 2000000) (disch := first | (simp only [go_sem, simprocAttr, q3, rd, s1.get] <;> omega) | omega) only [go_sem, simprocAttr, q3, rd, s1.get]
    refine ⟨fun z => ?_, fun z => ?_⟩
    · simp only [Bool.and_eq_true, Bool.not_eq_true', decide_eq_true_eq] at z
      rw [if_pos z] at mo
      rw [mo, Option.toList_some] at ds
      have s3 := (s2.push (.cells (⟨i, p, o.Fl, o.Pe, true⟩ : Lr).cells.toArray 163 (0, 0))).front 2
      simp only [Lr.cells_eq, size_push'] at s3
      refine Sat.append s3 (SrcAt.lit (n := 1) (s3.front 1).get rfl (Lr.cells_single ⟨i, p, o.Fl, o.Pe, true⟩)) isSlice_160 ssz_160 (by kernel_rfl) (by kernel_rfl) (hby _ (by omega)) (by omega) ?_
      intro v5 h5 s5
      simp (maxSteps := 2000000) (disch := first | (simp only [go_sem, simprocAttr] <;> omega) | omega) only [go_sem, simprocAttr]
      refine ⟨(i + 1, v5), rfl, ⟨by simp only; omega, ?_⟩, by simp only; omega⟩
      try simp only
      rw [ds, ← List.append_assoc, lrL_append, len_snoc]
      exact s5.drop1.drop1
    · rw [if_neg (fun w => by rw [w.1, decide_eq_true w.2] at z; cases z)] at mo
      rw [mo, Option.toList_none, List.append_nil] at ds
      refine ⟨(i + 1, _), rfl, ⟨by simp only; omega, ?_⟩, by simp only; omega⟩
      try simp only
      rw [ds]
      exact s2.tail
  have q1 : ¬ (p : Int) < 256 := by omega
  obtain rfl : p = 256 := by omega
  simp (maxSteps := 2000000) (disch := first | (simp only [go_sem, simprocAttr, q1] <;> omega) | omega) only [go_sem, simprocAttr, q1]
  refine loopH.intro (fun t : Nat × Value => (.cons 0 (.pointer (some ⟨wb, 0, none⟩)) true (.cons 3 (t.2) true (.cons 7 (.int .i64 t.1) true .nil))))
    (fun t h' => t.1 ≤ 256 ∧ Sat h' (sliceS 5 (docA V true 256 ++ docA V false t.1).length t.2 (lrL (docA V true 256 ++ docA V false t.1)) :: cellAt wb (.cells (rvL x.D x.lr V.mask x.a x.b x.c).toArray x.ty (0, 0)) :: F)) (fun t _ => 257 - t.1) (0, v) ?_ ⟨by simp only; omega, by simpa [docA] using s⟩ ?_
  · rfl
  clear s q1 q
  rintro ⟨p, v⟩ h2 ⟨hp, s⟩
  simp only at hp s
  have mf := docA_len V false p
  by_cases q : p < 256
  · have q1 : (p : Int) < 256 := by omega
    simp (maxSteps := 2000000) (disch := first | (simp only [go_sem, simprocAttr, q1] <;> omega) | omega) only [go_sem, simprocAttr, q1]
    refine loopH.intro (fun t : Nat × Value => (.cons 0 (.pointer (some ⟨wb, 0, none⟩)) true (.cons 3 (t.2) true (.cons 7 (.int .i64 p) true (.cons 8 (.int .i64 t.1) true .nil)))))
      (fun t h' => t.1 ≤ 64 ∧ Sat h' (sliceS 5 ((docA V true 256 ++ docA V false p) ++ docR V false p t.1).length t.2 (lrL ((docA V true 256 ++ docA V false p) ++ docR V false p t.1)) :: cellAt wb (.cells (rvL x.D x.lr V.mask x.a x.b x.c).toArray x.ty (0, 0)) :: F)) (fun t _ => 65 - t.1) (0, v) ?_ ⟨by simp only; omega, by simpa [docR] using s⟩ ?_
    · simp (maxSteps := 2000000) (disch := first | (simp only [go_sem, simprocAttr] <;> omega) | omega) only [go_sem, simprocAttr]
      try rfl
    clear s
    rintro ⟨i, v⟩ h3 ⟨hi, s⟩
    simp only at hi s
    have ml2 := docR_len V false p i
    have ml3 : ((docA V true 256 ++ docA V false p) ++ docR V false p i).length ≤ 60000 := by rw [List.length_append, List.length_append]; omega
    obtain ⟨sl, cap, rfl, -⟩ := s.elems
    by_cases q2 : i < 64
    case neg =>
      have q3 : ¬ (i : Int) < 64 := by omega
      obtain rfl : i = 64 := by omega
      simp (maxSteps := 2000000) (disch := first | (simp only [go_sem, simprocAttr, q3] <;> omega) | omega) only [go_sem, simprocAttr, q3]
      refine ⟨(p + 1, _), rfl, ⟨by simp only; omega, ?_⟩, by simp only; omega⟩
      try simp only
      rw [docA_succ V false p, ← List.append_assoc]
      exact s
    have q3 : (i : Int) < 64 := by omega
    obtain ⟨o, ho⟩ : ∃ o, x.D[i]? = some o := ⟨_, List.getElem?_eq_getElem (by rw [rel.len]; exact q2)⟩
    have ro := rel.one i o ho
    have mo := docO_of2 (p := p) ro
    have ds := docR_succ V false p i
    have g := (s.front 1).get
    have rd : hreadO h3[wb]? (i * 7) 7 = some o.cells.toArray := by rw [g]; exact rvL_read ho
    have s1 := s.push (.cells #[.bool false, .bool false, .bool false, .int .i64 0, .int .i64 0, .bool false, .bool false] 150 (0, 0))
    have s2 := s.push (.cells o.cells.toArray 150 (0, 0))
    simp only [One.cells_eq] at s2
    simp (maxSteps := 2000000) (disch := first | (simp only [go_sem, simprocAttr, q3, rd, s1.get] <;> omega) | omega) only [go_sem, simprocAttr, q3, rd, s1.get]
    refine ⟨fun z => ?_, fun z => ?_⟩
    · simp only [Bool.and_eq_true, Bool.not_eq_true', decide_eq_true_eq] at z
      rw [if_pos ⟨z.1.1, z.1.2, z.2⟩] at mo
      rw [mo, Option.toList_some] at ds
      have s3 := (s2.push (.cells (⟨i, p, o.L, true, false⟩ : Lr).cells.toArray 163 (0, 0))).front 2
      simp only [Lr.cells_eq, size_push'] at s3
      refine Sat.append s3 (SrcAt.lit (n := 1) (s3.front 1).get rfl (Lr.cells_single ⟨i, p, o.L, true, false⟩)) isSlice_160 ssz_160 (by kernel_rfl) (by kernel_rfl) (hby _ (by omega)) (by omega) ?_
      intro v5 h5 s5
      simp (maxSteps := 2000000) (disch := first | (simp only [go_sem, simprocAttr] <;> omega) | omega) only [go_sem, simprocAttr]
      refine ⟨(i + 1, v5), rfl, ⟨by simp only; omega, ?_⟩, by simp only; omega⟩
      try simp only
      rw [ds, ← List.append_assoc, lrL_append, len_snoc]
      exact s5.drop1.drop1
    · rw [if_neg (fun w => by rw [w.1, w.2.1, decide_eq_true w.2.2] at z; cases z)] at mo
      rw [mo, Option.toList_none, List.append_nil] at ds
      refine ⟨(i + 1, _), rfl, ⟨by simp only; omega, ?_⟩, by simp only; omega⟩
      try simp only
      rw [ds]
      exact s2.tail
  have q1 : ¬ (p : Int) < 256 := by omega
  obtain rfl : p = 256 := by omega
  simp (maxSteps := 2000000) (disch := first | (simp only [go_sem, simprocAttr, q1] <;> omega) | omega) only [go_sem, simprocAttr, q1]
  exact hR _ _ (Sat.swap (rvS_some.2 ⟨wb, x, rfl, rel, s.swap⟩))
end
end Go.Eng
