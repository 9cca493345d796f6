/-
  Library: merging two sorted parts in place.
-/
import Derived.Test.YtaijcllgdlalpaaGreatDoorZj17
set_option linter.unusedSimpArgs false
set_option linter.unusedVariables false
set_option maxRecDepth 16000
set_option maxHeartbeats 4000000
namespace Go.Eng
open Go Go.Proofs
theorem sorted_lt {L : List Lr} (hL : L.Pairwise ltL) {i j : Nat} (hij : i < j) {x y : Lr} (hx : L[i]? = some x) (hy : L[j]? = some y) : ltL x y := by
  obtain ⟨hi, rfl⟩ := List.getElem?_eq_some_iff.1 hx
  obtain ⟨hj, rfl⟩ := List.getElem?_eq_some_iff.1 hy
  exact List.pairwise_iff_getElem.1 hL i j hi hj hij
theorem ins_sorted {X : List Lr} (hX : X.Pairwise ltL) {u : Lr} {p : Nat} (hp0 : p ≤ X.length) (h1 : ∀ x, 0 < p → X[p - 1]? = some x → ltL x u) (h2 : ∀ x, X[p]? = some x → ltL u x) : (X.take p ++ u :: X.drop p).Perm (u :: X) ∧ (X.take p ++ u :: X.drop p).Pairwise ltL := by
  have e : X.take p ++ X.drop p = X := List.take_append_drop ..
  have hX2 := hX
  rw [← e] at hX2
  obtain ⟨q1, q2, q3⟩ := List.pairwise_append.1 hX2
  have d : ∀ y ∈ X.drop p, ltL u y := by
    intro y hy
    cases z : (X.drop p).head? with
    | none => rw [List.head?_eq_none_iff] at z; rw [z] at hy; cases hy
    | some w =>
      have w1 : ltL u w := h2 w (by rw [List.head?_drop] at z; exact z)
      rcases head_le q2 z hy with r | r
      · rw [← r]; exact w1
      · exact ltL_trans w1 r
  refine ⟨?_, List.pairwise_append.2 ⟨q1, List.pairwise_cons.2 ⟨d, q2⟩, ?_⟩⟩
  · refine List.perm_middle.trans ?_
    rw [e]
  · intro x hx y hy
    have hxu : ltL x u := by
      obtain ⟨i, hi, rfl⟩ := List.mem_iff_getElem.1 hx
      have hi2 : i < min p X.length := by rw [← List.length_take]; exact hi
      have hp : p - 1 < X.length := by omega
      have hl := h1 (X[p - 1]) (by omega) (List.getElem?_eq_getElem hp)
      by_cases r : i = p - 1
      · subst r
        rw [List.getElem_take]; exact hl
      · refine ltL_trans (sorted_lt hX (i := i) (j := p - 1) (by omega) ?_ (List.getElem?_eq_getElem hp)) hl
        rw [List.getElem_take]
        exact List.getElem?_eq_getElem _
    rcases List.mem_cons.1 hy with rfl | hy
    · exact hxu
    · exact q3 x hx y hy
theorem half {e : Int} {x : Nat} (h : e = x) (hx : x < 4611686018427387904) : IntKind.i64.wrap ((IntKind.u64.wrap e).fdiv (2 ^ min 1 64)) = ((x / 2 : Nat) : Int) := by
  subst h
  have e1 : IntKind.u64.wrap (x : Int) = x := by
    have : IntKind.u64.wrap (x : Int) = (x : Int) % 18446744073709551616 := by simp [IntKind.wrap, IntKind.bits, IntKind.signed]
    rw [this]; omega
  have e2 : ((2 : Int) ^ min 1 64) = 2 := by decide
  rw [e1, e2, Int.fdiv_eq_ediv_of_nonneg _ (by decide), w64_id (by omega) (by omega)]
  omega
theorem two_ways {c : Prop} {S : List Nat} {q : (Ex → Env → Heap → Prop) → Env → Heap → Prop} {k : Ex → Env → Heap → Prop} {h : Heap} {P : Int → Int → Prop} {E : Int → Int → Env} {x1 y1 x2 y2 : Int} (key : ∀ x y, P x y → loopH S q k (E x y) h) (h1 : c → P x1 y1) (h2 : ¬ c → P x2 y2) :
    (c → loopH S q k (E x1 y1) h) ∧ (¬ c → loopH S q k (E x2 y2) h) := ⟨fun z => key _ _ (h1 z), fun z => key _ _ (h2 z)⟩
section
variable {lb cap : Nat}
theorem symMerge_S : ∀ (k : Nat) (h : Heap) (F : List SP) (Y A L R C : List Lr) (N : Nat) (a m b : Int), L.length + R.length ≤ k → 0 < L.length → 0 < R.length → Y = A ++ L ++ R ++ C → N = Y.length → N < 1000000 → a = A.length → m = (A.length + L.length : Nat) → b = (A.length + L.length + R.length : Nat) → L.Pairwise ltL → R.Pairwise ltL →
    (∀ y ∈ L, ∀ x ∈ R, if cL x y = true then ltL x y else ltL y x) → Sat h (lrS lb cap Y :: F) →
    HCalls Tryz.prog 154 #[.slice (some ⟨lb, 0, none⟩) N cap, .int .i64 a, .int .i64 m, .int .i64 b, cmpFn] h fun v h' => v = .tuple #[] ∧ ∃ M : List Lr, M.Perm (L ++ R) ∧ M.Pairwise ltL ∧ Sat h' (lrS lb cap (A ++ M ++ C) :: F) := by
  intro k
  induction k with
  | zero => intro h F Y A L R C N a m b hk hL; omega
  | succ k ih =>
  intro h F Y A L R C N a m b hk hL0 hR0 hY hN hb ha hm hb2 hL hR hc hs
  subst ha hm hb2
  refine HCalls.via fun K hK => ?_
  have hl : N = A.length + L.length + R.length + C.length := by rw [hN, hY]; simp only [List.length_append]
  have e1 : ((A.length + L.length : Nat) : Int) - A.length = L.length := by omega
  have e2 : ((A.length + L.length + R.length : Nat) : Int) - (A.length + L.length : Nat) = R.length := by omega
  rw [hY] at hs
  refine HCalls.of_dev T154 Tryz.func154 rfl mixed (by kernel_rfl) ?_; rw [Tryz.results154]
  by_cases c1 : L.length = 1
  · obtain ⟨u, rfl⟩ := List.length_eq_one_iff.1 c1
    have q1 : (([u] : List Lr).length : Int) = 1 := rfl
    have e3 : A ++ [u] ++ R ++ C = A ++ u :: (R ++ C) := by simp only [List.append_assoc, List.cons_append, List.nil_append]
    rw [e3] at hs
    have e1 : ((A.length + 1 : Nat) : Int) - A.length = 1 := by omega
    simp (maxSteps := 2000000) (disch := first | (simp only [go_sem, simprocAttr, e1, q1] <;> omega) | omega) only [go_sem, simprocAttr, e1, q1]
    refine loopH.intro (fun t : Nat × Nat => (.cons 0 (.slice (some ⟨lb, 0, none⟩) N cap) true (.cons 1 (.int .i64 A.length) true (.cons 4 (cmpFn) true (.cons 10 (.int .i64 (A.length + 1 + t.1 : Nat)) true (.cons 11 (.int .i64 (A.length + 1 + t.2 : Nat)) true .nil))))))
      (fun t h' => t.1 ≤ t.2 ∧ t.2 ≤ R.length ∧ (∀ x, 0 < t.1 → R[t.1 - 1]? = some x → ltL x u) ∧ (∀ x, R[t.2]? = some x → ltL u x) ∧ Sat h' (lrS lb cap (A ++ u :: (R ++ C)) :: F)) (fun t _ => t.2 - t.1) (0, R.length) ?_ ⟨by simp, by simp, fun x h => absurd h (by simp), fun x h => by simp at h, hs⟩ ?_
    · simp (maxSteps := 2000000) (disch := first | (simp only [go_sem, simprocAttr] <;> omega) | omega) only [go_sem, simprocAttr]
    clear hs
    rintro ⟨p, q⟩ h1 ⟨hpq, hq, i1, i2, s⟩
    simp only at hpq hq i1 i2 s
    by_cases q2 : p < q
    · have q3 : ((A.length + 1 + p : Nat) : Int) < (A.length + 1 + q : Nat) := by omega
      have hm : ∃ x : Nat, p ≤ x ∧ x < q ∧ (A.length + 1 + p + (A.length + 1 + q)) / 2 = A.length + 1 + x := ⟨(p + q) / 2, by omega, by omega, by omega⟩
      obtain ⟨x, x1, x2, x3⟩ := hm
      have hh := half (e := ((A.length + 1 + p : Nat) : Int) + (A.length + 1 + q : Nat)) (x := A.length + 1 + p + (A.length + 1 + q)) (by omega) (by omega)
      rw [x3] at hh
      have hx : x < R.length := by omega
      have r1 := lr_read s (at_mid (i := A.length) rfl)
      have r2 := lr_read s (j := A.length + 1 + x) (x := R[x]) (by rw [List.getElem?_append_right (by omega), show A.length + 1 + x - A.length = x + 1 by omega, List.getElem?_cons_succ, List.getElem?_append_left hx, List.getElem?_eq_getElem hx])
      have hb1 : A.length + 1 + x < N := by simp only [List.length_cons, List.length_nil] at hl; omega
      simp (maxSteps := 2000000) (disch := first | (simp only [go_sem, simprocAttr, q3, hh, r1, r2, cmpFn_eq] <;> omega) | omega) only [go_sem, simprocAttr, q3, hh, r1, r2, cmpFn_eq]
      refine ⟨by kernel_rfl, (cmpLr_S R[x] u _).mono ?_⟩
      rintro v h3 ⟨rfl, x4⟩
      have s3 := s.grow x4
      have hcx := hc u (by simp) R[x] (List.getElem_mem _)
      by_cases z : cfL R[x] u < 0
      · rw [if_pos (by unfold cL; exact decide_eq_true z)] at hcx
        simp (maxSteps := 2000000) (disch := first | (simp only [go_sem, simprocAttr, z] <;> omega) | omega) only [go_sem, simprocAttr, z]
        refine ⟨(x + 1, q), rfl, ⟨by simp only; omega, hq, fun y _ hy => ?_, i2, s3⟩, by simp only; omega⟩
        simp only [Nat.add_sub_cancel] at hy
        rw [List.getElem?_eq_getElem hx] at hy
        cases hy
        exact hcx
      · rw [if_neg (by unfold cL; rw [decide_eq_false z]; simp)] at hcx
        simp (maxSteps := 2000000) (disch := first | (simp only [go_sem, simprocAttr, z] <;> omega) | omega) only [go_sem, simprocAttr, z]
        refine ⟨(p, x), rfl, ⟨x1, by simp only; omega, i1, fun y hy => ?_, s3⟩, by simp only; omega⟩
        simp only at hy
        rw [List.getElem?_eq_getElem hx] at hy
        cases hy
        exact hcx
    · have q3 : ¬ ((A.length + 1 + p : Nat) : Int) < (A.length + 1 + q : Nat) := by omega
      obtain rfl : p = q := by omega
      simp (maxSteps := 2000000) (disch := first | (simp only [go_sem, simprocAttr, q3] <;> omega) | omega) only [go_sem, simprocAttr, q3]
      obtain ⟨m1, m2⟩ := ins_sorted hR hq i1 i2
      refine loopH.intro (fun d : Nat => (.cons 0 (.slice (some ⟨lb, 0, none⟩) N cap) true (.cons 10 (.int .i64 (A.length + 1 + p : Nat)) true (.cons 13 (.int .i64 (A.length + d : Nat)) true .nil))))
        (fun d h' => d ≤ p ∧ Sat h' (lrS lb cap (A ++ R.take d ++ u :: (R.drop d ++ C)) :: F)) (fun d _ => p + 1 - d) 0 ?_ ⟨by omega, by simpa using s⟩ ?_
      · rfl
      clear s
      rintro d h2 ⟨hd, s⟩
      have e4 : ((A.length + 1 + p : Nat) : Int) - 1 = (A.length + p : Nat) := by omega
      by_cases q4 : d < p
      · have q5 : ((A.length + d : Nat) : Int) < (A.length + p : Nat) := by omega
        have e5 : ((A.length + d : Nat) : Int) + 1 = (A.length + d + 1 : Nat) := by omega
        have hdr : R.drop d = R[d]'(by omega) :: R.drop (d + 1) := List.drop_eq_getElem_cons (by omega)
        rw [hdr] at s
        simp only [List.cons_append] at s
        have l1 : A.length + d = (A ++ R.take d).length := by rw [List.length_append, List.length_take]; omega
        have r1 := lr_read s (at_mid l1)
        have r2 := lr_read s (at_mid2 (M := []) (j := A.length + d + 1) (by rw [l1]; rfl))
        have hb1 : A.length + d + 1 < N := by simp only [List.length_cons, List.length_nil] at hl; omega
        simp (maxSteps := 2000000) (disch := first | (simp only [go_sem, simprocAttr, q5, e4, e5, r1, r2] <;> omega) | omega) only [go_sem, simprocAttr, q5, e4, e5, r1, r2]
        refine lr_store (by kernel_rfl) (by kernel_rfl) s (lt_mid l1) _ fun h4 s4 => ?_
        refine lr_store (by kernel_rfl) (by kernel_rfl) s4 (by rw [List.length_set]; exact lt_mid2 (M := []) (by rw [l1]; rfl)) _ fun h5 s5 => ?_
        rw [swap_next l1 (by rw [l1])] at s5
        refine ⟨d + 1, rfl, ⟨by omega, ?_⟩, by simp only; omega⟩
        rw [List.take_succ_eq_append_getElem (by omega)]
        simp only [List.append_nil, List.nil_append, List.append_assoc, List.cons_append] at s5 ⊢
        exact s5
      · obtain rfl : d = p := by omega
        have q5 : ¬ ((A.length + d : Nat) : Int) < (A.length + d : Nat) := by omega
        simp (maxSteps := 2000000) (disch := first | (simp only [go_sem, simprocAttr, q5, e4] <;> omega) | omega) only [go_sem, simprocAttr, q5, e4]
        refine hK _ _ ⟨rfl, R.take d ++ u :: R.drop d, m1, m2, ?_⟩
        simp only [List.append_nil, List.nil_append, List.append_assoc, List.cons_append] at s ⊢
        exact s
  have q1 : ¬ (L.length : Int) = 1 := by omega
  by_cases c2 : R.length = 1
  · obtain ⟨u, rfl⟩ := List.length_eq_one_iff.1 c2
    have q2 : (([u] : List Lr).length : Int) = 1 := rfl
    have e2 : ((A.length + L.length + 1 : Nat) : Int) - (A.length + L.length : Nat) = 1 := by omega
    have e3 : A ++ L ++ [u] ++ C = A ++ L ++ u :: C := by simp only [List.append_assoc, List.cons_append, List.nil_append]
    rw [e3] at hs
    simp (maxSteps := 2000000) (disch := first | (simp only [go_sem, simprocAttr, e1, q1, e2, q2] <;> omega) | omega) only [go_sem, simprocAttr, e1, q1, e2, q2]
    refine loopH.intro (fun t : Nat × Nat => (.cons 0 (.slice (some ⟨lb, 0, none⟩) N cap) true (.cons 2 (.int .i64 (A.length + L.length : Nat)) true (.cons 4 (cmpFn) true (.cons 14 (.int .i64 (A.length + t.1 : Nat)) true (.cons 15 (.int .i64 (A.length + t.2 : Nat)) true .nil))))))
      (fun t h' => t.1 ≤ t.2 ∧ t.2 ≤ L.length ∧ (∀ x, 0 < t.1 → L[t.1 - 1]? = some x → ltL x u) ∧ (∀ x, L[t.2]? = some x → ltL u x) ∧ Sat h' (lrS lb cap (A ++ L ++ u :: C) :: F)) (fun t _ => t.2 - t.1) (0, L.length) ?_ ⟨by simp, by simp, fun x h => absurd h (by simp), fun x h => by simp at h, hs⟩ ?_
    · rfl
    clear hs
    rintro ⟨p, q⟩ h1 ⟨hpq, hq, i1, i2, s⟩
    simp only at hpq hq i1 i2 s
    by_cases q2 : p < q
    · have q3 : ((A.length + p : Nat) : Int) < (A.length + q : Nat) := by omega
      have hm : ∃ x : Nat, p ≤ x ∧ x < q ∧ (A.length + p + (A.length + q)) / 2 = A.length + x := ⟨(p + q) / 2, by omega, by omega, by omega⟩
      obtain ⟨x, x1, x2, x3⟩ := hm
      have hh := half (e := ((A.length + p : Nat) : Int) + (A.length + q : Nat)) (x := A.length + p + (A.length + q)) (by omega) (by omega)
      rw [x3] at hh
      have hx : x < L.length := by omega
      have r1 := lr_read s (at_mid (i := A.length + L.length) (by rw [List.length_append]))
      have r2 := lr_read s (j := A.length + x) (x := L[x]) (by rw [List.append_assoc, List.getElem?_append_right (by omega), show A.length + x - A.length = x by omega, List.getElem?_append_left hx, List.getElem?_eq_getElem hx])
      have hb1 : A.length + L.length < N := by simp only [List.length_cons, List.length_nil] at hl; omega
      simp (maxSteps := 2000000) (disch := first | (simp only [go_sem, simprocAttr, q3, hh, r1, r2, cmpFn_eq] <;> omega) | omega) only [go_sem, simprocAttr, q3, hh, r1, r2, cmpFn_eq]
      refine ⟨by kernel_rfl, (cmpLr_S u L[x] _).mono ?_⟩
      rintro v h3 ⟨rfl, x4⟩
      have s3 := s.grow x4
      have hcx := hc L[x] (List.getElem_mem _) u (by simp)
      by_cases z : cfL u L[x] < 0
      · rw [if_pos (by unfold cL; exact decide_eq_true z)] at hcx
        simp (maxSteps := 2000000) (disch := first | (simp only [go_sem, simprocAttr, z] <;> omega) | omega) only [go_sem, simprocAttr, z]
        refine ⟨(p, x), rfl, ⟨x1, by simp only; omega, i1, fun y hy => ?_, s3⟩, by simp only; omega⟩
        simp only at hy
        rw [List.getElem?_eq_getElem hx] at hy
        cases hy
        exact hcx
      · rw [if_neg (by unfold cL; rw [decide_eq_false z]; simp)] at hcx
        simp (maxSteps := 2000000) (disch := first | (simp only [go_sem, simprocAttr, z] <;> omega) | omega) only [go_sem, simprocAttr, z]
        refine ⟨(x + 1, q), rfl, ⟨by simp only; omega, hq, fun y _ hy => ?_, i2, s3⟩, by simp only; omega⟩
        simp only [Nat.add_sub_cancel] at hy
        rw [List.getElem?_eq_getElem hx] at hy
        cases hy
        exact hcx
    · have q3 : ¬ ((A.length + p : Nat) : Int) < (A.length + q : Nat) := by omega
      obtain rfl : p = q := by omega
      simp (maxSteps := 2000000) (disch := first | (simp only [go_sem, simprocAttr, q3] <;> omega) | omega) only [go_sem, simprocAttr, q3]
      obtain ⟨m1, m2⟩ := ins_sorted hL hq i1 i2
      refine loopH.intro (fun d : Nat => (.cons 0 (.slice (some ⟨lb, 0, none⟩) N cap) true (.cons 14 (.int .i64 (A.length + p : Nat)) true (.cons 17 (.int .i64 (A.length + d : Nat)) true .nil))))
        (fun d h' => p ≤ d ∧ d ≤ L.length ∧ Sat h' (lrS lb cap (A ++ L.take d ++ u :: (L.drop d ++ C)) :: F)) (fun d _ => d) L.length ?_ ⟨hq, Nat.le_refl _, by simpa using s⟩ ?_
      · rfl
      clear s
      rintro d h2 ⟨hd, hd2, s⟩
      by_cases q4 : p < d
      · obtain ⟨d, rfl⟩ : ∃ e, d = e + 1 := ⟨d - 1, by omega⟩
        have q5 : ((A.length + p : Nat) : Int) < (A.length + (d + 1) : Nat) := by omega
        have e5 : ((A.length + (d + 1) : Nat) : Int) - 1 = (A.length + d : Nat) := by omega
        have hdr : L.take (d + 1) = L.take d ++ [L[d]'(by omega)] := List.take_succ_eq_append_getElem (by omega)
        rw [hdr] at s
        have e6 : A ++ (L.take d ++ [L[d]'(by omega)]) ++ u :: (L.drop (d + 1) ++ C) = (A ++ L.take d) ++ L[d]'(by omega) :: u :: (L.drop (d + 1) ++ C) := by simp only [List.append_assoc, List.cons_append, List.nil_append]
        rw [e6] at s
        have l1 : A.length + d = (A ++ L.take d).length := by rw [List.length_append, List.length_take]; omega
        have r1 := lr_read s (at_mid l1)
        have r2 := lr_read s (at_mid2 (M := []) (j := A.length + (d + 1)) (by rw [← Nat.add_assoc, l1]; rfl))
        have hb1 : A.length + (d + 1) < N := by simp only [List.length_cons, List.length_nil] at hl; omega
        simp (maxSteps := 2000000) (disch := first | (simp only [go_sem, simprocAttr, q5, e5, r1, r2] <;> omega) | omega) only [go_sem, simprocAttr, q5, e5, r1, r2]
        refine lr_store (by kernel_rfl) (by kernel_rfl) s (lt_mid2 (M := []) (by rw [← Nat.add_assoc, l1]; rfl)) _ fun h4 s4 => ?_
        refine lr_store (by kernel_rfl) (by kernel_rfl) s4 (by rw [List.length_set]; exact lt_mid l1) _ fun h5 s5 => ?_
        rw [swap_next' l1 (by rw [← Nat.add_assoc, l1])] at s5
        refine ⟨d, rfl, ⟨by omega, by omega, ?_⟩, by simp only; omega⟩
        rw [List.drop_eq_getElem_cons (show d < L.length by omega)]
        simp only [List.append_nil, List.nil_append, List.append_assoc, List.cons_append] at s5 ⊢
        exact s5
      · obtain rfl : d = p := by omega
        have q5 : ¬ ((A.length + d : Nat) : Int) < (A.length + d : Nat) := by omega
        simp (maxSteps := 2000000) (disch := first | (simp only [go_sem, simprocAttr, q5] <;> omega) | omega) only [go_sem, simprocAttr, q5]
        refine hK _ _ ⟨rfl, L.take d ++ u :: L.drop d, m1.trans (List.perm_append_singleton _ _).symm, m2, ?_⟩
        simp only [List.append_nil, List.nil_append, List.append_assoc, List.cons_append] at s ⊢
        exact s
  have q2 : ¬ (R.length : Int) = 1 := by omega
  obtain ⟨sp, hsp⟩ : ∃ sp, (L.length + R.length) / 2 = sp := ⟨_, rfl⟩
  have hh := half (e := (A.length : Int) + (A.length + L.length + R.length : Nat)) (x := A.length + (A.length + L.length + R.length)) (by omega) (by omega)
  rw [show (A.length + (A.length + L.length + R.length)) / 2 = A.length + sp by omega] at hh
  obtain ⟨nn, hnn⟩ : ∃ nn, A.length + sp + (A.length + L.length) = nn := ⟨_, rfl⟩
  have en : ((A.length + sp : Nat) : Int) + (A.length + L.length : Nat) = (nn : Nat) := by omega
  have ep : (nn : Int) - 1 = (nn - 1 : Nat) := by omega
  simp (maxSteps := 2000000) (disch := first | (simp only [go_sem, simprocAttr, e1, q1, e2, q2, hh, en, ep] <;> omega) | omega) only [go_sem, simprocAttr, e1, q1, e2, q2, hh, en, ep]
  refine two_ways (E := fun x y : Int => (.cons 0 (.slice (some ⟨lb, 0, none⟩) N cap) true (.cons 1 (.int .i64 A.length) true (.cons 2 (.int .i64 (A.length + L.length : Nat)) true (.cons 3 (.int .i64 (A.length + L.length + R.length : Nat)) true (.cons 4 (cmpFn) true (.cons 18 (.int .i64 (A.length + sp : Nat)) true (.cons 19 (.int .i64 nn) true (.cons 20 (.int .i64 x) true (.cons 21 (.int .i64 y) true (.cons 22 (.int .i64 (nn - 1 : Nat)) true .nil)))))))))))
    (P := fun x y => x = (A.length + (sp - R.length) : Nat) ∧ y = (A.length + min sp L.length : Nat)) ?_ (fun c => ⟨by omega, by omega⟩) (fun c => ⟨by omega, by omega⟩)
  rintro _ _ ⟨rfl, rfl⟩
  refine loopH.intro (fun t : Nat × Nat => (.cons 0 (.slice (some ⟨lb, 0, none⟩) N cap) true (.cons 1 (.int .i64 A.length) true (.cons 2 (.int .i64 (A.length + L.length : Nat)) true (.cons 3 (.int .i64 (A.length + L.length + R.length : Nat)) true (.cons 4 (cmpFn) true (.cons 18 (.int .i64 (A.length + sp : Nat)) true (.cons 19 (.int .i64 nn) true (.cons 20 (.int .i64 (A.length + t.1 : Nat)) true (.cons 21 (.int .i64 (A.length + t.2 : Nat)) true (.cons 22 (.int .i64 (nn - 1 : Nat)) true .nil)))))))))))
    (fun t h' => sp - R.length ≤ t.1 ∧ t.1 ≤ t.2 ∧ t.2 ≤ sp ∧ t.2 ≤ L.length ∧ (∀ u v, sp - R.length < t.1 → L[t.1 - 1]? = some u → R[sp - t.1]? = some v → ltL u v) ∧ (∀ u v, t.2 < min sp L.length → R[sp - 1 - t.2]? = some u → L[t.2]? = some v → ltL u v) ∧ Sat h' (lrS lb cap (A ++ L ++ R ++ C) :: F)) (fun t _ => t.2 - t.1) (sp - R.length, min sp L.length) ?_ ⟨Nat.le_refl _, by simp only; omega, by simp only; omega, by simp only; omega, fun u v h => absurd h (by simp), fun u v h => absurd h (by simp), hs⟩ ?_
  · rfl
  clear hs
  rintro ⟨x, y⟩ h1 ⟨hx0, hxy, hy, hy2, i1, i2, s⟩
  simp only at hx0 hxy hy hy2 i1 i2 s
  by_cases q3 : x < y
  · have q4 : ((A.length + x : Nat) : Int) < (A.length + y : Nat) := by omega
    have hm : ∃ c : Nat, x ≤ c ∧ c < y ∧ (A.length + x + (A.length + y)) / 2 = A.length + c := ⟨(x + y) / 2, by omega, by omega, by omega⟩
    obtain ⟨c, w1, w2, w3⟩ := hm
    have hh := half (e := ((A.length + x : Nat) : Int) + (A.length + y : Nat)) (x := A.length + x + (A.length + y)) (by omega) (by omega)
    rw [w3] at hh
    have hcL : c < L.length := by omega
    have hcR : sp - 1 - c < R.length := by omega
    have ec : ((nn - 1 : Nat) : Int) - (A.length + c : Nat) = (A.length + L.length + (sp - 1 - c) : Nat) := by omega
    have r1 := lr_read s (j := A.length + c) (x := L[c]) (by rw [List.append_assoc, List.append_assoc, List.getElem?_append_right (by omega), show A.length + c - A.length = c by omega, List.getElem?_append_left hcL, List.getElem?_eq_getElem hcL])
    have r2 := lr_read s (j := A.length + L.length + (sp - 1 - c)) (x := R[sp - 1 - c]) (by rw [List.append_assoc (A ++ L), List.getElem?_append_right (by rw [List.length_append]; omega), List.length_append, show A.length + L.length + (sp - 1 - c) - (A.length + L.length) = sp - 1 - c by omega, List.getElem?_append_left hcR, List.getElem?_eq_getElem hcR])
    have hb1 : A.length + L.length + (sp - 1 - c) < N := by omega
    simp (maxSteps := 2000000) (disch := first | (simp only [go_sem, simprocAttr, q4, hh, ec, r1, r2, cmpFn_eq] <;> omega) | omega) only [go_sem, simprocAttr, q4, hh, ec, r1, r2, cmpFn_eq]
    refine ⟨by kernel_rfl, (cmpLr_S R[sp - 1 - c] L[c] _).mono ?_⟩
    rintro v h3 ⟨rfl, x4⟩
    have s3 := s.grow x4
    have hcx := hc L[c] (List.getElem_mem _) R[sp - 1 - c] (List.getElem_mem _)
    by_cases z : cfL R[sp - 1 - c] L[c] < 0
    · rw [if_pos (by unfold cL; exact decide_eq_true z)] at hcx
      simp (maxSteps := 2000000) (disch := first | (simp only [go_sem, simprocAttr, z] <;> omega) | omega) only [go_sem, simprocAttr, z]
      refine ⟨(x, c), rfl, ⟨hx0, w1, by simp only; omega, by simp only; omega, i1, fun u v _ hu hv => ?_, s3⟩, by simp only; omega⟩
      simp only at hu hv
      rw [List.getElem?_eq_getElem hcR] at hu
      rw [List.getElem?_eq_getElem hcL] at hv
      cases hu; cases hv
      exact hcx
    · rw [if_neg (by unfold cL; rw [decide_eq_false z]; simp)] at hcx
      simp (maxSteps := 2000000) (disch := first | (simp only [go_sem, simprocAttr, z] <;> omega) | omega) only [go_sem, simprocAttr, z]
      refine ⟨(c + 1, y), rfl, ⟨by simp only; omega, by simp only; omega, hy, hy2, fun u v _ hu hv => ?_, i2, s3⟩, by simp only; omega⟩
      simp only [Nat.add_sub_cancel] at hu hv
      rw [show sp - (c + 1) = sp - 1 - c by omega, List.getElem?_eq_getElem hcR] at hv
      rw [List.getElem?_eq_getElem hcL] at hu
      cases hu; cases hv
      exact hcx
  · obtain rfl : x = y := by omega
    have q4 : ¬ ((A.length + x : Nat) : Int) < (A.length + x : Nat) := by omega
    have ee : (nn : Int) - (A.length + x : Nat) = (A.length + L.length + (sp - x) : Nat) := by omega
    have hlL : (L.take x).length = x := by rw [List.length_take]; omega
    have hlL2 : (L.drop x).length = L.length - x := List.length_drop ..
    have hlR : (R.take (sp - x)).length = sp - x := by rw [List.length_take]; omega
    have hlR2 : (R.drop (sp - x)).length = R.length - (sp - x) := List.length_drop ..
    have tL : L.take x ++ L.drop x = L := List.take_append_drop ..
    have tR : R.take (sp - x) ++ R.drop (sp - x) = R := List.take_append_drop ..
    have oL : (L.take x ++ L.drop x).Pairwise ltL := by rw [tL]; exact hL
    have oR : (R.take (sp - x) ++ R.drop (sp - x)).Pairwise ltL := by rw [tR]; exact hR
    have hlt := split_lt (lt := ltL) (fun h1 h2 => ltL_trans h1 h2) oL oR (fun u hu v hv => by
      rw [List.head?_drop] at hv
      obtain ⟨hv1, -⟩ := List.getElem?_eq_some_iff.1 hv
      rw [List.getLast?_eq_getElem?, hlR, List.getElem?_take] at hu
      split at hu
      · exact i2 u v (by omega) (by rw [show sp - 1 - x = sp - x - 1 by omega]; exact hu) hv
      · cases hu) (fun u hu v hv => by
      rw [List.head?_drop] at hv
      obtain ⟨hv1, -⟩ := List.getElem?_eq_some_iff.1 hv
      rw [List.getLast?_eq_getElem?, hlL, List.getElem?_take] at hu
      split at hu
      · exact i1 u v (by omega) hu hv
      · cases hu)
    obtain ⟨oL1, oL2, -⟩ := List.pairwise_append.1 oL
    obtain ⟨oR1, oR2, -⟩ := List.pairwise_append.1 oR
    have fin : ∀ (h' : Heap) (M1 M2 : List Lr), M1.Perm (L.take x ++ R.take (sp - x)) → M1.Pairwise ltL → M2.Perm (L.drop x ++ R.drop (sp - x)) → M2.Pairwise ltL → Sat h' (lrS lb cap (A ++ M1 ++ M2 ++ C) :: F) → K (.tuple #[]) h' := by
      intro h' M1 M2 p1 o1 p2 o2 s'
      obtain ⟨z1, z2⟩ := merge_sorted hlt p1 p2 o1 o2
      rw [tL, tR] at z1
      exact hK _ _ ⟨rfl, M1 ++ M2, z1, z2, by rw [← List.append_assoc]; exact s'⟩
    have rot : (x < L.length ∧ x < sp) ∨ ¬ (x < L.length ∧ x < sp) := Classical.em _
    have g1 : ((decide (((A.length + x : Nat) : Int) < (A.length + L.length : Nat)) && decide (((A.length + L.length : Nat) : Int) < (A.length + L.length + (sp - x) : Nat))) = true ∧ x < L.length ∧ x < sp) ∨ ((decide (((A.length + x : Nat) : Int) < (A.length + L.length : Nat)) && decide (((A.length + L.length : Nat) : Int) < (A.length + L.length + (sp - x) : Nat))) = false ∧ (L.length ≤ x ∨ sp ≤ x)) := by
      by_cases z : x < L.length ∧ x < sp
      · left; refine ⟨?_, z⟩; rw [decide_eq_true (by omega), decide_eq_true (by omega)]; rfl
      · right; refine ⟨?_, by omega⟩; rw [Bool.and_eq_false_iff, decide_eq_false_iff_not, decide_eq_false_iff_not]; omega
    have g2 : ((decide ((A.length : Int) < (A.length + x : Nat)) && decide (((A.length + x : Nat) : Int) < (A.length + sp : Nat))) = true ∧ 0 < x ∧ x < sp) ∨ ((decide ((A.length : Int) < (A.length + x : Nat)) && decide (((A.length + x : Nat) : Int) < (A.length + sp : Nat))) = false ∧ (x = 0 ∨ sp ≤ x)) := by
      by_cases z : 0 < x ∧ x < sp
      · left; refine ⟨?_, z⟩; rw [decide_eq_true (by omega), decide_eq_true (by omega)]; rfl
      · right; refine ⟨?_, by omega⟩; rw [Bool.and_eq_false_iff, decide_eq_false_iff_not, decide_eq_false_iff_not]; omega
    have g3 : ((decide (((A.length + sp : Nat) : Int) < (A.length + L.length + (sp - x) : Nat)) && decide (((A.length + L.length + (sp - x) : Nat) : Int) < (A.length + L.length + R.length : Nat))) = true ∧ x < L.length ∧ sp - x < R.length) ∨ ((decide (((A.length + sp : Nat) : Int) < (A.length + L.length + (sp - x) : Nat)) && decide (((A.length + L.length + (sp - x) : Nat) : Int) < (A.length + L.length + R.length : Nat))) = false ∧ (L.length ≤ x ∨ R.length ≤ sp - x)) := by
      by_cases z : x < L.length ∧ sp - x < R.length
      · left; refine ⟨?_, z⟩; rw [decide_eq_true (by omega), decide_eq_true (by omega)]; rfl
      · right; refine ⟨?_, by omega⟩; rw [Bool.and_eq_false_iff, decide_eq_false_iff_not, decide_eq_false_iff_not]; omega
    have e7 : A ++ L ++ R ++ C = (A ++ L.take x) ++ L.drop x ++ R.take (sp - x) ++ (R.drop (sp - x) ++ C) := by
      conv => lhs; rw [← tL, ← tR]
      simp only [List.append_assoc]
    rw [e7] at s
    have e8 : (A ++ L.take x) ++ R.take (sp - x) ++ L.drop x ++ (R.drop (sp - x) ++ C) = A ++ L.take x ++ R.take (sp - x) ++ (L.drop x ++ R.drop (sp - x) ++ C) := by simp only [List.append_assoc]
    have e9 : ∀ M1 : List Lr, A ++ M1 ++ (L.drop x ++ R.drop (sp - x) ++ C) = (A ++ M1) ++ L.drop x ++ R.drop (sp - x) ++ C := fun M1 => by simp only [List.append_assoc]
    have hc2 : ∀ y ∈ L.drop x, ∀ z ∈ R.drop (sp - x), if cL z y = true then ltL z y else ltL y z := fun y hy z hz => hc y (List.mem_of_mem_drop hy) z (List.mem_of_mem_drop hz)
    have hc1 : ∀ y ∈ L.take x, ∀ z ∈ R.take (sp - x), if cL z y = true then ltL z y else ltL y z := fun y hy z hz => hc y (List.mem_of_mem_take hy) z (List.mem_of_mem_take hz)
    have nor : (L.length ≤ x ∨ sp ≤ x) → (A ++ L.take x) ++ L.drop x ++ R.take (sp - x) ++ (R.drop (sp - x) ++ C) = A ++ L.take x ++ R.take (sp - x) ++ (L.drop x ++ R.drop (sp - x) ++ C) := by
      rintro (d1 | d1)
      · rw [List.drop_of_length_le d1]; simp only [List.append_assoc, List.nil_append, List.append_nil]
      · rw [show sp - x = 0 by omega]; simp only [List.take_zero, List.append_assoc, List.nil_append, List.append_nil]
    have non1 : (x = 0 ∨ sp ≤ x) → ∃ M1 : List Lr, M1.Perm (L.take x ++ R.take (sp - x)) ∧ M1.Pairwise ltL ∧ L.take x ++ R.take (sp - x) = M1 := by
      intro d2
      refine ⟨_, List.Perm.refl _, ?_, rfl⟩
      rcases d2 with d2 | d2
      · subst d2; rw [List.take_zero, List.nil_append]; exact oR1
      · rw [show sp - x = 0 by omega, List.take_zero, List.append_nil]; exact oL1
    have non2 : (L.length ≤ x ∨ R.length ≤ sp - x) → ∃ M2 : List Lr, M2.Perm (L.drop x ++ R.drop (sp - x)) ∧ M2.Pairwise ltL ∧ L.drop x ++ R.drop (sp - x) = M2 := by
      intro d3
      refine ⟨_, List.Perm.refl _, ?_, rfl⟩
      rcases d3 with d3 | d3
      · rw [List.drop_of_length_le d3, List.nil_append]; exact oR2
      · rw [List.drop_of_length_le d3, List.append_nil]; exact oL2
    rcases g1 with ⟨g1, d1⟩ | ⟨g1, d1⟩ <;> rcases g2 with ⟨g2, d2⟩ | ⟨g2, d2⟩ <;> rcases g3 with ⟨g3, d3⟩ | ⟨g3, d3⟩
    · simp (maxSteps := 2000000) (disch := first | (simp only [go_sem, simprocAttr, q4, ee, g1, g2, g3] <;> omega) | omega) only [go_sem, simprocAttr, q4, ee, g1, g2, g3]
      have dd := d1.1
      refine (rotate_S (A := A ++ L.take x) (L := L.drop x) (R := R.take (sp - x)) (C := R.drop (sp - x) ++ C) cmpFn (by omega) (by omega) rfl (by rw [← e7, ← hY]; exact hN) hb (by rw [List.length_append]; omega) (by rw [List.length_append]; omega) (by rw [List.length_append]; omega) s).mono ?_
      rintro v h2 ⟨rfl, s2⟩
      simp (maxSteps := 2000000) (disch := first | (simp only [go_sem, simprocAttr, g2, g3] <;> omega) | omega) only [go_sem, simprocAttr, g2, g3]
      rw [e8] at s2
      have dd := d2.1
      refine (ih _ _ _ A (L.take x) (R.take (sp - x)) (L.drop x ++ R.drop (sp - x) ++ C) N _ _ _ (by omega) (by omega) (by omega) rfl (by simp only [List.length_append]; omega) hb rfl (by omega) (by omega) oL1 oR1 hc1 s2).mono ?_
      rintro v h3 ⟨rfl, M1, p1, o1, s3⟩
      simp (maxSteps := 2000000) (disch := first | (simp only [go_sem, simprocAttr, g3] <;> omega) | omega) only [go_sem, simprocAttr, g3]
      have hM1 := p1.length_eq
      rw [List.length_append, hlL, hlR] at hM1
      rw [e9] at s3
      have dd := d3.1
      refine (ih _ _ _ (A ++ M1) (L.drop x) (R.drop (sp - x)) C N _ _ _ (by omega) (by omega) (by omega) rfl (by simp only [List.length_append]; omega) hb (by rw [List.length_append]; omega) (by rw [List.length_append]; omega) (by rw [List.length_append]; omega) oL2 oR2 hc2 s3).mono ?_
      rintro v h4 ⟨rfl, M2, p2, o2, s4⟩
      simp (maxSteps := 2000000) (disch := first | (simp only [go_sem, simprocAttr] <;> omega) | omega) only [go_sem, simprocAttr]
      exact fin _ M1 M2 p1 o1 p2 o2 s4
    · simp (maxSteps := 2000000) (disch := first | (simp only [go_sem, simprocAttr, q4, ee, g1, g2, g3] <;> omega) | omega) only [go_sem, simprocAttr, q4, ee, g1, g2, g3]
      have dd := d1.1
      refine (rotate_S (A := A ++ L.take x) (L := L.drop x) (R := R.take (sp - x)) (C := R.drop (sp - x) ++ C) cmpFn (by omega) (by omega) rfl (by rw [← e7, ← hY]; exact hN) hb (by rw [List.length_append]; omega) (by rw [List.length_append]; omega) (by rw [List.length_append]; omega) s).mono ?_
      rintro v h2 ⟨rfl, s2⟩
      simp (maxSteps := 2000000) (disch := first | (simp only [go_sem, simprocAttr, g2, g3] <;> omega) | omega) only [go_sem, simprocAttr, g2, g3]
      rw [e8] at s2
      have dd := d2.1
      refine (ih _ _ _ A (L.take x) (R.take (sp - x)) (L.drop x ++ R.drop (sp - x) ++ C) N _ _ _ (by omega) (by omega) (by omega) rfl (by simp only [List.length_append]; omega) hb rfl (by omega) (by omega) oL1 oR1 hc1 s2).mono ?_
      rintro v h3 ⟨rfl, M1, p1, o1, s3⟩
      simp (maxSteps := 2000000) (disch := first | (simp only [go_sem, simprocAttr, g3] <;> omega) | omega) only [go_sem, simprocAttr, g3]
      have hM1 := p1.length_eq
      rw [List.length_append, hlL, hlR] at hM1
      rw [e9] at s3
      obtain ⟨M2, p2, o2, hM2⟩ := non2 d3
      rw [List.append_assoc (A ++ M1), hM2] at s3
      exact fin _ M1 M2 p1 o1 p2 o2 s3
    · simp (maxSteps := 2000000) (disch := first | (simp only [go_sem, simprocAttr, q4, ee, g1, g2, g3] <;> omega) | omega) only [go_sem, simprocAttr, q4, ee, g1, g2, g3]
      have dd := d1.1
      refine (rotate_S (A := A ++ L.take x) (L := L.drop x) (R := R.take (sp - x)) (C := R.drop (sp - x) ++ C) cmpFn (by omega) (by omega) rfl (by rw [← e7, ← hY]; exact hN) hb (by rw [List.length_append]; omega) (by rw [List.length_append]; omega) (by rw [List.length_append]; omega) s).mono ?_
      rintro v h2 ⟨rfl, s2⟩
      simp (maxSteps := 2000000) (disch := first | (simp only [go_sem, simprocAttr, g2, g3] <;> omega) | omega) only [go_sem, simprocAttr, g2, g3]
      rw [e8] at s2
      obtain ⟨M1, p1, o1, hM⟩ := non1 d2
      have s3 := s2
      rw [List.append_assoc A, hM] at s3
      have hM1 := p1.length_eq
      rw [List.length_append, hlL, hlR] at hM1
      rw [e9] at s3
      have dd := d3.1
      refine (ih _ _ _ (A ++ M1) (L.drop x) (R.drop (sp - x)) C N _ _ _ (by omega) (by omega) (by omega) rfl (by simp only [List.length_append]; omega) hb (by rw [List.length_append]; omega) (by rw [List.length_append]; omega) (by rw [List.length_append]; omega) oL2 oR2 hc2 s3).mono ?_
      rintro v h4 ⟨rfl, M2, p2, o2, s4⟩
      simp (maxSteps := 2000000) (disch := first | (simp only [go_sem, simprocAttr] <;> omega) | omega) only [go_sem, simprocAttr]
      exact fin _ M1 M2 p1 o1 p2 o2 s4
    · simp (maxSteps := 2000000) (disch := first | (simp only [go_sem, simprocAttr, q4, ee, g1, g2, g3] <;> omega) | omega) only [go_sem, simprocAttr, q4, ee, g1, g2, g3]
      have dd := d1.1
      refine (rotate_S (A := A ++ L.take x) (L := L.drop x) (R := R.take (sp - x)) (C := R.drop (sp - x) ++ C) cmpFn (by omega) (by omega) rfl (by rw [← e7, ← hY]; exact hN) hb (by rw [List.length_append]; omega) (by rw [List.length_append]; omega) (by rw [List.length_append]; omega) s).mono ?_
      rintro v h2 ⟨rfl, s2⟩
      simp (maxSteps := 2000000) (disch := first | (simp only [go_sem, simprocAttr, g2, g3] <;> omega) | omega) only [go_sem, simprocAttr, g2, g3]
      rw [e8] at s2
      obtain ⟨M1, p1, o1, hM⟩ := non1 d2
      have s3 := s2
      rw [List.append_assoc A, hM] at s3
      have hM1 := p1.length_eq
      rw [List.length_append, hlL, hlR] at hM1
      rw [e9] at s3
      obtain ⟨M2, p2, o2, hM2⟩ := non2 d3
      rw [List.append_assoc (A ++ M1), hM2] at s3
      exact fin _ M1 M2 p1 o1 p2 o2 s3
    · exfalso; omega
    · simp (maxSteps := 2000000) (disch := first | (simp only [go_sem, simprocAttr, q4, ee, g1, g2, g3] <;> omega) | omega) only [go_sem, simprocAttr, q4, ee, g1, g2, g3]
      have s2 := s
      rw [nor d1] at s2
      have dd := d2.1
      refine (ih _ _ _ A (L.take x) (R.take (sp - x)) (L.drop x ++ R.drop (sp - x) ++ C) N _ _ _ (by omega) (by omega) (by omega) rfl (by simp only [List.length_append]; omega) hb rfl (by omega) (by omega) oL1 oR1 hc1 s2).mono ?_
      rintro v h3 ⟨rfl, M1, p1, o1, s3⟩
      simp (maxSteps := 2000000) (disch := first | (simp only [go_sem, simprocAttr, g3] <;> omega) | omega) only [go_sem, simprocAttr, g3]
      have hM1 := p1.length_eq
      rw [List.length_append, hlL, hlR] at hM1
      rw [e9] at s3
      obtain ⟨M2, p2, o2, hM2⟩ := non2 d3
      rw [List.append_assoc (A ++ M1), hM2] at s3
      exact fin _ M1 M2 p1 o1 p2 o2 s3
    · simp (maxSteps := 2000000) (disch := first | (simp only [go_sem, simprocAttr, q4, ee, g1, g2, g3] <;> omega) | omega) only [go_sem, simprocAttr, q4, ee, g1, g2, g3]
      have s2 := s
      rw [nor d1] at s2
      obtain ⟨M1, p1, o1, hM⟩ := non1 d2
      have s3 := s2
      rw [List.append_assoc A, hM] at s3
      have hM1 := p1.length_eq
      rw [List.length_append, hlL, hlR] at hM1
      rw [e9] at s3
      have dd := d3.1
      refine (ih _ _ _ (A ++ M1) (L.drop x) (R.drop (sp - x)) C N _ _ _ (by omega) (by omega) (by omega) rfl (by simp only [List.length_append]; omega) hb (by rw [List.length_append]; omega) (by rw [List.length_append]; omega) (by rw [List.length_append]; omega) oL2 oR2 hc2 s3).mono ?_
      rintro v h4 ⟨rfl, M2, p2, o2, s4⟩
      simp (maxSteps := 2000000) (disch := first | (simp only [go_sem, simprocAttr] <;> omega) | omega) only [go_sem, simprocAttr]
      exact fin _ M1 M2 p1 o1 p2 o2 s4
    · simp (maxSteps := 2000000) (disch := first | (simp only [go_sem, simprocAttr, q4, ee, g1, g2, g3] <;> omega) | omega) only [go_sem, simprocAttr, q4, ee, g1, g2, g3]
      have s2 := s
      rw [nor d1] at s2
      obtain ⟨M1, p1, o1, hM⟩ := non1 d2
      have s3 := s2
      rw [List.append_assoc A, hM] at s3
      have hM1 := p1.length_eq
      rw [List.length_append, hlL, hlR] at hM1
      rw [e9] at s3
      obtain ⟨M2, p2, o2, hM2⟩ := non2 d3
      rw [List.append_assoc (A ++ M1), hM2] at s3
      exact fin _ M1 M2 p1 o1 p2 o2 s3
end
end Go.Eng
