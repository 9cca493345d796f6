/-
  Merging two sorted lists in place, plain.
-/
import Derived.Test.YtaijcllgdlalpaaGreatDoorZj11
import Derived.Test.YtaijcllgdlalpaaGreatDoorZj2
import Derived.Test.YtaijcllgdlalpaaGreatDoorZj8
set_option linter.unusedSimpArgs false
set_option linter.unusedVariables false
set_option maxRecDepth 16000
set_option maxHeartbeats 4000000
namespace Go.Eng
section
variable {α : Type} {lt : α → α → Prop}
/-- The later one's answer decides. -/
def Crs (c : α → α → Bool) (lt : α → α → Prop) (y x : α) : Prop := if c x y = true then lt x y else lt y x
theorem last_le {X : List α} (hX : X.Pairwise lt) {z u : α} (hz : X.getLast? = some z) (hu : u ∈ X) : u = z ∨ lt u z := by
  obtain ⟨Y, rfl⟩ := List.getLast?_eq_some_iff.1 hz
  rcases List.mem_append.1 hu with h | h
  · exact .inr ((List.pairwise_append.1 hX).2.2 u h z (by simp))
  · exact .inl (by simpa using h)
theorem head_le {X : List α} (hX : X.Pairwise lt) {z u : α} (hz : X.head? = some z) (hu : u ∈ X) : z = u ∨ lt z u := by
  cases X with
  | nil => cases hu
  | cons y X =>
    obtain rfl : y = z := by simpa using hz
    rcases List.mem_cons.1 hu with h | h
    · exact .inl h.symm
    · exact .inr ((List.pairwise_cons.1 hX).1 u h)
theorem split_lt (tr : ∀ {x y z}, lt x y → lt y z → lt x z) {L1 L2 R1 R2 : List α} (hL : (L1 ++ L2).Pairwise lt) (hR : (R1 ++ R2).Pairwise lt)
    (h1 : ∀ x, R1.getLast? = some x → ∀ y, L2.head? = some y → lt x y) (h2 : ∀ x, L1.getLast? = some x → ∀ y, R2.head? = some y → lt x y) : ∀ x ∈ L1 ++ R1, ∀ y ∈ L2 ++ R2, lt x y := by
  have key : ∀ {X Z : List α}, X.Pairwise lt → Z.Pairwise lt → (∀ x, X.getLast? = some x → ∀ y, Z.head? = some y → lt x y) → ∀ x ∈ X, ∀ y ∈ Z, lt x y := by
    intro X Z hX hZ h x hx y hy
    cases ea : X.getLast? with
    | none => rw [List.getLast?_eq_none_iff] at ea; subst ea; cases hx
    | some z =>
      cases eb : Z.head? with
      | none => rw [List.head?_eq_none_iff] at eb; subst eb; cases hy
      | some w =>
        have q := h z ea w eb
        have q1 : lt x w := by
          rcases last_le hX ea hx with e | e
          · rw [e]; exact q
          · exact tr e q
        rcases head_le hZ eb hy with e | e
        · rw [← e]; exact q1
        · exact tr q1 e
  obtain ⟨a1, a2, a3⟩ := List.pairwise_append.1 hL
  obtain ⟨b1, b2, b3⟩ := List.pairwise_append.1 hR
  intro x hx y hy
  rcases List.mem_append.1 hx with hx | hx <;> rcases List.mem_append.1 hy with hy | hy
  · exact a3 x hx y hy
  · exact key a1 b2 h2 x hx y hy
  · exact key b1 a2 h1 x hx y hy
  · exact b3 x hx y hy
theorem merge_sorted {L1 L2 R1 R2 M1 M2 : List α} (h : ∀ x ∈ L1 ++ R1, ∀ y ∈ L2 ++ R2, lt x y) (p1 : M1.Perm (L1 ++ R1)) (p2 : M2.Perm (L2 ++ R2)) (s1 : M1.Pairwise lt) (s2 : M2.Pairwise lt) :
    (M1 ++ M2).Perm ((L1 ++ L2) ++ (R1 ++ R2)) ∧ (M1 ++ M2).Pairwise lt := by
  refine ⟨(p1.append p2).trans ?_, List.pairwise_append.2 ⟨s1, s2, fun x hx y hy => h x (p1.subset hx) y (p2.subset hy)⟩⟩
  simp only [List.append_assoc]
  refine List.Perm.append_left _ ?_
  rw [← List.append_assoc, ← List.append_assoc]
  exact List.Perm.append_right _ List.perm_append_comm
theorem swap_list {A M C : List α} {x z : α} {i j : Nat} (hi : i = A.length) (hj : j = A.length + 1 + M.length) : ((A ++ x :: (M ++ z :: C)).set i z).set j x = A ++ z :: (M ++ x :: C) := by
  subst hi hj
  rw [List.set_append_right _ _ (by omega), Nat.sub_self, List.set_cons_zero, List.set_append_right _ _ (by omega)]
  congr 1
  rw [show A.length + 1 + M.length - A.length = M.length + 1 by omega, List.set_cons_succ, List.set_append_right _ _ (by omega), Nat.sub_self, List.set_cons_zero]
theorem at_mid {A B : List α} {x : α} {i : Nat} (hi : i = A.length) : (A ++ x :: B)[i]? = some x := by
  subst hi
  rw [List.getElem?_append_right (by omega), Nat.sub_self]; rfl
theorem at_mid2 {A M C : List α} {x z : α} {j : Nat} (hj : j = A.length + 1 + M.length) : (A ++ x :: (M ++ z :: C))[j]? = some z := by
  subst hj
  rw [List.getElem?_append_right (by omega), show A.length + 1 + M.length - A.length = M.length + 1 by omega, List.getElem?_cons_succ]
  exact at_mid rfl
theorem lt_mid {A B : List α} {x : α} {i : Nat} (hi : i = A.length) : i < (A ++ x :: B).length := by simp only [List.length_append, List.length_cons]; omega
theorem lt_mid2 {A M C : List α} {x z : α} {j : Nat} (hj : j = A.length + 1 + M.length) : j < (A ++ x :: (M ++ z :: C)).length := by simp only [List.length_append, List.length_cons]; omega
theorem swap_next {A C : List α} {x z : α} {i j : Nat} (hi : i = A.length) (hj : j = A.length + 1) : ((A ++ x :: z :: C).set i z).set j x = A ++ z :: x :: C := swap_list (M := []) hi hj
theorem swap_next' {A C : List α} {x z : α} {i j : Nat} (hi : i = A.length) (hj : j = A.length + 1) : ((A ++ x :: z :: C).set j x).set i z = A ++ z :: x :: C := by
  rw [List.set_comm _ _ (by omega)]; exact swap_next hi hj
end
end Go.Eng
/-
  Library: sorting in place, stably: a list of list registers in memory; swapping two parts.
-/
namespace Go.Eng
open Go Go.Proofs
def Lr.cells (x : Lr) : List Value := [.int .i64 x.I, .int .i64 x.P, .bool x.L, .bool x.Pe, .bool x.Ac]
theorem Lr.cells_eq {x : Lr} : x.cells = [.int .i64 x.I, .int .i64 x.P, .bool x.L, .bool x.Pe, .bool x.Ac] := rfl
attribute [go_sem] Lr.cells_eq
theorem Lr.cells_len (x : Lr) : x.cells.length = 5 := rfl
theorem Lr.cells_single (x : Lr) : ∀ v ∈ x.cells, single v = true := by
  intro v hv
  simp only [Lr.cells, List.mem_cons, List.not_mem_nil, or_false] at hv
  rcases hv with rfl | rfl | rfl | rfl | rfl <;> rfl
def lrL (Y : List Lr) : List Value := Y.flatMap Lr.cells
/-- A list of list registers in memory. -/
def lrS (lb cap : Nat) (Y : List Lr) : SP := sliceS 5 Y.length (.slice (some ⟨lb, 0, none⟩) Y.length cap) (lrL Y)
section
variable {h : Heap} {F : List SP} {lb cap : Nat} {Y : List Lr}
theorem lr_read (hs : Sat h (lrS lb cap Y :: F)) {j : Nat} {x : Lr} (hx : Y[j]? = some x) : hreadO h[lb]? (j * 5) 5 = some x.cells.toArray := by
  obtain ⟨hj, -⟩ := List.getElem?_eq_some_iff.1 hx
  obtain ⟨sl, cap, e, -, -, hel⟩ := hs.elems
  cases e
  rcases hel with hel | ⟨lb, e, -, hrd⟩
  · omega
  cases e
  rw [hrd _ _ (by omega)]
  congr 2
  apply List.ext_getElem?
  intro m
  rw [List.getElem?_take, List.getElem?_drop]
  by_cases hm : m < 5
  · rw [if_pos hm]
    unfold lrL
    rw [flat_get Lr.cells_len Y j m hm, hx]; rfl
  · rw [if_neg hm, List.getElem?_eq_none (by rw [Lr.cells_len]; omega)]
theorem lr_store {t : TypeId} (ht : tszD Tryz.prog t = 5) (ht2 : (tsz Tryz.prog t).isSome = true) (hs : Sat h (lrS lb cap Y :: F)) {j : Nat} (hj : j < Y.length) (x : Lr) {K : Unit → Heap → Prop} (hK : ∀ h', Sat h' (lrS lb cap (Y.set j x) :: F) → K () h') :
    runH Tryz.prog (iStoreAt t (.pointer (some ⟨lb, j * 5, none⟩)) (.agg x.cells.toArray)) h K := by
  obtain ⟨a, c, p1, p2, p3, ⟨r1, r2, r3⟩, p5⟩ := hs
  rcases r3 with ⟨e, -⟩ | ⟨lb, cap, cs, ty, e, w1, w2, w3, w4⟩
  · omega
  cases e
  have hlb : h[lb]? = some (.cells cs ty (0, 0)) := p2 lb _ w3
  have base : Sat h (cellAt lb (.cells cs ty (0, 0)) :: F) := ⟨a, c, p1, p2, p3, w3, p5⟩
  have hle : (j + 1) * 5 ≤ Y.length * 5 := Nat.mul_le_mul_right _ hj
  have hlf : (lrL Y).length = Y.length * 5 := flat_len Lr.cells_len Y
  refine runH_store_row (by rw [ht]; rfl) ht2 hlb (Lr.cells_single x) (by rw [Lr.cells_len]; omega) fun c' hc' hg => ?_
  refine hK _ ((base.set (.cells c' ty (0, 0))).imp fun b hb => ?_)
  have hl2 : (lrL (Y.set j x)).length = Y.length * 5 := by unfold lrL; rw [flat_len Lr.cells_len, List.length_set]
  refine ⟨by rw [hl2, List.length_set], fun v hv => ?_, .inr ⟨lb, cap, c', ty, by rw [List.length_set], by rw [List.length_set]; exact w1, by rw [hc', w2], hb, fun k hk => ?_⟩⟩
  · obtain ⟨y, -, hy⟩ := List.mem_flatMap.1 hv
    exact Lr.cells_single y v hy
  · rw [hl2] at hk
    rw [hg k, Lr.cells_len]
    have ek : k / 5 * 5 + k % 5 = k := by omega
    have e1 := flat_get Lr.cells_len (Y.set j x) (k / 5) (k % 5) (by omega)
    rw [ek] at e1
    unfold lrL
    rw [e1, List.getElem?_set]
    by_cases q : j = k / 5
    · rw [if_pos (by omega), if_pos q, if_pos hj, show k - j * 5 = k % 5 by omega]; rfl
    · rw [if_neg (by omega), if_neg q, w4 k (by rw [hlf]; exact hk)]
      have e2 := flat_get Lr.cells_len Y (k / 5) (k % 5) (by omega)
      rw [ek] at e2
      exact e2
theorem swapRange_S {A X B Z C : List Lr} {N : Nat} {a b k : Int} (f : Value) (hn : X.length = Z.length) (hY : Y = A ++ X ++ B ++ Z ++ C) (hN : N = Y.length) (hb : N < 1000000) (ha : a = A.length) (hb2 : b = (A.length + X.length + B.length : Nat)) (hk : k = X.length) (hs : Sat h (lrS lb cap Y :: F)) :
    HCalls Tryz.prog 168 #[.slice (some ⟨lb, 0, none⟩) N cap, .int .i64 a, .int .i64 b, .int .i64 k, f] h fun v h' => v = .tuple #[] ∧ Sat h' (lrS lb cap (A ++ Z ++ B ++ X ++ C) :: F) := by
  subst hN ha hb2 hk
  refine HCalls.via fun R hR => ?_
  have hl : Y.length = A.length + X.length + B.length + Z.length + C.length := by rw [hY]; simp only [List.length_append]
  refine HCalls.of_dev T168 Tryz.func168 rfl mixed (by kernel_rfl) ?_; rw [Tryz.results168]
  simp (maxSteps := 2000000) (disch := first | (simp only [go_sem, simprocAttr] <;> omega) | omega) only [go_sem, simprocAttr]
  refine loopH.intro (fun i : Nat => (.cons 0 (.slice (some ⟨lb, 0, none⟩) Y.length cap) true (.cons 1 (.int .i64 A.length) true (.cons 2 (.int .i64 (A.length + X.length + B.length : Nat)) true (.cons 3 (.int .i64 X.length) true (.cons 10 (.int .i64 i) true .nil))))))
    (fun i h' => i ≤ X.length ∧ Sat h' (lrS lb cap (A ++ (Z.take i ++ X.drop i) ++ B ++ (X.take i ++ Z.drop i) ++ C) :: F)) (fun i _ => X.length + 1 - i) 0 ?_ ⟨by omega, by rw [List.take_zero, List.drop_zero, List.take_zero, List.drop_zero, List.nil_append, List.nil_append, ← hY]; exact hs⟩ ?_
  · simp (maxSteps := 2000000) (disch := first | (simp only [go_sem, simprocAttr] <;> omega) | omega) only [go_sem, simprocAttr]
    try rfl
  rintro i h' ⟨hi, s⟩
  by_cases q : i < X.length
  · have q1 : (i : Int) < X.length := by omega
    have ea : (A.length : Int) + i = ((A.length + i : Nat) : Int) := by omega
    have eb : ((A.length + X.length + B.length : Nat) : Int) + i = ((A.length + X.length + B.length + i : Nat) : Int) := by omega
    simp (maxSteps := 2000000) (disch := first | (simp only [go_sem, simprocAttr, q1, ea, eb] <;> omega) | omega) only [go_sem, simprocAttr, q1, ea, eb]
    have hix : X.drop i = X[i] :: X.drop (i + 1) := List.drop_eq_getElem_cons q
    have hiz : Z.drop i = Z[i]'(by omega) :: Z.drop (i + 1) := List.drop_eq_getElem_cons (by omega)
    have e : A ++ (Z.take i ++ X.drop i) ++ B ++ (X.take i ++ Z.drop i) ++ C = (A ++ Z.take i) ++ X[i] :: ((X.drop (i + 1) ++ B ++ X.take i) ++ Z[i]'(by omega) :: (Z.drop (i + 1) ++ C)) := by
      rw [hix, hiz]; simp only [List.append_assoc, List.cons_append]
    rw [e] at s
    have l1 : A.length + i = (A ++ Z.take i).length := by simp only [List.length_append, List.length_take]; omega
    have l2 : A.length + X.length + B.length + i = (A ++ Z.take i).length + 1 + (X.drop (i + 1) ++ B ++ X.take i).length := by simp only [List.length_append, List.length_take, List.length_drop]; omega
    have g1 := lr_read s (at_mid l1)
    have g2 := lr_read s (at_mid2 l2)
    rw [g1, g2]
    simp (maxSteps := 2000000) (disch := first | (simp only [go_sem, simprocAttr] <;> omega) | omega) only [go_sem, simprocAttr]
    refine lr_store (by kernel_rfl) (by kernel_rfl) s (lt_mid l1) _ fun h1 s1 => ?_
    refine lr_store (by kernel_rfl) (by kernel_rfl) s1 (by rw [List.length_set]; exact lt_mid2 l2) _ fun h2 s2 => ?_
    rw [swap_list l1 l2] at s2
    refine ⟨i + 1, rfl, ⟨by omega, ?_⟩, by simp only; omega⟩
    have e2 : A ++ (Z.take (i + 1) ++ X.drop (i + 1)) ++ B ++ (X.take (i + 1) ++ Z.drop (i + 1)) ++ C = (A ++ Z.take i) ++ Z[i]'(by omega) :: ((X.drop (i + 1) ++ B ++ X.take i) ++ X[i] :: (Z.drop (i + 1) ++ C)) := by
      rw [List.take_succ_eq_append_getElem (show i < Z.length by omega), List.take_succ_eq_append_getElem q]; simp only [List.append_assoc, List.cons_append, List.nil_append]
    rw [e2]
    exact s2
  · have q1 : ¬ (i : Int) < X.length := by omega
    simp (maxSteps := 2000000) (disch := first | (simp only [go_sem, simprocAttr, q1] <;> omega) | omega) only [go_sem, simprocAttr, q1]
    rw [List.take_of_length_le (by omega), List.take_of_length_le (by omega), List.drop_of_length_le (by omega), List.drop_of_length_le (by omega), List.append_nil, List.append_nil] at s
    exact hR _ _ ⟨rfl, s⟩
theorem rotate_S {A L R C : List Lr} {N : Nat} {a m b : Int} (f : Value) (hL : 0 < L.length) (hR0 : 0 < R.length) (hY : Y = A ++ L ++ R ++ C) (hN : N = Y.length) (hb : N < 1000000) (ha : a = A.length) (hm : m = (A.length + L.length : Nat)) (hb2 : b = (A.length + L.length + R.length : Nat)) (hs : Sat h (lrS lb cap Y :: F)) :
    HCalls Tryz.prog 162 #[.slice (some ⟨lb, 0, none⟩) N cap, .int .i64 a, .int .i64 m, .int .i64 b, f] h fun v h' => v = .tuple #[] ∧ Sat h' (lrS lb cap (A ++ R ++ L ++ C) :: F) := by
  subst ha hm hb2
  refine HCalls.via fun K hK => ?_
  have hl : N = A.length + L.length + R.length + C.length := by rw [hN, hY]; simp only [List.length_append]
  have e1 : ((A.length + L.length : Nat) : Int) - A.length = L.length := by omega
  have e2 : ((A.length + L.length + R.length : Nat) : Int) - (A.length + L.length : Nat) = R.length := by omega
  refine HCalls.of_dev T162 Tryz.func162 rfl mixed (by kernel_rfl) ?_; rw [Tryz.results162]
  simp (maxSteps := 2000000) (disch := first | (simp only [go_sem, simprocAttr, e1, e2] <;> omega) | omega) only [go_sem, simprocAttr, e1, e2]
  refine loopH.intro (fun t : List Lr × List Lr × List Lr × List Lr => (.cons 0 (.slice (some ⟨lb, 0, none⟩) N cap) true (.cons 2 (.int .i64 (A.length + L.length : Nat)) true (.cons 4 (f) true (.cons 10 (.int .i64 t.2.1.length) true (.cons 11 (.int .i64 t.2.2.1.length) true .nil))))))
    (fun t h' => 0 < t.2.1.length ∧ 0 < t.2.2.1.length ∧ t.1.length + t.2.1.length = A.length + L.length ∧ t.1 ++ t.2.2.1 ++ t.2.1 ++ t.2.2.2 = A ++ R ++ L ++ C ∧ Sat h' (lrS lb cap (t.1 ++ t.2.1 ++ t.2.2.1 ++ t.2.2.2) :: F)) (fun t _ => t.2.1.length + t.2.2.1.length) (A, L, R, C) ?_ ⟨hL, hR0, rfl, rfl, by rw [hY] at hs; exact hs⟩ ?_
  · simp (maxSteps := 2000000) (disch := first | (simp only [go_sem, simprocAttr] <;> omega) | omega) only [go_sem, simprocAttr]
  rintro ⟨A1, U, W, C1⟩ h' ⟨hU, hW, hA, hfin, s⟩
  simp only at hU hW hA hfin s
  have hl1 := congrArg List.length hfin
  simp only [List.length_append] at hl1
  have e3 : ((A.length + L.length : Nat) : Int) - U.length = A1.length := by omega
  by_cases q : U.length = W.length
  · have q1 : (U.length : Int) = W.length := by omega
    simp (maxSteps := 2000000) (disch := first | (simp only [go_sem, simprocAttr, q1, e3] <;> omega) | omega) only [go_sem, simprocAttr, q1, e3]
    refine (swapRange_S (A := A1) (X := U) (B := []) (Z := W) (C := C1) f q (by simp only [List.append_nil]) (by simp only [List.length_append]; omega) hb (by omega) (by simp only [List.length_nil]; omega) (by omega) s).mono ?_
    rintro v h2 ⟨rfl, s2⟩
    simp (maxSteps := 2000000) (disch := first | (simp only [go_sem, simprocAttr] <;> omega) | omega) only [go_sem, simprocAttr]
    rw [List.append_nil, hfin] at s2
    exact hK _ _ ⟨rfl, s2⟩
  · have q1 : ¬ (U.length : Int) = W.length := by omega
    by_cases q2 : W.length < U.length
    · have q3 : (W.length : Int) < U.length := by omega
      have lt : (U.take W.length).length = W.length := by rw [List.length_take]; omega
      have ld : (U.drop W.length).length = U.length - W.length := List.length_drop ..
      simp (maxSteps := 2000000) (disch := first | (simp only [go_sem, simprocAttr, q1, q3, e3] <;> omega) | omega) only [go_sem, simprocAttr, q1, q3, e3]
      refine (swapRange_S (A := A1) (X := U.take W.length) (B := U.drop W.length) (Z := W) (C := C1) f lt (by rw [List.append_assoc A1 (U.take _), List.take_append_drop]) (by simp only [List.length_append]; omega) hb (by omega) (by omega) (by omega) s).mono ?_
      rintro v h2 ⟨rfl, s2⟩
      simp (maxSteps := 2000000) (disch := first | (simp only [go_sem, simprocAttr] <;> omega) | omega) only [go_sem, simprocAttr]
      refine ⟨(A1 ++ W, U.drop W.length, U.take W.length, C1), ?_, ⟨?_, ?_, ?_, ?_, s2⟩, ?_⟩
      · simp only
        rw [ld, lt, show ((U.length - W.length : Nat) : Int) = U.length - W.length by omega]
      · simp only; omega
      · simp only; omega
      · simp only [List.length_append]; omega
      · simp only; rw [List.append_assoc (A1 ++ W), List.take_append_drop]; exact hfin
      · simp only; omega
    · have q3 : ¬ (W.length : Int) < U.length := by omega
      have lt : (W.drop (W.length - U.length)).length = U.length := by rw [List.length_drop]; omega
      have ld : (W.take (W.length - U.length)).length = W.length - U.length := by rw [List.length_take]; omega
      have e4 : ((A.length + L.length : Nat) : Int) + W.length - U.length = (A1.length + U.length + (W.length - U.length) : Nat) := by omega
      simp (maxSteps := 2000000) (disch := first | (simp only [go_sem, simprocAttr, q1, q3, e3, e4] <;> omega) | omega) only [go_sem, simprocAttr, q1, q3, e3, e4]
      refine (swapRange_S (A := A1) (X := U) (B := W.take (W.length - U.length)) (Z := W.drop (W.length - U.length)) (C := C1) f lt.symm (by rw [List.append_assoc (A1 ++ U) (W.take _), List.take_append_drop]) (by simp only [List.length_append]; omega) hb (by omega) (by rw [ld]) (by omega) s).mono ?_
      rintro v h2 ⟨rfl, s2⟩
      simp (maxSteps := 2000000) (disch := first | (simp only [go_sem, simprocAttr] <;> omega) | omega) only [go_sem, simprocAttr]
      refine ⟨(A1, W.drop (W.length - U.length), W.take (W.length - U.length), U ++ C1), ?_, ⟨?_, ?_, ?_, ?_, ?_⟩, ?_⟩
      · simp only
        rw [ld, lt, show ((W.length - U.length : Nat) : Int) = W.length - U.length by omega]
      · simp only; omega
      · simp only; omega
      · simp only; omega
      · simp only; rw [← List.append_assoc, List.append_assoc A1 (W.take _), List.take_append_drop]; exact hfin
      · simp only; rw [← List.append_assoc]; exact s2
      · simp only; omega
end
end Go.Eng
/-
  package vgic: how list registers are compared; library: insertion sort of a part.
-/
namespace Go.Eng
open Go Go.Proofs
section
variable {h : Heap}
theorem isNaN_S (x : Int) : HCalls Tryz.prog 139 #[.int .i64 x] h fun v h' => v = .bool false ∧ h' = h := by
  refine HCalls.via fun R hR => ?_
  refine HCalls.of_dev T139 Tryz.func139 rfl mixed (by kernel_rfl) ?_; rw [Tryz.results139]
  simp (maxSteps := 2000000) (disch := first | (simp only [go_sem, simprocAttr] <;> omega) | omega) only [go_sem, simprocAttr]
  exact hR _ _ ⟨rfl, rfl⟩
theorem compare_S (x y : Int) : HCalls Tryz.prog 116 #[.int .i64 x, .int .i64 y] h fun v h' => v = .int .i64 (cmp3 x y) ∧ h' = h := by
  refine HCalls.via fun R hR => ?_
  refine HCalls.of_dev T116 Tryz.func116 rfl mixed (by kernel_rfl) ?_; rw [Tryz.results116]
  simp (maxSteps := 2000000) (disch := first | (simp only [go_sem, simprocAttr] <;> omega) | omega) only [go_sem, simprocAttr]
  refine (isNaN_S x).mono ?_
  rintro v h' ⟨rfl, rfl⟩
  simp (maxSteps := 2000000) (disch := first | (simp only [go_sem, simprocAttr] <;> omega) | omega) only [go_sem, simprocAttr]
  refine (isNaN_S y).mono ?_
  rintro v h' ⟨rfl, rfl⟩
  unfold cmp3 at hR
  by_cases c1 : x < y
  · rw [if_pos c1] at hR
    simp (maxSteps := 2000000) (disch := first | (simp only [go_sem, simprocAttr, c1] <;> omega) | omega) only [go_sem, simprocAttr, c1]
    exact hR _ _ ⟨rfl, rfl⟩
  · rw [if_neg c1] at hR
    by_cases c2 : y < x
    · rw [if_pos c2] at hR
      simp (maxSteps := 2000000) (disch := first | (simp only [go_sem, simprocAttr, c1, c2] <;> omega) | omega) only [go_sem, simprocAttr, c1, c2]
      exact hR _ _ ⟨rfl, rfl⟩
    · rw [if_neg c2] at hR
      simp (maxSteps := 2000000) (disch := first | (simp only [go_sem, simprocAttr, c1, c2] <;> omega) | omega) only [go_sem, simprocAttr, c1, c2]
      exact hR _ _ ⟨rfl, rfl⟩
theorem cmpLr_S (x y : Lr) (h : Heap) : HCalls Tryz.prog 115 #[.agg x.cells.toArray, .agg y.cells.toArray] h fun v h' => v = .int .i64 (cfL x y) ∧ Ext h h' := by
  refine HCalls.via fun R hR => ?_
  have s1 := ((Sat.init h).push (.cells x.cells.toArray 163 (0, 0))).push (.cells y.cells.toArray 163 (0, 0))
  simp only [size_push', Lr.cells_eq] at s1
  unfold cfL at hR
  refine HCalls.of_dev T115 Tryz.func115 rfl mixed (by kernel_rfl) ?_; rw [Tryz.results115]
  simp (maxSteps := 2000000) (disch := first | (simp only [go_sem, simprocAttr] <;> omega) | omega) only [go_sem, simprocAttr]
  by_cases q : x.Ac = y.Ac
  · rw [if_pos q] at hR
    rw [q] at s1
    simp (maxSteps := 2000000) (disch := first | (simp only [go_sem, simprocAttr, q] <;> omega) | omega) only [go_sem, simprocAttr, q]
    refine (compare_S _ _).mono ?_
    rintro v h' ⟨rfl, rfl⟩
    simp (maxSteps := 2000000) (disch := first | (simp only [go_sem, simprocAttr] <;> omega) | omega) only [go_sem, simprocAttr]
    exact hR _ _ ⟨rfl, (s1.front 2).ext⟩
  · rw [if_neg q] at hR
    cases hx : x.Ac with
    | true =>
      have hy : y.Ac = false := by rw [hx] at q; cases e : y.Ac <;> simp_all
      rw [hx] at hR
      rw [hx, hy] at s1
      simp (maxSteps := 2000000) (disch := first | (simp only [go_sem, simprocAttr, hx, hy] <;> omega) | omega) only [go_sem, simprocAttr, hx, hy]
      exact ⟨fun _ => hR _ _ ⟨rfl, (s1.front 2).ext⟩, fun z => by cases z⟩
    | false =>
      have hy : y.Ac = true := by rw [hx] at q; cases e : y.Ac <;> simp_all
      rw [hx] at hR
      rw [hx, hy] at s1
      simp (maxSteps := 2000000) (disch := first | (simp only [go_sem, simprocAttr, hx, hy] <;> omega) | omega) only [go_sem, simprocAttr, hx, hy]
      exact ⟨fun _ => hR _ _ ⟨rfl, (s1.front 2).ext⟩, fun z => by cases z⟩
end
/-- The function that compares. -/
def cmpFn : Value := .func (.func 115) #[] #[]
theorem cmpFn_eq : cmpFn = .func (.func 115) #[] #[] := rfl
theorem last_cases {α : Type} (l : List α) : l = [] ∨ ∃ L b, l = L ++ [b] := by
  rcases List.eq_nil_or_concat l with h | ⟨L, b, h⟩
  · exact .inl h
  · exact .inr ⟨L, b, by rw [h, List.concat_eq_append]⟩
theorem ins_done {S : List Lr} {k : Nat} (hk : k < S.length) {S1 S2 : List Lr} (hp : (S1 ++ S2).Perm (S.take k)) (hs : (S1 ++ S2).Pairwise ltL) (h1 : ∀ y ∈ S1, ltL y S[k]) (h2 : ∀ y ∈ S2, ltL S[k] y) :
    (S1 ++ S[k] :: S2).Perm (S.take (k + 1)) ∧ (S1 ++ S[k] :: S2).Pairwise ltL := by
  obtain ⟨p1, p2, p3⟩ := List.pairwise_append.1 hs
  refine ⟨?_, List.pairwise_append.2 ⟨p1, List.pairwise_cons.2 ⟨h2, p2⟩, ?_⟩⟩
  · rw [List.take_succ_eq_append_getElem hk]
    refine List.perm_middle.trans ?_
    exact (List.Perm.cons _ hp).trans (List.perm_append_singleton _ _).symm
  · intro x hx y hy
    rcases List.mem_cons.1 hy with rfl | hy
    · exact h1 x hx
    · exact p3 x hx y hy
section
variable {h : Heap} {F : List SP} {lb cap : Nat} {Y : List Lr}
theorem insSort_S {A S C : List Lr} {N : Nat} {a b : Int} (hY : Y = A ++ S ++ C) (hN : N = Y.length) (hb : N < 1000000) (ha : a = A.length) (hb2 : b = (A.length + S.length : Nat)) (hS : S.Pairwise fun y x => if cL x y = true then ltL x y else ltL y x) (hs : Sat h (lrS lb cap Y :: F)) :
    HCalls Tryz.prog 153 #[.slice (some ⟨lb, 0, none⟩) N cap, .int .i64 a, .int .i64 b, cmpFn] h fun v h' => v = .tuple #[] ∧ ∃ M : List Lr, M.Perm S ∧ M.Pairwise ltL ∧ Sat h' (lrS lb cap (A ++ M ++ C) :: F) := by
  subst ha hb2
  refine HCalls.via fun K hK => ?_
  have hl : N = A.length + S.length + C.length := by rw [hN, hY]; simp only [List.length_append]
  refine HCalls.of_dev T153 Tryz.func153 rfl mixed (by kernel_rfl) ?_; rw [Tryz.results153]
  simp (maxSteps := 2000000) (disch := first | (simp only [go_sem, simprocAttr] <;> omega) | omega) only [go_sem, simprocAttr]
  refine loopH.intro (fun t : Nat × List Lr => (.cons 0 (.slice (some ⟨lb, 0, none⟩) N cap) true (.cons 1 (.int .i64 A.length) true (.cons 2 (.int .i64 (A.length + S.length : Nat)) true (.cons 3 (cmpFn) true (.cons 8 (.int .i64 (A.length + t.1 : Nat)) true .nil))))))
    (fun t h' => 1 ≤ t.1 ∧ t.2.Perm (S.take t.1) ∧ t.2.Pairwise ltL ∧ Sat h' (lrS lb cap (A ++ t.2 ++ S.drop t.1 ++ C) :: F)) (fun t _ => S.length + 1 - t.1) (1, S.take 1) ?_ ⟨Nat.le_refl _, List.Perm.refl _, ?_, by rw [List.append_assoc A, List.take_append_drop, ← hY]; exact hs⟩ ?_
  · simp (maxSteps := 2000000) (disch := first | (simp only [go_sem, simprocAttr] <;> omega) | omega) only [go_sem, simprocAttr]
    try rfl
  · cases S with
    | nil => exact List.Pairwise.nil
    | cons x S => exact List.pairwise_singleton _ _
  clear hs
  rintro ⟨k, M⟩ h1 ⟨hk1, hp, hM, s⟩
  simp only at hk1 hp hM s
  by_cases q : k < S.length
  · have q1 : ((A.length + k : Nat) : Int) < (A.length + S.length : Nat) := by omega
    simp (maxSteps := 2000000) (disch := first | (simp only [go_sem, simprocAttr, q1] <;> omega) | omega) only [go_sem, simprocAttr, q1]
    have hd : S.drop k = S[k] :: S.drop (k + 1) := List.drop_eq_getElem_cons q
    have hcr : ∀ y ∈ M, if cL S[k] y = true then ltL S[k] y else ltL y S[k] := by
      intro y hy
      have hy2 := hp.subset hy
      have e : S.take k ++ S[k] :: S.drop (k + 1) = S := by rw [← hd, List.take_append_drop]
      rw [← e] at hS
      exact (List.pairwise_append.1 hS).2.2 y hy2 _ (List.mem_cons_self ..)
    have hml : M.length = k := by rw [hp.length_eq, List.length_take]; omega
    refine loopH.intro (fun t : List Lr × List Lr => (.cons 0 (.slice (some ⟨lb, 0, none⟩) N cap) true (.cons 1 (.int .i64 A.length) true (.cons 2 (.int .i64 (A.length + S.length : Nat)) true (.cons 3 (cmpFn) true (.cons 8 (.int .i64 (A.length + k : Nat)) true (.cons 9 (.int .i64 (A.length + t.1.length : Nat)) true .nil)))))))
      (fun t h' => t.1 ++ t.2 = M ∧ (∀ y ∈ t.2, ltL S[k] y) ∧ Sat h' (lrS lb cap (A ++ t.1 ++ S[k] :: (t.2 ++ S.drop (k + 1) ++ C)) :: F)) (fun t _ => t.1.length) (M, []) ?_ ⟨by simp, by simp, by rw [hd, List.append_assoc (A ++ M)] at s; exact s⟩ ?_
    · simp (maxSteps := 2000000) (disch := first | (simp only [go_sem, simprocAttr, hml] <;> omega) | omega) only [go_sem, simprocAttr, hml]
    clear s
    rintro ⟨S1, S2⟩ h2 ⟨rfl, h2S, s⟩
    simp only at h2S s hp hM hcr hml
    rcases last_cases S1 with rfl | ⟨S1', y, rfl⟩
    · have q2 : ¬ (A.length : Int) < (A.length : Nat) := by omega
      simp (maxSteps := 2000000) (disch := first | (simp only [go_sem, simprocAttr, q2] <;> omega) | omega) only [go_sem, simprocAttr, q2]
      refine rdK_any fun _ => rdK_any fun _ => rdK_any fun _ => rdK_any fun _ => ?_
      obtain ⟨p1, p2⟩ := ins_done q hp hM (by simp) h2S
      refine ⟨(k + 1, [] ++ S[k] :: S2), rfl, ⟨by simp only; omega, p1, p2, ?_⟩, by simp only; omega⟩
      simp only [List.append_nil, List.nil_append, List.append_assoc, List.cons_append] at s ⊢
      exact s
    · have hj : A.length + (S1' ++ [y]).length = A.length + S1'.length + 1 := by simp only [List.length_append, List.length_cons, List.length_nil]; omega
      have q2 : (A.length : Int) < (A.length + S1'.length + 1 : Nat) := by omega
      have j1 : ((A.length + S1'.length + 1 : Nat) : Int) - 1 = (A.length + S1'.length : Nat) := by omega
      simp only [hj]
      have j2 : A ++ (S1' ++ [y]) ++ S[k] :: (S2 ++ S.drop (k + 1) ++ C) = (A ++ S1') ++ y :: S[k] :: (S2 ++ S.drop (k + 1) ++ C) := by simp only [List.append_assoc, List.cons_append, List.nil_append]
      rw [j2] at s
      have l1 : A.length + S1'.length = (A ++ S1').length := by rw [List.length_append]
      have r1 := lr_read s (at_mid l1)
      have r2 := lr_read s (at_mid2 (M := []) (j := A.length + S1'.length + 1) (by rw [l1]; rfl))
      have hb1 : A.length + S1'.length + 1 < N := by simp only [List.length_append, List.length_cons, List.length_nil] at hml; omega
      simp (maxSteps := 2000000) (disch := first | (simp only [go_sem, simprocAttr, q2, j1, r1, r2, cmpFn_eq] <;> omega) | omega) only [go_sem, simprocAttr, q2, j1, r1, r2, cmpFn_eq]
      refine ⟨by kernel_rfl, (cmpLr_S S[k] y _).mono ?_⟩
      rintro v h3 ⟨rfl, x3⟩
      have s3 := s.grow x3
      have hc := hcr y (by simp)
      have k1 := lr_read s3 (at_mid l1)
      have k2 := lr_read s3 (at_mid2 (M := []) (j := A.length + S1'.length + 1) (by rw [l1]; rfl))
      by_cases z : cfL S[k] y < 0
      · rw [if_pos (by unfold cL; exact decide_eq_true z)] at hc
        simp (maxSteps := 2000000) (disch := first | (simp only [go_sem, simprocAttr, z, j1, k1, k2] <;> omega) | omega) only [go_sem, simprocAttr, z, j1, k1, k2]
        refine lr_store (by kernel_rfl) (by kernel_rfl) s3 (lt_mid2 (M := []) (by rw [l1]; rfl)) _ fun h4 s4 => ?_
        refine lr_store (by kernel_rfl) (by kernel_rfl) s4 (by rw [List.length_set]; exact lt_mid l1) _ fun h5 s5 => ?_
        rw [swap_next' l1 (by rw [l1])] at s5
        refine ⟨(S1', y :: S2), rfl, ⟨by simp only [List.append_assoc, List.cons_append, List.nil_append], ?_, ?_⟩, by simp only [List.length_append, List.length_cons]; omega⟩
        · intro u hu
          rcases List.mem_cons.1 hu with rfl | hu
          · exact hc
          · exact h2S u hu
        · simp only [List.cons_append]
          exact s5
      · rw [if_neg (by unfold cL; rw [decide_eq_false z]; simp)] at hc
        simp (maxSteps := 2000000) (disch := first | (simp only [go_sem, simprocAttr, z] <;> omega) | omega) only [go_sem, simprocAttr, z]
        obtain ⟨p1, p2⟩ := ins_done q hp hM (fun u hu => by
          rcases List.mem_append.1 hu with hu | hu
          · have := (List.pairwise_append.1 (List.pairwise_append.1 hM).1).2.2 u hu y (by simp)
            exact ltL_trans this hc
          · obtain rfl : u = y := by simpa using hu
            exact hc) h2S
        refine ⟨(k + 1, S1' ++ [y] ++ S[k] :: S2), rfl, ⟨by simp only; omega, p1, p2, ?_⟩, by simp only; omega⟩
        simp only [List.append_nil, List.nil_append, List.append_assoc, List.cons_append] at s3 ⊢
        exact s3
  · have q1 : ¬ ((A.length + k : Nat) : Int) < (A.length + S.length : Nat) := by omega
    simp (maxSteps := 2000000) (disch := first | (simp only [go_sem, simprocAttr, q1] <;> omega) | omega) only [go_sem, simprocAttr, q1]
    rw [List.take_of_length_le (by omega)] at hp
    rw [List.drop_of_length_le (by omega), List.append_nil] at s
    exact hK _ _ ⟨rfl, M, hp, hM, s⟩
end
end Go.Eng
