/-
  Library: a stable sort of list registers.
-/
import Derived.Test.YtaijcllgdlalpaaGreatDoorZj18
set_option linter.unusedSimpArgs false
set_option linter.unusedVariables false
set_option maxRecDepth 16000
set_option maxHeartbeats 4000000
namespace Go.Eng
open Go Go.Proofs
theorem sorted_uniqL : ∀ {l m : List Lr}, l.Perm m → m.Pairwise ltL → l.Pairwise ltL → l = m
  | [], m, p, _, _ => by rw [p.nil_eq]
  | x :: l, [], p, _, _ => by have := p.length_eq; simp at this
  | x :: l, y :: m, p, hm, hl => by
    obtain ⟨m1, m2⟩ := List.pairwise_cons.1 hm
    obtain ⟨l1, l2⟩ := List.pairwise_cons.1 hl
    have e : x = y := by
      have hx : x ∈ y :: m := p.subset (by simp)
      have hy : y ∈ x :: l := p.symm.subset (by simp)
      rcases List.mem_cons.1 hx with q | q
      · exact q
      · rcases List.mem_cons.1 hy with r | r
        · exact r.symm
        · exact absurd (ltL_trans (m1 x q) (l1 y r)) (ltL_irrefl _)
    subst e
    rw [sorted_uniqL (List.perm_cons x |>.1 p) m2 l2]
/-- A list, block by block a sorted one of another one's. -/
inductive SB (bs : Nat) : List Lr → List Lr → Prop where
  | last {w z : List Lr} : z.Perm w → z.Pairwise ltL → w.length ≤ bs → SB bs w z
  | cons {w z W Z : List Lr} : z.Perm w → z.Pairwise ltL → w.length = bs → SB bs W Z → SB bs (w ++ W) (z ++ Z)
inductive SBf (bs : Nat) : List Lr → List Lr → Prop where
  | nil : SBf bs [] []
  | snoc {w z W Z : List Lr} : SBf bs W Z → z.Perm w → z.Pairwise ltL → w.length = bs → SBf bs (W ++ w) (Z ++ z)
theorem SBf.app {bs : Nat} {W1 Z1 : List Lr} (h1 : SBf bs W1 Z1) : ∀ {W2 Z2 : List Lr}, SB bs W2 Z2 → SB bs (W1 ++ W2) (Z1 ++ Z2) := by
  induction h1 with
  | nil => intro W2 Z2 h2; exact h2
  | snoc _ p o l ih =>
    intro W2 Z2 h2
    rw [List.append_assoc, List.append_assoc]
    exact ih (SB.cons p o l h2)
theorem SBf.len {bs : Nat} {W Z : List Lr} (h : SBf bs W Z) : Z.length = W.length := by
  induction h with
  | nil => rfl
  | snoc _ p _ _ ih => rw [List.length_append, List.length_append, ih, p.length_eq]
theorem SB.len {bs : Nat} {W Z : List Lr} (h : SB bs W Z) : Z.length = W.length := by
  induction h with
  | last p _ _ => exact p.length_eq
  | cons p _ _ _ ih => rw [List.length_append, List.length_append, ih, p.length_eq]
theorem SB.one {bs : Nat} {W Z : List Lr} (h : SB bs W Z) (hl : W.length ≤ bs) : Z.Perm W ∧ Z.Pairwise ltL := by
  cases h with
  | last p o _ => exact ⟨p, o⟩
  | cons p o l q =>
    rename_i w z W Z
    rw [List.length_append] at hl
    have hW : W = [] := List.eq_nil_of_length_eq_zero (by omega)
    subst hW
    have hZ : Z = [] := List.eq_nil_of_length_eq_zero (by rw [q.len]; rfl)
    subst hZ
    rw [List.append_nil, List.append_nil]
    exact ⟨p, o⟩
theorem SB.two {bs : Nat} (hb : 0 < bs) {W Z : List Lr} (h : SB bs W Z) (hl : bs < W.length) : ∃ w z W' Z', W = w ++ W' ∧ Z = z ++ Z' ∧ z.Perm w ∧ z.Pairwise ltL ∧ w.length = bs ∧ SB bs W' Z' := by
  cases h with
  | last p o q => omega
  | cons p o l q => exact ⟨_, _, _, _, rfl, rfl, p, o, l, q⟩
theorem SB.head {bs : Nat} {W Z : List Lr} (h : SB bs W Z) (hl : bs ≤ W.length) : ∃ w z W' Z', W = w ++ W' ∧ Z = z ++ Z' ∧ z.Perm w ∧ z.Pairwise ltL ∧ w.length = bs ∧ SB bs W' Z' := by
  cases h with
  | last p o q => exact ⟨W, Z, [], [], (List.append_nil _).symm, (List.append_nil _).symm, p, o, by omega, SB.last (List.Perm.refl _) List.Pairwise.nil (Nat.zero_le _)⟩
  | cons p o l q => exact ⟨_, _, _, _, rfl, rfl, p, o, l, q⟩
section
variable {h : Heap} {F : List SP} {lb cap : Nat} {W : List Lr}
abbrev Cr (W : List Lr) : Prop := W.Pairwise fun y x => if cL x y = true then ltL x y else ltL y x
theorem Cr.mid {A B C : List Lr} (h : Cr (A ++ B ++ C)) : Cr B := (List.pairwise_append.1 (List.pairwise_append.1 h).1).2.1
theorem Cr.cross {A L R C L' R' : List Lr} (h : Cr (A ++ L ++ R ++ C)) (pL : L'.Perm L) (pR : R'.Perm R) : ∀ y ∈ L', ∀ x ∈ R', if cL x y = true then ltL x y else ltL y x := by
  intro y hy x hx
  have h1 := (List.pairwise_append.1 h).1
  exact (List.pairwise_append.1 h1).2.2 y (List.mem_append_right _ (pL.subset hy)) x (pR.subset hx)
theorem stableC_S (hb : W.length < 1000000) (hW : Cr W) (hs : Sat h (lrS lb cap W :: F)) :
    HCalls Tryz.prog 138 #[.slice (some ⟨lb, 0, none⟩) W.length cap, .int .i64 W.length, cmpFn] h fun v h' => v = .tuple #[] ∧ ∃ Z : List Lr, Z.Perm W ∧ Z.Pairwise ltL ∧ Sat h' (lrS lb cap Z :: F) := by
  refine HCalls.via fun K hK => ?_
  refine HCalls.of_dev T138 Tryz.func138 rfl mixed (by kernel_rfl) ?_; rw [Tryz.results138]
  simp (maxSteps := 2000000) (disch := first | (simp only [go_sem, simprocAttr] <;> omega) | omega) only [go_sem, simprocAttr]
  refine loopH.intro (fun t : List Lr × List Lr × List Lr => (.cons 0 (.slice (some ⟨lb, 0, none⟩) W.length cap) true (.cons 1 (.int .i64 W.length) true (.cons 2 (cmpFn) true (.cons 6 (.int .i64 20) true (.cons 7 (.int .i64 t.2.1.length) true (.cons 8 (.int .i64 (t.2.1.length + 20 : Nat)) true .nil)))))))
    (fun t h' => SBf 20 t.1 t.2.1 ∧ t.1 ++ t.2.2 = W ∧ Sat h' (lrS lb cap (t.2.1 ++ t.2.2) :: F)) (fun t _ => t.2.2.length) ([], [], W) ?_ ⟨SBf.nil, rfl, hs⟩ ?_
  · rfl
  clear hs
  rintro ⟨W1, Z1, W2⟩ h1 ⟨b1, e1, s⟩
  simp only at b1 e1 s
  have l1 := b1.len
  have hl := congrArg List.length e1
  rw [List.length_append] at hl
  by_cases q1 : 20 ≤ W2.length
  · have q2 : ((Z1.length + 20 : Nat) : Int) ≤ W.length := by omega
    simp (maxSteps := 2000000) (disch := first | (simp only [go_sem, simprocAttr, q2] <;> omega) | omega) only [go_sem, simprocAttr, q2]
    have eW : Z1 ++ W2 = Z1 ++ W2.take 20 ++ W2.drop 20 := by rw [List.append_assoc, List.take_append_drop]
    have lt : (W2.take 20).length = 20 := by rw [List.length_take]; omega
    have hcr : Cr (W2.take 20) := by
      rw [← e1, ← List.take_append_drop 20 W2, ← List.append_assoc] at hW
      exact hW.mid
    refine (insSort_S (A := Z1) (S := W2.take 20) (C := W2.drop 20) eW (by rw [List.length_append]; omega) hb rfl (by rw [lt]) hcr s).mono ?_
    rintro v h2 ⟨rfl, M, p1, o1, s2⟩
    simp (maxSteps := 2000000) (disch := first | (simp only [go_sem, simprocAttr] <;> omega) | omega) only [go_sem, simprocAttr]
    have lM := p1.length_eq
    refine ⟨(W1 ++ W2.take 20, Z1 ++ M, W2.drop 20), ?_, ⟨b1.snoc p1 o1 lt, ?_, s2⟩, ?_⟩
    · simp only [List.length_append, lM, lt]
      rfl
    · simp only; rw [List.append_assoc, List.take_append_drop]; exact e1
    · simp only [List.length_drop]; omega
  have q2 : ¬ ((Z1.length + 20 : Nat) : Int) ≤ W.length := by omega
  simp (maxSteps := 2000000) (disch := first | (simp only [go_sem, simprocAttr, q2] <;> omega) | omega) only [go_sem, simprocAttr, q2]
  have hcr : Cr W2 := by
    have := hW
    rw [← e1, ← List.append_nil (W1 ++ W2)] at this
    exact this.mid
  refine (insSort_S (A := Z1) (S := W2) (C := []) (List.append_nil _).symm (by rw [List.length_append]; omega) hb rfl (by omega) hcr s).mono ?_
  rintro v h2 ⟨rfl, M, p1, o1, s2⟩
  have b2 : SB 20 W (Z1 ++ M) := by rw [← e1]; exact b1.app (SB.last p1 o1 (by omega))
  rw [List.append_nil] at s2
  simp (maxSteps := 2000000) (disch := first | (simp only [go_sem, simprocAttr] <;> omega) | omega) only [go_sem, simprocAttr]
  clear s b1 q1 q2 hcr l1 hl e1
  refine loopH.intro (fun t : Nat × List Lr => (.cons 0 (.slice (some ⟨lb, 0, none⟩) W.length cap) true (.cons 1 (.int .i64 W.length) true (.cons 2 (cmpFn) true (.cons 6 (.int .i64 t.1) true .nil)))))
    (fun t h' => 0 < t.1 ∧ t.1 < 4000000 ∧ SB t.1 W t.2 ∧ Sat h' (lrS lb cap t.2 :: F)) (fun t _ => W.length + 1 - t.1) (20, Z1 ++ M) ?_ ⟨by simp, by simp, b2, s2⟩ ?_
  · rfl
  clear b2 s2 p1 o1
  rintro ⟨bs, Z⟩ h3 ⟨hb0, hb1, b, s⟩
  simp only at hb0 hb1 b s
  by_cases q1 : bs < W.length
  · have q2 : (bs : Int) < W.length := by omega
    have e2 : (2 : Int) * bs = (2 * bs : Nat) := by omega
    simp (maxSteps := 2000000) (disch := first | (simp only [go_sem, simprocAttr, q2, e2] <;> omega) | omega) only [go_sem, simprocAttr, q2, e2]
    refine loopH.intro (fun t : List Lr × List Lr × List Lr × List Lr => (.cons 0 (.slice (some ⟨lb, 0, none⟩) W.length cap) true (.cons 1 (.int .i64 W.length) true (.cons 2 (cmpFn) true (.cons 6 (.int .i64 bs) true (.cons 7 (.int .i64 t.2.1.length) true (.cons 8 (.int .i64 (t.2.1.length + 2 * bs : Nat)) true .nil)))))))
      (fun t h' => SBf (2 * bs) t.1 t.2.1 ∧ SB bs t.2.2.1 t.2.2.2 ∧ t.1 ++ t.2.2.1 = W ∧ Sat h' (lrS lb cap (t.2.1 ++ t.2.2.2) :: F)) (fun t _ => t.2.2.2.length) ([], [], W, Z) ?_ ⟨SBf.nil, b, rfl, s⟩ ?_
    · simp only [List.length_nil, Nat.zero_add]
      rfl
    clear s b Z
    rintro ⟨W1, Z1, W2, Z2⟩ h4 ⟨b1, b2, e1, s⟩
    simp only at b1 b2 e1 s
    have l1 := b1.len
    have l2 := b2.len
    have hl := congrArg List.length e1
    rw [List.length_append] at hl
    by_cases q3 : 2 * bs ≤ W2.length
    · have q4 : ((Z1.length + 2 * bs : Nat) : Int) ≤ W.length := by omega
      obtain ⟨w1, z1, W3, Z3, rfl, rfl, p1, o1, n1, b3⟩ := b2.two hb0 (by omega)
      rw [List.length_append] at q3 hl l2
      obtain ⟨w2, z2, W4, Z4, rfl, rfl, p2, o2, n2, b4⟩ := b3.head (by omega)
      rw [List.length_append] at hl l2
      have m1 := p1.length_eq
      have m2 := p2.length_eq
      have l4 := b4.len
      rw [List.length_append] at l2
      have ea : (Z1.length : Int) + bs = (Z1.length + z1.length : Nat) := by omega
      have hW' : Cr (W1 ++ w1 ++ w2 ++ W4) := by rw [List.append_assoc, List.append_assoc, e1]; exact hW
      simp (maxSteps := 2000000) (disch := first | (simp only [go_sem, simprocAttr, q4, ea] <;> omega) | omega) only [go_sem, simprocAttr, q4, ea]
      refine (symMerge_S _ _ _ _ Z1 z1 z2 Z4 W.length _ _ _ (Nat.le_refl _) (by omega) (by omega) (by simp only [List.append_assoc]) (by simp only [List.length_append]; omega) hb rfl rfl (by omega) o1 o2 (hW'.cross p1 p2) s).mono ?_
      rintro v h5 ⟨rfl, M, p, o, s5⟩
      have lM := p.length_eq
      rw [List.length_append] at lM
      simp (maxSteps := 2000000) (disch := first | (simp only [go_sem, simprocAttr] <;> omega) | omega) only [go_sem, simprocAttr]
      refine ⟨(W1 ++ (w1 ++ w2), Z1 ++ M, W4, Z4), ?_, ⟨b1.snoc (p.trans (p1.append p2)) o (by rw [List.length_append]; omega), b4, ?_, s5⟩, ?_⟩
      · simp only [List.length_append]
        rw [show Z1.length + M.length = Z1.length + 2 * bs by omega]
        rfl
      · simp only [List.append_assoc] at e1 ⊢; exact e1
      · simp only [List.length_append]; omega
    have q4 : ¬ ((Z1.length + 2 * bs : Nat) : Int) ≤ W.length := by omega
    by_cases q5 : bs < W2.length
    · obtain ⟨w1, z1, W3, Z3, rfl, rfl, p1, o1, n1, b3⟩ := b2.two hb0 (by omega)
      rw [List.length_append] at q3 hl l2 q5
      obtain ⟨p2, o2⟩ := b3.one (by omega)
      have m1 := p1.length_eq
      have m2 := p2.length_eq
      have ea : (Z1.length : Int) + bs = (Z1.length + z1.length : Nat) := by omega
      have q6 : ((Z1.length + z1.length : Nat) : Int) < W.length := by omega
      have hW' : Cr (W1 ++ w1 ++ W3 ++ []) := by rw [List.append_nil, List.append_assoc, e1]; exact hW
      simp (maxSteps := 2000000) (disch := first | (simp only [go_sem, simprocAttr, q4, ea, q6] <;> omega) | omega) only [go_sem, simprocAttr, q4, ea, q6]
      refine (symMerge_S _ _ _ _ Z1 z1 Z3 [] W.length _ _ _ (Nat.le_refl _) (by omega) (by omega) (by simp only [List.append_assoc, List.append_nil]) (by simp only [List.length_append]; omega) hb rfl rfl (by omega) o1 o2 (hW'.cross p1 p2) s).mono ?_
      rintro v h5 ⟨rfl, M, p, o, s5⟩
      rw [List.append_nil] at s5
      simp (maxSteps := 2000000) (disch := first | (simp only [go_sem, simprocAttr] <;> omega) | omega) only [go_sem, simprocAttr]
      refine ⟨(2 * bs, Z1 ++ M), ?_, ⟨by simp only; omega, by simp only; omega, ?_, s5⟩, by simp only; omega⟩
      · simp only
        rw [show (bs : Int) * 2 = (2 * bs : Nat) by omega]
      · rw [← e1]
        exact b1.app (SB.last (p.trans (p1.append p2)) o (by rw [List.length_append]; omega))
    · obtain ⟨p, o⟩ := b2.one (by omega)
      have q6 : ¬ (Z1.length : Int) + bs < W.length := by omega
      simp (maxSteps := 2000000) (disch := first | (simp only [go_sem, simprocAttr, q4, q6] <;> omega) | omega) only [go_sem, simprocAttr, q4, q6]
      refine ⟨(2 * bs, Z1 ++ Z2), ?_, ⟨by simp only; omega, by simp only; omega, ?_, s⟩, by simp only; omega⟩
      · simp only
        rw [show (bs : Int) * 2 = (2 * bs : Nat) by omega]
      · rw [← e1]
        exact b1.app (SB.last p o (by omega))
  · have q2 : ¬ (bs : Int) < W.length := by omega
    simp (maxSteps := 2000000) (disch := first | (simp only [go_sem, simprocAttr, q2] <;> omega) | omega) only [go_sem, simprocAttr, q2]
    obtain ⟨p, o⟩ := b.one (by omega)
    exact hK _ _ ⟨rfl, Z, p, o, s⟩
theorem insert0_S (w f : Value) : HCalls Tryz.prog 153 #[w, .int .i64 0, .int .i64 0, f] h fun v h' => v = .tuple #[] ∧ h' = h := by
  refine HCalls.via fun R hR => ?_
  refine HCalls.of_dev T153 Tryz.func153 rfl mixed (by kernel_rfl) ?_; rw [Tryz.results153]
  simp (maxSteps := 2000000) (disch := first | (simp only [go_sem, simprocAttr] <;> omega) | omega) only [go_sem, simprocAttr]
  refine loopH.intro (fun _ : Unit => (.cons 0 (w) true (.cons 1 (.int .i64 0) true (.cons 2 (.int .i64 0) true (.cons 3 (f) true (.cons 8 (.int .i64 1) true .nil)))))) (fun _ h' => h' = h) (fun _ _ => 1) () ?_ rfl ?_
  · rfl
  rintro _ h2 rfl
  simp (maxSteps := 2000000) (disch := first | (simp only [go_sem, simprocAttr] <;> omega) | omega) only [go_sem, simprocAttr]
  exact hR _ _ ⟨rfl, rfl⟩
theorem stableC0_S (w f : Value) : HCalls Tryz.prog 138 #[w, .int .i64 0, f] h fun v h' => v = .tuple #[] ∧ h' = h := by
  refine HCalls.via fun R hR => ?_
  refine HCalls.of_dev T138 Tryz.func138 rfl mixed (by kernel_rfl) ?_; rw [Tryz.results138]
  simp (maxSteps := 2000000) (disch := first | (simp only [go_sem, simprocAttr] <;> omega) | omega) only [go_sem, simprocAttr]
  refine loopH.intro (fun _ : Unit => (.cons 0 (w) true (.cons 1 (.int .i64 0) true (.cons 2 (f) true (.cons 6 (.int .i64 20) true (.cons 7 (.int .i64 0) true (.cons 8 (.int .i64 20) true .nil))))))) (fun _ h' => h' = h) (fun _ _ => 1) () ?_ rfl ?_
  · rfl
  rintro _ h2 rfl
  simp (maxSteps := 2000000) (disch := first | (simp only [go_sem, simprocAttr] <;> omega) | omega) only [go_sem, simprocAttr]
  refine (insert0_S w f).mono ?_
  rintro v h3 ⟨rfl, rfl⟩
  simp (maxSteps := 2000000) (disch := first | (simp only [go_sem, simprocAttr] <;> omega) | omega) only [go_sem, simprocAttr]
  refine loopH.intro (fun _ : Unit => (.cons 0 (w) true (.cons 1 (.int .i64 0) true (.cons 2 (f) true (.cons 6 (.int .i64 20) true .nil))))) (fun _ h' => h' = h3) (fun _ _ => 1) () ?_ rfl ?_
  · rfl
  rintro _ h4 rfl
  simp (maxSteps := 2000000) (disch := first | (simp only [go_sem, simprocAttr] <;> omega) | omega) only [go_sem, simprocAttr]
  exact hR _ _ ⟨rfl, rfl⟩
theorem stable_S {v : Value} {n : Nat} (hb : n < 1000000) (hn : n = W.length) (hW : Cr W) (hs : Sat h (sliceS 5 n v (lrL W) :: F)) :
    HCalls Tryz.prog 114 #[v, cmpFn] h fun r h' => r = .tuple #[] ∧ ∃ Z : List Lr, Z.Perm W ∧ Z.Pairwise ltL ∧ Sat h' (sliceS 5 n v (lrL Z) :: F) := by
  subst hn
  refine HCalls.via fun K hK => ?_
  obtain ⟨sl, cap, rfl, -, -, hel⟩ := hs.elems
  refine HCalls.of_dev T114 Tryz.func114 rfl mixed (by kernel_rfl) ?_; rw [Tryz.results114]
  simp (maxSteps := 2000000) (disch := first | (simp only [go_sem, simprocAttr] <;> omega) | omega) only [go_sem, simprocAttr]
  rcases hel with hel | ⟨lb, rfl, -⟩
  · have : W = [] := List.eq_nil_of_length_eq_zero hel
    subst this
    refine (stableC0_S _ _).mono ?_
    rintro v h2 ⟨rfl, rfl⟩
    simp (maxSteps := 2000000) (disch := first | (simp only [go_sem, simprocAttr] <;> omega) | omega) only [go_sem, simprocAttr]
    exact hK _ _ ⟨rfl, [], List.Perm.refl _, List.Pairwise.nil, hs⟩
  · refine (stableC_S hb hW hs).mono ?_
    rintro v h2 ⟨rfl, Z, p, o, s2⟩
    simp (maxSteps := 2000000) (disch := first | (simp only [go_sem, simprocAttr] <;> omega) | omega) only [go_sem, simprocAttr]
    have e := p.length_eq
    unfold lrS at s2
    rw [e] at s2
    exact hK _ _ ⟨rfl, Z, p, o, s2⟩
end
end Go.Eng
