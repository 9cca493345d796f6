/-
  viceroyref01: Same, of two lists of bytes.
-/
import Derived.Test.YtaijcllgdlalpaaGreatDoorZj8
import Derived.Test.YtaijcllgdlalpaaGreatDoorZj39
import Derived.Test.YtaijcllgdlalpaaGreatDoorZj26
import Derived.Test.YtaijcllgdlalpaaGreatDoorZj7
import Derived.Test.YtaijcllgdlalpaaGreatDoorZj27
set_option linter.unusedSimpArgs false
set_option linter.unusedVariables false
set_option maxRecDepth 16000
set_option maxHeartbeats 4000000
namespace Go.Eng
open Go Go.Proofs
section
variable {h : Heap} {F : List SP} {n m : Nat} {f g : Nat → Int} {v u : Value}
theorem same_S (hs : Sat h (sliceS 1 n v (memL n f) :: sliceS 1 m u (memL m g) :: F)) (hn : n ≤ 1000000) (hm : m ≤ 1000000) :
    HCalls Tryz.prog 14 #[v, u] h fun r h' => ∃ b, r = .bool b ∧ (b = true ↔ n = m ∧ ∀ i, i < n → f i = g i) ∧ h' = h := by
  refine HCalls.via fun R hR => ?_
  obtain ⟨sl, cap, rfl, -, -, e1⟩ := hs.elems
  obtain ⟨sl2, cap2, rfl, -, -, e2⟩ := (hs.front 1).elems
  refine HCalls.of_dev T14 Tryz.func14 rfl mixed (by kernel_rfl) ?_; rw [Tryz.results14]
  by_cases q : n = m
  · subst q
    simp (maxSteps := 2000000) (disch := first | (simp only [go_sem, simprocAttr] <;> omega) | omega) only [go_sem, simprocAttr]
    refine loopH.intro (fun i : Nat => (.cons 0 (.slice sl n cap) true (.cons 1 (.slice sl2 n cap2) true (.cons 5 (.int .i64 i) true .nil)))) (fun i h' => h' = h ∧ i ≤ n ∧ ∀ j, j < i → f j = g j) (fun i _ => n + 1 - i) 0 ?_ ⟨rfl, by omega, by omega⟩ ?_
    · rfl
    rintro i h2 ⟨rfl, hi, heq⟩
    by_cases k : (i : Int) < n
    · have hin : i < n := by omega
      obtain rfl | ⟨lb, rfl, g1, -⟩ := e1
      · omega
      obtain rfl | ⟨lb2, rfl, g2, -⟩ := e2
      · omega
      have g1 := g1 i (by omega)
      have g2 := g2 i (by omega)
      rw [memL_get hin] at g1 g2
      simp (maxSteps := 2000000) (disch := first | (simp only [go_sem, simprocAttr, k, g1, g2] <;> omega) | omega) only [go_sem, simprocAttr, k, g1, g2]
      refine ⟨fun q => hR _ _ ⟨false, rfl, ⟨fun e => (by cases e), fun e => absurd (e.2 i hin) q⟩, rfl⟩, fun q => ?_⟩
      refine ⟨i + 1, rfl, ⟨rfl, by omega, fun j hj => ?_⟩, by simp only; omega⟩
      by_cases e : j = i
      · subst e; exact Decidable.not_not.1 q
      · exact heq j (by omega)
    · simp (maxSteps := 2000000) (disch := first | (simp only [go_sem, simprocAttr, k] <;> omega) | omega) only [go_sem, simprocAttr, k]
      have : i = n := by omega
      subst this
      exact hR _ _ ⟨true, rfl, ⟨fun _ => ⟨rfl, heq⟩, fun _ => rfl⟩, rfl⟩
  · have q1 : ¬ (n : Int) = m := by omega
    simp (maxSteps := 2000000) (disch := first | (simp only [go_sem, simprocAttr, q1] <;> omega) | omega) only [go_sem, simprocAttr, q1]
    exact hR _ _ ⟨false, rfl, ⟨fun e => (by cases e), fun e => absurd e.1 q⟩, rfl⟩
end
end Go.Eng
/-
  viceroylaw09: same.
-/
namespace Go.Eng
open Go Go.Proofs
theorem linesL_single (T : List Ln) : ∀ v ∈ linesL T, single v = true := by
  intro v hv
  obtain ⟨x, -, hx⟩ := List.mem_flatMap.1 hv
  simp only [Ln.cells, List.mem_cons, List.not_mem_nil, or_false] at hx
  rcases hx with rfl | rfl | rfl | rfl | rfl <;> rfl
section
variable {h : Heap} {F : List SP} {rb tb rrb rtb : Nat} {vv wv : Value} {M : Mch}
theorem lines_S {T : List Ln} (hs : Sat h (tlbS tb T :: F)) : HCalls Tryz.prog 60 #[.pointer (some ⟨tb, 0, none⟩)] h fun v h' => Sat h' (sliceS 5 8 v (linesL T) :: tlbS tb T :: F) := by
  refine HCalls.via fun R hR => ?_
  obtain ⟨⟨hT, hok⟩, f, m, ty, s⟩ := tlbS_iff.1 hs
  have lT := linesL_len T
  have hr := hread_lines hT s.get
  refine HCalls.of_dev T60 Tryz.func60 rfl mixed (by kernel_rfl) ?_; rw [Tryz.results60]
  simp (maxSteps := 2000000) (disch := first | (simp only [go_sem, simprocAttr] <;> omega) | omega) only [go_sem, simprocAttr]
  rw [hr]
  simp only [Option.map_some]
  show runH _ _ _ _
  have s1 := hs.push (.cells (linesL T).toArray 99 (0, 0))
  refine runH_store_all (c := (tzeroD Tryz.prog 99).cells) (e := 99) (by rw [tszD_99]; simp; omega) (by rw [tsz_99]; rfl) ?_ (by rw [tzeroD_99]; simp [Value.cells]; omega) ?_ ?_
  · rw [tzeroD_99]; exact get_push_new
  · intro v hv
    exact linesL_single T v (by simpa using hv)
  · rw [set_push_new]
    exact hR _ _ (s1.toSlice (by omega) (linesL_single T) (Nat.le_refl _) (by simp; omega) fun j hj => by simp)
theorem sameB_S (hs : Sat h (mchS 16 rb tb vv M :: mchR 16 rrb rtb wv M :: F)) :
    HCalls Tryz.prog 25 #[.agg #[.pointer (some ⟨rb, 0, none⟩), .pointer (some ⟨tb, 0, none⟩), vv, .pointer (some ⟨rrb, 0, none⟩), .pointer (some ⟨rtb, 0, none⟩), wv]] h fun v h' => v = .bool true ∧ Sat h' (mchS 16 rb tb vv M :: mchR 16 rrb rtb wv M :: F) := by
  refine HCalls.via fun R hR => ?_
  have s0 := ((Sat.star.1 ((Sat.star.1 hs).front 3)).front 3).swap.push (.cells #[.pointer (some ⟨rb, 0, none⟩), .pointer (some ⟨tb, 0, none⟩), vv, .pointer (some ⟨rrb, 0, none⟩), .pointer (some ⟨rtb, 0, none⟩), wv] 43 (0, 0))
  have fin : ∀ h', Sat h' (refRamS rrb 16 M.mem :: ramS rb 16 M.mem :: tlbS rtb M.T :: rvS wv M.V :: tlbS tb M.T :: vS vv M.V :: F) → R (.bool true) h' := fun h' q => by
    have q1 : Sat h' (mchR 16 rrb rtb wv M :: ramS rb 16 M.mem :: tlbS tb M.T :: vS vv M.V :: F) := Sat.star.2 (q.swap.back 3)
    exact hR _ _ ⟨rfl, Sat.star.2 (q1.back 3)⟩
  clear hR
  refine HCalls.of_dev T25 Tryz.func25 rfl mixed (by kernel_rfl) ?_; rw [Tryz.results25]
  simp (maxSteps := 2000000) (disch := first | (simp only [go_sem, simprocAttr] <;> omega) | omega) only [go_sem, simprocAttr]
  refine loopH.intro (fun i : Nat => (.cons 1 (.pointer (some ⟨h.size, 0, none⟩)) true (.cons 3 (.int .i64 i) true .nil)))
    (fun i h' => i ≤ 16 ∧ Sat h' (cellAt h.size (.cells #[.pointer (some ⟨rb, 0, none⟩), .pointer (some ⟨tb, 0, none⟩), vv, .pointer (some ⟨rrb, 0, none⟩), .pointer (some ⟨rtb, 0, none⟩), wv] 43 (0, 0)) :: refRamS rrb 16 M.mem :: ramS rb 16 M.mem :: tlbS rtb M.T :: rvS wv M.V :: tlbS tb M.T :: vS vv M.V :: F)) (fun i _ => 17 - i) 0 ?_ ⟨by omega, s0⟩ ?_
  · rfl
  clear s0 hs
  rintro i h2 ⟨hi, s⟩
  have g := s.get
  by_cases q : i < 16
  · have q1 : (i : Int) < 16 := by omega
    simp (maxSteps := 2000000) (disch := first | (simp only [go_sem, simprocAttr, q1, g] <;> omega) | omega) only [go_sem, simprocAttr, q1, g]
    refine (frame_S (s.front 2) i).mono ?_
    rintro v h3 (⟨-, -, w1, rfl, s1⟩ | ⟨n1, -⟩)
    case inr => exact absurd ⟨by omega, by omega⟩ n1
    simp (maxSteps := 2000000) (disch := first | (simp only [go_sem, simprocAttr, (s1.front 2).get] <;> omega) | omega) only [go_sem, simprocAttr, (s1.front 2).get]
    refine (refFrame_S (s1.front 3) i).mono ?_
    rintro v h4 (⟨-, -, w2, rfl, s2⟩ | ⟨n1, -⟩)
    case inr => exact absurd ⟨by omega, by omega⟩ n1
    simp (maxSteps := 2000000) (disch := first | (simp only [go_sem, simprocAttr] <;> omega) | omega) only [go_sem, simprocAttr]
    refine (same_S (s2.front 2) (by decide) (by decide)).mono ?_
    rintro v h5 ⟨b, rfl, hb, rfl⟩
    rw [hb.2 ⟨rfl, fun _ _ => rfl⟩]
    simp (maxSteps := 2000000) (disch := first | (simp only [go_sem, simprocAttr] <;> omega) | omega) only [go_sem, simprocAttr]
    exact ⟨i + 1, rfl, ⟨by omega, s2.tail.drop1.front 2⟩, by simp only; omega⟩
  have q1 : ¬ (i : Int) < 16 := by omega
  obtain rfl : i = 16 := by omega
  simp (maxSteps := 2000000) (disch := first | (simp only [go_sem, simprocAttr, q1, g] <;> omega) | omega) only [go_sem, simprocAttr, q1, g]
  refine (lines_S (s.front 5)).mono ?_
  rintro v h3 s1
  obtain ⟨sl, cap, rfl, -, -, hel⟩ := s1.elems
  rcases hel with hel | ⟨lb, rfl, -, -⟩
  · exact absurd hel (by decide)
  simp (maxSteps := 2000000) (disch := first | (simp only [go_sem, simprocAttr] <;> omega) | omega) only [go_sem, simprocAttr]
  refine loopH.intro (fun i : Nat => (.cons 1 (.pointer (some ⟨h.size, 0, none⟩)) true (.cons 9 (.slice (some ⟨lb, 0, none⟩) 8 cap) true (.cons 10 (.int .i64 i) true .nil))))
    (fun i h' => i ≤ 8 ∧ Sat h' (sliceS 5 8 (.slice (some ⟨lb, 0, none⟩) 8 cap) (linesL M.T) :: tlbS tb M.T :: cellAt h.size (.cells #[.pointer (some ⟨rb, 0, none⟩), .pointer (some ⟨tb, 0, none⟩), vv, .pointer (some ⟨rrb, 0, none⟩), .pointer (some ⟨rtb, 0, none⟩), wv] 43 (0, 0)) :: refRamS rrb 16 M.mem :: ramS rb 16 M.mem :: tlbS rtb M.T :: rvS wv M.V :: vS vv M.V :: F)) (fun i _ => 9 - i) 0 ?_ ⟨by omega, s1⟩ ?_
  · rfl
  clear s s1 g
  rintro i h4 ⟨hi, s⟩
  have g := (s.front 2).get
  by_cases q : i < 8
  · have q2 : (i : Int) < 8 := by omega
    obtain ⟨⟨hT, hok⟩, f, m, ty, t⟩ := tlbS_iff.1 (s.front 5)
    have rd : hreadO h4[rtb]? (i * 5) 5 = some (M.T[i]'(by omega)).cells.toArray := by rw [t.get, linesL_read (by omega)]
    have rs : hreadO h4[lb]? (i * 5) 5 = some (M.T[i]'(by omega)).cells.toArray := by
      obtain ⟨sl, cap, e, -, -, hel⟩ := s.elems
      cases e
      rcases hel with hel | ⟨lb, e, -, hrd⟩
      · exact absurd hel (by decide)
      cases e
      rw [hrd _ _ (by omega)]
      congr 2
      apply List.ext_getElem?
      intro m
      rw [List.getElem?_take, List.getElem?_drop]
      by_cases hm : m < 5
      · rw [if_pos hm]
        have := linesL_get (tl := []) (T := M.T) (i := i) (by omega) hm
        rw [nthL_eq, List.append_nil] at this
        exact this
      · rw [if_neg hm, List.getElem?_eq_none (by rw [Ln.cells_len]; omega)]
    have n8 : ((8 : Nat) : Int) = 8 := rfl
    simp (maxSteps := 2000000) (disch := first | (simp only [go_sem, simprocAttr, n8, q2, g, rd, rs] <;> omega) | omega) only [go_sem, simprocAttr, n8, q2, g, rd, rs]
    exact ⟨i + 1, rfl, ⟨by omega, s⟩, by simp only; omega⟩
  have q2 : ¬ (i : Int) < 8 := by omega
  have n8 : ((8 : Nat) : Int) = 8 := rfl
  replace s := s.tail
  cases hV : M.V with
  | none =>
    have hvv : vv = .pointer none := by
      have := s.front 6
      rw [hV] at this
      exact (vS_none.1 this).1
    subst hvv
    simp (maxSteps := 2000000) (disch := first | (simp only [go_sem, simprocAttr, n8, q2, g] <;> omega) | omega) only [go_sem, simprocAttr, n8, q2, g]
    exact fin _ (s.drop1.back 4)
  | some m =>
    have hvv : ∃ a, vv = .pointer (some a) := by
      have := s.front 6
      rw [hV] at this
      obtain ⟨vb, x, e, -⟩ := vS_some.1 this
      exact ⟨_, e⟩
    obtain ⟨va, rfl⟩ := hvv
    rw [hV] at s fin
    have ok : m.ok := vg_ok (s.front 6)
    have ll := allV_len ok
    simp (maxSteps := 2000000) (disch := first | (simp only [go_sem, simprocAttr, n8, q2, g] <;> omega) | omega) only [go_sem, simprocAttr, n8, q2, g]
    refine (all_S (s.front 6)).mono ?_
    rintro v h5 s5
    have g5 := (s5.front 3).get
    simp (maxSteps := 2000000) (disch := first | (simp only [go_sem, simprocAttr, g5] <;> omega) | omega) only [go_sem, simprocAttr, g5]
    refine (rall_S (s5.front 7)).mono ?_
    rintro v2 h6 s6
    obtain ⟨sl1, cap1, rfl, rd1⟩ := lr_el (s6.front 2)
    obtain ⟨sl2, cap2, rfl, rd2⟩ := lr_el s6
    simp (maxSteps := 2000000) (disch := first | (simp only [go_sem, simprocAttr] <;> omega) | omega) only [go_sem, simprocAttr]
    refine loopH.intro (fun i : Nat => (.cons 11 (.slice sl1 (allV m).length cap1) true (.cons 12 (.slice sl2 (allV m).length cap2) true (.cons 13 (.int .i64 i) true .nil)))) (fun i h' => h' = h6 ∧ i ≤ (allV m).length) (fun i _ => (allV m).length + 1 - i) 0 ?_ ⟨rfl, by omega⟩ ?_
    · rfl
    rintro j h7 ⟨rfl, hj⟩
    by_cases q3 : j < (allV m).length
    · have q4 : (j : Int) < (allV m).length := by omega
      obtain ⟨y, hy⟩ : ∃ y, (allV m)[j]? = some y := ⟨_, List.getElem?_eq_getElem q3⟩
      obtain ⟨lb1, rfl, e1⟩ := rd1 j y hy
      obtain ⟨lb2, rfl, e2⟩ := rd2 j y hy
      simp (maxSteps := 2000000) (disch := first | (simp only [go_sem, simprocAttr, q4, e1, e2] <;> omega) | omega) only [go_sem, simprocAttr, q4, e1, e2]
      exact ⟨j + 1, rfl, ⟨rfl, by omega⟩, by simp only; omega⟩
    · have q4 : ¬ (j : Int) < (allV m).length := by omega
      simp (maxSteps := 2000000) (disch := first | (simp only [go_sem, simprocAttr, q4] <;> omega) | omega) only [go_sem, simprocAttr, q4]
      exact fin _ (((((((s6.tail.drop1.front 3).tail.front 1).front 2).front 2).front 5).front 5).front 5)
end
end Go.Eng
/-
  Words and instructions: plain.
-/
namespace Go.Eng
open Go Go.Proofs
end Go.Eng
/-
  An instruction at the begin of the chapter's space: plain.
-/
namespace Go.Eng
open Go Go.Proofs
def exT : List Ln := fillT noT 0 ⟨1, 0, 0, 1, 5⟩
end Go.Eng
/-
  The first six operations: right instructions; a processor's state, made of registers.
-/
namespace Go.Eng
open Go Go.Proofs
def cpuOf (regs : List Int) : Cp := ⟨regs, 0, List.replicate 8 0⟩
theorem fitC : ∀ {c : Cp}, c.fit → fitL ((List.replicate 16 (CellK.int .u32)) ++ CellK.int .i64 :: List.replicate 8 (CellK.int .u32)) c.cells := by
  intro c f
  obtain ⟨R, p, S⟩ := c
  have h1 : ∀ (n : Nat) (L : List Int) (ks : List CellK) (vs : List Value), L.length = n → fitL ks vs → fitL (List.replicate n (CellK.int .u32) ++ ks) (L.map (Value.int .u32) ++ vs) := by
    intro n
    induction n with
    | zero => intro L ks vs h q; rw [List.eq_nil_of_length_eq_zero h]; exact q
    | succ n ih =>
      intro L ks vs h q
      match L, h with
      | x :: L, h => exact ⟨rfl, ih L ks vs (by simpa using h) q⟩
  refine h1 16 R _ _ f.lr ⟨rfl, ?_⟩
  have := h1 8 S [] [] f.ls trivial
  simpa using this
theorem eqC {c d : Cp} (f : c.fit) (k : d.fit) : eqL c.cells d.cells = decide (c = d) := by
  obtain ⟨R, p, S⟩ := c
  obtain ⟨R2, p2, S2⟩ := d
  have h1 : ∀ (L M : List Int) (vs ws : List Value), L.length = M.length → eqL (L.map (Value.int .u32) ++ vs) (M.map (Value.int .u32) ++ ws) = (decide (L = M) && eqL vs ws) := by
    intro L
    induction L with
    | nil => intro M vs ws h; rw [List.eq_nil_of_length_eq_zero h.symm]; simp
    | cons x L ih =>
      intro M vs ws h
      match M, h with
      | y :: M, h =>
        have := ih M vs ws (by simpa using h)
        simp only [List.map_cons, List.cons_append, eqL, eqV, this]
        by_cases q : x = y
        · by_cases q2 : L = M <;> simp [q, q2]
        · simp [q]
  have e1 := h1 R R2 (.int .i64 p :: S.map (Value.int .u32)) (.int .i64 p2 :: S2.map (Value.int .u32)) (by rw [f.lr, k.lr])
  have e2 := h1 S S2 [] [] (by rw [f.ls, k.ls])
  simp only [List.append_nil, eqL, Bool.and_true] at e2
  show eqL (R.map (Value.int .u32) ++ .int .i64 p :: S.map (Value.int .u32)) (R2.map (Value.int .u32) ++ .int .i64 p2 :: S2.map (Value.int .u32)) = _
  rw [e1]
  simp only [eqL, eqV, e2, Cp.mk.injEq, Bool.decide_and]
def pcC (c : Cp) (p : Int) : Cp := ⟨c.Regs, p, c.Sys⟩
end Go.Eng
