/-
  package vgic: the next one; acknowledging, ending, injecting.
-/
import Derived.Test.YtaijcllgdlalpaaGreatDoorZj21
import Derived.Test.YtaijcllgdlalpaaGreatDoorZj20
set_option linter.unusedSimpArgs false
set_option linter.unusedVariables false
set_option maxRecDepth 16000
set_option maxHeartbeats 4000000
namespace Go.Eng
open Go Go.Proofs
theorem find_at {α : Type} {p : α → Bool} : ∀ {l : List α} {j : Nat} {x : α}, (∀ m y, m < j → l[m]? = some y → p y = false) → l[j]? = some x → p x = true → l.find? p = some x
  | [], j, x, _, h, _ => by simp at h
  | y :: l, 0, x, _, h, hp => by
    obtain rfl : y = x := by simpa using h
    rw [List.find?_cons, hp]
  | y :: l, j + 1, x, h0, h, hp => by
    rw [List.find?_cons, h0 0 y (by omega) rfl]
    exact find_at (fun m z hm hz => h0 (m + 1) z (Nat.succ_lt_succ hm) (by simpa using hz)) (by simpa using h) hp
theorem find_no {α : Type} {p : α → Bool} {l : List α} (h : ∀ m y, m < l.length → l[m]? = some y → p y = false) : l.find? p = none := by
  rw [List.find?_eq_none]
  intro x hx
  obtain ⟨i, hi, rfl⟩ := List.mem_iff_getElem.1 hx
  rw [h i _ hi (List.getElem?_eq_getElem hi)]
  exact Bool.false_ne_true
theorem off_at {l m a b c : Int} {pm am k : Nat} (hk : k < 64) : (vgicL l m a b c pm am)[2 + k]? = some (.bool false) := by
  unfold vgicL
  rw [List.append_assoc, List.getElem?_append_right (by simp), List.getElem?_append_left (by simp; omega), List.getElem?_replicate, if_pos (by simp; omega)]
section
variable {h : Heap} {F : List SP} {vv : Value} {V : Vg}
theorem lr_el {v : Value} {Y : List Lr} (hs : Sat h (sliceS 5 Y.length v (lrL Y) :: F)) : ∃ sl cap, v = .slice sl Y.length cap ∧ ∀ (j : Nat) (x : Lr), Y[j]? = some x → ∃ lb, sl = some ⟨lb, 0, none⟩ ∧ hreadO h[lb]? (j * 5) 5 = some x.cells.toArray := by
  obtain ⟨sl, cap, rfl, -, -, hel⟩ := hs.elems
  refine ⟨sl, cap, rfl, fun j x hx => ?_⟩
  obtain ⟨hj, -⟩ := List.getElem?_eq_some_iff.1 hx
  rcases hel with hel | ⟨lb, rfl, -⟩
  · omega
  · exact ⟨lb, rfl, lr_read hs hx⟩
theorem next_S (hs : Sat h (vS vv (some V) :: F)) : HCalls Tryz.prog 129 #[vv] h fun v h' => v = .tuple #[.int .i64 ((nextV V).getD 0), .bool (nextV V).isSome] ∧ Sat h' (vS vv (some V) :: F) := by
  refine HCalls.via fun R hR => ?_
  obtain ⟨vb, x, rfl, ok, s⟩ := vS_some.1 hs
  have g := s.get
  simp only [vgicL, List.replicate, List.cons_append, List.nil_append] at g
  refine HCalls.of_dev T129 Tryz.func129 rfl mixed (by kernel_rfl) ?_; rw [Tryz.results129]
  simp (maxSteps := 2000000) (disch := first | (simp only [go_sem, simprocAttr, g] <;> omega) | omega) only [go_sem, simprocAttr, g]
  refine (running_S hs).mono ?_
  rintro v h1 ⟨rfl, s1⟩
  obtain ⟨vb', x', e, ok', s1'⟩ := vS_some.1 s1
  cases e
  have g1 := s1'.get
  simp only [vgicL, List.replicate, List.cons_append, List.nil_append] at g1
  simp (maxSteps := 2000000) (disch := first | (simp only [go_sem, simprocAttr, g1] <;> omega) | omega) only [go_sem, simprocAttr, g1]
  refine (all_S s1).mono ?_
  rintro v h2 s2
  obtain ⟨sl, cap, rfl, -⟩ := s2.elems
  have ll := allV_len ok.ok
  have lst : min V.mask (runV V 64) = leastV V := rfl
  simp (maxSteps := 2000000) (disch := first | (simp only [go_sem, simprocAttr, lst] <;> omega) | omega) only [go_sem, simprocAttr, lst]
  refine loopH.intro (fun j : Nat => (.cons 0 (.pointer (some ⟨vb, 0, none⟩)) true (.cons 4 (.int .i64 (leastV V)) true (.cons 15 (.slice sl (allV V).length cap) true (.cons 16 (.int .i64 (allV V).length) true (.cons 17 (.int .i64 j) true .nil))))))
    (fun j h' => j ≤ (allV V).length ∧ (∀ m y, m < j → (allV V)[m]? = some y → (!y.Ac && decide (y.P < leastV V)) = false) ∧ Sat h' (sliceS 5 (allV V).length (.slice sl (allV V).length cap) (lrL (allV V)) :: vS (.pointer (some ⟨vb, 0, none⟩)) (some V) :: F)) (fun j _ => (allV V).length + 1 - j) 0 ?_ ⟨by omega, fun m y hm => by omega, s2⟩ ?_
  · simp (maxSteps := 2000000) (disch := first | (simp only [go_sem, simprocAttr] <;> omega) | omega) only [go_sem, simprocAttr]
    try rfl
  clear hs s g s1 s1' g1 s2 ok' x'
  rintro j h3 ⟨hj, hall, s⟩
  by_cases q : j < (allV V).length
  case neg =>
    have q1 : ¬ (j : Int) < (allV V).length := by omega
    have hn : nextV V = none := by
      unfold nextV
      rw [find_no fun m y hm hy => hall m y (by omega) hy]; rfl
    rw [hn] at hR
    simp (maxSteps := 2000000) (disch := first | (simp only [go_sem, simprocAttr, q1] <;> omega) | omega) only [go_sem, simprocAttr, q1]
    exact hR _ _ ⟨rfl, s.tail⟩
  have q1 : (j : Int) < (allV V).length := by omega
  obtain ⟨y, hy⟩ : ∃ y, (allV V)[j]? = some y := ⟨_, List.getElem?_eq_getElem q⟩
  obtain ⟨sl', cap', e, hel⟩ := lr_el s
  cases e
  obtain ⟨lb, rfl, rd⟩ := hel j y hy
  obtain ⟨k, hk, hone⟩ := (allV_mem ok.ok).1 (List.mem_of_getElem? hy)
  have hI := oneV_I hone
  have s4 := s.push (.cells y.cells.toArray 163 (0, 0))
  simp only [Lr.cells_eq] at s4
  obtain ⟨vb', x2, e, ok2, t⟩ := vS_some.1 (s4.front 2)
  cases e
  have tg := t.get
  have toff : hcellO (some (Obj.cells (vgicL x2.l V.mask x2.a x2.b x2.c x2.pm x2.am).toArray x2.ty (0, 0))) (2 + k) = some (.bool false) := by
    rw [hcellO_arr, List.getElem?_toArray]
    exact off_at hk
  have tf : hcellO (h3.push (.cells #[.int .i64 y.I, .int .i64 y.P, .bool y.L, .bool y.Pe, .bool y.Ac] 163 (0, 0)))[vb]? (2 + y.I.toNat) = some (.bool false) := by
    rw [tg, show y.I.toNat = k by omega]; exact toff
  have go : (!y.Ac && decide (y.P < leastV V)) = false → ∀ h', Sat h' (cellAt h3.size (.cells #[.int .i64 y.I, .int .i64 y.P, .bool y.L, .bool y.Pe, .bool y.Ac] 163 (0, 0)) :: sliceS 5 (allV V).length (.slice (some ⟨lb, 0, none⟩) (allV V).length cap) (lrL (allV V)) :: vS (.pointer (some ⟨vb, 0, none⟩)) (some V) :: F) →
      j + 1 ≤ (allV V).length ∧ (∀ m y, m < j + 1 → (allV V)[m]? = some y → (!y.Ac && decide (y.P < leastV V)) = false) ∧ Sat h' (sliceS 5 (allV V).length (.slice (some ⟨lb, 0, none⟩) (allV V).length cap) (lrL (allV V)) :: vS (.pointer (some ⟨vb, 0, none⟩)) (some V) :: F) := by
    intro z h' s'
    refine ⟨by omega, fun m y' hm hy' => ?_, s'.tail⟩
    by_cases em : m = j
    · subst em; rw [hy] at hy'; cases hy'; exact z
    · exact hall m y' (by omega) hy'
  cases hA : y.Ac with
  | true =>
    rw [hA] at tf go s4
    simp (maxSteps := 2000000) (disch := first | (simp only [go_sem, simprocAttr, q1, rd, hA, tf] <;> omega) | omega) only [go_sem, simprocAttr, q1, rd, hA, tf]
    exact ⟨j + 1, rfl, go rfl _ s4, by simp only; omega⟩
  | false =>
    rw [hA] at tf go s4
    by_cases q2 : y.P < leastV V
    · have hn : nextV V = some y.I := by
        unfold nextV
        rw [find_at hall hy (by rw [hA, decide_eq_true q2]; rfl)]; rfl
      rw [hn] at hR
      simp (maxSteps := 2000000) (disch := first | (simp only [go_sem, simprocAttr, q1, rd, hA, tf, q2] <;> omega) | omega) only [go_sem, simprocAttr, q1, rd, hA, tf, q2]
      exact hR _ _ ⟨rfl, s4.tail.tail⟩
    · simp (maxSteps := 2000000) (disch := first | (simp only [go_sem, simprocAttr, q1, rd, hA, tf, q2] <;> omega) | omega) only [go_sem, simprocAttr, q1, rd, hA, tf, q2]
      exact ⟨j + 1, rfl, go (by rw [decide_eq_false q2]; rfl) _ s4, by simp only; omega⟩
theorem ack_S (hs : Sat h (vS vv (some V) :: F)) : HCalls Tryz.prog 96 #[vv] h fun v h' => v = .int .i64 (ackV V).2 ∧ Sat h' (vS vv (some (ackV V).1) :: F) := by
  refine HCalls.via fun R hR => ?_
  refine HCalls.of_dev T96 Tryz.func96 rfl mixed (by kernel_rfl) ?_; rw [Tryz.results96]
  simp (maxSteps := 2000000) (disch := first | (simp only [go_sem, simprocAttr] <;> omega) | omega) only [go_sem, simprocAttr]
  refine (next_S hs).mono ?_
  rintro v h1 ⟨rfl, s1⟩
  obtain ⟨vb, x, rfl, ok, s⟩ := vS_some.1 s1
  unfold ackV at hR
  cases hn : nextV V with
  | none =>
    rw [hn] at hR
    simp (maxSteps := 2000000) (disch := first | (simp only [go_sem, simprocAttr] <;> omega) | omega) only [go_sem, simprocAttr]
    exact hR _ _ ⟨rfl, s1⟩
  | some k =>
    rw [hn] at hR
    obtain ⟨k0, k1, hA, p, l, hP⟩ := nextV_is ok.ok hn
    have g := s.get
    simp only [vgicL, List.replicate, List.cons_append, List.nil_append] at g
    have lk := lookV1 ok.p (s.front 1).get k
    simp only [hP, Option.getD_some] at lk
    simp (maxSteps := 2000000) (disch := first | (simp only [go_sem, simprocAttr, g, lk] <;> omega) | omega) only [go_sem, simprocAttr, g, lk]
    refine MapIs.update (ok.a.is (s.front 2).get) Tryz.underlying146 Tryz.underlying3 fun es' clk' mi mv => ?_
    have s2 := (s.front 2).set (.map es' clk')
    have g2 := (s2.front 1).get
    simp only [vgicL, List.replicate, List.cons_append, List.nil_append] at g2
    simp (maxSteps := 2000000) (disch := first | (simp only [go_sem, simprocAttr, g2] <;> omega) | omega) only [go_sem, simprocAttr, g2]
    refine MapIs.delete (ok.p.is (s2.front 2).get) Tryz.underlying146 Tryz.underlying3 fun es2 mi2 mv2 => ?_
    have s3 := (s2.front 2).set (.map es2 x.c1)
    have g3 := (s3.front 2).get
    have s4 := (s3.front 2).set (.cells (vgicL x.l V.mask x.a (IntKind.i64.wrap (x.b + 1)) x.c x.pm x.am).toArray x.ty (0, 0))
    simp only [vgicL, List.replicate, List.cons_append, List.nil_append] at g3
    simp (maxSteps := 2000000) (disch := first | (simp only [go_sem, simprocAttr, g3] <;> omega) | omega) only [go_sem, simprocAttr, g3]
    refine hR _ _ ⟨rfl, vS_some.2 ⟨vb, ⟨x.l, x.a, IntKind.i64.wrap (x.b + 1), x.c, x.pm, x.am, es2, x.c1, es', clk', x.ty⟩, rfl, ⟨?_, ok.p.del mi2 mv2, ?_⟩, s4⟩⟩
    · have := ackV_ok ok.ok
      unfold ackV at this
      rw [hn] at this
      exact this
    · have := ok.a.set (x := (p, l)) mi (by exact mv)
      show mapO es' clk' (setF V.A k (V.P k))
      rw [hP]
      exact this
theorem end_S (hs : Sat h (vS vv (some V) :: F)) (id : Int) : HCalls Tryz.prog 130 #[vv, .int .i64 id] h fun v h' => (∃ e, v = .tuple #[.bool (endV V id).2, .int .i64 e]) ∧ Sat h' (vS vv (some (endV V id).1) :: F) := by
  refine HCalls.via fun R hR => ?_
  obtain ⟨vb, x, rfl, ok, s⟩ := vS_some.1 hs
  have eok := endV_ok ok.ok id
  have g := s.get
  simp only [vgicL, List.replicate, List.cons_append, List.nil_append] at g
  refine HCalls.of_dev T130 Tryz.func130 rfl mixed (by kernel_rfl) ?_; rw [Tryz.results130]
  simp (maxSteps := 2000000) (disch := first | (simp only [go_sem, simprocAttr] <;> omega) | omega) only [go_sem, simprocAttr]
  refine (is_S id).mono ?_
  rintro v h1 ⟨rfl, rfl⟩
  unfold endV at hR eok
  cases hA : V.A id with
  | none =>
    rw [hA] at hR
    by_cases c : (decide (0 ≤ id) && decide (id < 64)) = true
    · rw [c]
      have s1 := s.push (.cells #[.int .i64 0, .bool false] 143 (0, 0))
      have lk := lookV ok.a (s.front 2).get id
      simp only [hA, Option.getD_none, Option.isSome_none] at lk
      simp (maxSteps := 2000000) (disch := first | (simp only [go_sem, simprocAttr, g, lk, s1.get] <;> omega) | omega) only [go_sem, simprocAttr, g, lk, s1.get]
      exact hR _ _ ⟨⟨_, rfl⟩, vS_some.2 ⟨vb, x, rfl, ok, s1.tail⟩⟩
    · rw [Bool.not_eq_true] at c
      rw [c]
      simp (maxSteps := 2000000) (disch := first | (simp only [go_sem, simprocAttr] <;> omega) | omega) only [go_sem, simprocAttr]
      exact hR _ _ ⟨⟨_, rfl⟩, hs⟩
  | some y =>
    obtain ⟨a, l⟩ := y
    rw [hA] at hR eok
    obtain ⟨i0, i1, -, -⟩ := ok.ok.a _ _ _ hA
    rw [decide_eq_true i0, decide_eq_true i1]
    have s1 := s.push (.cells #[.int .i64 0, .bool false] 143 (0, 0))
    have s2 := s.push (.cells #[.int .i64 a, .bool l] 143 (0, 0))
    have lk := lookV ok.a (s.front 2).get id
    simp only [hA, Option.getD_some, Option.isSome_some] at lk
    have g2 := (s2.front 1).get
    simp only [vgicL, List.replicate, List.cons_append, List.nil_append] at g2
    simp (maxSteps := 2000000) (disch := first | (simp only [go_sem, simprocAttr, g, lk, s1.get, g2] <;> omega) | omega) only [go_sem, simprocAttr, g, lk, s1.get, g2]
    refine MapIs.delete (ok.a.is (s2.front 3).get) Tryz.underlying146 Tryz.underlying3 fun es2 mi2 mv2 => ?_
    have s3 := (s2.front 3).set (.map es2 x.c2)
    have g3 := (s3.front 2).get
    have s4 := (s3.front 2).set (.cells (vgicL x.l V.mask x.a x.b (IntKind.i64.wrap (x.c + 1)) x.pm x.am).toArray x.ty (0, 0))
    simp only [vgicL, List.replicate, List.cons_append, List.nil_append] at g3
    have g4 := (s4.front 2).get
    simp only [vgicL, List.replicate, List.cons_append, List.nil_append] at g4
    simp (maxSteps := 2000000) (disch := first | (simp only [go_sem, simprocAttr, g3, g4] <;> omega) | omega) only [go_sem, simprocAttr, g3, g4]
    exact hR _ _ ⟨⟨_, rfl⟩, vS_some.2 ⟨vb, ⟨x.l, x.a, x.b, IntKind.i64.wrap (x.c + 1), x.pm, x.am, x.e1, x.c1, es2, x.c2, x.ty⟩, rfl, ⟨eok, ok.p, ok.a.del mi2 mv2⟩, ((s4.front 2).tail.front 2).swap⟩⟩
theorem inject_S (hs : Sat h (vS vv (some V) :: F)) (id p : Int) (l : Bool) : HCalls Tryz.prog 19 #[vv, .int .i64 id, .int .i64 p, .bool l] h fun v h' => v = .int .i64 (injV V id p l).2 ∧ Sat h' (vS vv (some (injV V id p l).1) :: F) := by
  refine HCalls.via fun R hR => ?_
  obtain ⟨vb, x, rfl, ok, s⟩ := vS_some.1 hs
  have iok := injV_ok ok.ok id p l
  have g := s.get
  simp only [vgicL, List.replicate, List.cons_append, List.nil_append] at g
  refine HCalls.of_dev T19 Tryz.func19 rfl mixed (by kernel_rfl) ?_; rw [Tryz.results19]
  simp (maxSteps := 2000000) (disch := first | (simp only [go_sem, simprocAttr] <;> omega) | omega) only [go_sem, simprocAttr]
  refine (is_S id).mono ?_
  rintro v h1 ⟨rfl, rfl⟩
  unfold injV at hR iok
  by_cases c : id < 0 ∨ 64 ≤ id ∨ p < 0 ∨ 256 ≤ p
  · simp only [if_pos c] at hR
    by_cases c1 : 0 ≤ id
    · by_cases c2 : id < 64
      · by_cases c3 : p < 0
        · simp (maxSteps := 2000000) (disch := first | (simp only [go_sem, simprocAttr, c1, c2, c3] <;> omega) | omega) only [go_sem, simprocAttr, c1, c2, c3]
          exact hR _ _ ⟨rfl, hs⟩
        · have c4 : 256 ≤ p := by omega
          simp (maxSteps := 2000000) (disch := first | (simp only [go_sem, simprocAttr, c1, c2, c3, c4] <;> omega) | omega) only [go_sem, simprocAttr, c1, c2, c3, c4]
          exact hR _ _ ⟨rfl, hs⟩
      · simp (maxSteps := 2000000) (disch := first | (simp only [go_sem, simprocAttr, c1, c2] <;> omega) | omega) only [go_sem, simprocAttr, c1, c2]
        exact hR _ _ ⟨rfl, hs⟩
    · simp (maxSteps := 2000000) (disch := first | (simp only [go_sem, simprocAttr, c1] <;> omega) | omega) only [go_sem, simprocAttr, c1]
      exact hR _ _ ⟨rfl, hs⟩
  simp only [if_neg c] at hR iok
  have c1 : 0 ≤ id := by omega
  have c2 : id < 64 := by omega
  have c3 : ¬ p < 0 := by omega
  have c4 : ¬ 256 ≤ p := by omega
  have s1 := s.push (.cells #[.int .i64 0, .bool false] 143 (0, 0))
  have lk := lookV ok.p (s.front 1).get id
  cases hP : V.P id with
  | some y =>
    rw [hP] at hR
    simp only [hP, Option.getD_some, Option.isSome_some] at lk
    simp (maxSteps := 2000000) (disch := first | (simp only [go_sem, simprocAttr, c1, c2, c3, c4, g, lk, s1.get] <;> omega) | omega) only [go_sem, simprocAttr, c1, c2, c3, c4, g, lk, s1.get]
    have s2 := s.push (.cells #[.int .i64 y.1, .bool y.2] 143 (0, 0))
    exact hR _ _ ⟨rfl, vS_some.2 ⟨vb, x, rfl, ok, s2.tail⟩⟩
  | none =>
    rw [hP] at hR iok
    simp only [hP, Option.getD_none, Option.isSome_none] at lk
    have g1 := (s1.front 1).get
    simp only [vgicL, List.replicate, List.cons_append, List.nil_append] at g1
    simp (maxSteps := 2000000) (disch := first | (simp only [go_sem, simprocAttr, c1, c2, c3, c4, g, lk, s1.get, g1] <;> omega) | omega) only [go_sem, simprocAttr, c1, c2, c3, c4, g, lk, s1.get, g1]
    refine MapIs.update (ok.p.is (s1.front 2).get) Tryz.underlying146 Tryz.underlying3 fun es' clk' mi mv => ?_
    have s2 := (s1.front 2).set (.map es' clk')
    have g2 := (s2.front 2).get
    have s3 := (s2.front 2).set (.cells (vgicL x.l V.mask (IntKind.i64.wrap (x.a + 1)) x.b x.c x.pm x.am).toArray x.ty (0, 0))
    simp only [vgicL, List.replicate, List.cons_append, List.nil_append] at g2
    simp (maxSteps := 2000000) (disch := first | (simp only [go_sem, simprocAttr, g2] <;> omega) | omega) only [go_sem, simprocAttr, g2]
    have hv := ok.p.set (x := (p, l)) mi (by exact mv)
    exact hR _ _ ⟨rfl, vS_some.2 ⟨vb, ⟨x.l, IntKind.i64.wrap (x.a + 1), x.b, x.c, x.pm, x.am, es', clk', x.e2, x.c2, x.ty⟩, rfl, ⟨iok, hv, ok.a⟩, (s3.front 2).tail⟩⟩
end
end Go.Eng
/-
  package cpu: wfi, iar, eoi, tlbi.
-/
namespace Go.Eng
open Go Go.Proofs
/-- What wfi tells; what eoi tells. -/
def wfiT (V : Option Vg) (c : Cp) : Trp := if (V.bind nextV).isSome = true then okT else ⟨9, 0, c.Pc, okF⟩
def eoiT (m : Vg) (c : Cp) (B : Nat) : Trp := if (endV m (min (rg c B) 64)).2 = true then ⟨10, rg c B, c.Pc, okF⟩ else okT
theorem vg_ok {h : Heap} {F : List SP} {vv : Value} {V : Vg} (hs : Sat h (vS vv (some V) :: F)) : V.ok := by
  obtain ⟨vb, x, -, ok, -⟩ := vS_some.1 hs
  exact ok.ok
section
variable {h : Heap} {F : List SP} {rb n tb xb cb : Nat} {mem : Nat → Int} {T : List Ln} {vr vt vv : Value} {w : Int} {s : Spc} {at_ next : Int} {g : Bool} {ty ty2 : TypeId} {c : Cp} {o : Int} {A B C I : Nat}
theorem wfi_S {V : Option Vg} (f : c.fit) (hs : Sat h (cellAt xb (.cells (turnL vr vt vv cb ⟨o, A, B, C, I⟩ w s at_ next g).toArray ty (0, 0)) :: cellAt cb (.cells c.cells.toArray ty2 (0, 0)) :: vS vv V :: F)) :
    HCalls Tryz.prog 94 #[.pointer (some ⟨xb, 0, none⟩)] h fun v h' => v = .agg (wfiT V c).cells.toArray ∧ Sat h' (cellAt xb (.cells (turnL vr vt vv cb ⟨o, A, B, C, I⟩ w s at_ next g).toArray ty (0, 0)) :: cellAt cb (.cells c.cells.toArray ty2 (0, 0)) :: vS vv V :: F) := by
  refine HCalls.via fun R hR => ?_
  have n16 : nthL c.cells 16 = some (.int .i64 c.Pc) := by rw [nthL_eq]; exact Cp.pc f
  have g0 := hs.get
  have g1 := (hs.front 1).get
  simp only [turnL] at g0
  refine HCalls.of_dev T94 Tryz.func94 rfl mixed (by kernel_rfl) ?_; rw [Tryz.results94]
  cases V with
  | none =>
    obtain ⟨rfl, s0⟩ := vS_none.1 (hs.front 2)
    have s1 := hs.push (.cells okT.cells.toArray 56 (0, 0))
    simp only [Trp.cells_eq, okT, okF] at s1
    have h0 := (s1.front 1).get
    have h1 := (s1.front 2).get
    simp only [turnL] at h0
    have s3 := hs.push (.cells (⟨9, 0, c.Pc, okF⟩ : Trp).cells.toArray 56 (0, 0))
    simp (maxSteps := 2000000) (disch := first | (simp only [go_sem, simprocAttr, g0, g1, h0, h1, n16, s1.get] <;> omega) | omega) only [go_sem, simprocAttr, g0, g1, h0, h1, n16, s1.get]
    exact hR _ _ ⟨rfl, s3.tail⟩
  | some m =>
    obtain ⟨vb, x, rfl, -, s0⟩ := vS_some.1 (hs.front 2)
    have s1 := hs.push (.cells okT.cells.toArray 56 (0, 0))
    simp only [Trp.cells_eq, okT, okF] at s1
    have h0 := (s1.front 1).get
    simp only [turnL] at h0
    have hw : wfiT (some m) c = if (nextV m).isSome = true then okT else ⟨9, 0, c.Pc, okF⟩ := rfl
    rw [hw] at hR
    simp (maxSteps := 2000000) (disch := first | (simp only [go_sem, simprocAttr, h0] <;> omega) | omega) only [go_sem, simprocAttr, h0]
    refine (next_S (s1.front 3)).mono ?_
    rintro v h2 ⟨rfl, s2⟩
    have k0 := (s2.front 2).get
    have k1 := (s2.front 3).get
    simp only [turnL] at k0
    have k2 := (s2.front 1).get
    cases q : (nextV m).isSome with
    | true =>
      rw [q] at hR
      simp only [if_true] at hR
      have s3 := (s2.front 1).set (.cells okT.cells.toArray 56 (0, 0))
      simp only [Trp.cells_eq, okT, okF] at s3
      simp (maxSteps := 2000000) (disch := first | (simp only [go_sem, simprocAttr, k0, k1, k2, s3.get, n16] <;> omega) | omega) only [go_sem, simprocAttr, k0, k1, k2, s3.get, n16]
      exact hR _ _ ⟨rfl, s3.tail.back 2⟩
    | false =>
      rw [q] at hR
      simp only [Bool.false_eq_true, if_false] at hR
      have s3 := (s2.front 1).set (.cells (⟨9, 0, c.Pc, okF⟩ : Trp).cells.toArray 56 (0, 0))
      simp only [Trp.cells_eq, okT, okF] at s3
      simp (maxSteps := 2000000) (disch := first | (simp only [go_sem, simprocAttr, k0, k1, k2, s3.get, n16] <;> omega) | omega) only [go_sem, simprocAttr, k0, k1, k2, s3.get, n16]
      exact hR _ _ ⟨rfl, s3.tail.back 2⟩
theorem iar_S {m : Vg} (f : c.fit) (hA : A < 16) (hs : Sat h (cellAt xb (.cells (turnL vr vt vv cb ⟨o, A, B, C, I⟩ w s at_ next g).toArray ty (0, 0)) :: cellAt cb (.cells c.cells.toArray ty2 (0, 0)) :: vS vv (some m) :: F)) :
    HCalls Tryz.prog 95 #[.pointer (some ⟨xb, 0, none⟩)] h fun v h' => v = .agg okT.cells.toArray ∧ Sat h' (cellAt xb (.cells (turnL vr vt vv cb ⟨o, A, B, C, I⟩ w s at_ next g).toArray ty (0, 0)) :: cellAt cb (.cells (setR c A (ackV m).2).cells.toArray ty2 (0, 0)) :: vS vv (some (ackV m).1) :: F) := by
  refine HCalls.via fun R hR => ?_
  have ok := vg_ok (hs.front 2)
  have s1 := hs.push (.cells okT.cells.toArray 56 (0, 0))
  simp only [Trp.cells_eq, okT, okF] at s1
  have g0 := (s1.front 1).get
  simp only [turnL] at g0
  have a0 : (0 : Int) ≤ A := by omega
  have a1 : (A : Int) < 16 := by omega
  have l := Cp.len f
  have l1 : A < c.cells.length := by omega
  have sc := setR_cells f hA (v := (ackV m).2)
  obtain ⟨b0, b1⟩ := ackV_bd ok
  refine HCalls.of_dev T95 Tryz.func95 rfl mixed (by kernel_rfl) ?_; rw [Tryz.results95]
  simp (maxSteps := 2000000) (disch := first | (simp only [go_sem, simprocAttr, g0] <;> omega) | omega) only [go_sem, simprocAttr, g0]
  refine (ack_S (s1.front 3)).mono ?_
  rintro v h2 ⟨rfl, s2⟩
  have k0 := (s2.front 2).get
  have k1 := (s2.front 3).get
  simp only [turnL] at k0
  have s3 := (s2.front 3).set (.cells (setR c A (ackV m).2).cells.toArray ty2 (0, 0))
  have s4 := (s3.front 2).set (.cells okT.cells.toArray 56 (0, 0))
  simp only [Trp.cells_eq, okT, okF, turnL] at s3 s4
  have g2 := (s3.front 2).get
  have g4 := s4.get
  simp (maxSteps := 2000000) (disch := first | (simp only [go_sem, simprocAttr, k0, k1, a0, a1, l1, sc, g2, g4] <;> omega) | omega) only [go_sem, simprocAttr, k0, k1, a0, a1, l1, sc, g2, g4]
  exact hR _ _ ⟨rfl, s4.tail.front 2⟩
theorem eoi_S {m : Vg} (f : c.fit) (hB : B < 16) (hs : Sat h (cellAt xb (.cells (turnL vr vt vv cb ⟨o, A, B, C, I⟩ w s at_ next false).toArray ty (0, 0)) :: cellAt cb (.cells c.cells.toArray ty2 (0, 0)) :: vS vv (some m) :: F)) :
    HCalls Tryz.prog 97 #[.pointer (some ⟨xb, 0, none⟩)] h fun v h' => v = .agg (eoiT m c B).cells.toArray ∧ Sat h' (cellAt xb (.cells (turnL vr vt vv cb ⟨o, A, B, C, I⟩ w s at_ next (endV m (min (rg c B) 64)).2).toArray ty (0, 0)) :: cellAt cb (.cells c.cells.toArray ty2 (0, 0)) :: vS vv (some (endV m (min (rg c B) 64)).1) :: F) := by
  refine HCalls.via fun R hR => ?_
  have s1 := hs.push (.cells okT.cells.toArray 56 (0, 0))
  simp only [Trp.cells_eq, okT, okF] at s1
  have g0 := (s1.front 1).get
  have g1 := (s1.front 2).get
  simp only [turnL] at g0
  have b0 : (0 : Int) ≤ B := by omega
  have b1 : (B : Int) < 16 := by omega
  obtain ⟨y0, y1⟩ := rg_bd f (i := B) (by omega) (by omega)
  have n16 : nthL c.cells 16 = some (.int .i64 c.Pc) := by rw [nthL_eq]; exact Cp.pc f
  have nB : nthL c.cells B = some (.int .u32 (rg c B)) := by rw [nthL_eq]; exact Cp.reg f hB
  have hw : eoiT m c B = if (endV m (min (rg c B) 64)).2 = true then ⟨10, rg c B, c.Pc, okF⟩ else okT := rfl
  rw [hw] at hR
  refine HCalls.of_dev T97 Tryz.func97 rfl mixed (by kernel_rfl) ?_; rw [Tryz.results97]
  simp (maxSteps := 2000000) (disch := first | (simp only [go_sem, simprocAttr, g0, g1, b0, b1, nB] <;> omega) | omega) only [go_sem, simprocAttr, g0, g1, b0, b1, nB]
  refine (end_S (s1.front 3) _).mono ?_
  rintro v h2 ⟨⟨e, rfl⟩, s2⟩
  have k0 := (s2.front 2).get
  have k1 := (s2.front 3).get
  have k2 := (s2.front 1).get
  simp only [turnL] at k0
  cases q : (endV m (min (rg c B) 64)).2 with
  | false =>
    rw [q] at hR
    simp only [Bool.false_eq_true, if_false] at hR
    have s3 := (s2.front 1).set (.cells okT.cells.toArray 56 (0, 0))
    simp only [Trp.cells_eq, okT, okF] at s3
    simp (maxSteps := 2000000) (disch := first | (simp only [go_sem, simprocAttr, k0, k2, s3.get] <;> omega) | omega) only [go_sem, simprocAttr, k0, k2, s3.get]
    exact hR _ _ ⟨rfl, s3.tail.back 2⟩
  | true =>
    rw [q] at hR
    simp only [if_true] at hR
    have s3 := (s2.front 2).set (.cells (turnL vr vt vv cb ⟨o, A, B, C, I⟩ w s at_ next true).toArray ty (0, 0))
    have s4 := (s3.front 2).set (.cells (⟨10, rg c B, c.Pc, okF⟩ : Trp).cells.toArray 56 (0, 0))
    have j0 := s3.get
    have j1 := (s3.front 3).get
    simp only [Trp.cells_eq, okT, okF, turnL] at s3 s4 j0 j1
    have j2 := (s3.front 2).get
    simp (maxSteps := 2000000) (disch := first | (simp only [go_sem, simprocAttr, k0, k1, k2, j0, j1, j2, n16, s4.get] <;> omega) | omega) only [go_sem, simprocAttr, k0, k1, k2, j0, j1, j2, n16, s4.get]
    exact hR _ _ ⟨rfl, (s4.tail.front 2).swap⟩
theorem tlbi_S {tb : Nat} {T : List Ln} (hs : Sat h (cellAt xb (.cells (turnL vr (.pointer (some ⟨tb, 0, none⟩)) vv cb ⟨o, A, B, C, I⟩ w s at_ next g).toArray ty (0, 0)) :: tlbS tb T :: F)) :
    HCalls Tryz.prog 98 #[.pointer (some ⟨xb, 0, none⟩)] h fun v h' => v = .agg okT.cells.toArray ∧ Sat h' (cellAt xb (.cells (turnL vr (.pointer (some ⟨tb, 0, none⟩)) vv cb ⟨o, A, B, C, I⟩ w s at_ next g).toArray ty (0, 0)) :: tlbS tb (flushT T fun l => decide (l.Vmid = s.Vmid) && decide (l.Asid = s.Asid)) :: F) := by
  refine HCalls.via fun R hR => ?_
  have s1 := hs.push (.cells okT.cells.toArray 56 (0, 0))
  simp only [Trp.cells_eq, okT, okF] at s1
  have g0 := (s1.front 1).get
  simp only [turnL] at g0
  refine HCalls.of_dev T98 Tryz.func98 rfl mixed (by kernel_rfl) ?_; rw [Tryz.results98]
  simp (maxSteps := 2000000) (disch := first | (simp only [go_sem, simprocAttr, g0] <;> omega) | omega) only [go_sem, simprocAttr, g0]
  refine (flushAsid_S (s1.front 2) _ _).mono ?_
  rintro v h2 ⟨⟨e, rfl⟩, s2⟩
  have k2 := (s2.front 1).get
  have s3 := (s2.front 1).set (.cells okT.cells.toArray 56 (0, 0))
  simp only [Trp.cells_eq, okT, okF] at s3
  simp (maxSteps := 2000000) (disch := first | (simp only [go_sem, simprocAttr, k2, s3.get] <;> omega) | omega) only [go_sem, simprocAttr, k2, s3.get]
  exact hR _ _ ⟨rfl, s3.tail.swap⟩
end
end Go.Eng
/-
  package cpu: what is done, by the operation's number.
-/
namespace Go.Eng
open Go Go.Proofs
theorem callV_mono {P : Program} {v : Value} {vs : List Value} {h : Heap} {K K' : Value → Heap → Prop} (q : callV P v vs h K) (m : ∀ v h', K v h' → K' v h') : callV P v vs h K' := by
  unfold callV at q ⊢
  split at q
  · exact ⟨q.1, q.2.mono m⟩
  · exact q.elim
theorem ops_get (D : Nat → Value) {op : Nat} (h : op < 26) : (opsL D).toArray.extract (op * 2) (op * 2 + 2) = #[.bool (guestO (op : Nat)), D op] := by
  have := flat_extract (enc := fun k : Nat => [Value.bool (guestO (k : Nat)), D k]) (sz := 2) (fun _ => rfl) (L := List.range 26) (i := op) (by simpa using h)
  rw [List.getElem_range] at this
  exact this
theorem opB_func {h : Heap} {F : List SP} {op : Nat} {dv : Value} (hs : Sat h (opB op dv :: F)) : ∃ f a b, dv = .func f a b := by
  unfold opB at hs
  split at hs
  all_goals first
    | exact ⟨_, _, _, (Sat.pure.1 hs).1⟩
    | (obtain ⟨_, _, e, -⟩ := recB_iff.1 hs; exact ⟨_, _, _, e⟩)
    | (obtain ⟨_, _, _, _, _, _, e, -⟩ := touB_iff.1 hs; exact ⟨_, _, _, e⟩)
theorem ite_ff {α : Type} (p : Prop) [Decidable p] (a b : α) : (if p then a else b) = if p ∧ false = false then a else b := by by_cases h : p <;> simp [h]
/-- What an operation leaves. -/
def opPost (n rb tb xb cb : Nat) (vv : Value) (ty ty2 : TypeId) (M : Mch) (c : Cp) (i : Ins) (w : Int) (s : Spc) (at_ : Int) (F : List SP) (v : Value) (h' : Heap) : Prop :=
  ∃ (tr : Trp) (M' : Mch) (c' : Cp) (nx : Int) (gn : Bool), v = .agg tr.cells.toArray ∧ c'.fit ∧ 0 ≤ nx ∧ nx < 65536 ∧
    Sat h' (cellAt xb (.cells (turnL (.pointer (some ⟨rb, 0, none⟩)) (.pointer (some ⟨tb, 0, none⟩)) vv cb i w s at_ nx gn).toArray ty (0, 0)) :: ramS rb n M'.mem :: tlbS tb M'.T :: cellAt cb (.cells c'.cells.toArray ty2 (0, 0)) :: vS vv M'.V :: F) ∧
    doP n M c i s at_ = if tr.C ≠ 0 ∧ gn = false then ⟨M', c, tr⟩ else ⟨M', { c' with Pc := nx }, tr⟩
/-- The operations of which it is told: all. -/
def opIn (op : Nat) : Prop := 0 ≤ op
theorem touch_eq (n : Nat) (M : Mch) (c : Cp) (i : Ins) (s : Spc) (at_ size want cause : Int) (hc : cause ≠ 0) : touch n M c i s at_ size want cause =
    if (touchP n M.mem M.T c i.A ((rg c i.B + i.I) % 65536) s at_ size want cause).t.C ≠ 0 then ⟨⟨(touchP n M.mem M.T c i.A ((rg c i.B + i.I) % 65536) s at_ size want cause).mem, (touchP n M.mem M.T c i.A ((rg c i.B + i.I) % 65536) s at_ size want cause).T, M.V⟩, c, (touchP n M.mem M.T c i.A ((rg c i.B + i.I) % 65536) s at_ size want cause).t⟩
    else ⟨⟨(touchP n M.mem M.T c i.A ((rg c i.B + i.I) % 65536) s at_ size want cause).mem, (touchP n M.mem M.T c i.A ((rg c i.B + i.I) % 65536) s at_ size want cause).T, M.V⟩, { (touchP n M.mem M.T c i.A ((rg c i.B + i.I) % 65536) s at_ size want cause).c with Pc := (c.Pc + 4) % 65536 }, (touchP n M.mem M.T c i.A ((rg c i.B + i.I) % 65536) s at_ size want cause).t⟩ := by
  unfold touch touchP
  generalize (rg c i.B + i.I) % 65536 = ad
  by_cases q : ad % size ≠ 0
  · simp only [if_pos q]; rfl
  simp only [if_neg q]
  by_cases k : (reachC n M.mem M.T s ad want at_).f.K ≠ 0
  · simp only [if_pos k]
    rw [if_pos hc]
  simp only [if_neg k]
  by_cases w2 : want = 2
  · simp only [if_pos w2]; rfl
  · simp only [if_neg w2]; rfl
theorem touch_fit {n : Nat} {mem : Nat → Int} {T : List Ln} {c : Cp} (f : c.fit) (hb : bytesOk (64 * n) mem) (hn : n ≤ 1024) (hT : ∀ l ∈ T, okL l) (A ad : Int) {s : Spc} {at_ size want cause : Int} (hz : size = 4 ∨ size = 1) (h0 : 0 ≤ ad) : (touchP n mem T c A ad s at_ size want cause).c.fit := by
  unfold touchP
  by_cases q : ad % size ≠ 0
  · rw [if_pos q]; exact f
  rw [if_neg q]
  by_cases k : (reachC n mem T s ad want at_).f.K ≠ 0
  · rw [if_pos k]; exact f
  rw [if_neg k]
  by_cases w2 : want = 2
  · rw [if_pos w2]; exact f
  rw [if_neg w2]
  obtain ⟨b1, b2, b3⟩ := reachC_bd mem hT hn s ad want at_ h0 (by omega)
  refine setR_fit f ?_
  obtain ⟨l1, l2⟩ := loadM_bd hb (reachC n mem T s ad want at_).at_.toNat size.toNat (by rcases hz with rfl | rfl <;> simp <;> omega)
  refine ⟨l1, ?_⟩
  rcases hz with rfl | rfl
  · exact l2
  · have : (256 : Int) ^ (1 : Int).toNat = 256 := rfl
    omega
theorem add_do_bd (x y : Int) : 0 ≤ (x + y) % 4294967296 ∧ (x + y) % 4294967296 < 4294967296 := by omega
theorem sub_do_bd (x y : Int) : 0 ≤ (x - y) % 4294967296 ∧ (x - y) % 4294967296 < 4294967296 := by omega
theorem and_do_bd (x y : Int) : 0 ≤ and32 x y ∧ and32 x y < 4294967296 := by
  unfold and32
  have := (BitVec.ofInt 32 x &&& BitVec.ofInt 32 y).isLt
  omega
theorem xor_do_bd (x y : Int) : 0 ≤ xor32 x y ∧ xor32 x y < 4294967296 := by
  unfold xor32
  have := (BitVec.ofInt 32 x ^^^ BitVec.ofInt 32 y).isLt
  omega
theorem shl_do_bd (x y : Int) : 0 ≤ x * 2 ^ (y % 32).toNat % 4294967296 ∧ x * 2 ^ (y % 32).toNat % 4294967296 < 4294967296 := by
  generalize x * 2 ^ (y % 32).toNat = z
  omega
section
variable {h : Heap} {F : List SP} {rb n tb xb cb : Nat} {vv dv : Value} {w : Int} {s : Spc} {at_ : Int} {ty ty2 : TypeId} {c : Cp} {M : Mch} {op A B C I : Nat}
theorem opDo_S (f : c.fit) (op1 : 1 ≤ op) (op2 : op ≤ 25) (oi : opIn op) (hA : A < 16) (hB : B < 16) (hC : C < 16) (hI : I < 65536) (hg : guestO (op : Nat) = true → ∃ m, M.V = some m)
    (hs : Sat h (opB op dv :: cellAt xb (.cells (turnL (.pointer (some ⟨rb, 0, none⟩)) (.pointer (some ⟨tb, 0, none⟩)) vv cb ⟨op, A, B, C, I⟩ w s at_ ((c.Pc + 4) % 65536) false).toArray ty (0, 0)) :: ramS rb n M.mem :: tlbS tb M.T :: cellAt cb (.cells c.cells.toArray ty2 (0, 0)) :: vS vv M.V :: F)) :
    callV Tryz.prog dv [.pointer (some ⟨xb, 0, none⟩)] h (opPost n rb tb xb cb vv ty ty2 M c ⟨op, A, B, C, I⟩ w s at_ F) := by
  have nx0 : 0 ≤ (c.Pc + 4) % 65536 := by omega
  have nx1 : (c.Pc + 4) % 65536 < 65536 := by omega
  obtain ⟨⟨hb, hn⟩, -⟩ := ramS_iff.1 (hs.front 2)
  obtain ⟨⟨-, hT⟩, -⟩ := tlbS_iff.1 (hs.front 3)
  have hI2 : (I : Int) % 65536 = I := by omega
  have y0 := rg_bd f (i := B) (by omega) (by omega)
  have z0 := rg_bd f (i := C) (by omega) (by omega)
  match op, op1, op2, oi with
  | 1, _, _, _ =>
    obtain ⟨rfl, s1⟩ := Sat.pure.1 hs
    refine ⟨by kernel_rfl, ?_⟩
    refine (movi_S f hA hI (s1.front 3).swap).mono ?_
    rintro v h' ⟨rfl, s2⟩
    exact ⟨okT, M, _, _, false, rfl, setR_fit f ⟨by omega, by omega⟩, nx0, nx1, s2.swap.back 3, rfl⟩
  | 2, _, _, _ =>
    obtain ⟨b, ty3, rfl, s1⟩ := recB_iff.1 hs
    refine ⟨by kernel_rfl, ?_⟩
    refine (reck_S f hA hB hC add_do add_do_bd ((s1.front 4).back 2)).mono ?_
    rintro v h' ⟨rfl, s2⟩
    exact ⟨okT, M, _, _, false, rfl, setR_fit f (add_do_bd _ _), nx0, nx1, s2.swap.back 3, rfl⟩
  | 3, _, _, _ =>
    obtain ⟨b, ty3, rfl, s1⟩ := recB_iff.1 hs
    refine ⟨by kernel_rfl, ?_⟩
    refine (reck_S f hA hB hC sub_do sub_do_bd ((s1.front 4).back 2)).mono ?_
    rintro v h' ⟨rfl, s2⟩
    exact ⟨okT, M, _, _, false, rfl, setR_fit f (sub_do_bd _ _), nx0, nx1, s2.swap.back 3, rfl⟩
  | 4, _, _, _ =>
    obtain ⟨b, ty3, rfl, s1⟩ := recB_iff.1 hs
    refine ⟨by kernel_rfl, ?_⟩
    refine (reck_S f hA hB hC and_do and_do_bd ((s1.front 4).back 2)).mono ?_
    rintro v h' ⟨rfl, s2⟩
    exact ⟨okT, M, _, _, false, rfl, setR_fit f (and_do_bd _ _), nx0, nx1, s2.swap.back 3, rfl⟩
  | 5, _, _, _ =>
    obtain ⟨b, ty3, rfl, s1⟩ := recB_iff.1 hs
    refine ⟨by kernel_rfl, ?_⟩
    refine (reck_S f hA hB hC xor_do xor_do_bd ((s1.front 4).back 2)).mono ?_
    rintro v h' ⟨rfl, s2⟩
    exact ⟨okT, M, _, _, false, rfl, setR_fit f (xor_do_bd _ _), nx0, nx1, s2.swap.back 3, rfl⟩
  | 6, _, _, _ =>
    obtain ⟨b, ty3, rfl, s1⟩ := recB_iff.1 hs
    refine ⟨by kernel_rfl, ?_⟩
    refine (reck_S f hA hB hC shl_do shl_do_bd ((s1.front 4).back 2)).mono ?_
    rintro v h' ⟨rfl, s2⟩
    exact ⟨okT, M, _, _, false, rfl, setR_fit f (shl_do_bd _ _), nx0, nx1, s2.swap.back 3, rfl⟩
  | 7, _, _, _ =>
    obtain ⟨b1, b2, b3, t1, t2, t3, rfl, s1⟩ := touB_iff.1 hs
    refine ⟨by kernel_rfl, ?_⟩
    refine (touchC_S f hA hB hC hI (by omega) (by omega) s1).mono ?_
    rintro v h' ⟨rfl, s2⟩
    exact ⟨_, ⟨_, _, M.V⟩, _, _, false, rfl, touch_fit f hb hn hT _ _ (by omega) (by omega), nx0, nx1, s2, (touch_eq _ _ _ _ _ _ _ _ _ (by decide)).trans (ite_ff _ _ _)⟩
  | 8, _, _, _ =>
    obtain ⟨b1, b2, b3, t1, t2, t3, rfl, s1⟩ := touB_iff.1 hs
    refine ⟨by kernel_rfl, ?_⟩
    refine (touchC_S f hA hB hC hI (by omega) (by omega) s1).mono ?_
    rintro v h' ⟨rfl, s2⟩
    exact ⟨_, ⟨_, _, M.V⟩, _, _, false, rfl, touch_fit f hb hn hT _ _ (by omega) (by omega), nx0, nx1, s2, (touch_eq _ _ _ _ _ _ _ _ _ (by decide)).trans (ite_ff _ _ _)⟩
  | 9, _, _, _ =>
    obtain ⟨b1, b2, b3, t1, t2, t3, rfl, s1⟩ := touB_iff.1 hs
    refine ⟨by kernel_rfl, ?_⟩
    refine (touchC_S f hA hB hC hI (by omega) (by omega) s1).mono ?_
    rintro v h' ⟨rfl, s2⟩
    exact ⟨_, ⟨_, _, M.V⟩, _, _, false, rfl, touch_fit f hb hn hT _ _ (by omega) (by omega), nx0, nx1, s2, (touch_eq _ _ _ _ _ _ _ _ _ (by decide)).trans (ite_ff _ _ _)⟩
  | 10, _, _, _ =>
    obtain ⟨b1, b2, b3, t1, t2, t3, rfl, s1⟩ := touB_iff.1 hs
    refine ⟨by kernel_rfl, ?_⟩
    refine (touchC_S f hA hB hC hI (by omega) (by omega) s1).mono ?_
    rintro v h' ⟨rfl, s2⟩
    exact ⟨_, ⟨_, _, M.V⟩, _, _, false, rfl, touch_fit f hb hn hT _ _ (by omega) (by omega), nx0, nx1, s2, (touch_eq _ _ _ _ _ _ _ _ _ (by decide)).trans (ite_ff _ _ _)⟩
  | 17, _, _, _ =>
    obtain ⟨b, ty3, rfl, s1⟩ := recB_iff.1 hs
    refine ⟨by kernel_rfl, ?_⟩
    refine (trapsC_S f ((s1.front 4).back 2)).mono ?_
    rintro v h' ⟨rfl, s2⟩
    exact ⟨_, M, _, _, false, rfl, f, nx0, nx1, s2.swap.back 3, rfl⟩
  | 19, _, _, _ =>
    obtain ⟨rfl, s1⟩ := Sat.pure.1 hs
    refine ⟨by kernel_rfl, ?_⟩
    refine (mrs_S f hA (s1.front 3).swap).mono ?_
    intro v h'
    by_cases q : 6 < I
    · rw [if_pos q]
      rintro ⟨rfl, s2⟩
      refine ⟨_, M, _, _, false, rfl, f, nx0, nx1, s2.swap.back 3, ?_⟩
      have q1 : (6 : Int) < I := by omega
      simp [doP, q1]
    · rw [if_neg q]
      rintro ⟨rfl, s2⟩
      refine ⟨okT, M, _, _, false, rfl, setR_fit f (sy_bd f (by omega) (by omega)), nx0, nx1, s2.swap.back 3, ?_⟩
      have q1 : ¬ (6 : Int) < I := by omega
      simp [doP, q1, go, okT]
  | 20, _, _, _ =>
    obtain ⟨rfl, s1⟩ := Sat.pure.1 hs
    refine ⟨by kernel_rfl, ?_⟩
    obtain ⟨m, hV⟩ := hg (by decide)
    rw [hV] at s1
    refine (msr_S f hB (((s1.front 4).front 4).front 2)).mono ?_
    intro v h'
    by_cases q : 6 ≤ I
    · rw [if_pos q]
      rintro ⟨rfl, s2⟩
      refine ⟨_, M, _, _, false, rfl, f, nx0, nx1, ?_, ?_⟩
      · rw [hV]; exact ((s2.front 4).front 4).front 2
      have q1 : (6 : Int) ≤ I := by omega
      simp [doP, q1]
    · rw [if_neg q]
      rintro ⟨rfl, s2⟩
      refine ⟨okT, { M with V := some (if (I : Int) = 2 then { m with mask := min (rg c B) 256 } else m) }, setS c I (rg c B), _, false, rfl, setS_fit f (a := I) y0, nx0, nx1, ?_, ?_⟩
      · exact ((s2.front 4).front 4).front 2
      have q1 : ¬ (6 : Int) ≤ I := by omega
      by_cases q2 : (I : Int) = 2
      · simp [doP, q1, go, okT, q2, hV]
      · simp [doP, q1, go, okT, q2, hV]
  | 11, _, _, _ =>
    obtain ⟨b, ty3, rfl, s1⟩ := recB_iff.1 hs
    refine ⟨by kernel_rfl, ?_⟩
    refine (bran_S f hA hB hC eq_is ((s1.front 4).back 2)).mono ?_
    rintro v h' ⟨rfl, s2⟩
    refine ⟨okT, M, c, _, false, rfl, f, ?_, ?_, s2.swap.back 3, ?_⟩
    · split <;> omega
    · split <;> omega
    · by_cases q : rg c A = rg c B <;> simp [doP, go, okT, q, hI2]
  | 12, _, _, _ =>
    obtain ⟨b, ty3, rfl, s1⟩ := recB_iff.1 hs
    refine ⟨by kernel_rfl, ?_⟩
    refine (bran_S f hA hB hC ne_is ((s1.front 4).back 2)).mono ?_
    rintro v h' ⟨rfl, s2⟩
    refine ⟨okT, M, c, _, false, rfl, f, ?_, ?_, s2.swap.back 3, ?_⟩
    · split <;> omega
    · split <;> omega
    · by_cases q : rg c A = rg c B <;> simp [doP, go, okT, q, hI2]
  | 13, _, _, _ =>
    obtain ⟨b, ty3, rfl, s1⟩ := recB_iff.1 hs
    refine ⟨by kernel_rfl, ?_⟩
    refine (bran_S f hA hB hC lt_is ((s1.front 4).back 2)).mono ?_
    rintro v h' ⟨rfl, s2⟩
    refine ⟨okT, M, c, _, false, rfl, f, ?_, ?_, s2.swap.back 3, ?_⟩
    · split <;> omega
    · split <;> omega
    · by_cases q : rg c A < rg c B <;> simp [doP, go, okT, q, hI2]
  | 14, _, _, _ =>
    obtain ⟨b, ty3, rfl, s1⟩ := recB_iff.1 hs
    refine ⟨by kernel_rfl, ?_⟩
    refine (bran_S f hA hB hC yes_is ((s1.front 4).back 2)).mono ?_
    rintro v h' ⟨rfl, s2⟩
    refine ⟨okT, M, c, _, false, rfl, f, ?_, ?_, s2.swap.back 3, ?_⟩
    · split <;> omega
    · split <;> omega
    · simp [doP, go, okT, hI2]
  | 15, _, _, _ =>
    obtain ⟨rfl, s1⟩ := Sat.pure.1 hs
    refine ⟨by kernel_rfl, ?_⟩
    refine (jal_S f hA (s1.front 3).swap nx0 nx1).mono ?_
    rintro v h' ⟨rfl, s2⟩
    refine ⟨okT, M, _, _, false, rfl, setR_fit f ⟨nx0, by omega⟩, ?_, ?_, s2.swap.back 3, ?_⟩
    · omega
    · omega
    · simp [doP, go, okT, hI2]
  | 16, _, _, _ =>
    obtain ⟨rfl, s1⟩ := Sat.pure.1 hs
    refine ⟨by kernel_rfl, ?_⟩
    refine (jr_S f hB (s1.front 3).swap).mono ?_
    rintro v h' ⟨rfl, s2⟩
    refine ⟨okT, M, _, _, false, rfl, f, ?_, ?_, s2.swap.back 3, ?_⟩
    · omega
    · omega
    · simp [doP, go, okT]
  | 18, _, _, _ =>
    obtain ⟨b, ty3, rfl, s1⟩ := recB_iff.1 hs
    refine ⟨by kernel_rfl, ?_⟩
    refine (trapsC_S f ((s1.front 4).back 2)).mono ?_
    rintro v h' ⟨rfl, s2⟩
    exact ⟨_, M, _, _, false, rfl, f, nx0, nx1, s2.swap.back 3, rfl⟩
  | 21, _, _, _ =>
    obtain ⟨rfl, s1⟩ := Sat.pure.1 hs
    refine ⟨by kernel_rfl, ?_⟩
    refine (wfi_S f (((s1.front 4).front 4).front 2)).mono ?_
    rintro v h' ⟨rfl, s2⟩
    refine ⟨_, M, c, _, false, rfl, f, nx0, nx1, ((s2.front 4).front 4).front 2, ?_⟩
    by_cases q : (M.V.bind nextV).isSome = true
    · simp [doP, go, okT, wfiT, q]
    · simp [doP, go, okT, wfiT, q]
  | 22, _, _, _ =>
    obtain ⟨rfl, s1⟩ := Sat.pure.1 hs
    refine ⟨by kernel_rfl, ?_⟩
    obtain ⟨m, hV⟩ := hg (by decide)
    rw [hV] at s1
    have s0 := ((s1.front 4).front 4).front 2
    have ok := vg_ok (s0.front 2)
    refine (iar_S f hA s0).mono ?_
    rintro v h' ⟨rfl, s2⟩
    refine ⟨okT, { M with V := some (ackV m).1 }, setR c A (ackV m).2, _, false, rfl, setR_fit f (ackV_bd ok), nx0, nx1, ?_, ?_⟩
    · exact ((s2.front 4).front 4).front 2
    · simp [doP, go, okT, hV]
  | 23, _, _, _ =>
    obtain ⟨rfl, s1⟩ := Sat.pure.1 hs
    refine ⟨by kernel_rfl, ?_⟩
    obtain ⟨m, hV⟩ := hg (by decide)
    rw [hV] at s1
    refine (eoi_S f hB (((s1.front 4).front 4).front 2)).mono ?_
    rintro v h' ⟨rfl, s2⟩
    refine ⟨_, { M with V := some (endV m (min (rg c B) 64)).1 }, c, _, (endV m (min (rg c B) 64)).2, rfl, f, nx0, nx1, ?_, ?_⟩
    · exact ((s2.front 4).front 4).front 2
    · cases q : (endV m (min (rg c B) 64)).2 <;> simp [doP, okT, eoiT, hV, q]
  | 24, _, _, _ =>
    obtain ⟨rfl, s1⟩ := Sat.pure.1 hs
    refine ⟨by kernel_rfl, ?_⟩
    refine (tlbi_S ((s1.front 2).swap)).mono ?_
    rintro v h' ⟨rfl, s2⟩
    exact ⟨okT, { M with T := flushT M.T fun l => decide (l.Vmid = s.Vmid) && decide (l.Asid = s.Asid) }, c, _, false, rfl, f, nx0, nx1, (s2.front 2).swap, rfl⟩
  | 25, _, _, _ =>
    obtain ⟨rfl, s1⟩ := Sat.pure.1 hs
    refine ⟨by kernel_rfl, ?_⟩
    refine (nop_S s1).mono ?_
    rintro v h' ⟨rfl, s2⟩
    exact ⟨okT, M, c, _, false, rfl, f, nx0, nx1, s2, rfl⟩
  | 0, q, _, _ => exact absurd q (by decide)
  | op + 26, _, q, _ => exact absurd q (by omega)
end
end Go.Eng
/-
  A step, by what is fetched: plain.
-/
namespace Go.Eng
open Go Go.Proofs
theorem stepP_eq (n : Nat) (M : Mch) (c : Cp) (vm se at_ : Int) : stepP n M c vm se at_ =
    if (fetchP n M.mem M.T (spaceP M.V.isSome c vm se) c.Pc at_).t.C ≠ 0 then ⟨{ M with T := (fetchP n M.mem M.T (spaceP M.V.isSome c vm se) c.Pc at_).T }, c, (fetchP n M.mem M.T (spaceP M.V.isSome c vm se) c.Pc at_).t⟩
    else if guestO (decI (fetchP n M.mem M.T (spaceP M.V.isSome c vm se) c.Pc at_).w.toNat).Op = true ∧ M.V = none then ⟨{ M with T := (fetchP n M.mem M.T (spaceP M.V.isSome c vm se) c.Pc at_).T }, c, ⟨8, (fetchP n M.mem M.T (spaceP M.V.isSome c vm se) c.Pc at_).w, c.Pc, okF⟩⟩
    else doP n { M with T := (fetchP n M.mem M.T (spaceP M.V.isSome c vm se) c.Pc at_).T } c (decI (fetchP n M.mem M.T (spaceP M.V.isSome c vm se) c.Pc at_).w.toNat) (spaceP M.V.isSome c vm se) at_ := by
  unfold stepP
  generalize spaceP M.V.isSome c vm se = s
  unfold fetchP stepF
  by_cases q : c.Pc % 4 ≠ 0 ∨ c.Pc < 0 ∨ 65536 ≤ c.Pc
  · simp only [if_pos q]; rfl
  simp only [if_neg q]
  by_cases k : (reachC n M.mem M.T s c.Pc 4 at_).f.K ≠ 0
  · simp only [if_pos k]; rfl
  simp only [if_neg k]
  generalize loadM M.mem (reachC n M.mem M.T s c.Pc 4 at_).at_.toNat 4 = w
  cases r : rightI (decI w.toNat) with
  | false => simp [okT]
  | true => simp [okT]
end Go.Eng
