/-
  THE ENGINE: what was made beside what was there.
-/
import Derived.Test.YtaijcllgdlalpaaGreatDoorZj3
import Derived.Test.YtaijcllgdlalpaaGreatDoorZj9
set_option linter.unusedSimpArgs false
set_option linter.unusedVariables false
set_option maxRecDepth 16000
set_option maxHeartbeats 4000000
namespace Go.Eng
open Go
/-- What was made beside what was there. -/
theorem Sat.over {h h' : Heap} {A : SP} {F : List SP} (hF : Sat h F) (hs : Sat h' [A, oldS h]) : Sat h' (A :: F) := by
  have he : Ext h h' := (hs.front 1).ext
  obtain ⟨a, b, h1, h2, h3, h4, c, d, k1, k2, k3, k4, -⟩ := hs
  refine ⟨a, hp h, fun i => ?_, h2, fun i o q => he.some q, h4, hF⟩
  by_cases hi : i < h.size
  · left
    have e : c i = h[i]? := k4 i hi
    rw [Array.getElem?_eq_getElem hi] at e
    rcases h1 i with q | q
    · exact q
    · rw [k2 i _ e] at q; cases q
  · right
    simp only [hp]
    exact Array.getElem?_eq_none (by omega)
end Go.Eng
/-
  THE ENGINE: arrays by index as values; a row stored at a place within a row.
-/
namespace Go.Eng
open Go
section
variable {P : Program} {h : Heap} {t e : TypeId}
theorem runD_index_agg {arr : Array Value} {k : IntKind} {n s i : Nat} (ht : P.underlying t = some (.array n e)) (ha : aggB P e = some true) (hs : tsz P e = some s) (hi : i < n) :
    runD P (iIndex t (.agg arr) (.int k i)) h = some (.agg (arr.extract (i * s) (i * s + s))) := by
  unfold iIndex Instr.index
  simp only [asIntOf, pure_bind]
  rw [runD_bind, runD_underlying ht]
  have h0 : (0 : Int) ≤ i := by omega
  have h1 : (i : Int) < n := by omega
  simp only [Option.bind_some, h0, h1, and_self, if_true]
  rw [runD_bind, runD_sizeOf hs, Option.bind_some, Int.toNat_natCast, runD_part_agg ha (by simp [hs])]
  simp [tszD, hs]
theorem runH_store_row {b o : Nat} {cs : List Value} {c : Array Value} {ty : TypeId} {K : Unit → Heap → Prop} (hs : tszD P t = cs.length) (ht : (tsz P t).isSome = true) (hb : h[b]? = some (.cells c ty (0, 0)))
    (hv : ∀ v ∈ cs, single v = true) (ho : o + cs.length ≤ c.size)
    (hK : ∀ c' : Array Value, c'.size = c.size → (∀ j, c'[j]? = if o ≤ j ∧ j < o + cs.length then cs[j - o]? else c[j]?) → K () (h.setIfInBounds b (.cells c' ty (0, 0)))) :
    runH P (iStoreAt t (.pointer (some ⟨b, o, none⟩)) (.agg cs.toArray)) h K := by
  obtain ⟨n, hn⟩ := Option.isSome_iff_exists.1 ht
  have e0 : tszD P t = n := by simp [tszD, hn]
  show runH P (storeVar t _ _) h K
  rw [runH_storeVar (n := n) hn (by simp only [Value.cells, List.size_toArray]; omega)]
  refine storeCells_arr cs 0 h c hb hv (by omega) fun c' hc' hg => hK c' hc' fun j => ?_
  rw [hg j]
  simp only [Nat.add_zero]
end
/-- One of a list's elements, laid anew, cell by cell. -/
theorem flat_set {α : Type} {enc : α → List Value} {sz : Nat} (he : ∀ x, (enc x).length = sz) (hz : 0 < sz) {L : List α} {tl : List Value} {i : Nat} {x : α} (hi : i < L.length) {c' : Array Value}
    (hg : ∀ j, c'[j]? = if i * sz ≤ j ∧ j < i * sz + sz then (enc x)[j - i * sz]? else (L.flatMap enc ++ tl)[j]?) : c' = ((L.set i x).flatMap enc ++ tl).toArray := by
  apply Array.ext_getElem?
  intro j
  rw [hg j, List.getElem?_toArray]
  have l1 := flat_len he L
  have l2 := flat_len he (L.set i x)
  rw [List.length_set] at l2
  have hle : i * sz + sz ≤ L.length * sz := by
    have := Nat.mul_le_mul_right sz (show i + 1 ≤ L.length from hi)
    rwa [Nat.succ_mul] at this
  by_cases hj : j < L.length * sz
  · rw [List.getElem?_append_left (by omega), List.getElem?_append_left (by omega)]
    have ej : j / sz * sz + j % sz = j := by rw [Nat.mul_comm]; exact Nat.div_add_mod j sz
    have hm := Nat.mod_lt j hz
    rw [← ej, flat_get he _ _ _ hm, flat_get he _ _ _ hm, List.getElem?_set]
    by_cases q : i = j / sz
    · rw [← q, if_pos (by omega), if_pos rfl, if_pos hi, show i * sz + j % sz - i * sz = j % sz by omega]
      rfl
    · rw [if_neg q, if_neg]
      rintro ⟨a, b⟩
      apply q
      have a1 : i ≤ j / sz := by
        rw [Nat.le_div_iff_mul_le hz]; omega
      have a2 : j / sz < i + 1 := by
        rw [Nat.div_lt_iff_lt_mul hz, Nat.succ_mul]; omega
      omega
  · rw [if_neg (by omega), List.getElem?_append_right (by omega), List.getElem?_append_right (by omega), l1, l2]
theorem flat_extract {α : Type} {enc : α → List Value} {sz : Nat} (he : ∀ x, (enc x).length = sz) {L : List α} {i : Nat} (hi : i < L.length) : (L.flatMap enc).toArray.extract (i * sz) (i * sz + sz) = (enc L[i]).toArray := by
  apply Array.ext_getElem?
  intro j
  rw [Array.getElem?_extract, List.getElem?_toArray]
  have hle : i * sz + sz ≤ L.length * sz := by
    have := Nat.mul_le_mul_right sz (show i + 1 ≤ L.length from hi)
    rwa [Nat.succ_mul] at this
  by_cases hj : j < sz
  · rw [List.size_toArray, flat_len he, if_pos (by omega), List.getElem?_toArray, flat_get he _ _ _ hj, List.getElem?_eq_getElem hi]
    rfl
  · rw [List.size_toArray, flat_len he, if_neg (by omega), List.getElem?_toArray, List.getElem?_eq_none (by rw [he]; omega)]
end Go.Eng
/-
  package walk: step, Single, second.
-/
namespace Go.Eng
open Go Go.Proofs
section
variable {h : Heap} {F : List SP} {rb n : Nat} {mem : Nat → Int}
theorem isPage_S (p : Int) : HCalls Tryz.prog 46 #[.int .i64 p] h fun v h' => v = .bool (decide (¬ (p < 0 ∨ 1024 ≤ p))) ∧ h' = h := by
  refine HCalls.via fun R hR => ?_
  refine HCalls.of_dev T46 Tryz.func46 rfl mixed (by kernel_rfl) ?_; rw [Tryz.results46]
  by_cases c : 0 ≤ p
  · simp (maxSteps := 2000000) (disch := first | (simp only [go_sem, simprocAttr, c] <;> omega) | omega) only [go_sem, simprocAttr, c]
    exact hR _ _ ⟨by congr 1; rw [decide_eq_decide]; omega, rfl⟩
  · simp (maxSteps := 2000000) (disch := first | (simp only [go_sem, simprocAttr, c] <;> omega) | omega) only [go_sem, simprocAttr, c]
    exact hR _ _ ⟨by congr 1; symm; rw [decide_eq_false_iff_not]; omega, rfl⟩
theorem isRight_S (p : Int) (hp : p = 1 ∨ p = 2 ∨ p = 4) : HCalls Tryz.prog 142 #[.int .i64 p] h fun v h' => v = .bool true ∧ h' = h := by
  refine HCalls.via fun R hR => ?_
  refine HCalls.of_dev T142 Tryz.func142 rfl mixed (by kernel_rfl) ?_; rw [Tryz.results142]
  rcases hp with rfl | rfl | rfl
  all_goals simp (maxSteps := 2000000) (disch := first | (simp only [go_sem, simprocAttr] <;> omega) | omega) only [go_sem, simprocAttr]
  all_goals exact hR _ _ ⟨rfl, rfl⟩
theorem cond3 {ge : Int} {gV gL d : Bool} : (decide ¬ge = 0 || !gV || !gL == d) = true ↔ ¬ (ge = 0 ∧ gV = true ∧ gL = d) := by cases gV <;> cases gL <;> cases d <;> simp
theorem cond3f {ge : Int} {gV gL d : Bool} (q : (decide ¬ge = 0 || !gV || !gL == d) = false) : ge = 0 ∧ gV = true ∧ gL = d :=
  Classical.byContradiction fun c => by rw [cond3.2 c] at q; cases q
theorem step_S (hs : Sat h (ramS rb n mem :: F)) (t p l : Int) : HCalls Tryz.prog 47 #[.agg #[.pointer (some ⟨rb, 0, none⟩)], .int .i64 t, .int .i64 p, .int .i64 l] h fun v h' => v = .tuple #[.agg (stepE n mem t p l).1.cells.toArray, .int .i64 (stepE n mem t p l).2] ∧ Ext h h' := by
  refine HCalls.via fun R hR => ?_
  have s1 := ((hs.push (.cells #[.pointer (some ⟨rb, 0, none⟩)] 131 (0, 0))).push (.cells zeroE.cells.toArray 51 (0, 0))).front 2
  have e1 := ((Sat.init h).push (.cells #[.pointer (some ⟨rb, 0, none⟩)] 131 (0, 0))).push (.cells zeroE.cells.toArray 51 (0, 0))
  simp only [Ent.cells_eq, zeroE, size_push'] at s1 e1
  refine HCalls.of_dev T47 Tryz.func47 rfl mixed (by kernel_rfl) ?_; rw [Tryz.results47]
  by_cases c1 : t < 0
  · have he : stepE n mem t p l = (zeroE, 3) := by unfold stepE; rw [if_pos (.inl c1)]
    rw [he] at hR
    simp (maxSteps := 2000000) (disch := first | (simp only [go_sem, simprocAttr, c1] <;> omega) | omega) only [go_sem, simprocAttr, c1]
    exact rdK_any fun _ => hR _ _ ⟨rfl, (e1.front 2).ext⟩
  simp (maxSteps := 2000000) (disch := first | (simp only [go_sem, simprocAttr, c1] <;> omega) | omega) only [go_sem, simprocAttr, c1]
  refine (frames_S s1).mono ?_
  rintro v h' ⟨rfl, rfl⟩
  by_cases c2 : (n : Int) ≤ t
  · have he : stepE n mem t p l = (zeroE, 3) := by unfold stepE; rw [if_pos (.inr c2)]
    rw [he] at hR
    simp (maxSteps := 2000000) (disch := first | (simp only [go_sem, simprocAttr, c2] <;> omega) | omega) only [go_sem, simprocAttr, c2]
    exact hR _ _ ⟨rfl, (e1.front 2).ext⟩
  simp (maxSteps := 2000000) (disch := first | (simp only [go_sem, simprocAttr, c2] <;> omega) | omega) only [go_sem, simprocAttr, c2]
  have hst : ∀ g, g = getE n mem t (idxE p l) → (g.2 = 0 → g.1.V = true → g.1.L = decide (l = 1) → stepE n mem t p l = (g.1, 0)) ∧ (¬ (g.2 = 0 ∧ g.1.V = true ∧ g.1.L = decide (l = 1)) → stepE n mem t p l = (zeroE, 1)) := by
    rintro g rfl
    unfold stepE
    rw [if_neg (by omega)]
    exact ⟨fun a b c => if_pos ⟨a, b, c⟩, fun a => if_neg a⟩
  have gS := fun (A : List SP) (h : Heap) (q : Sat h (ramS rb n mem :: A)) => pteGet_S q t (idxE p l)
  have hst2 := hst _ rfl
  clear hst
  generalize getE n mem t (idxE p l) = g at *
  obtain ⟨⟨gV, gL, gR, gF⟩, ge⟩ := g
  simp only at hst2
  generalize stepE n mem t p l = st at *
  have s1b := (s1.push (.cells zeroE.cells.toArray 51 (0, 0))).swap
  have e1b := e1.push (.cells zeroE.cells.toArray 51 (0, 0))
  simp only [Ent.cells_eq, zeroE, size_push'] at s1b e1b
  refine ⟨?_, ?_⟩
  · refine (pteIndex_S p l).mono ?_
    rintro v h' ⟨rfl, rfl⟩
    simp (maxSteps := 2000000) (disch := first | (simp only [go_sem, simprocAttr] <;> omega) | omega) only [go_sem, simprocAttr]
    refine ⟨?_, ?_⟩
    · refine (gS _ _ s1).mono ?_
      rintro v h2 ⟨rfl, x2⟩
      have s5 := (e1.grow x2).push (.cells #[.bool gV, .bool gL, .int .i64 gR, .int .i64 gF] 51 (0, 0))
      simp (maxSteps := 2000000) (disch := first | (simp only [go_sem, simprocAttr] <;> omega) | omega) only [go_sem, simprocAttr]
      refine ⟨fun q => ?_, fun q => ?_⟩
      · have he := hst2.2 (cond3.1 q)
        have s6 := s5.swap.set (.cells zeroE.cells.toArray 51 (0, 0))
        simp only [Ent.cells_eq, zeroE] at s6
        rw [he] at hR
        simp (maxSteps := 2000000) (disch := first | (simp only [go_sem, simprocAttr, s5.swap.get, s6.get] <;> omega) | omega) only [go_sem, simprocAttr, s5.swap.get, s6.get]
        exact hR _ _ ⟨rfl, (s6.front 3).ext⟩
      · obtain ⟨q1, q2, q3⟩ := cond3f q
        have he := hst2.1 q1 q2 q3
        have s6 := s5.swap.set (.cells #[.bool gV, .bool gL, .int .i64 gR, .int .i64 gF] 51 (0, 0))
        rw [he] at hR
        simp (maxSteps := 2000000) (disch := first | (simp only [go_sem, simprocAttr, s5.swap.get, s6.get] <;> omega) | omega) only [go_sem, simprocAttr, s5.swap.get, s6.get]
        exact hR _ _ ⟨rfl, (s6.front 3).ext⟩
    · refine (gS _ _ s1b).mono ?_
      rintro v h2 ⟨rfl, x2⟩
      have s4 := e1b.grow x2
      have s5 := s4.set (.cells #[.bool gV, .bool gL, .int .i64 gR, .int .i64 gF] 51 (0, 0))
      simp (maxSteps := 2000000) (disch := first | (simp only [go_sem, simprocAttr, s4.get, s5.get] <;> omega) | omega) only [go_sem, simprocAttr, s4.get, s5.get]
      refine ⟨fun q => ?_, fun q => ?_⟩
      · have he := hst2.2 (cond3.1 q)
        have s6 := s5.swap.set (.cells zeroE.cells.toArray 51 (0, 0))
        simp only [Ent.cells_eq, zeroE] at s6
        rw [he] at hR
        simp (maxSteps := 2000000) (disch := first | (simp only [go_sem, simprocAttr, s5.swap.get, s6.get] <;> omega) | omega) only [go_sem, simprocAttr, s5.swap.get, s6.get]
        exact hR _ _ ⟨rfl, (s6.front 3).ext⟩
      · obtain ⟨q1, q2, q3⟩ := cond3f q
        have he := hst2.1 q1 q2 q3
        have s6 := s5.swap.set (.cells #[.bool gV, .bool gL, .int .i64 gR, .int .i64 gF] 51 (0, 0))
        rw [he] at hR
        simp (maxSteps := 2000000) (disch := first | (simp only [go_sem, simprocAttr, s5.swap.get, s6.get] <;> omega) | omega) only [go_sem, simprocAttr, s5.swap.get, s6.get]
        exact hR _ _ ⟨rfl, (s6.front 3).ext⟩
  · refine (pteIndex_S p l).mono ?_
    rintro v h' ⟨rfl, rfl⟩
    simp (maxSteps := 2000000) (disch := first | (simp only [go_sem, simprocAttr] <;> omega) | omega) only [go_sem, simprocAttr]
    refine (gS _ _ s1b).mono ?_
    rintro v h2 ⟨rfl, x2⟩
    have s4 := e1b.grow x2
    have s5 := s4.set (.cells #[.bool gV, .bool gL, .int .i64 gR, .int .i64 gF] 51 (0, 0))
    simp (maxSteps := 2000000) (disch := first | (simp only [go_sem, simprocAttr, s4.get, s5.get] <;> omega) | omega) only [go_sem, simprocAttr, s4.get, s5.get]
    refine ⟨fun q => ?_, fun q => ?_⟩
    · have he := hst2.2 (cond3.1 q)
      have s6 := s5.swap.set (.cells zeroE.cells.toArray 51 (0, 0))
      simp only [Ent.cells_eq, zeroE] at s6
      rw [he] at hR
      simp (maxSteps := 2000000) (disch := first | (simp only [go_sem, simprocAttr, s5.swap.get, s6.get] <;> omega) | omega) only [go_sem, simprocAttr, s5.swap.get, s6.get]
      exact hR _ _ ⟨rfl, (s6.front 3).ext⟩
    · obtain ⟨q1, q2, q3⟩ := cond3f q
      have he := hst2.1 q1 q2 q3
      have s6 := s5.swap.set (.cells #[.bool gV, .bool gL, .int .i64 gR, .int .i64 gF] 51 (0, 0))
      rw [he] at hR
      simp (maxSteps := 2000000) (disch := first | (simp only [go_sem, simprocAttr, s5.swap.get, s6.get] <;> omega) | omega) only [go_sem, simprocAttr, s5.swap.get, s6.get]
      exact hR _ _ ⟨rfl, (s6.front 3).ext⟩
end
end Go.Eng
/-
  package walk: Single, second.
-/
namespace Go.Eng
open Go Go.Proofs
section
variable {h : Heap} {F : List SP} {rb n : Nat} {mem : Nat → Int}
def Wlk.val (w : Wlk) : Value := .tuple #[.int .i64 w.Fr, .int .i64 w.Ri, .agg w.f.cells.toArray]
theorem single_S (hs : Sat h (ramS rb n mem :: F)) (root p : Int) : HCalls Tryz.prog 15 #[.pointer (some ⟨rb, 0, none⟩), .int .i64 root, .int .i64 p] h fun v h' => v = (sgW n mem root p).val ∧ Ext h h' := by
  refine HCalls.via fun R hR => ?_
  unfold sgW Wlk.val at hR
  have e0 := (Sat.init h).push (.cells okF.cells.toArray 47 (0, 0))
  simp only [Flt.cells_eq, okF] at e0
  refine HCalls.of_dev T15 Tryz.func15 rfl mixed (by kernel_rfl) ?_; rw [Tryz.results15]
  simp (maxSteps := 2000000) (disch := first | (simp only [go_sem, simprocAttr] <;> omega) | omega) only [go_sem, simprocAttr]
  refine (isPage_S p).mono ?_
  rintro v h' ⟨rfl, rfl⟩
  by_cases c : p < 0 ∨ 1024 ≤ p
  · have cd : decide (¬ (p < 0 ∨ 1024 ≤ p)) = false := decide_eq_false (not_not_intro c)
    rw [if_pos c] at hR
    have e1 := (Sat.init h).push (.cells (⟨3, 0, 0, false, 0⟩ : Flt).cells.toArray 47 (0, 0))
    simp only [Flt.cells_eq] at e1
    rw [cd]
    simp (maxSteps := 2000000) (disch := first | (simp only [go_sem, simprocAttr, e0.get, e1.get] <;> omega) | omega) only [go_sem, simprocAttr, e0.get, e1.get]
    exact hR _ _ ⟨rfl, (e1.front 1).ext⟩
  · have cd : decide (¬ (p < 0 ∨ 1024 ≤ p)) = true := decide_eq_true c
    rw [if_neg c] at hR
    rw [cd]
    have e1 := (e0.push (.cells #[.pointer (some ⟨rb, 0, none⟩)] 131 (0, 0))).push (.cells zeroE.cells.toArray 51 (0, 0))
    simp only [Ent.cells_eq, zeroE, size_push'] at e1
    simp (maxSteps := 2000000) (disch := first | (simp only [go_sem, simprocAttr] <;> omega) | omega) only [go_sem, simprocAttr]
    refine loopH.intro (fun k : Nat × Int => (.cons 2 (.int .i64 p) true (.cons 8 (.pointer (some ⟨h.size, 0, none⟩)) true (.cons 9 (.pointer (some ⟨h.size + 1, 0, none⟩)) true (.cons 10 (.int .i64 k.2) true (.cons 11 (.pointer (some ⟨h.size + 1 + 1, 0, none⟩)) true (.cons 12 (.int .i64 k.1) true .nil)))))))
      (fun k h' => (k = (0, root) ∨ (k = (1, (stepE n mem root p 0).1.F) ∧ (stepE n mem root p 0).2 = 0)) ∧ ∃ x : Ent, Sat h' [cellAt (h.size + 1 + 1) (.cells x.cells.toArray 51 (0, 0)), cellAt (h.size + 1) (.cells #[.pointer (some ⟨rb, 0, none⟩)] 131 (0, 0)), cellAt h.size (.cells okF.cells.toArray 47 (0, 0)), oldS h]) (fun k _ => 2 - k.1) (0, root) ?_ ⟨.inl rfl, zeroE, e1⟩ ?_
    · simp (maxSteps := 2000000) (disch := first | (simp only [go_sem, simprocAttr] <;> omega) | omega) only [go_sem, simprocAttr]; try rfl
    rintro k h' ⟨hk, x, e2⟩
    have n0 : ((0 : Nat) : Int) = 0 := rfl
    have n1 : ((1 : Nat) : Int) = 1 := rfl
    rcases hk with rfl | ⟨rfl, hk⟩
    · simp only
      simp (maxSteps := 2000000) (disch := first | (simp only [go_sem, simprocAttr, n0, (e2.front 1).get] <;> omega) | omega) only [go_sem, simprocAttr, n0, (e2.front 1).get]
      refine (step_S (hs.grow (e2.front 3).ext) root p 0).mono ?_
      rintro v h2 ⟨rfl, x2⟩
      have e3 := (e2.grow x2).set (.cells (stepE n mem root p 0).1.cells.toArray 51 (0, 0))
      have e4 := e2.grow x2
      simp only [Ent.cells_eq] at e3 e4
      by_cases q : (stepE n mem root p 0).2 = 0
      · simp (maxSteps := 2000000) (disch := first | (simp only [go_sem, simprocAttr, e4.get, e3.get, q] <;> omega) | omega) only [go_sem, simprocAttr, e4.get, e3.get, q]
        exact ⟨(1, (stepE n mem root p 0).1.F), rfl, ⟨Or.inr rfl, _, e3⟩, by simp only; omega⟩
      · have e5 := (e3.front 2).set (.cells (⟨(stepE n mem root p 0).2, 2, 0, false, p⟩ : Flt).cells.toArray 47 (0, 0))
        simp only [Flt.cells_eq, Ent.cells_eq] at e5
        rw [if_pos q] at hR
        simp (maxSteps := 2000000) (disch := first | (simp only [go_sem, simprocAttr, e4.get, e3.get, q, (e3.front 2).get, e5.get] <;> omega) | omega) only [go_sem, simprocAttr, e4.get, e3.get, q, (e3.front 2).get, e5.get]
        exact hR _ _ ⟨rfl, (e5.front 3).ext⟩
    · simp only
      rw [if_neg (by omega)] at hR
      generalize (stepE n mem root p 0).1.F = t1 at *
      simp (maxSteps := 2000000) (disch := first | (simp only [go_sem, simprocAttr, n1, (e2.front 1).get] <;> omega) | omega) only [go_sem, simprocAttr, n1, (e2.front 1).get]
      refine (step_S (hs.grow (e2.front 3).ext) t1 p 1).mono ?_
      rintro v h2 ⟨rfl, x2⟩
      have e3 := (e2.grow x2).set (.cells (stepE n mem t1 p 1).1.cells.toArray 51 (0, 0))
      have e4 := e2.grow x2
      simp only [Ent.cells_eq] at e3 e4
      by_cases q : (stepE n mem t1 p 1).2 = 0
      · have e5 := (e3.front 2).set (.cells okF.cells.toArray 47 (0, 0))
        simp only [Flt.cells_eq, Ent.cells_eq, okF] at e5
        rw [if_neg (by omega)] at hR
        simp (maxSteps := 2000000) (disch := first | (simp only [go_sem, simprocAttr, e4.get, e3.get, q, (e3.front 2).get, e5.get] <;> omega) | omega) only [go_sem, simprocAttr, e4.get, e3.get, q, (e3.front 2).get, e5.get]
        exact hR _ _ ⟨rfl, (e5.front 3).ext⟩
      · have e5 := (e3.front 2).set (.cells (⟨(stepE n mem t1 p 1).2, 2, 1, false, p⟩ : Flt).cells.toArray 47 (0, 0))
        simp only [Flt.cells_eq, Ent.cells_eq] at e5
        rw [if_pos q] at hR
        simp (maxSteps := 2000000) (disch := first | (simp only [go_sem, simprocAttr, e4.get, e3.get, q, (e3.front 2).get, e5.get] <;> omega) | omega) only [go_sem, simprocAttr, e4.get, e3.get, q, (e3.front 2).get, e5.get]
        exact hR _ _ ⟨rfl, (e5.front 3).ext⟩
theorem second_S (hs : Sat h (ramS rb n mem :: F)) (root p w : Int) (hw : w = 1 ∨ w = 2 ∨ w = 4) : HCalls Tryz.prog 155 #[.pointer (some ⟨rb, 0, none⟩), .int .i64 root, .int .i64 p, .int .i64 w] h fun v h' => v = (seW n mem root p w).val ∧ Ext h h' := by
  refine HCalls.via fun R hR => ?_
  unfold seW Wlk.val at hR
  have e0 := (Sat.init h).push (.cells okF.cells.toArray 47 (0, 0))
  simp only [Flt.cells_eq, okF] at e0
  refine HCalls.of_dev T155 Tryz.func155 rfl mixed (by kernel_rfl) ?_; rw [Tryz.results155]
  simp (maxSteps := 2000000) (disch := first | (simp only [go_sem, simprocAttr] <;> omega) | omega) only [go_sem, simprocAttr]
  refine (single_S (hs.grow (e0.front 1).ext) root p).mono ?_
  rintro v h2 ⟨rfl, x2⟩
  have e1 := e0.grow x2
  generalize sgW n mem root p = s at *
  obtain ⟨fr, ri, f⟩ := s
  have e2 := e1.set (.cells f.cells.toArray 47 (0, 0))
  simp only [Flt.cells_eq] at e2
  simp only [Wlk.val] at hR ⊢
  by_cases q : f.K = 0
  · rw [if_neg (by omega)] at hR
    rw [q] at e2
    have e3 := e2.set (.cells (⟨2, 2, 1, false, p⟩ : Flt).cells.toArray 47 (0, 0))
    have e4 := e2.set (.cells okF.cells.toArray 47 (0, 0))
    simp only [Flt.cells_eq, okF] at e3 e4
    simp (maxSteps := 2000000) (disch := first | (simp only [go_sem, simprocAttr, e1.get, e2.get, q, e3.get, e4.get] <;> omega) | omega) only [go_sem, simprocAttr, e1.get, e2.get, q, e3.get, e4.get]
    refine ⟨fun q2 => ?_, fun q2 => ?_⟩
    · rw [if_pos (show andI ri w = 0 from q2)] at hR
      exact hR _ _ ⟨rfl, (e3.front 1).ext⟩
    · rw [if_neg (show ¬ andI ri w = 0 from q2)] at hR
      exact hR _ _ ⟨rfl, (e4.front 1).ext⟩
  · rw [if_pos q] at hR
    have e3 := e2.set (.cells f.cells.toArray 47 (0, 0))
    simp only [Flt.cells_eq] at e3
    simp (maxSteps := 2000000) (disch := first | (simp only [go_sem, simprocAttr, e1.get, e2.get, q, e3.get] <;> omega) | omega) only [go_sem, simprocAttr, e1.get, e2.get, q, e3.get]
    exact hR _ _ ⟨rfl, (e3.front 1).ext⟩
end
end Go.Eng
