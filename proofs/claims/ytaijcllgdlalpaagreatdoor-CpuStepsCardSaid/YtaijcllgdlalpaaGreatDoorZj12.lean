/-
  package tlb: New, within, Right, Find.
-/
import Derived.Test.YtaijcllgdlalpaaGreatDoorZj8
import Derived.Test.YtaijcllgdlalpaaGreatDoorZj11
set_option linter.unusedSimpArgs false
set_option linter.unusedVariables false
set_option maxRecDepth 16000
set_option maxHeartbeats 4000000
namespace Go.Eng
open Go Go.Proofs
theorem Ln.cells_len (l : Ln) : l.cells.length = 5 := rfl
theorem Ln.cells_single (l : Ln) : ∀ x ∈ l.cells, single x = true := by simp [Ln.cells, single]
def linesL (T : List Ln) : List Value := T.flatMap Ln.cells
theorem linesL_len (T : List Ln) : (linesL T).length = T.length * 5 := flat_len Ln.cells_len T
def okL (l : Ln) : Prop := l = zeroL ∨ rightL l = true
/-- The buffer. -/
def tlbS (tb : Nat) (T : List Ln) : SP := exS fun x : Int × Int × TypeId => starL [pureS (T.length = 8 ∧ ∀ l ∈ T, okL l), cellAt tb (.cells (linesL T ++ [Value.int .i64 x.1, Value.int .i64 x.2.1]).toArray x.2.2 (0, 0))]
theorem tlbS_iff {h : Heap} {F : List SP} {tb : Nat} {T : List Ln} : Sat h (tlbS tb T :: F) ↔ (T.length = 8 ∧ ∀ l ∈ T, okL l) ∧ ∃ f m ty, Sat h (cellAt tb (.cells (linesL T ++ [Value.int .i64 f, Value.int .i64 m]).toArray ty (0, 0)) :: F) := by
  unfold tlbS
  rw [Sat.ex]
  constructor
  · rintro ⟨x, hx⟩
    have := Sat.star.1 hx
    obtain ⟨p, q⟩ := Sat.pure.1 this
    exact ⟨p, x.1, x.2.1, x.2.2, q⟩
  · rintro ⟨p, f, m, ty, hx⟩
    exact ⟨(f, m, ty), Sat.star.2 (Sat.pure.2 ⟨p, hx⟩)⟩
def noT : List Ln := List.replicate 8 zeroL
section
variable {h : Heap} {F : List SP} {tb : Nat} {T : List Ln}
theorem tlbNew_S (hs : Sat h F) : HCalls Tryz.prog 29 #[] h fun v h' => ∃ tb, v = .pointer (some ⟨tb, 0, none⟩) ∧ Sat h' (tlbS tb noT :: F) := by
  refine HCalls.via fun R hR => ?_
  refine HCalls.of_dev T29 Tryz.func29 rfl mixed (by kernel_rfl) ?_; rw [Tryz.results29]
  simp (maxSteps := 2000000) (disch := first | (simp only [go_sem, simprocAttr] <;> omega) | omega) only [go_sem, simprocAttr]
  have s1 := hs.push (.cells (linesL noT ++ [Value.int .i64 0, Value.int .i64 0]).toArray 156 (0, 0))
  exact hR _ _ ⟨_, rfl, tlbS_iff.2 ⟨⟨rfl, fun l hl => .inl (List.eq_of_mem_replicate hl)⟩, 0, 0, _, s1⟩⟩
theorem tlbWithin_S (n a b : Int) : HCalls Tryz.prog 58 #[.int .i64 n, .int .i64 a, .int .i64 b] h fun v h' => v = .bool (inR n a b) ∧ h' = h := by
  refine HCalls.via fun R hR => ?_
  refine HCalls.of_dev T58 Tryz.func58 rfl mixed (by kernel_rfl) ?_; rw [Tryz.results58]
  by_cases c : a ≤ n
  · simp (maxSteps := 2000000) (disch := first | (simp only [go_sem, simprocAttr, c] <;> omega) | omega) only [go_sem, simprocAttr, c]
    exact hR _ _ ⟨by simp [inR, c], rfl⟩
  · simp (maxSteps := 2000000) (disch := first | (simp only [go_sem, simprocAttr, c] <;> omega) | omega) only [go_sem, simprocAttr, c]
    exact hR _ _ ⟨by simp [inR, c], rfl⟩
theorem tlbRight_S (l : Ln) : HCalls Tryz.prog 157 #[.agg l.cells.toArray] h fun v h' => v = .bool (rightL l) ∧ Ext h h' := by
  refine HCalls.via fun R hR => ?_
  have s1 := (Sat.init h).push (.cells l.cells.toArray 98 (0, 0))
  simp only [Ln.cells_eq] at s1
  have fin : ∀ b, b = rightL l → R (.bool b) _ := fun b e => hR _ _ ⟨by rw [e], (s1.front 1).ext⟩
  unfold rightL at fin
  refine HCalls.of_dev T157 Tryz.func157 rfl mixed (by kernel_rfl) ?_; rw [Tryz.results157]
  simp (maxSteps := 2000000) (disch := first | (simp only [go_sem, simprocAttr] <;> omega) | omega) only [go_sem, simprocAttr]
  refine (tlbWithin_S _ _ _).mono ?_
  rintro v h' ⟨rfl, rfl⟩
  cases c1 : inR l.Vmid 1 15 with
  | false =>
    rw [c1] at fin
    simp (maxSteps := 2000000) (disch := first | (simp only [go_sem, simprocAttr] <;> omega) | omega) only [go_sem, simprocAttr]
    exact fin _ rfl
  | true =>
  rw [c1] at fin
  simp (maxSteps := 2000000) (disch := first | (simp only [go_sem, simprocAttr] <;> omega) | omega) only [go_sem, simprocAttr]
  refine (tlbWithin_S _ _ _).mono ?_
  rintro v h' ⟨rfl, rfl⟩
  cases c2 : inR l.Asid 0 15 with
  | false =>
    rw [c2] at fin
    simp (maxSteps := 2000000) (disch := first | (simp only [go_sem, simprocAttr] <;> omega) | omega) only [go_sem, simprocAttr]
    exact fin _ rfl
  | true =>
  rw [c2] at fin
  simp (maxSteps := 2000000) (disch := first | (simp only [go_sem, simprocAttr] <;> omega) | omega) only [go_sem, simprocAttr]
  refine (tlbWithin_S _ _ _).mono ?_
  rintro v h' ⟨rfl, rfl⟩
  cases c3 : inR l.Page 0 1023 with
  | false =>
    rw [c3] at fin
    simp (maxSteps := 2000000) (disch := first | (simp only [go_sem, simprocAttr] <;> omega) | omega) only [go_sem, simprocAttr]
    exact fin _ rfl
  | true =>
  rw [c3] at fin
  simp (maxSteps := 2000000) (disch := first | (simp only [go_sem, simprocAttr] <;> omega) | omega) only [go_sem, simprocAttr]
  refine (tlbWithin_S _ _ _).mono ?_
  rintro v h' ⟨rfl, rfl⟩
  cases c4 : inR l.Frame 0 1023 with
  | false =>
    rw [c4] at fin
    simp (maxSteps := 2000000) (disch := first | (simp only [go_sem, simprocAttr] <;> omega) | omega) only [go_sem, simprocAttr]
    exact fin _ rfl
  | true =>
  rw [c4] at fin
  simp (maxSteps := 2000000) (disch := first | (simp only [go_sem, simprocAttr] <;> omega) | omega) only [go_sem, simprocAttr]
  refine (tlbWithin_S _ _ _).mono ?_
  rintro v h' ⟨rfl, rfl⟩
  simp (maxSteps := 2000000) (disch := first | (simp only [go_sem, simprocAttr] <;> omega) | omega) only [go_sem, simprocAttr]
  exact fin _ rfl
theorem hread_lines {tb : Nat} {f m : Int} {ty : TypeId} (hT : T.length = 8) (g : h[tb]? = some (.cells (linesL T ++ [Value.int .i64 f, Value.int .i64 m]).toArray ty (0, 0))) : hreadO h[tb]? 0 40 = some (linesL T).toArray := by
  have l := linesL_len T
  rw [g, hreadO_arr (by simp; omega)]
  congr 1
  apply Array.ext_getElem?
  intro j
  rw [Array.getElem?_extract]
  simp only [List.getElem?_toArray, List.size_toArray, Nat.zero_add, Nat.sub_zero]
  by_cases hj : j < 40
  · rw [if_pos (by simp; omega), List.getElem?_append_left (by omega)]
  · rw [if_neg (by omega), List.getElem?_eq_none (by omega)]
theorem keyL_eq (v a p : Int) (l : Ln) : (!(decide (l.Vmid = 0) && (decide (l.Asid = 0) && (decide (l.Page = 0) && (decide (l.Frame = 0) && decide (l.Rights = 0))))) && decide (l.Vmid = v) && decide (l.Asid = a) && decide (l.Page = p)) = keyL v a p l := by
  unfold keyL zeroL
  obtain ⟨_, _, _, _, _⟩ := l
  simp only [Ln.mk.injEq, Bool.decide_and]
theorem set_found {f m g : Int} (hT : T.length = 8) : (linesL T ++ [Value.int .i64 f, Value.int .i64 m]).set 40 (.int .i64 g) = (linesL T ++ [Value.int .i64 g, Value.int .i64 m]) := by
  have l := linesL_len T
  rw [List.set_append_right _ _ (by omega), show 40 - (linesL T).length = 0 by omega]
  rfl
theorem set_missed {f m g : Int} (hT : T.length = 8) : (linesL T ++ [Value.int .i64 f, Value.int .i64 m]).set 41 (.int .i64 g) = (linesL T ++ [Value.int .i64 f, Value.int .i64 g]) := by
  have l := linesL_len T
  rw [List.set_append_right _ _ (by omega), show 41 - (linesL T).length = 1 by omega]
  rfl
theorem find_S (hs : Sat h (tlbS tb T :: F)) (v a p : Int) : HCalls Tryz.prog 141 #[.pointer (some ⟨tb, 0, none⟩), .int .i64 v, .int .i64 a, .int .i64 p] h fun r h' =>
    r = (match findT T v a p with | some l => .tuple #[.int .i64 l.Frame, .int .i64 l.Rights, .bool true] | none => .tuple #[.int .i64 0, .int .i64 0, .bool false]) ∧ Sat h' (tlbS tb T :: F) := by
  refine HCalls.via fun R hR => ?_
  obtain ⟨hT, f, m, ty, s⟩ := tlbS_iff.1 hs
  have hr := hread_lines hT.1 s.get
  have lT := linesL_len T
  refine HCalls.of_dev T141 Tryz.func141 rfl mixed (by kernel_rfl) ?_; rw [Tryz.results141]
  simp (maxSteps := 2000000) (disch := first | (simp only [go_sem, simprocAttr, hr] <;> omega) | omega) only [go_sem, simprocAttr, hr]
  refine loopH.intro (fun k : Nat => (.cons 0 (.pointer (some ⟨tb, 0, none⟩)) true (.cons 1 (.int .i64 v) true (.cons 2 (.int .i64 a) true (.cons 3 (.int .i64 p) true (.cons 16 (.agg (linesL T).toArray) true (.cons 17 (.int .i64 k) true .nil)))))))
    (fun k h' => k ≤ 8 ∧ (∀ j (hj : j < T.length), j < k → keyL v a p T[j] = false) ∧ Sat h' (cellAt tb (.cells (linesL T ++ [Value.int .i64 f, Value.int .i64 m]).toArray ty (0, 0)) :: F)) (fun k _ => 9 - k) 0 ?_ ⟨by omega, fun j _ hj => by omega, s⟩ ?_
  · simp (maxSteps := 2000000) (disch := first | (simp only [go_sem, simprocAttr] <;> omega) | omega) only [go_sem, simprocAttr]; try rfl
  rintro k h' ⟨hk, hno, s'⟩
  by_cases q : k < 8
  · have hix : ∀ h : Heap, runD Tryz.prog (iIndex 99 (.agg (linesL T).toArray) (.int .i64 k)) h = some (.agg (T[k]'(by omega)).cells.toArray) := fun h => by
      rw [runD_index_agg Tryz.underlying99 (by kernel_rfl) (tsz_98) q]
      exact congrArg (fun x => some (Value.agg x)) (flat_extract Ln.cells_len (by omega))
    have q2 : (k : Int) < 8 := by omega
    generalize hl : T[k]'(by omega) = l at *
    have s5 := (s'.push (.cells l.cells.toArray 98 (0, 0))).swap
    simp only [Ln.cells_eq] at s5
    cases hq : keyL v a p l with
    | true =>
      have hf : findT T v a p = some l := by
        unfold findT
        rw [List.find?_eq_some_iff_getElem]
        exact ⟨hq, k, by omega, hl, fun j hj => by rw [hno j (by omega) hj]; rfl⟩
      rw [hf] at hR
      have e40 : nthL (linesL T ++ [Value.int .i64 f, Value.int .i64 m]) 40 = some (.int .i64 f) := by
        rw [nthL_eq, List.getElem?_append_right (by omega), lT, hT.1]
        rfl
      have s6 := s5.set (.cells (linesL T ++ [Value.int .i64 (IntKind.i64.wrap (f + 1)), Value.int .i64 m]).toArray ty (0, 0))
      have sf := set_found (f := f) (m := m) (g := IntKind.i64.wrap (f + 1)) hT.1
      have l40 : 40 < (linesL T ++ [Value.int .i64 f, Value.int .i64 m]).length := by simp; omega
      simp (maxSteps := 2000000) (disch := first | (simp only [go_sem, simprocAttr, q2, hix, eqls_98, keyL_eq, hq, s5.get, e40, l40, sf, (s6.front 1).get] <;> omega) | omega) only [go_sem, simprocAttr, q2, hix, eqls_98, keyL_eq, hq, s5.get, e40, l40, sf, (s6.front 1).get]
      exact hR _ _ ⟨rfl, tlbS_iff.2 ⟨hT, _, _, _, s6.drop1⟩⟩
    | false =>
      simp (maxSteps := 2000000) (disch := first | (simp only [go_sem, simprocAttr, q2, hix, eqls_98, keyL_eq, hq] <;> omega) | omega) only [go_sem, simprocAttr, q2, hix, eqls_98, keyL_eq, hq]
      refine ⟨k + 1, rfl, ⟨by omega, fun j hj hjk => ?_, s5.drop1⟩, by simp only; omega⟩
      by_cases ej : j = k
      · subst ej; rw [hl]; exact hq
      · exact hno j hj (by omega)
  · obtain rfl : k = 8 := by omega
    have n8 : ((8 : Nat) : Int) = 8 := rfl
    have g41 : hcellO h'[tb]? 41 = some (.int .i64 m) := by
      rw [s'.get, hcellO_arr, List.getElem?_toArray, List.getElem?_append_right (by omega), lT, hT.1]
      rfl
    have hf : findT T v a p = none := by
      unfold findT
      rw [List.find?_eq_none]
      intro l hl
      obtain ⟨j, hj, rfl⟩ := List.getElem_of_mem hl
      rw [hno j hj (by omega)]
      exact Bool.false_ne_true
    rw [hf] at hR
    have s6 := s'.set (.cells (linesL T ++ [Value.int .i64 f, Value.int .i64 (IntKind.i64.wrap (m + 1))]).toArray ty (0, 0))
    have sf := set_missed (f := f) (m := m) (g := IntKind.i64.wrap (m + 1)) hT.1
    have l41 : 41 < (linesL T ++ [Value.int .i64 f, Value.int .i64 m]).length := by simp; omega
    simp (maxSteps := 2000000) (disch := first | (simp only [go_sem, simprocAttr, n8, ↓g41, s'.get, l41, sf] <;> omega) | omega) only [go_sem, simprocAttr, n8, ↓g41, s'.get, l41, sf]
    exact hR _ _ ⟨rfl, tlbS_iff.2 ⟨hT, _, _, _, s6⟩⟩
end
end Go.Eng
/-
  package tlb: flush, Fill, FlushAsid.
-/
namespace Go.Eng
open Go Go.Proofs
theorem flush_len {T : List Ln} {p : Ln → Bool} : (flushT T p).length = T.length := by simp [flushT]
def fl (p : Ln → Bool) (l : Ln) : Ln := if !decide (l = zeroL) && p l then zeroL else l
def part (T : List Ln) (p : Ln → Bool) (k : Nat) : List Ln := (T.take k).map (fl p) ++ T.drop k
theorem part_len {T : List Ln} {p : Ln → Bool} {k : Nat} : (part T p k).length = T.length := by simp [part]; omega
theorem part_get {T : List Ln} {p : Ln → Bool} {k : Nat} (hk : k < T.length) : (part T p k)[k]'(by rw [part_len]; exact hk) = T[k] := by
  unfold part
  rw [List.getElem_append_right (by simp; omega)]
  simp [Nat.min_eq_left (Nat.le_of_lt hk)]
theorem part_succ {T : List Ln} {p : Ln → Bool} {k : Nat} (hk : k < T.length) : part T p (k + 1) = (part T p k).set k (fl p T[k]) := by
  unfold part
  rw [List.set_append_right _ _ (by simp; omega), List.take_succ_eq_append_getElem hk, List.map_append, List.append_assoc]
  congr 1
  rw [List.length_map, List.length_take, Nat.min_eq_left (Nat.le_of_lt hk), Nat.sub_self, List.drop_eq_getElem_cons hk]
  rfl
theorem part_all {T : List Ln} {p : Ln → Bool} : part T p T.length = flushT T p := by
  unfold part flushT
  rw [List.take_length, List.drop_length, List.append_nil]
  rfl
theorem fl_ok {p : Ln → Bool} {l : Ln} (h : okL l) : okL (fl p l) := by
  unfold fl
  split
  · exact .inl rfl
  · exact h
theorem part_ok {T : List Ln} {p : Ln → Bool} {k : Nat} (h : ∀ l ∈ T, okL l) : ∀ l ∈ part T p k, okL l := by
  intro l hl
  rcases List.mem_append.1 hl with q | q
  · obtain ⟨x, hx, rfl⟩ := List.mem_map.1 q
    exact fl_ok (h x (List.mem_of_mem_take hx))
  · exact h l (List.mem_of_mem_drop q)
theorem fl_same {p : Ln → Bool} {l : Ln} (h : (!decide (l = zeroL) && p l) = false) : fl p l = l := by
  unfold fl
  rw [h]
  rfl
theorem set_same {T : List Ln} {p : Ln → Bool} {k : Nat} (hk : k < T.length) (h : fl p T[k] = T[k]) : part T p (k + 1) = part T p k := by
  rw [part_succ hk, h]
  apply List.ext_getElem (by simp)
  intro i h1 h2
  rw [List.getElem_set]
  split
  · rename_i e; subst e; exact (part_get hk).symm
  · rfl
section
variable {h : Heap} {F : List SP} {tb : Nat} {T : List Ln}
theorem store_line {U : List Ln} {tl : List Value} {ty : TypeId} {k : Nat} {l : Ln} {K : Unit → Heap → Prop} (g : h[tb]? = some (.cells (linesL U ++ tl).toArray ty (0, 0))) (hk : k < U.length)
    (hK : K () (h.setIfInBounds tb (.cells (linesL (U.set k l) ++ tl).toArray ty (0, 0)))) : runH Tryz.prog (iStoreAt 98 (.pointer (some ⟨tb, k * 5, none⟩)) (.agg l.cells.toArray)) h K := by
  have lU := linesL_len U
  refine runH_store_row (by rw [tszD_98]; rfl) (by rw [tsz_98]; rfl) g (Ln.cells_single l) (by rw [List.size_toArray, List.length_append, Ln.cells_len, lU]; omega) fun c' hc hg => ?_
  have := flat_set (enc := Ln.cells) (sz := 5) Ln.cells_len (by decide) (L := U) (tl := tl) (i := k) (x := l) hk (c' := c') (fun j => by rw [hg j, Ln.cells_len, List.getElem?_toArray]; rfl)
  rw [this]
  exact hK
theorem flush_S (hs : Sat h (tlbS tb T :: F)) (p : Ln → Bool) (fid : FuncId) (caps : List Value) (ok : okFn Tryz.prog fid = true)
    (his : ∀ (A : SP) h' l, Sat h' (A :: F) → HCalls Tryz.prog fid (#[] ++ #[.agg l.cells.toArray] ++ caps.toArray) h' fun v h'' => v = .bool (p l) ∧ Ext h' h'') :
    HCalls Tryz.prog 43 #[.pointer (some ⟨tb, 0, none⟩), .func (.func fid) #[] caps.toArray] h fun r h' => (∃ n, r = .int .i64 n) ∧ Sat h' (tlbS tb (flushT T p) :: F) := by
  refine HCalls.via fun R hR => ?_
  obtain ⟨hT, f, m, ty, s⟩ := tlbS_iff.1 hs
  have hr := hread_lines hT.1 s.get
  have lT := linesL_len T
  refine HCalls.of_dev T43 Tryz.func43 rfl mixed (by kernel_rfl) ?_; rw [Tryz.results43]
  simp (maxSteps := 2000000) (disch := first | (simp only [go_sem, simprocAttr, hr] <;> omega) | omega) only [go_sem, simprocAttr, hr]
  refine loopH.intro (fun k : Nat × Int => (.cons 0 (.pointer (some ⟨tb, 0, none⟩)) true (.cons 1 (.func (.func fid) #[] caps.toArray) true (.cons 5 (.int .i64 k.2) true (.cons 11 (.agg (linesL T).toArray) true (.cons 12 (.int .i64 k.1) true .nil))))))
    (fun k h' => k.1 ≤ 8 ∧ Sat h' (cellAt tb (.cells (linesL (part T p k.1) ++ [Value.int .i64 f, Value.int .i64 m]).toArray ty (0, 0)) :: F)) (fun k _ => 9 - k.1) (0, 0) ?_ ⟨by simp only; omega, s⟩ ?_
  · simp (maxSteps := 2000000) (disch := first | (simp only [go_sem, simprocAttr] <;> omega) | omega) only [go_sem, simprocAttr]; try rfl
  rintro ⟨k, c⟩ h' ⟨hk, s'⟩
  simp only at hk s'
  by_cases q : k < 8
  · have hix : ∀ h : Heap, runD Tryz.prog (iIndex 99 (.agg (linesL T).toArray) (.int .i64 k)) h = some (.agg (T[k]'(by omega)).cells.toArray) := fun h => by
      rw [runD_index_agg Tryz.underlying99 (by kernel_rfl) (tsz_98) q]
      exact congrArg (fun x => some (Value.agg x)) (flat_extract Ln.cells_len (by omega))
    have q2 : (k : Int) < 8 := by omega
    have ps := part_succ (p := p) (T := T) (k := k) (by omega)
    have pm := set_same (p := p) (T := T) (k := k) (by omega)
    generalize hl : T[k]'(by omega) = l at *
    have s5 := (s'.push (.cells l.cells.toArray 98 (0, 0))).swap
    simp only [Ln.cells_eq] at s5
    by_cases hz : l = zeroL
    · have e := pm (fl_same (by rw [decide_eq_true hz]; rfl))
      subst hz
      simp only [zeroL] at hix s5
      simp (maxSteps := 2000000) (disch := first | (simp only [go_sem, simprocAttr, q2, hix, eqls_98] <;> omega) | omega) only [go_sem, simprocAttr, q2, hix, eqls_98]
      refine ⟨(k + 1, c), rfl, ⟨by simp only; omega, by simp only; rw [e]; exact s5.drop1⟩, by simp only; omega⟩
    · have hz2 : (decide (l.Vmid = 0) && (decide (l.Asid = 0) && (decide (l.Page = 0) && (decide (l.Frame = 0) && decide (l.Rights = 0))))) = false := by
        have : decide (l = zeroL) = false := decide_eq_false hz
        obtain ⟨_, _, _, _, _⟩ := l
        simpa only [zeroL, Ln.mk.injEq, Bool.decide_and] using this
      simp (maxSteps := 2000000) (disch := first | (simp only [go_sem, simprocAttr, q2, hix, eqls_98, hz2, ok] <;> omega) | omega) only [go_sem, simprocAttr, q2, hix, eqls_98, hz2, ok]
      refine (his _ _ l s5.drop1).mono ?_
      rintro v h2 ⟨rfl, x2⟩
      have s6 := s5.grow x2
      have hz3 : (!decide (l = zeroL) && p l) = p l := by rw [decide_eq_false hz]; rfl
      cases hp : p l with
      | false =>
        have e := pm (fl_same (by rw [hz3, hp]))
        simp (maxSteps := 2000000) (disch := first | (simp only [go_sem, simprocAttr] <;> omega) | omega) only [go_sem, simprocAttr]
        refine ⟨(k + 1, c), rfl, ⟨by simp only; omega, by simp only; rw [e]; exact s6.drop1⟩, by simp only; omega⟩
      | true =>
        have e : fl p l = zeroL := by unfold fl; rw [hz3, hp]; rfl
        rw [e] at ps
        simp (maxSteps := 2000000) (disch := first | (simp only [go_sem, simprocAttr] <;> omega) | omega) only [go_sem, simprocAttr]
        refine store_line (l := zeroL) s6.get (by rw [part_len, hT.1]; exact q) ?_
        have s7 := s6.set (.cells (linesL ((part T p k).set k zeroL) ++ [Value.int .i64 f, Value.int .i64 m]).toArray ty (0, 0))
        refine ⟨(k + 1, _), rfl, ⟨by simp only; omega, by simp only; rw [ps]; exact s7.drop1⟩, by simp only; omega⟩
  · obtain rfl : k = 8 := by omega
    have n8 : ((8 : Nat) : Int) = 8 := rfl
    have e := part_all (T := T) (p := p)
    rw [hT.1] at e
    rw [e] at s'
    simp (maxSteps := 2000000) (disch := first | (simp only [go_sem, simprocAttr, n8] <;> omega) | omega) only [go_sem, simprocAttr, n8]
    exact hR _ _ ⟨⟨_, rfl⟩, tlbS_iff.2 ⟨⟨by rw [flush_len]; exact hT.1, by rw [← e]; exact part_ok hT.2⟩, _, _, _, s'⟩⟩
theorem fillC_S (l x : Ln) (A : SP) (lb : Nat) (ty : TypeId) (hs : Sat h (A :: cellAt lb (.cells l.cells.toArray ty (0, 0)) :: F)) :
    HCalls Tryz.prog 158 (#[] ++ #[.agg x.cells.toArray] ++ [Value.pointer (some ⟨lb, 0, none⟩)].toArray) h fun v h'' => v = .bool (keyT l x) ∧ Ext h h'' := by
  rw [show (#[] ++ #[.agg x.cells.toArray] ++ [Value.pointer (some ⟨lb, 0, none⟩)].toArray : Array Value) = #[.agg x.cells.toArray, .pointer (some ⟨lb, 0, none⟩)] by simp]
  refine HCalls.via fun R hR => ?_
  have s1 := hs.push (.cells x.cells.toArray 98 (0, 0))
  have e0 := (Sat.init h).push (.cells x.cells.toArray 98 (0, 0))
  have g := (s1.front 2).get
  simp only [Ln.cells_eq] at s1 e0 g
  refine HCalls.of_dev T158 Tryz.func158 rfl mixed (by kernel_rfl) ?_; rw [Tryz.results158]
  simp (maxSteps := 2000000) (disch := first | (simp only [go_sem, simprocAttr, s1.get, g] <;> omega) | omega) only [go_sem, simprocAttr, s1.get, g]
  refine hR _ _ ⟨?_, (e0.front 1).ext⟩
  unfold keyT
  rfl
theorem fill_S (hs : Sat h (tlbS tb T :: F)) (a : Int) (l : Ln) : HCalls Tryz.prog 144 #[.pointer (some ⟨tb, 0, none⟩), .int .i64 a, .agg l.cells.toArray] h fun r h' => (∃ n, r = .int .i64 n) ∧ Sat h' (tlbS tb (fillT T a l) :: F) := by
  refine HCalls.via fun R hR => ?_
  have s1 := (hs.push (.cells l.cells.toArray 98 (0, 0))).swap
  simp only [Ln.cells_eq] at s1
  unfold fillT at hR
  refine HCalls.of_dev T144 Tryz.func144 rfl mixed (by kernel_rfl) ?_; rw [Tryz.results144]
  simp (maxSteps := 2000000) (disch := first | (simp only [go_sem, simprocAttr] <;> omega) | omega) only [go_sem, simprocAttr]
  refine (tlbWithin_S _ _ _).mono ?_
  rintro v h' ⟨rfl, rfl⟩
  cases c1 : inR a 0 7 with
  | false =>
    rw [c1] at hR
    simp (maxSteps := 2000000) (disch := first | (simp only [go_sem, simprocAttr] <;> omega) | omega) only [go_sem, simprocAttr]
    exact hR _ _ ⟨⟨_, rfl⟩, s1.drop1⟩
  | true =>
  rw [c1] at hR
  have a0 : 0 ≤ a ∧ a ≤ 7 := by unfold inR at c1; simpa using c1
  obtain ⟨a, rfl⟩ := Int.eq_ofNat_of_zero_le a0.1
  simp (maxSteps := 2000000) (disch := first | (simp only [go_sem, simprocAttr, (s1.front 1).get] <;> omega) | omega) only [go_sem, simprocAttr, (s1.front 1).get]
  refine (tlbRight_S l).mono ?_
  rintro v h2 ⟨rfl, x2⟩
  have s2 := s1.grow x2
  cases c2 : rightL l with
  | false =>
    rw [c2] at hR
    simp (maxSteps := 2000000) (disch := first | (simp only [go_sem, simprocAttr] <;> omega) | omega) only [go_sem, simprocAttr]
    exact hR _ _ ⟨⟨_, rfl⟩, s2.drop1⟩
  | true =>
  rw [c2] at hR
  simp (maxSteps := 2000000) (disch := first | (simp only [go_sem, simprocAttr] <;> omega) | omega) only [go_sem, simprocAttr]
  refine (flush_S s2 (keyT l) 158 [.pointer (some ⟨h.size, 0, none⟩)] (by kernel_rfl) (fun A h' x q => fillC_S l x A h.size _ q)).mono ?_
  rintro v h3 ⟨⟨n, rfl⟩, s3⟩
  obtain ⟨hT, f, m, ty, s⟩ := tlbS_iff.1 s3
  have a1 : (0 : Int) ≤ a := a0.1
  have a2 : (a : Int) < 8 := by omega
  simp (maxSteps := 2000000) (disch := first | (simp only [go_sem, simprocAttr, (s.front 1).get, a1, a2] <;> omega) | omega) only [go_sem, simprocAttr, (s.front 1).get, a1, a2]
  refine store_line (l := l) s.get (by rw [hT.1]; omega) ?_
  have s4 := s.set (.cells (linesL ((flushT T (keyT l)).set a l) ++ [Value.int .i64 f, Value.int .i64 m]).toArray ty (0, 0))
  refine hR _ _ ⟨⟨_, rfl⟩, tlbS_iff.2 ⟨⟨by simpa [flush_len] using hT.1, fun x hx => ?_⟩, _, _, _, s4.drop1⟩⟩
  rcases List.mem_or_eq_of_mem_set hx with q | q
  · exact hT.2 x q
  · rw [q]; exact .inr c2
theorem asidC_S (v a : Int) (x : Ln) (A : SP) (vb ab : Nat) (ty ty2 : TypeId) (hs : Sat h (A :: cellAt vb (.cells #[.int .i64 v] ty (0, 0)) :: cellAt ab (.cells #[.int .i64 a] ty2 (0, 0)) :: F)) :
    HCalls Tryz.prog 131 (#[] ++ #[.agg x.cells.toArray] ++ [Value.pointer (some ⟨vb, 0, none⟩), Value.pointer (some ⟨ab, 0, none⟩)].toArray) h fun r h'' => r = .bool (decide (x.Vmid = v) && decide (x.Asid = a)) ∧ Ext h h'' := by
  rw [show (#[] ++ #[.agg x.cells.toArray] ++ [Value.pointer (some ⟨vb, 0, none⟩), Value.pointer (some ⟨ab, 0, none⟩)].toArray : Array Value) = #[.agg x.cells.toArray, .pointer (some ⟨vb, 0, none⟩), .pointer (some ⟨ab, 0, none⟩)] by simp]
  refine HCalls.via fun R hR => ?_
  have s1 := hs.push (.cells x.cells.toArray 98 (0, 0))
  have e0 := (Sat.init h).push (.cells x.cells.toArray 98 (0, 0))
  have g := (s1.front 2).get
  have g2 := (s1.front 3).get
  simp only [Ln.cells_eq] at s1 e0 g g2
  refine HCalls.of_dev T131 Tryz.func131 rfl mixed (by kernel_rfl) ?_; rw [Tryz.results131]
  simp (maxSteps := 2000000) (disch := first | (simp only [go_sem, simprocAttr, s1.get, g, g2] <;> omega) | omega) only [go_sem, simprocAttr, s1.get, g, g2]
  exact hR _ _ ⟨rfl, (e0.front 1).ext⟩
theorem flushAsid_S (hs : Sat h (tlbS tb T :: F)) (v a : Int) : HCalls Tryz.prog 99 #[.pointer (some ⟨tb, 0, none⟩), .int .i64 v, .int .i64 a] h fun r h' => (∃ n, r = .int .i64 n) ∧ Sat h' (tlbS tb (flushT T fun l => decide (l.Vmid = v) && decide (l.Asid = a)) :: F) := by
  refine HCalls.via fun R hR => ?_
  refine HCalls.of_dev T99 Tryz.func99 rfl mixed (by kernel_rfl) ?_; rw [Tryz.results99]
  simp (maxSteps := 2000000) (disch := first | (simp only [go_sem, simprocAttr] <;> omega) | omega) only [go_sem, simprocAttr]
  have s1 := (hs.push (.cells #[.int .i64 v] 3 (0, 0))).push (.cells #[.int .i64 a] 3 (0, 0))
  simp only [size_push'] at s1
  have s2 := s1.swap.front 2
  refine (flush_S s2 (fun l => decide (l.Vmid = v) && decide (l.Asid = a)) 131 [.pointer (some ⟨h.size, 0, none⟩), .pointer (some ⟨h.size + 1, 0, none⟩)] (by kernel_rfl) (fun A h' x q => asidC_S v a x A h.size (h.size + 1) _ _ q)).mono ?_
  rintro r h3 ⟨⟨n, rfl⟩, s3⟩
  simp (maxSteps := 2000000) (disch := first | (simp only [go_sem, simprocAttr] <;> omega) | omega) only [go_sem, simprocAttr]
  exact hR _ _ ⟨⟨_, rfl⟩, s3.drop1.drop1⟩
end
end Go.Eng
