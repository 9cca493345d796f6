/-
  package isa: form, Kind, within.
-/
import Derived.Test.YtaijcllgdlalpaaGreatDoorZj5
set_option linter.unusedSimpArgs false
set_option linter.unusedVariables false
set_option maxRecDepth 16000
set_option maxHeartbeats 4000000
namespace Go.Eng
open Go Go.Proofs
section
variable {h : Heap}
theorem form_S (op : Int) : HCalls Tryz.prog 146 #[.int .i64 op] h fun v h' => v = .tuple #[.string (formN op).1, .string (formN op).2.1, .string (formN op).2.2] ∧ Ext h h' := by
  refine HCalls.via fun R hR => ?_
  refine HCalls.of_dev T146 Tryz.func146 rfl mixed (by kernel_rfl) ?_; rw [Tryz.results146]
  unfold formN at hR
  by_cases c1 : op < 1
  · rw [if_neg (by omega)] at hR
    simp (maxSteps := 2000000) (disch := first | (simp only [go_sem, simprocAttr, c1] <;> omega) | omega) only [go_sem, simprocAttr, c1]
    exact hR _ _ ⟨rfl, Ext.refl _⟩
  by_cases c2 : 25 < op
  · rw [if_neg (by omega)] at hR
    simp (maxSteps := 2000000) (disch := first | (simp only [go_sem, simprocAttr, c1, c2] <;> omega) | omega) only [go_sem, simprocAttr, c1, c2]
    exact hR _ _ ⟨rfl, Ext.refl _⟩
  rw [if_pos (by omega)] at hR
  obtain ⟨o, rfl⟩ := Int.eq_ofNat_of_zero_le (show 0 ≤ op by omega)
  rw [Int.toNat_natCast] at hR
  have ho : o < 26 := by omega
  simp (maxSteps := 2000000) (disch := first | (simp only [go_sem, simprocAttr, c1, c2] <;> omega) | omega) only [go_sem, simprocAttr, c1, c2]
  refine (split_S forms_ok (by omega) (by apply Array.toList_inj.1; rw [zrow_str26])).mono ?_
  rintro v h1 s1
  obtain ⟨sl, cap, rfl, -, hl, hel⟩ := s1.elems
  rcases hel with hel | ⟨lb, rfl, hc, -⟩
  · omega
  have hco : hcellO h1[lb]? o = some (.string (partF o)) := by
    rw [hc o (by omega)]; simp [strL, ho]
  have q1 : (o : Int) < ((25 + 1 : Nat) : Int) := by omega
  have q2 : (o : Int) < 26 := by omega
  simp (maxSteps := 2000000) (disch := first | (simp only [go_sem, simprocAttr, c1, q1, q2, hco] <;> omega) | omega) only [go_sem, simprocAttr, c1, q1, q2, hco]
  have hx1 := (s1.front 1).ext
  refine (indexAny_S ho).mono ?_
  rintro v h2 ⟨rfl, x2⟩
  have hx2 := hx1.trans x2
  obtain ⟨a1, a2⟩ := at_ok o ho
  have a8 := part_sz o ho
  unfold formO at hR
  by_cases a0 : 0 ≤ atF o
  · rw [if_pos a0] at hR
    have a3 := a2 a0
    obtain ⟨m, hm⟩ := Int.eq_ofNat_of_zero_le a0
    rw [hm] at hR a3 ⊢
    simp only [Int.toNat_natCast] at hR a3
    have sl1 : ∀ h : Heap, runD Tryz.prog (iSliceAt 9 (.string (partF o)) none (some (.int .i64 m)) none) h = some (.string ((partF o).extract 0 m)) := fun h => runD_slice_str isStr_9 (sliceBounds_to (by omega))
    have sl2 : ∀ h : Heap, runD Tryz.prog (iSliceAt 9 (.string (partF o)) (some (.int .i64 m)) (some (.int .i64 ((m : Int) + 1))) none) h = some (.string ((partF o).extract m (m + 1))) := fun h => by
      rw [show ((m : Int) + 1) = ((m + 1 : Nat) : Int) by omega]
      exact runD_slice_str isStr_9 (sliceBounds_both (by omega) (by omega))
    have sl3 : ∀ h : Heap, runD Tryz.prog (iSliceAt 9 (.string (partF o)) (some (.int .i64 ((m : Int) + 1))) none none) h = some (.string ((partF o).extract (m + 1) (partF o).size)) := fun h => by
      rw [show ((m : Int) + 1) = ((m + 1 : Nat) : Int) by omega]
      exact runD_slice_str isStr_9 (sliceBounds_from (by omega))
    have m0 : 0 ≤ (m : Int) := by omega
    simp (maxSteps := 2000000) (disch := first | (simp only [go_sem, simprocAttr, m0, sl1, sl2, sl3] <;> omega) | omega) only [go_sem, simprocAttr, m0, sl1, sl2, sl3]
    exact hR _ _ ⟨rfl, hx2⟩
  · rw [if_neg a0] at hR
    simp (maxSteps := 2000000) (disch := first | (simp only [go_sem, simprocAttr, a0] <;> omega) | omega) only [go_sem, simprocAttr, a0]
    exact hR _ _ ⟨rfl, hx2⟩
theorem kind_S (op : Int) : HCalls Tryz.prog 122 #[.int .i64 op] h fun v h' => v = .string (formN op).1 ∧ Ext h h' := by
  refine HCalls.via fun R hR => ?_
  refine HCalls.of_dev T122 Tryz.func122 rfl mixed (by kernel_rfl) ?_; rw [Tryz.results122]
  simp (maxSteps := 2000000) (disch := first | (simp only [go_sem, simprocAttr] <;> omega) | omega) only [go_sem, simprocAttr]
  refine (form_S op).mono ?_
  rintro v h' ⟨rfl, x⟩
  simp (maxSteps := 2000000) (disch := first | (simp only [go_sem, simprocAttr] <;> omega) | omega) only [go_sem, simprocAttr]
  exact hR _ _ ⟨rfl, x⟩
theorem within_S (n many : Int) : HCalls Tryz.prog 140 #[.int .i64 n, .int .i64 many] h fun v h' => v = .bool (decide (0 ≤ n) && decide (n < many)) ∧ h' = h := by
  refine HCalls.via fun R hR => ?_
  refine HCalls.of_dev T140 Tryz.func140 rfl mixed (by kernel_rfl) ?_; rw [Tryz.results140]
  by_cases c : 0 ≤ n
  · simp (maxSteps := 2000000) (disch := first | (simp only [go_sem, simprocAttr, c] <;> omega) | omega) only [go_sem, simprocAttr, c]
    exact hR _ _ ⟨by simp [c], rfl⟩
  · simp (maxSteps := 2000000) (disch := first | (simp only [go_sem, simprocAttr, c] <;> omega) | omega) only [go_sem, simprocAttr, c]
    exact hR _ _ ⟨by simp [c], rfl⟩
end
end Go.Eng
/-
  viceroyref05: Kind, has, field.
-/
namespace Go.Eng
open Go Go.Proofs
def kd (op : Int) : ByteArray := if op = 1 then ⟨#[97, 105]⟩ else if op = 15 then ⟨#[97, 105]⟩ else if op = 19 then ⟨#[97, 105]⟩ else if op = 2 then ⟨#[97, 98, 99]⟩ else if op = 3 then ⟨#[97, 98, 99]⟩ else if op = 4 then ⟨#[97, 98, 99]⟩ else if op = 5 then ⟨#[97, 98, 99]⟩ else if op = 6 then ⟨#[97, 98, 99]⟩ else if op = 7 then ⟨#[97, 98, 105]⟩ else if op = 8 then ⟨#[97, 98, 105]⟩ else if op = 9 then ⟨#[97, 98, 105]⟩ else if op = 10 then ⟨#[97, 98, 105]⟩ else if op = 11 then ⟨#[97, 98, 105]⟩ else if op = 12 then ⟨#[97, 98, 105]⟩ else if op = 13 then ⟨#[97, 98, 105]⟩ else if op = 14 then ⟨#[105]⟩ else if op = 17 then ⟨#[105]⟩ else if op = 18 then ⟨#[105]⟩ else if op = 16 then ⟨#[98]⟩ else if op = 23 then ⟨#[98]⟩ else if op = 20 then ⟨#[98, 105]⟩ else if op = 22 then ⟨#[97]⟩ else if op = 21 then ⟨#[45]⟩ else if op = 24 then ⟨#[45]⟩ else if op = 25 then ⟨#[45]⟩ else ⟨#[]⟩
theorem kd_tab : ∀ o : Nat, o < 26 → 1 ≤ o → (formO o).1.data = (kd o).data := by decide +kernel
theorem kd_eq (op : Int) : (formN op).1 = kd op := by
  unfold formN
  by_cases c : 1 ≤ op ∧ op ≤ 25
  · rw [if_pos c]
    obtain ⟨o, rfl⟩ := Int.eq_ofNat_of_zero_le (show 0 ≤ op by omega)
    rw [Int.toNat_natCast]
    have := kd_tab o (by omega) (by omega)
    cases h1 : (formO o).1
    cases h2 : kd o
    rw [h1, h2] at this
    simp only at this
    rw [this]
  · rw [if_neg c]
    unfold kd
    repeat rw [if_neg (by omega)]
section
variable {h : Heap}
theorem refKind_S (op : Int) : HCalls Tryz.prog 105 #[.int .i64 op] h fun v h' => v = .string (kd op) ∧ h' = h := by
  refine HCalls.via fun R hR => ?_
  refine HCalls.of_dev T105 Tryz.func105 rfl mixed (by kernel_rfl) ?_; rw [Tryz.results105]
  unfold kd at hR
  simp (maxSteps := 2000000) (disch := first | (simp only [go_sem, simprocAttr] <;> omega) | omega) only [go_sem, simprocAttr]
  repeat' (first | apply And.intro | intro _)
  all_goals first
    | (subst_vars; exact hR _ _ ⟨rfl, rfl⟩)
    | (refine hR _ _ ⟨?_, rfl⟩; simp only [*, if_false, if_true])
theorem kindK_S (op : Int) : HCalls Tryz.prog 122 #[.int .i64 op] h fun v h' => v = .string (kd op) ∧ Ext h h' := by
  refine (kind_S op).mono ?_
  rintro v h' ⟨rfl, x⟩
  exact ⟨by rw [kd_eq], x⟩
/-- Has a form this? -/
def hasB (k : ByteArray) (c : Int) : Bool := k.data.toList.any fun b => decide ((b.toNat : Int) = c)
theorem ba_get {k : ByteArray} {i : Nat} (hi : i < k.size) : k[i]? = some k.data[i] := by
  rw [getElem?_pos k i hi]; rfl
theorem has_S (k : ByteArray) (c : Int) (hk : k.size ≤ 100) : HCalls Tryz.prog 106 #[.string k, .int .u8 c] h fun v h' => v = .bool (hasB k c) ∧ h' = h := by
  refine HCalls.via fun R hR => ?_
  refine HCalls.of_dev T106 Tryz.func106 rfl mixed (by kernel_rfl) ?_; rw [Tryz.results106]
  simp (maxSteps := 2000000) (disch := first | (simp only [go_sem, simprocAttr] <;> omega) | omega) only [go_sem, simprocAttr]
  refine loopH.intro (fun i : Nat => (.cons 0 (.string k) true (.cons 1 (.int .u8 c) true (.cons 5 (.int .i64 i) true .nil)))) (fun i h' => h' = h ∧ i ≤ k.size ∧ ∀ j (hj : j < k.size), j < i → ((k.data[j]'hj).toNat : Int) ≠ c) (fun i _ => k.size + 1 - i) 0 ?_ ⟨rfl, by omega, fun j _ hj => by omega⟩ ?_
  · simp (maxSteps := 2000000) (disch := first | (simp only [go_sem, simprocAttr] <;> omega) | omega) only [go_sem, simprocAttr]; try rfl
  rintro i h' ⟨rfl, hi, hno⟩
  by_cases q : i < k.size
  · have q2 : (i : Int) < k.size := by omega
    have hix : ∀ h : Heap, runD Tryz.prog (iIndex 9 (.string k) (.int .i64 i)) h = some (.int .u8 (k.data[i]'q).toNat) := fun h => runD_index_str isStr_9 (ba_get q)
    simp (maxSteps := 2000000) (disch := first | (simp only [go_sem, simprocAttr, q2, hix] <;> omega) | omega) only [go_sem, simprocAttr, q2, hix]
    refine ⟨fun e => hR _ _ ⟨?_, rfl⟩, fun e => ?_⟩
    · congr 1
      refine (List.any_eq_true.2 ⟨k.data[i]'q, Array.getElem_mem_toList .., ?_⟩).symm
      simpa using e
    · refine ⟨i + 1, rfl, ⟨rfl, by omega, fun j hj hji => ?_⟩, by simp only; omega⟩
      by_cases ej : j = i
      · subst ej; exact e
      · exact hno j hj (by omega)
  · have q2 : ¬ (i : Int) < k.size := by omega
    simp (maxSteps := 2000000) (disch := first | (simp only [go_sem, simprocAttr, q2] <;> omega) | omega) only [go_sem, simprocAttr, q2]
    refine hR _ _ ⟨?_, rfl⟩
    congr 1
    refine (Bool.eq_false_iff.2 fun h => ?_).symm
    obtain ⟨b, hb, e⟩ := List.any_eq_true.1 h
    obtain ⟨j, hj, rfl⟩ := List.getElem_of_mem hb
    have hj2 : j < k.size := by simpa using hj
    exact hno j hj2 (by omega) (by simpa using e)
def fieldP (k : ByteArray) (c n m : Int) : Bool := if hasB k c then decide (0 ≤ n) && decide (n ≤ m) else decide (n = 0)
theorem field_S (k : ByteArray) (c n m : Int) (hk : k.size ≤ 100) : HCalls Tryz.prog 152 #[.string k, .int .u8 c, .int .i64 n, .int .i64 m] h fun v h' => v = .bool (fieldP k c n m) ∧ h' = h := by
  refine HCalls.via fun R hR => ?_
  refine HCalls.of_dev T152 Tryz.func152 rfl mixed (by kernel_rfl) ?_; rw [Tryz.results152]
  simp (maxSteps := 2000000) (disch := first | (simp only [go_sem, simprocAttr] <;> omega) | omega) only [go_sem, simprocAttr]
  refine (has_S k c hk).mono ?_
  rintro v h' ⟨rfl, rfl⟩
  unfold fieldP at hR
  cases hb : hasB k c with
  | false =>
    rw [hb] at hR
    simp (maxSteps := 2000000) (disch := first | (simp only [go_sem, simprocAttr] <;> omega) | omega) only [go_sem, simprocAttr]
    exact hR _ _ ⟨rfl, rfl⟩
  | true =>
    rw [hb] at hR
    by_cases c0 : 0 ≤ n
    · simp (maxSteps := 2000000) (disch := first | (simp only [go_sem, simprocAttr, c0] <;> omega) | omega) only [go_sem, simprocAttr, c0]
      exact hR _ _ ⟨by simp [c0], rfl⟩
    · simp (maxSteps := 2000000) (disch := first | (simp only [go_sem, simprocAttr, c0] <;> omega) | omega) only [go_sem, simprocAttr, c0]
      exact hR _ _ ⟨by simp [c0], rfl⟩
/-- An instruction. -/
structure Ins where
  Op : Int
  A : Int
  B : Int
  C : Int
  I : Int
  deriving DecidableEq
def Ins.cells (i : Ins) : List Value := [.int .i64 i.Op, .int .i64 i.A, .int .i64 i.B, .int .i64 i.C, .int .i64 i.I]
theorem Ins.cells_eq {i : Ins} : i.cells = [.int .i64 i.Op, .int .i64 i.A, .int .i64 i.B, .int .i64 i.C, .int .i64 i.I] := rfl
attribute [go_sem] Ins.cells_eq
def neB (k : ByteArray) : Bool := !(k.toList == (⟨#[]⟩ : ByteArray).toList)
def rightI (i : Ins) : Bool := neB (kd i.Op) && fieldP (kd i.Op) 97 i.A 15 && fieldP (kd i.Op) 98 i.B 15 && fieldP (kd i.Op) 99 i.C 15 && fieldP (kd i.Op) 105 i.I 65535
theorem kd_out {op : Int} (h : ¬ (1 ≤ op ∧ op ≤ 25)) : kd op = ⟨#[]⟩ := by
  unfold kd
  repeat rw [if_neg (by omega)]
theorem kd_sz : ∀ o : Nat, o < 26 → (kd o).size ≤ 3 := by decide +kernel
theorem kd_size (op : Int) : (kd op).size ≤ 3 := by
  by_cases c : 1 ≤ op ∧ op ≤ 25
  · obtain ⟨o, rfl⟩ := Int.eq_ofNat_of_zero_le (show 0 ≤ op by omega)
    exact kd_sz o (by omega)
  · rw [kd_out c]; decide
theorem refRight_S (i : Ins) : HCalls Tryz.prog 136 #[.agg i.cells.toArray] h fun v h' => v = .bool (rightI i) ∧ Ext h h' := by
  refine HCalls.via fun R hR => ?_
  have hk := kd_size i.Op
  refine HCalls.of_dev T136 Tryz.func136 rfl mixed (by kernel_rfl) ?_; rw [Tryz.results136]
  simp (maxSteps := 2000000) (disch := first | (simp only [go_sem, simprocAttr] <;> omega) | omega) only [go_sem, simprocAttr]
  refine (refKind_S i.Op).mono ?_
  rintro v h' ⟨rfl, rfl⟩
  have s1 := (Sat.init h).push (.cells i.cells.toArray 84 (0, 0))
  simp only [Ins.cells_eq] at s1
  unfold rightI neB at hR
  generalize kd i.Op = k at *
  simp (maxSteps := 2000000) (disch := first | (simp only [go_sem, simprocAttr] <;> omega) | omega) only [go_sem, simprocAttr]
  refine (field_S k 97 i.A 15 (by omega)).mono ?_
  rintro v h' ⟨rfl, rfl⟩
  simp (maxSteps := 2000000) (disch := first | (simp only [go_sem, simprocAttr] <;> omega) | omega) only [go_sem, simprocAttr]
  refine (field_S k 98 i.B 15 (by omega)).mono ?_
  rintro v h' ⟨rfl, rfl⟩
  simp (maxSteps := 2000000) (disch := first | (simp only [go_sem, simprocAttr] <;> omega) | omega) only [go_sem, simprocAttr]
  refine (field_S k 99 i.C 15 (by omega)).mono ?_
  rintro v h' ⟨rfl, rfl⟩
  simp (maxSteps := 2000000) (disch := first | (simp only [go_sem, simprocAttr] <;> omega) | omega) only [go_sem, simprocAttr]
  refine (field_S k 105 i.I 65535 (by omega)).mono ?_
  rintro v h' ⟨rfl, rfl⟩
  simp (maxSteps := 2000000) (disch := first | (simp only [go_sem, simprocAttr] <;> omega) | omega) only [go_sem, simprocAttr]
  exact hR _ _ ⟨rfl, s1.swap.ext⟩
end
end Go.Eng
