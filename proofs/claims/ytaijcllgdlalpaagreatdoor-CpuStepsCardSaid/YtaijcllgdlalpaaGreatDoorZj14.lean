/-
  package walk: Reach.
-/
import Derived.Test.YtaijcllgdlalpaaGreatDoorZj13
set_option linter.unusedSimpArgs false
set_option linter.unusedVariables false
set_option maxRecDepth 16000
set_option maxHeartbeats 4000000
namespace Go.Eng
open Go Go.Proofs
section
variable {h : Heap} {F : List SP} {rb n tb : Nat} {mem : Nat → Int} {T : List Ln}
theorem reach_S (hs : Sat h (ramS rb n mem :: tlbS tb T :: F)) (s : Spc) (p w a : Int) (hw : w = 1 ∨ w = 2 ∨ w = 4) : HCalls Tryz.prog 120 #[.pointer (some ⟨rb, 0, none⟩), .pointer (some ⟨tb, 0, none⟩), .agg s.cells.toArray, .int .i64 p, .int .i64 w, .int .i64 a] h fun v h' =>
    v = .tuple #[.int .i64 (reach n mem T s p w a).Fr, .agg (reach n mem T s p w a).f.cells.toArray] ∧ Sat h' (ramS rb n mem :: tlbS tb (reach n mem T s p w a).T :: F) := by
  refine HCalls.via fun R hR => ?_
  have s1 := ((hs.push (.cells s.cells.toArray 78 (0, 0))).push (.cells okF.cells.toArray 47 (0, 0))).front 3
  simp only [Flt.cells_eq, Spc.cells_eq, okF, size_push'] at s1
  unfold reach at hR
  refine HCalls.of_dev T120 Tryz.func120 rfl mixed (by kernel_rfl) ?_; rw [Tryz.results120]
  simp (maxSteps := 2000000) (disch := first | (simp only [go_sem, simprocAttr, (s1.front 2).get] <;> omega) | omega) only [go_sem, simprocAttr, (s1.front 2).get]
  refine (find_S s1 s.Vmid s.Asid p).mono ?_
  rintro v h2 ⟨rfl, s2⟩
  cases hf : findT T s.Vmid s.Asid p with
  | none =>
    rw [hf] at hR
    simp only at hR ⊢
    simp (maxSteps := 2000000) (disch := first | (simp only [go_sem, simprocAttr, (s2.front 2).get] <;> omega) | omega) only [go_sem, simprocAttr, (s2.front 2).get]
    refine (nested_S (s2.front 3) s p w hw).mono ?_
    rintro v h3 ⟨rfl, x3⟩
    have s3 := s2.grow x3
    unfold reachW at hR
    generalize neW n mem s p w = r at *
    obtain ⟨fr, ri, f⟩ := r
    simp only [Wlk.val] at hR ⊢
    have s4 := s3.push (.cells f.cells.toArray 47 (0, 0))
    simp only [Flt.cells_eq] at s4
    by_cases q : f.K = 0
    · rw [if_neg (by omega)] at hR
      rw [q] at s4
      have s5 := s4.front 1
      simp (maxSteps := 2000000) (disch := first | (simp only [go_sem, simprocAttr, q, s4.get, (s4.front 3).get] <;> omega) | omega) only [go_sem, simprocAttr, q, s4.get, (s4.front 3).get]
      refine (fill_S s5 a ⟨s.Vmid, s.Asid, p, fr, ri⟩).mono ?_
      rintro v h4 ⟨⟨z, rfl⟩, s6⟩
      have s7 := (s6.front 2).set (.cells okF.cells.toArray 47 (0, 0))
      simp only [Flt.cells_eq, okF] at s7
      simp (maxSteps := 2000000) (disch := first | (simp only [go_sem, simprocAttr, (s6.front 2).get, s7.get] <;> omega) | omega) only [go_sem, simprocAttr, (s6.front 2).get, s7.get]
      exact hR _ _ ⟨rfl, ((s7.tail.front 3).drop2.drop2)⟩
    · rw [if_pos q] at hR
      have s5 := (s4.front 2).set (.cells f.cells.toArray 47 (0, 0))
      simp only [Flt.cells_eq] at s5
      simp (maxSteps := 2000000) (disch := first | (simp only [go_sem, simprocAttr, q, s4.get, (s4.front 2).get, s5.get] <;> omega) | omega) only [go_sem, simprocAttr, q, s4.get, (s4.front 2).get, s5.get]
      exact hR _ _ ⟨rfl, ((s5.tail.tail.front 2).drop2)⟩
  | some l =>
    rw [hf] at hR
    simp only at hR ⊢
    by_cases q : andI l.Rights w = 0
    · rw [if_neg (by omega)] at hR
      have q3 : IntKind.i64.wrap ((BitVec.ofInt IntKind.i64.bits l.Rights &&& BitVec.ofInt IntKind.i64.bits w).toNat : Int) = 0 := q
      simp (maxSteps := 2000000) (disch := first | (simp only [go_sem, simprocAttr, (s2.front 2).get, ↓q3] <;> omega) | omega) only [go_sem, simprocAttr, (s2.front 2).get, ↓q3]
      refine (nested_S (s2.front 3) s p w hw).mono ?_
      rintro v h3 ⟨rfl, x3⟩
      have s3 := s2.grow x3
      unfold reachW at hR
      generalize neW n mem s p w = r at *
      obtain ⟨fr, ri, f⟩ := r
      simp only [Wlk.val] at hR ⊢
      have s4 := s3.push (.cells f.cells.toArray 47 (0, 0))
      simp only [Flt.cells_eq] at s4
      by_cases q' : f.K = 0
      · rw [if_neg (by omega)] at hR
        rw [q'] at s4
        have s5 := s4.front 1
        simp (maxSteps := 2000000) (disch := first | (simp only [go_sem, simprocAttr, q', s4.get, (s4.front 3).get] <;> omega) | omega) only [go_sem, simprocAttr, q', s4.get, (s4.front 3).get]
        refine (fill_S s5 a ⟨s.Vmid, s.Asid, p, fr, ri⟩).mono ?_
        rintro v h4 ⟨⟨z, rfl⟩, s6⟩
        have s7 := (s6.front 2).set (.cells okF.cells.toArray 47 (0, 0))
        simp only [Flt.cells_eq, okF] at s7
        simp (maxSteps := 2000000) (disch := first | (simp only [go_sem, simprocAttr, (s6.front 2).get, s7.get] <;> omega) | omega) only [go_sem, simprocAttr, (s6.front 2).get, s7.get]
        exact hR _ _ ⟨rfl, ((s7.tail.front 3).drop2.drop2)⟩
      · rw [if_pos q'] at hR
        have s5 := (s4.front 2).set (.cells f.cells.toArray 47 (0, 0))
        simp only [Flt.cells_eq] at s5
        simp (maxSteps := 2000000) (disch := first | (simp only [go_sem, simprocAttr, q', s4.get, (s4.front 2).get, s5.get] <;> omega) | omega) only [go_sem, simprocAttr, q', s4.get, (s4.front 2).get, s5.get]
        exact hR _ _ ⟨rfl, ((s5.tail.tail.front 2).drop2)⟩
    · rw [if_pos q] at hR
      obtain ⟨z, hz⟩ : ∃ z, IntKind.i64.wrap ((BitVec.ofInt IntKind.i64.bits l.Rights &&& BitVec.ofInt IntKind.i64.bits w).toNat : Int) = z := ⟨_, rfl⟩
      have hne : ¬ z = 0 := by rw [← hz]; exact q
      simp (maxSteps := 2000000) (disch := first | (simp only [go_sem, simprocAttr, (s2.front 2).get, ↓hz, hne] <;> omega) | omega) only [go_sem, simprocAttr, (s2.front 2).get, ↓hz, hne]
      refine (isRight_S w hw).mono ?_
      rintro v h3 ⟨rfl, rfl⟩
      have s4 := (s2.front 1).set (.cells okF.cells.toArray 47 (0, 0))
      simp only [Flt.cells_eq, okF] at s4
      simp (maxSteps := 2000000) (disch := first | (simp only [go_sem, simprocAttr, (s2.front 1).get, s4.get] <;> omega) | omega) only [go_sem, simprocAttr, (s2.front 1).get, s4.get]
      exact hR _ _ ⟨rfl, ((s4.tail.front 2).drop2)⟩
end
end Go.Eng
/-
  package cpu: low, Space.
-/
namespace Go.Eng
open Go Go.Proofs
structure Cp.fit (c : Cp) : Prop where
  lr : c.Regs.length = 16
  ls : c.Sys.length = 8
  br : ∀ x ∈ c.Regs, 0 ≤ x ∧ x < 4294967296
  bs : ∀ x ∈ c.Sys, 0 ≤ x ∧ x < 4294967296
  p1 : -9223372036854775808 ≤ c.Pc
  p2 : c.Pc ≤ 9223372036854775807
theorem Cp.len {c : Cp} (f : c.fit) : c.cells.length = 25 := by simp [Cp.cells, f.lr, f.ls]
theorem Cp.reg {c : Cp} (f : c.fit) {i : Nat} (hi : i < 16) : c.cells[i]? = some (.int .u32 (rg c i)) := by
  unfold Cp.cells rg
  rw [List.getElem?_append_left (by simp [f.lr, hi]), List.getElem?_map, List.getElem?_eq_getElem (by rw [f.lr]; exact hi), Int.toNat_natCast, List.getD_eq_getElem?_getD, List.getElem?_eq_getElem (by rw [f.lr]; exact hi)]
  rfl
theorem Cp.pc {c : Cp} (f : c.fit) : c.cells[16]? = some (.int .i64 c.Pc) := by
  unfold Cp.cells
  rw [List.getElem?_append_right (by simp [f.lr])]
  simp [f.lr]
theorem Cp.sys {c : Cp} (f : c.fit) {i : Nat} (hi : i < 8) : c.cells[17 + i]? = some (.int .u32 (sy c i)) := by
  unfold Cp.cells sy
  rw [List.getElem?_append_right (by simp [f.lr]; omega), List.length_map, f.lr, show 17 + i - 16 = i + 1 by omega, List.getElem?_cons_succ, List.getElem?_map, List.getElem?_eq_getElem (by rw [f.ls]; exact hi), Int.toNat_natCast, List.getD_eq_getElem?_getD, List.getElem?_eq_getElem (by rw [f.ls]; exact hi)]
  rfl
theorem rg_bd {c : Cp} (f : c.fit) {i : Int} (h0 : 0 ≤ i) (h1 : i < 16) : 0 ≤ rg c i ∧ rg c i < 4294967296 := by
  unfold rg
  rw [List.getD_eq_getElem?_getD, List.getElem?_eq_getElem (by rw [f.lr]; omega)]
  exact f.br _ (List.getElem_mem _)
theorem sy_bd {c : Cp} (f : c.fit) {i : Int} (h0 : 0 ≤ i) (h1 : i < 8) : 0 ≤ sy c i ∧ sy c i < 4294967296 := by
  unfold sy
  rw [List.getD_eq_getElem?_getD, List.getElem?_eq_getElem (by rw [f.ls]; omega)]
  exact f.bs _ (List.getElem_mem _)
theorem Cp.single {c : Cp} : ∀ x ∈ c.cells, single x = true := by
  intro x hx
  unfold Cp.cells at hx
  rcases List.mem_append.1 hx with q | q
  · obtain ⟨y, -, rfl⟩ := List.mem_map.1 q; rfl
  · rcases List.mem_cons.1 q with rfl | q
    · rfl
    · obtain ⟨y, -, rfl⟩ := List.mem_map.1 q; rfl
section
variable {h : Heap} {F : List SP}
theorem low_S (w : Nat) (hw : w < 4294967296) : HCalls Tryz.prog 75 #[.int .u32 w] h fun v h' => v = .int .i64 (w % 65536 : Nat) ∧ h' = h := by
  refine HCalls.via fun R hR => ?_
  refine HCalls.of_dev T75 Tryz.func75 rfl mixed (by kernel_rfl) ?_; rw [Tryz.results75]
  have b := bits_16 hw
  simp (maxSteps := 2000000) (disch := first | (simp only [go_sem, simprocAttr, ↓b] <;> omega) | omega) only [go_sem, simprocAttr, ↓b]
  exact hR _ _ ⟨rfl, rfl⟩
def vvOk (vv : Value) (g : Bool) : Prop := (g = false ∧ vv = .pointer none) ∨ (g = true ∧ ∃ a, vv = .pointer (some a))
theorem bits_10 {n : Nat} (hn : n < 4294967296) : (BitVec.ofInt IntKind.u32.bits (n : Int) &&& BitVec.ofInt IntKind.u32.bits 1023).toNat = n % 1024 := by
  show (BitVec.ofInt 32 (n : Int) &&& BitVec.ofInt 32 1023).toNat = n % 1024
  rw [show (BitVec.ofInt 32 1023) = BitVec.ofNat 32 1023 from rfl, BitVec.toNat_and, BitVec.ofInt_natCast, BitVec.toNat_ofNat, BitVec.toNat_ofNat, Nat.mod_eq_of_lt (by omega)]
  exact Nat.and_two_pow_sub_one_eq_mod n 10
theorem space_S (c : Cp) (f : c.fit) (vr vt vv : Value) (g : Bool) (hv : vvOk vv g) (vm se : Int) :
    HCalls Tryz.prog 23 #[.agg #[vr, vt, vv], .agg c.cells.toArray, .int .i64 vm, .int .i64 se] h fun v h' => v = .agg (spaceP g c vm se).cells.toArray ∧ Ext h h' := by
  refine HCalls.via fun R hR => ?_
  have z0 := ((((Sat.init h).push (.cells #[vr, vt, vv] 36 (0, 0))).push (.cells c.cells.toArray 30 (0, 0))).push (.cells #[.int .i64 0, .int .i64 0, .int .i64 0, .int .i64 0] 78 (0, 0))).push (.cells #[.int .i64 0, .int .i64 0, .int .i64 0, .int .i64 0] 78 (0, 0))
  simp only [size_push'] at z0
  have e0 := z0.set (.cells #[.int .i64 vm, .int .i64 0, .int .i64 (-1), .int .i64 se] 78 (0, 0))
  have n17 : nthL c.cells 17 = some (.int .u32 (sy c 0)) := by rw [nthL_eq]; exact Cp.sys f (i := 0) (by omega)
  have n18 : nthL c.cells 18 = some (.int .u32 (sy c 1)) := by rw [nthL_eq]; exact Cp.sys f (i := 1) (by omega)
  obtain ⟨b1, b2⟩ := sy_bd f (i := 0) (by omega) (by omega)
  obtain ⟨b3, b4⟩ := sy_bd f (i := 1) (by omega) (by omega)
  unfold spaceP at hR
  generalize sy c 0 = x at *
  generalize sy c 1 = y at *
  obtain ⟨x, rfl⟩ := Int.eq_ofNat_of_zero_le b1
  obtain ⟨y, rfl⟩ := Int.eq_ofNat_of_zero_le b3
  have k1 : (x : Int).fdiv (2 ^ min 31 32) = ((x / 2147483648 : Nat) : Int) := shr x 31
  have k2 := bits_10 (n := x) (by omega)
  have k3 := bits_15 (n := y) (by omega)
  refine HCalls.of_dev T23 Tryz.func23 rfl mixed (by kernel_rfl) ?_; rw [Tryz.results23]
  rcases hv with ⟨rfl, rfl⟩ | ⟨rfl, a, rfl⟩
  · rw [if_neg (by simp)] at hR
    have e1 := (e0.front 1).set (.cells #[.int .i64 vm, .int .i64 0, .int .i64 (-1), .int .i64 se] 78 (0, 0))
    simp (maxSteps := 2000000) (disch := first | (simp only [go_sem, simprocAttr, z0.get, (e0.front 3).get, e0.get, (e0.front 1).get, e1.get] <;> omega) | omega) only [go_sem, simprocAttr, z0.get, (e0.front 3).get, e0.get, (e0.front 1).get, e1.get]
    exact rdK_any fun _ => rdK_any fun _ => rdK_any fun _ => hR _ _ ⟨rfl, (e1.front 4).ext⟩
  · by_cases q : x / 2147483648 = 1
    · rw [if_pos ⟨rfl, by omega⟩] at hR
      have q1 : ((x / 2147483648 : Nat) : Int) = 1 := by omega
      have e1 := e0.set (.cells #[.int .i64 vm, .int .i64 0, .int .i64 (x % 1024 : Nat), .int .i64 se] 78 (0, 0))
      have e2 := e1.set (.cells #[.int .i64 vm, .int .i64 (y % 16 : Nat), .int .i64 (x % 1024 : Nat), .int .i64 se] 78 (0, 0))
      have e3 := (e2.front 1).set (.cells #[.int .i64 vm, .int .i64 (y % 16 : Nat), .int .i64 (x % 1024 : Nat), .int .i64 se] 78 (0, 0))
      simp (maxSteps := 2000000) (disch := first | (simp only [go_sem, simprocAttr, z0.get, (e0.front 3).get, e0.get, (e0.front 2).get, k1, q1, n17, n18, ↓k2, ↓k3, e1.get, (e1.front 2).get, e2.get, (e2.front 1).get, e3.get] <;> omega) | omega) only [go_sem, simprocAttr, z0.get, (e0.front 3).get, e0.get, (e0.front 2).get, k1, q1, n17, n18, ↓k2, ↓k3, e1.get, (e1.front 2).get, e2.get, (e2.front 1).get, e3.get]
      exact hR _ _ ⟨rfl, (e3.front 4).ext⟩
    · rw [if_neg (by rintro ⟨-, z⟩; omega)] at hR
      have q1 : ¬ ((x / 2147483648 : Nat) : Int) = 1 := by omega
      have e1 := (e0.front 1).set (.cells #[.int .i64 vm, .int .i64 0, .int .i64 (-1), .int .i64 se] 78 (0, 0))
      simp (maxSteps := 2000000) (disch := first | (simp only [go_sem, simprocAttr, z0.get, (e0.front 3).get, e0.get, (e0.front 2).get, k1, q1, n17, (e0.front 1).get, e1.get] <;> omega) | omega) only [go_sem, simprocAttr, z0.get, (e0.front 3).get, e0.get, (e0.front 2).get, k1, q1, n17, (e0.front 1).get, e1.get]
      exact hR _ _ ⟨rfl, (e1.front 4).ext⟩
end
end Go.Eng
/-
  package cpu: reach, fetch, undefined.
-/
namespace Go.Eng
open Go Go.Proofs
theorem z4 : (0 : Int) ≤ 0 ∧ (0 : Int) < 1024 ∧ (0 : Int) ≤ 0 ∧ (0 : Int) ≤ 7 := by decide
theorem z2 : (0 : Int) ≤ 0 ∧ (0 : Int) < 1024 := by decide
theorem decE_bd (w : Int) : 0 ≤ (decE w).1.F ∧ (decE w).1.F < 1024 ∧ 0 ≤ (decE w).1.R ∧ (decE w).1.R ≤ 7 := by
  unfold decE
  split
  · exact z4
  · rename_i q
    have r : rightE (decE0 w) = true := by
      cases hr : rightE (decE0 w) with
      | true => rfl
      | false => rw [hr] at q; simp at q
    obtain ⟨a, b, c, d, -⟩ := rightE_B r
    exact ⟨a, b, c, d⟩
theorem getE_bd (n : Nat) (mem : Nat → Int) (t i : Int) : 0 ≤ (getE n mem t i).1.F ∧ (getE n mem t i).1.F < 1024 ∧ 0 ≤ (getE n mem t i).1.R ∧ (getE n mem t i).1.R ≤ 7 := by
  unfold getE
  split
  · exact z4
  · exact decE_bd _
theorem stepE_bd (n : Nat) (mem : Nat → Int) (t p l : Int) : 0 ≤ (stepE n mem t p l).1.F ∧ (stepE n mem t p l).1.F < 1024 ∧ 0 ≤ (stepE n mem t p l).1.R ∧ (stepE n mem t p l).1.R ≤ 7 := by
  unfold stepE
  split
  · exact z4
  · split
    · exact getE_bd _ _ _ _
    · exact z4
theorem sgW_bd (n : Nat) (mem : Nat → Int) (t p : Int) : 0 ≤ (sgW n mem t p).Fr ∧ (sgW n mem t p).Fr < 1024 ∧ 0 ≤ (sgW n mem t p).Ri ∧ (sgW n mem t p).Ri ≤ 7 := by
  unfold sgW
  split
  · exact z4
  · split
    · exact z4
    · split
      · exact z4
      · exact stepE_bd _ _ _ _ _
theorem seW_bd (n : Nat) (mem : Nat → Int) (t p w : Int) : 0 ≤ (seW n mem t p w).Fr ∧ (seW n mem t p w).Fr < 1024 ∧ 0 ≤ (seW n mem t p w).Ri ∧ (seW n mem t p w).Ri ≤ 7 := by
  unfold seW
  split
  · exact z4
  · split
    · exact z4
    · exact sgW_bd _ _ _ _
theorem neW_bd (n : Nat) (mem : Nat → Int) (s : Spc) (p w : Int) : 0 ≤ (neW n mem s p w).Fr ∧ (neW n mem s p w).Fr < 1024 := by
  unfold neW
  split
  · exact z2
  · split
    · exact ⟨(seW_bd _ _ _ _ _).1, (seW_bd _ _ _ _ _).2.1⟩
    · split
      · exact z2
      · split
        · exact z2
        · exact ⟨(seW_bd _ _ _ _ _).1, (seW_bd _ _ _ _ _).2.1⟩
theorem rightL_F {l : Ln} (r : rightL l = true) : 0 ≤ l.Frame ∧ l.Frame < 1024 := by
  unfold rightL inR at r
  simp only [Bool.and_eq_true, decide_eq_true_eq] at r
  omega
theorem reachW_bd (n : Nat) (mem : Nat → Int) (T : List Ln) (s : Spc) (p w a : Int) : 0 ≤ (reachW n mem T s p w a).Fr ∧ (reachW n mem T s p w a).Fr < 1024 := by
  unfold reachW
  split
  · exact z2
  · exact neW_bd _ _ _ _ _
theorem reach_bd (n : Nat) (mem : Nat → Int) {T : List Ln} (hT : ∀ l ∈ T, okL l) (s : Spc) (p w a : Int) : 0 ≤ (reach n mem T s p w a).Fr ∧ (reach n mem T s p w a).Fr < 1024 := by
  unfold reach
  split
  · rename_i l hl
    split
    · unfold findT at hl
      have hm := List.mem_of_find?_eq_some hl
      have hk := List.find?_some hl
      rcases hT l hm with rfl | r
      · simp [keyL] at hk
      · exact rightL_F r
    · exact reachW_bd _ _ _ _ _ _ _
  · exact reachW_bd _ _ _ _ _ _ _
def turnL (vr vt vv : Value) (cb : Nat) (i : Ins) (w : Int) (s : Spc) (at_ next : Int) (g : Bool) : List Value :=
  [vr, vt, vv, .pointer (some ⟨cb, 0, none⟩), .int .i64 i.Op, .int .i64 i.A, .int .i64 i.B, .int .i64 i.C, .int .i64 i.I, .int .u32 w, .int .i64 s.Vmid, .int .i64 s.Asid, .int .i64 s.First, .int .i64 s.Second, .int .i64 at_, .int .i64 next, .bool g]
section
variable {h : Heap} {F : List SP} {rb n tb xb cb : Nat} {mem : Nat → Int} {T : List Ln} {vv : Value} {i : Ins} {w : Int} {s : Spc} {at_ next : Int} {g : Bool} {ty : TypeId}
theorem reachC_S (hs : Sat h (cellAt xb (.cells (turnL (.pointer (some ⟨rb, 0, none⟩)) (.pointer (some ⟨tb, 0, none⟩)) vv cb i w s at_ next g).toArray ty (0, 0)) :: ramS rb n mem :: tlbS tb T :: F)) (a : Nat) (ha : a < 65536) (want : Int) (hw : want = 1 ∨ want = 2 ∨ want = 4) :
    HCalls Tryz.prog 72 #[.pointer (some ⟨xb, 0, none⟩), .int .i64 a, .int .i64 want] h fun v h' =>
      (∃ r, v = .tuple #[.int .i64 r, .agg (reachC n mem T s a want at_).f.cells.toArray] ∧ ((reachC n mem T s a want at_).f.K = 0 → r = (reachC n mem T s a want at_).at_)) ∧
      Sat h' (cellAt xb (.cells (turnL (.pointer (some ⟨rb, 0, none⟩)) (.pointer (some ⟨tb, 0, none⟩)) vv cb i w s at_ next g).toArray ty (0, 0)) :: ramS rb n mem :: tlbS tb (reachC n mem T s a want at_).T :: F) := by
  refine HCalls.via fun R hR => ?_
  have s1 := hs.push (.cells okF.cells.toArray 47 (0, 0))
  have g0 := (s1.front 1).get
  simp only [Flt.cells_eq, okF] at s1 g0
  simp only [turnL] at g0
  have e64 : ((a : Int)).tdiv 64 = ((a / 64 : Nat) : Int) := by rw [Int.tdiv_eq_ediv_of_nonneg (by omega)]; rfl
  refine HCalls.of_dev T72 Tryz.func72 rfl mixed (by kernel_rfl) ?_; rw [Tryz.results72]
  simp (maxSteps := 2000000) (disch := first | (simp only [go_sem, simprocAttr, g0, e64] <;> omega) | omega) only [go_sem, simprocAttr, g0, e64]
  obtain ⟨⟨-, hTok⟩, -⟩ := tlbS_iff.1 (hs.front 2)
  have bd := reach_bd n mem hTok s ((a / 64 : Nat) : Int) want at_
  have em : ((a : Int)).tmod 64 = ((a % 64 : Nat) : Int) := by rw [Int.tmod_eq_emod_of_nonneg (by omega)]; rfl
  have rS := fun (A : List SP) (h : Heap) (q : Sat h (ramS rb n mem :: tlbS tb T :: A)) => reach_S q s ((a / 64 : Nat) : Int) want at_ hw
  have s1b := s1.push (.cells okF.cells.toArray 47 (0, 0))
  simp only [Flt.cells_eq, okF, size_push'] at s1b
  unfold reachC at hR
  rw [show (a : Int) / 64 = ((a / 64 : Nat) : Int) from rfl] at hR
  generalize reach n mem T s ((a / 64 : Nat) : Int) want at_ = r at *
  obtain ⟨fr, f, T2⟩ := r
  simp only at hR bd rS
  refine ⟨?_, ?_⟩
  · refine (rS _ _ ((s1.front 3).front 3)).mono ?_
    rintro v h2 ⟨rfl, s2⟩
    have s3 := s2.push (.cells f.cells.toArray 47 (0, 0))
    simp only [Flt.cells_eq] at s3
    by_cases q : f.K = 0
    · rw [q] at s3
      have g1 := (s3.front 4).get
      simp only [turnL] at g1
      simp (maxSteps := 2000000) (disch := first | (simp only [go_sem, simprocAttr, q, s3.get, g1] <;> omega) | omega) only [go_sem, simprocAttr, q, s3.get, g1]
      refine (frames_S (s3.front 1)).mono ?_
      rintro v h4 ⟨rfl, rfl⟩
      by_cases q2 : (n : Int) ≤ fr
      · rw [if_pos ⟨q, q2⟩] at hR
        have s4 := s2.push (.cells (⟨3, 0, 0, false, 0⟩ : Flt).cells.toArray 47 (0, 0))
        have s5 := (s4.front 3).set (.cells (⟨3, 0, 0, false, 0⟩ : Flt).cells.toArray 47 (0, 0))
        simp only [Flt.cells_eq] at s4 s5
        simp (maxSteps := 2000000) (disch := first | (simp only [go_sem, simprocAttr, q2, s3.get, s4.get, (s4.front 3).get, s5.get] <;> omega) | omega) only [go_sem, simprocAttr, q2, s3.get, s4.get, (s4.front 3).get, s5.get]
        exact hR _ _ ⟨⟨_, rfl, fun z => by cases z⟩, (s5.tail.tail.front 2)⟩
      · rw [if_neg (fun z => q2 z.2)] at hR
        have s5 := (s3.front 3).set (.cells f.cells.toArray 47 (0, 0))
        simp only [Flt.cells_eq] at s5
        rw [q] at s5
        simp (maxSteps := 2000000) (disch := first | (simp only [go_sem, simprocAttr, q2, q, s3.get, (s3.front 3).get, s5.get] <;> omega) | omega) only [go_sem, simprocAttr, q2, q, s3.get, (s3.front 3).get, s5.get]
        exact hR _ _ ⟨⟨_, by rw [← q]; rfl, fun _ => rfl⟩, (s5.tail.tail.front 2)⟩
    · rw [if_neg (fun z => q z.1)] at hR
      have s5 := (s3.front 3).set (.cells f.cells.toArray 47 (0, 0))
      simp only [Flt.cells_eq] at s5
      simp (maxSteps := 2000000) (disch := first | (simp only [go_sem, simprocAttr, q, s3.get, (s3.front 3).get, s5.get] <;> omega) | omega) only [go_sem, simprocAttr, q, s3.get, (s3.front 3).get, s5.get]
      exact rdK_any fun _ => rdK_any fun _ => hR _ _ ⟨⟨_, rfl, fun z => absurd z q⟩, (s5.tail.tail.front 2)⟩
  · have g0b := (s1b.front 2).get
    simp only [turnL] at g0b
    simp (maxSteps := 2000000) (disch := first | (simp only [go_sem, simprocAttr, g0b] <;> omega) | omega) only [go_sem, simprocAttr, g0b]
    refine (rS _ _ ((s1b.front 4).front 4)).mono ?_
    rintro v h2 ⟨rfl, s2⟩
    have s2c := s2.front 2
    have s3 := s2c.set (.cells f.cells.toArray 47 (0, 0))
    simp only [Flt.cells_eq] at s3
    simp (maxSteps := 2000000) (disch := first | (simp only [go_sem, simprocAttr, s2c.get] <;> omega) | omega) only [go_sem, simprocAttr, s2c.get]
    by_cases q : f.K = 0
    · rw [q] at s3
      have g1 := (s3.front 4).get
      simp only [turnL] at g1
      simp (maxSteps := 2000000) (disch := first | (simp only [go_sem, simprocAttr, q, s3.get, g1] <;> omega) | omega) only [go_sem, simprocAttr, q, s3.get, g1]
      refine (frames_S (s3.front 1)).mono ?_
      rintro v h4 ⟨rfl, rfl⟩
      by_cases q2 : (n : Int) ≤ fr
      · rw [if_pos ⟨q, q2⟩] at hR
        have s4 := s3.set (.cells (⟨3, 0, 0, false, 0⟩ : Flt).cells.toArray 47 (0, 0))
        have s5 := (s4.front 3).set (.cells (⟨3, 0, 0, false, 0⟩ : Flt).cells.toArray 47 (0, 0))
        simp only [Flt.cells_eq] at s4 s5
        simp (maxSteps := 2000000) (disch := first | (simp only [go_sem, simprocAttr, q2, s3.get, s4.get, (s4.front 3).get, s5.get] <;> omega) | omega) only [go_sem, simprocAttr, q2, s3.get, s4.get, (s4.front 3).get, s5.get]
        exact hR _ _ ⟨⟨_, rfl, fun z => by cases z⟩, (s5.tail.tail.front 2)⟩
      · rw [if_neg (fun z => q2 z.2)] at hR
        have s5 := (s3.front 3).set (.cells f.cells.toArray 47 (0, 0))
        simp only [Flt.cells_eq] at s5
        rw [q] at s5
        simp (maxSteps := 2000000) (disch := first | (simp only [go_sem, simprocAttr, q2, q, s3.get, (s3.front 3).get, s5.get] <;> omega) | omega) only [go_sem, simprocAttr, q2, q, s3.get, (s3.front 3).get, s5.get]
        exact hR _ _ ⟨⟨_, by rw [← q]; rfl, fun _ => rfl⟩, (s5.tail.tail.front 2)⟩
    · rw [if_neg (fun z => q z.1)] at hR
      have s5 := (s3.front 3).set (.cells f.cells.toArray 47 (0, 0))
      simp only [Flt.cells_eq] at s5
      simp (maxSteps := 2000000) (disch := first | (simp only [go_sem, simprocAttr, q, s3.get, (s3.front 3).get, s5.get] <;> omega) | omega) only [go_sem, simprocAttr, q, s3.get, (s3.front 3).get, s5.get]
      exact rdK_any fun _ => rdK_any fun _ => hR _ _ ⟨⟨_, rfl, fun z => absurd z q⟩, (s5.tail.tail.front 2)⟩
end
end Go.Eng
