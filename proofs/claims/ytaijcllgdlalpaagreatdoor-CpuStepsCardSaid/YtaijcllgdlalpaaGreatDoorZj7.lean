/-
  package isa: Right.
-/
import Derived.Test.YtaijcllgdlalpaaGreatDoorZj6
import Derived.Test.YtaijcllgdlalpaaGreatDoorZj3
import Derived.Test.YtaijcllgdlalpaaGreatDoorZj4
set_option linter.unusedSimpArgs false
set_option linter.unusedVariables false
set_option maxRecDepth 16000
set_option maxHeartbeats 4000000
namespace Go.Eng
open Go Go.Proofs
def inB (n m : Int) : Bool := decide (0 ≤ n) && decide (n < m)
def stepR (i : Ins) (p : Bool × Ins) (b : UInt8) : Bool × Ins :=
  if b.toNat = 97 then (p.1 && inB i.A 16, { p.2 with A := 0 }) else if b.toNat = 98 then (p.1 && inB i.B 16, { p.2 with B := 0 }) else if b.toNat = 99 then (p.1 && inB i.C 16, { p.2 with C := 0 })
  else if b.toNat = 105 then (p.1 && inB i.I 65536, { p.2 with I := 0 }) else p
def foldR (i : Ins) (k : ByteArray) (j : Nat) : Bool × Ins := (k.data.toList.take j).foldl (stepR i) (neB k, { i with Op := 0 })
theorem foldR_succ (i : Ins) (k : ByteArray) (j : Nat) (hj : j < k.size) : foldR i k (j + 1) = stepR i (foldR i k j) (k.data[j]'hj) := by
  unfold foldR
  rw [List.take_succ_eq_append_getElem (by simpa using hj), List.foldl_append]
  rfl
theorem kd_ascii : ∀ o : Nat, o < 26 → (kd o).data.toList.all (fun b => decide (b.toNat < 128)) = true := by decide +kernel
theorem kd_asc (op : Int) {j : Nat} (hj : j < (kd op).size) : ((kd op).data[j]'hj).toNat < 128 := by
  have : (kd op).data.toList.all (fun b => decide (b.toNat < 128)) = true := by
    by_cases c : 1 ≤ op ∧ op ≤ 25
    · obtain ⟨o, rfl⟩ := Int.eq_ofNat_of_zero_le (show 0 ≤ op by omega)
      exact kd_ascii o (by omega)
    · rw [kd_out c]; rfl
  have := List.all_eq_true.1 this _ (Array.getElem_mem_toList hj)
  exact of_decide_eq_true this
theorem decode_ascii {k : ByteArray} {j : Nat} (hj : j < k.size) (ha : (k.data[j]'hj).toNat < 128) : Utf8.decode k j = ((k.data[j]'hj).toNat, 1) := by
  have e : k.get! (j + 0) = k.data[j]'hj := by
    rw [Nat.add_zero]
    exact getElem!_pos k.data j hj
  unfold Utf8.decode
  simp only [e]
  rw [if_pos ha]
section
variable {h : Heap}
theorem iright_S (i : Ins) : HCalls Tryz.prog 117 #[.agg i.cells.toArray] h fun v h' => v = .bool ((foldR i (kd i.Op) (kd i.Op).size).1 && decide ((foldR i (kd i.Op) (kd i.Op).size).2 = ⟨0, 0, 0, 0, 0⟩)) ∧ Ext h h' := by
  refine HCalls.via fun R hR => ?_
  have hk := kd_size i.Op
  have hasc := fun j hj => kd_asc i.Op (j := j) hj
  refine HCalls.of_dev T117 Tryz.func117 rfl mixed (by kernel_rfl) ?_; rw [Tryz.results117]
  simp (maxSteps := 2000000) (disch := first | (simp only [go_sem, simprocAttr] <;> omega) | omega) only [go_sem, simprocAttr]
  have s1 := ((Sat.init h).push (.cells i.cells.toArray 84 (0, 0))).push (.cells ({ i with Op := 0 } : Ins).cells.toArray 84 (0, 0))
  simp only [Ins.cells_eq, size_push'] at s1
  refine (kindK_S i.Op).mono ?_
  rintro v h1 ⟨rfl, x1⟩
  have s2 := s1.grow x1
  simp (maxSteps := 2000000) (disch := first | (simp only [go_sem, simprocAttr, s2.get, (s2.front 1).get] <;> omega) | omega) only [go_sem, simprocAttr, s2.get, (s2.front 1).get]
  refine (kindK_S i.Op).mono ?_
  rintro v h2 ⟨rfl, x2⟩
  have s3 := s2.grow x2
  simp (maxSteps := 2000000) (disch := first | (simp only [go_sem, simprocAttr] <;> omega) | omega) only [go_sem, simprocAttr]
  rw [runH_rangeStr isStr_9]
  have s4 := s3.push (.stringIter (kd i.Op) 0)
  generalize kd i.Op = k at *
  simp (maxSteps := 2000000) (disch := first | (simp only [go_sem, simprocAttr] <;> omega) | omega) only [go_sem, simprocAttr]
  refine loopH.intro (fun j : Nat => (.cons 1 (.pointer (some ⟨h.size, 0, none⟩)) true (.cons 3 (.pointer (some ⟨h.size + 1, 0, none⟩)) true (.cons 4 (.bool (foldR i k j).1) true (.cons 16 (.pointer (some ⟨h2.size, 0, none⟩)) true .nil)))))
    (fun j k2 => Sat k2 [cellAt h2.size (.stringIter k j), cellAt (h.size + 1) (.cells (foldR i k j).2.cells.toArray 84 (0, 0)), cellAt h.size (.cells i.cells.toArray 84 (0, 0)), oldS h] ∧ j ≤ k.size) (fun j _ => k.size + 1 - j) 0 ?_ ⟨s4, by omega⟩ ?_
  · simp (maxSteps := 2000000) (disch := first | (simp only [go_sem, simprocAttr] <;> omega) | omega) only [go_sem, simprocAttr]; try rfl
  clear s1 s2 s3 s4
  rintro j h3 ⟨s, hj⟩
  simp (maxSteps := 2000000) (disch := first | (simp only [go_sem, simprocAttr] <;> omega) | omega) only [go_sem, simprocAttr]
  refine runH_nextStr s.get (fun hp => ?_) (fun hp => ?_)
  · obtain rfl : j = k.size := by omega
    generalize foldR i k k.size = p at *
    obtain ⟨f, n⟩ := p
    have e0 : decide (n = ⟨0, 0, 0, 0, 0⟩) = (decide (n.Op = 0) && (decide (n.A = 0) && (decide (n.B = 0) && (decide (n.C = 0) && decide (n.I = 0))))) := by
      obtain ⟨_, _, _, _, _⟩ := n
      simp only [Ins.mk.injEq, Bool.decide_and]
    simp only [e0] at hR
    cases f with
    | true =>
      simp (maxSteps := 2000000) (disch := first | (simp only [go_sem, simprocAttr, s.get, (s.front 1).get, eqls_84] <;> omega) | omega) only [go_sem, simprocAttr, s.get, (s.front 1).get, eqls_84]
      refine hR _ _ ⟨?_, s.front 3 |>.ext⟩
      simp
    | false =>
      simp (maxSteps := 2000000) (disch := first | (simp only [go_sem, simprocAttr, s.get, (s.front 1).get, eqls_84] <;> omega) | omega) only [go_sem, simprocAttr, s.get, (s.front 1).get, eqls_84]
      exact hR _ _ ⟨rfl, s.front 3 |>.ext⟩
  · rw [decode_ascii hp (hasc j hp)]
    have s5 := s.set (.stringIter k (j + 1))
    have hs := foldR_succ i k j hp
    generalize k.data[j] = b at *
    generalize foldR i k j = p at *
    obtain ⟨f, n⟩ := p
    by_cases e1 : ((b.toNat : Nat) : Int) = 97
    · have hs2 : foldR i k (j + 1) = (f && inB i.A 16, { n with A := 0 }) := by rw [hs]; unfold stepR; rw [if_pos (by omega)]
      cases f with
      | true =>
        simp (maxSteps := 2000000) (disch := first | (simp only [go_sem, simprocAttr, e1, s5.get, (s5.front 1).get, (s5.front 2).get] <;> omega) | omega) only [go_sem, simprocAttr, e1, s5.get, (s5.front 1).get, (s5.front 2).get]
        refine (within_S i.A 16).mono ?_
        rintro v h4 ⟨rfl, rfl⟩
        simp (maxSteps := 2000000) (disch := first | (simp only [go_sem, simprocAttr, s5.get, (s5.front 1).get, (s5.front 2).get] <;> omega) | omega) only [go_sem, simprocAttr, s5.get, (s5.front 1).get, (s5.front 2).get]
        exact ⟨j + 1, by simp only [hs2]; rfl, ⟨by simp only [hs2]; exact (s5.swap.set _).swap, by omega⟩, by simp only; omega⟩
      | false =>
        simp (maxSteps := 2000000) (disch := first | (simp only [go_sem, simprocAttr, e1, s5.get, (s5.front 1).get, (s5.front 2).get] <;> omega) | omega) only [go_sem, simprocAttr, e1, s5.get, (s5.front 1).get, (s5.front 2).get]
        exact ⟨j + 1, by simp only [hs2]; rfl, ⟨by simp only [hs2]; exact (s5.swap.set _).swap, by omega⟩, by simp only; omega⟩
    by_cases e2 : ((b.toNat : Nat) : Int) = 98
    · have hs2 : foldR i k (j + 1) = (f && inB i.B 16, { n with B := 0 }) := by rw [hs]; unfold stepR; rw [if_neg (by omega)]; rw [if_pos (by omega)]
      cases f with
      | true =>
        simp (maxSteps := 2000000) (disch := first | (simp only [go_sem, simprocAttr, e1, e2, s5.get, (s5.front 1).get, (s5.front 2).get] <;> omega) | omega) only [go_sem, simprocAttr, e1, e2, s5.get, (s5.front 1).get, (s5.front 2).get]
        refine (within_S i.B 16).mono ?_
        rintro v h4 ⟨rfl, rfl⟩
        simp (maxSteps := 2000000) (disch := first | (simp only [go_sem, simprocAttr, s5.get, (s5.front 1).get, (s5.front 2).get] <;> omega) | omega) only [go_sem, simprocAttr, s5.get, (s5.front 1).get, (s5.front 2).get]
        exact ⟨j + 1, by simp only [hs2]; rfl, ⟨by simp only [hs2]; exact (s5.swap.set _).swap, by omega⟩, by simp only; omega⟩
      | false =>
        simp (maxSteps := 2000000) (disch := first | (simp only [go_sem, simprocAttr, e1, e2, s5.get, (s5.front 1).get, (s5.front 2).get] <;> omega) | omega) only [go_sem, simprocAttr, e1, e2, s5.get, (s5.front 1).get, (s5.front 2).get]
        exact ⟨j + 1, by simp only [hs2]; rfl, ⟨by simp only [hs2]; exact (s5.swap.set _).swap, by omega⟩, by simp only; omega⟩
    by_cases e3 : ((b.toNat : Nat) : Int) = 99
    · have hs2 : foldR i k (j + 1) = (f && inB i.C 16, { n with C := 0 }) := by rw [hs]; unfold stepR; rw [if_neg (by omega)]; rw [if_neg (by omega)]; rw [if_pos (by omega)]
      cases f with
      | true =>
        simp (maxSteps := 2000000) (disch := first | (simp only [go_sem, simprocAttr, e1, e2, e3, s5.get, (s5.front 1).get, (s5.front 2).get] <;> omega) | omega) only [go_sem, simprocAttr, e1, e2, e3, s5.get, (s5.front 1).get, (s5.front 2).get]
        refine (within_S i.C 16).mono ?_
        rintro v h4 ⟨rfl, rfl⟩
        simp (maxSteps := 2000000) (disch := first | (simp only [go_sem, simprocAttr, s5.get, (s5.front 1).get, (s5.front 2).get] <;> omega) | omega) only [go_sem, simprocAttr, s5.get, (s5.front 1).get, (s5.front 2).get]
        exact ⟨j + 1, by simp only [hs2]; rfl, ⟨by simp only [hs2]; exact (s5.swap.set _).swap, by omega⟩, by simp only; omega⟩
      | false =>
        simp (maxSteps := 2000000) (disch := first | (simp only [go_sem, simprocAttr, e1, e2, e3, s5.get, (s5.front 1).get, (s5.front 2).get] <;> omega) | omega) only [go_sem, simprocAttr, e1, e2, e3, s5.get, (s5.front 1).get, (s5.front 2).get]
        exact ⟨j + 1, by simp only [hs2]; rfl, ⟨by simp only [hs2]; exact (s5.swap.set _).swap, by omega⟩, by simp only; omega⟩
    by_cases e4 : ((b.toNat : Nat) : Int) = 105
    · have hs2 : foldR i k (j + 1) = (f && inB i.I 65536, { n with I := 0 }) := by rw [hs]; unfold stepR; rw [if_neg (by omega)]; rw [if_neg (by omega)]; rw [if_neg (by omega)]; rw [if_pos (by omega)]
      cases f with
      | true =>
        simp (maxSteps := 2000000) (disch := first | (simp only [go_sem, simprocAttr, e1, e2, e3, e4, s5.get, (s5.front 1).get, (s5.front 2).get] <;> omega) | omega) only [go_sem, simprocAttr, e1, e2, e3, e4, s5.get, (s5.front 1).get, (s5.front 2).get]
        refine (within_S i.I 65536).mono ?_
        rintro v h4 ⟨rfl, rfl⟩
        simp (maxSteps := 2000000) (disch := first | (simp only [go_sem, simprocAttr, s5.get, (s5.front 1).get, (s5.front 2).get] <;> omega) | omega) only [go_sem, simprocAttr, s5.get, (s5.front 1).get, (s5.front 2).get]
        exact ⟨j + 1, by simp only [hs2]; rfl, ⟨by simp only [hs2]; exact (s5.swap.set _).swap, by omega⟩, by simp only; omega⟩
      | false =>
        simp (maxSteps := 2000000) (disch := first | (simp only [go_sem, simprocAttr, e1, e2, e3, e4, s5.get, (s5.front 1).get, (s5.front 2).get] <;> omega) | omega) only [go_sem, simprocAttr, e1, e2, e3, e4, s5.get, (s5.front 1).get, (s5.front 2).get]
        exact ⟨j + 1, by simp only [hs2]; rfl, ⟨by simp only [hs2]; exact (s5.swap.set _).swap, by omega⟩, by simp only; omega⟩
    have hs2 : foldR i k (j + 1) = (f, n) := by rw [hs]; unfold stepR; rw [if_neg (by omega)]; rw [if_neg (by omega)]; rw [if_neg (by omega)]; rw [if_neg (by omega)]
    simp (maxSteps := 2000000) (disch := first | (simp only [go_sem, simprocAttr, e1, e2, e3, e4, s5.get] <;> omega) | omega) only [go_sem, simprocAttr, e1, e2, e3, e4, s5.get]
    exact ⟨j + 1, by simp only [hs2], ⟨by simp only [hs2]; exact s5, by omega⟩, by simp only; omega⟩
theorem kd_nine0 : ∀ o : Nat, o < 26 → (kd o).data = #[97, 105] ∨ (kd o).data = #[97, 98, 99] ∨ (kd o).data = #[97, 98, 105] ∨ (kd o).data = #[105] ∨ (kd o).data = #[98] ∨ (kd o).data = #[98, 105] ∨ (kd o).data = #[97] ∨ (kd o).data = #[45] ∨ (kd o).data = #[] := by decide +kernel
theorem kd_nine (op : Int) : kd op = ⟨#[97, 105]⟩ ∨ kd op = ⟨#[97, 98, 99]⟩ ∨ kd op = ⟨#[97, 98, 105]⟩ ∨ kd op = ⟨#[105]⟩ ∨ kd op = ⟨#[98]⟩ ∨ kd op = ⟨#[98, 105]⟩ ∨ kd op = ⟨#[97]⟩ ∨ kd op = ⟨#[45]⟩ ∨ kd op = ⟨#[]⟩ := by
  by_cases c : 1 ≤ op ∧ op ≤ 25
  · obtain ⟨o, rfl⟩ := Int.eq_ofNat_of_zero_le (show 0 ≤ op by omega)
    have := kd_nine0 o (by omega)
    generalize kd o = k at this
    cases k
    simpa only [ByteArray.mk.injEq] using this
  · rw [kd_out c]; exact .inr (.inr (.inr (.inr (.inr (.inr (.inr (.inr rfl)))))))
theorem foldR_all (i : Ins) (k : ByteArray) : foldR i k k.size = k.data.toList.foldl (stepR i) (neB k, { i with Op := 0 }) := by
  unfold foldR
  rw [show k.data.toList.take k.size = k.data.toList from List.take_of_length_le (Nat.le_of_eq Array.length_toList)]
theorem neB_eq (k : ByteArray) : neB k = !decide (k.data.toList = []) := by
  unfold neB
  rw [ByteArray.toList_eq, ByteArray.toList_eq]
  cases k.data.toList <;> rfl
theorem right_plain (i : Ins) : ((foldR i (kd i.Op) (kd i.Op).size).1 && decide ((foldR i (kd i.Op) (kd i.Op).size).2 = ⟨0, 0, 0, 0, 0⟩)) = rightI i := by
  have hc := kd_nine i.Op
  unfold rightI
  simp only [foldR_all, neB_eq, fieldP, hasB]
  generalize kd i.Op = k at *
  rw [Bool.eq_iff_iff]
  rcases hc with rfl | rfl | rfl | rfl | rfl | rfl | rfl | rfl | rfl
  all_goals simp [stepR, inB]
  all_goals omega
theorem right_S (i : Ins) : HCalls Tryz.prog 117 #[.agg i.cells.toArray] h fun v h' => v = .bool (rightI i) ∧ Ext h h' := by
  refine (iright_S i).mono ?_
  rintro v h' ⟨rfl, x⟩
  exact ⟨by rw [right_plain], x⟩
end
end Go.Eng
/-
  Encode.
-/
namespace Go.Eng
open Go Go.Proofs
def wordI (i : Ins) : Int := ((i.Op * 16 + i.A) * 16 + i.B) * 65536 + i.C + i.I
structure InB (i : Ins) : Prop where
  o1 : 1 ≤ i.Op
  o2 : i.Op ≤ 25
  a1 : 0 ≤ i.A
  a2 : i.A ≤ 15
  b1 : 0 ≤ i.B
  b2 : i.B ≤ 15
  c1 : 0 ≤ i.C
  c2 : i.C ≤ 15
  m1 : 0 ≤ i.I
  m2 : i.I ≤ 65535
  z : i.C = 0 ∨ i.I = 0
theorem rightI_B {i : Ins} (r : rightI i = true) : InB i := by
  have hc := kd_nine i.Op
  have ho : 1 ≤ i.Op ∧ i.Op ≤ 25 := by
    refine Classical.byContradiction fun c => ?_
    unfold rightI at r
    rw [kd_out c] at r
    simp [neB_eq] at r
  unfold rightI at r
  simp only [neB_eq, fieldP, hasB] at r
  generalize kd i.Op = k at *
  rcases hc with rfl | rfl | rfl | rfl | rfl | rfl | rfl | rfl | rfl
  all_goals simp at r
  all_goals exact ⟨by omega, by omega, by omega, by omega, by omega, by omega, by omega, by omega, by omega, by omega, by omega⟩
theorem or64 {x y : Int} (s k : Nat) (hx : x = (2 ^ k * s : Nat)) (h0 : 0 ≤ y) (hy : y < (2 ^ k : Nat)) (hb : x + y < 9223372036854775808) :
    IntKind.i64.wrap (((BitVec.ofInt 64 x ||| BitVec.ofInt 64 y).toNat : Nat) : Int) = x + y := by
  obtain ⟨n, rfl⟩ := Int.eq_ofNat_of_zero_le h0
  have hn : n < 2 ^ k := by omega
  have e : (BitVec.ofInt 64 x ||| BitVec.ofInt 64 (n : Int)).toNat = 2 ^ k * s + n := by
    rw [hx, BitVec.toNat_or, BitVec.ofInt_natCast, BitVec.ofInt_natCast, BitVec.toNat_ofNat, BitVec.toNat_ofNat, Nat.mod_eq_of_lt (by omega), Nat.mod_eq_of_lt (by omega)]
    exact (Nat.two_pow_add_eq_or_of_lt hn s).symm
  rw [e, w64_id (by omega) (by omega)]
  omega
theorem word_bits {i : Ins} (b : InB i) : IntKind.u32.wrap (IntKind.i64.wrap ↑(BitVec.ofInt 64 (IntKind.i64.wrap ↑(BitVec.ofInt 64 (IntKind.i64.wrap ↑(BitVec.ofInt 64 (IntKind.i64.wrap ↑(BitVec.ofInt 64 (IntKind.i64.wrap (i.Op * 2 ^ min 24 64)) ||| BitVec.ofInt 64 (IntKind.i64.wrap (i.A * 2 ^ min 20 64))).toNat) ||| BitVec.ofInt 64 (IntKind.i64.wrap (i.B * 2 ^ min 16 64))).toNat) ||| BitVec.ofInt 64 i.C).toNat) ||| BitVec.ofInt 64 i.I).toNat) = wordI i := by
  obtain ⟨op, a, bb, c, m⟩ := i
  obtain ⟨o1, o2, a1, a2, b1, b2, c1, c2, m1, m2, z⟩ := b
  simp only at *
  obtain ⟨op, rfl⟩ := Int.eq_ofNat_of_zero_le (show 0 ≤ op by omega)
  obtain ⟨a, rfl⟩ := Int.eq_ofNat_of_zero_le a1
  obtain ⟨bb, rfl⟩ := Int.eq_ofNat_of_zero_le b1
  obtain ⟨c, rfl⟩ := Int.eq_ofNat_of_zero_le c1
  rw [show (2 : Int) ^ min 24 64 = 16777216 from rfl, show (2 : Int) ^ min 20 64 = 1048576 from rfl, show (2 : Int) ^ min 16 64 = 65536 from rfl]
  rw [w64_id (a := (op : Int) * 16777216) (by omega) (by omega), w64_id (a := (a : Int) * 1048576) (by omega) (by omega), w64_id (a := (bb : Int) * 65536) (by omega) (by omega)]
  rw [or64 (x := (op : Int) * 16777216) (y := (a : Int) * 1048576) op 24 (by omega) (by omega) (by omega) (by omega)]
  rw [or64 (x := (op : Int) * 16777216 + (a : Int) * 1048576) (y := (bb : Int) * 65536) (op * 16 + a) 20 (by omega) (by omega) (by omega) (by omega)]
  rw [or64 (x := (op : Int) * 16777216 + (a : Int) * 1048576 + (bb : Int) * 65536) (y := (c : Int)) ((op * 16 + a) * 16 + bb) 16 (by omega) (by omega) (by omega) (by omega)]
  rcases z with z | z
  · rw [or64 (x := (op : Int) * 16777216 + (a : Int) * 1048576 + (bb : Int) * 65536 + (c : Int)) (y := m) ((op * 16 + a) * 16 + bb) 16 (by omega) (by omega) (by omega) (by omega), w32_id (by omega) (by omega)]
    simp only [wordI]
    omega
  · rw [or64 (x := (op : Int) * 16777216 + (a : Int) * 1048576 + (bb : Int) * 65536 + (c : Int)) (y := m) (((op * 16 + a) * 16 + bb) * 65536 + c) 0 (by omega) (by omega) (by omega) (by omega), w32_id (by omega) (by omega)]
    simp only [wordI]
    omega
def encV (i : Ins) : Value := if rightI i then .tuple #[.int .u32 (wordI i), .int .i64 0] else .tuple #[.int .u32 0, .int .i64 50]
section
variable {h : Heap}
theorem encode_S (i : Ins) : HCalls Tryz.prog 63 #[.agg i.cells.toArray] h fun v h' => v = encV i ∧ Ext h h' := by
  refine HCalls.via fun R hR => ?_
  refine HCalls.of_dev T63 Tryz.func63 rfl mixed (by kernel_rfl) ?_; rw [Tryz.results63]
  simp (maxSteps := 2000000) (disch := first | (simp only [go_sem, simprocAttr] <;> omega) | omega) only [go_sem, simprocAttr]
  have s1 := ((Sat.init h).push (.cells i.cells.toArray 84 (0, 0)))
  simp only [Ins.cells_eq] at s1
  refine (right_S i).mono ?_
  rintro v h1 ⟨rfl, x1⟩
  have s2 := s1.grow x1
  unfold encV at hR
  by_cases r : rightI i
  · simp (maxSteps := 2000000) (disch := first | (simp only [go_sem, simprocAttr, r, s2.get] <;> omega) | omega) only [go_sem, simprocAttr, r, s2.get]
    exact hR _ _ ⟨(congrArg (fun z => Value.tuple #[.int .u32 z, .int .i64 0]) (word_bits (rightI_B r))).trans (if_pos r).symm, s2.swap.ext⟩
  · simp (maxSteps := 2000000) (disch := first | (simp only [go_sem, simprocAttr, r, s2.get] <;> omega) | omega) only [go_sem, simprocAttr, r, s2.get]
    exact hR _ _ ⟨by rw [if_neg r], s2.swap.ext⟩
theorem refEncode_S (i : Ins) : HCalls Tryz.prog 107 #[.agg i.cells.toArray] h fun v h' => v = encV i ∧ Ext h h' := by
  refine HCalls.via fun R hR => ?_
  refine HCalls.of_dev T107 Tryz.func107 rfl mixed (by kernel_rfl) ?_; rw [Tryz.results107]
  simp (maxSteps := 2000000) (disch := first | (simp only [go_sem, simprocAttr] <;> omega) | omega) only [go_sem, simprocAttr]
  have s1 := ((Sat.init h).push (.cells i.cells.toArray 84 (0, 0)))
  simp only [Ins.cells_eq] at s1
  refine (refRight_S i).mono ?_
  rintro v h1 ⟨rfl, x1⟩
  have s2 := s1.grow x1
  unfold encV at hR
  by_cases r : rightI i
  · have b := rightI_B r
    obtain ⟨o1, o2, a1, a2, b1, b2, c1, c2, m1, m2, z⟩ := b
    simp (maxSteps := 2000000) (disch := first | (simp only [go_sem, simprocAttr, r, s2.get] <;> omega) | omega) only [go_sem, simprocAttr, r, s2.get]
    exact hR _ _ ⟨by rw [if_pos r]; rfl, s2.swap.ext⟩
  · simp (maxSteps := 2000000) (disch := first | (simp only [go_sem, simprocAttr, r, s2.get] <;> omega) | omega) only [go_sem, simprocAttr, r, s2.get]
    exact hR _ _ ⟨by rw [if_neg r], s2.swap.ext⟩
end
end Go.Eng
/-
  Decode.
-/
namespace Go.Eng
open Go Go.Proofs
def decI (w : Nat) : Ins := ⟨((w / 16777216 : Nat) : Int), ((w / 1048576 % 16 : Nat) : Int), ((w / 65536 % 16 : Nat) : Int), if hasB (kd ((w / 16777216 : Nat) : Int)) 99 then ((w % 65536 : Nat) : Int) else 0, if hasB (kd ((w / 16777216 : Nat) : Int)) 99 then 0 else ((w % 65536 : Nat) : Int)⟩
def zeroI : Ins := ⟨0, 0, 0, 0, 0⟩
def decV (w : Nat) : Value := if rightI (decI w) then .tuple #[.agg (decI w).cells.toArray, .int .i64 0] else .tuple #[.agg zeroI.cells.toArray, .int .i64 50]
theorem and15 (w n : Nat) (hw : w < 4294967296) (x : Int) (hx : x = (n : Nat)) (hn : n ≤ w) : (((BitVec.ofInt 32 x &&& BitVec.ofInt 32 15).toNat : Nat) : Int) = ((n % 16 : Nat) : Int) := by
  subst hx
  rw [show (BitVec.ofInt 32 15) = BitVec.ofNat 32 15 from rfl, BitVec.toNat_and, BitVec.ofInt_natCast, BitVec.toNat_ofNat, BitVec.toNat_ofNat, Nat.mod_eq_of_lt (by omega)]
  exact congrArg _ (Nat.and_two_pow_sub_one_eq_mod n 4)
theorem and16 (w : Nat) (hw : w < 4294967296) : (((BitVec.ofInt 32 (w : Int) &&& BitVec.ofInt 32 65535).toNat : Nat) : Int) = ((w % 65536 : Nat) : Int) := by
  rw [show (BitVec.ofInt 32 65535) = BitVec.ofNat 32 65535 from rfl, BitVec.toNat_and, BitVec.ofInt_natCast, BitVec.toNat_ofNat, BitVec.toNat_ofNat, Nat.mod_eq_of_lt (by omega)]
  exact congrArg _ (Nat.and_two_pow_sub_one_eq_mod w 16)
theorem shr (w k : Nat) : (w : Int).fdiv (2 ^ k) = ((w / 2 ^ k : Nat) : Int) := by
  have : (2 : Int) ^ k = ((2 ^ k : Nat) : Int) := by simp
  rw [this, Int.fdiv_eq_ediv_of_nonneg _ (Int.natCast_nonneg _)]
  rfl
theorem indexC (op : Int) : decide (0 ≤ Lib.indexByte (kd op).data.toList (99 : Int).toNat.toUInt8) = hasB (kd op) 99 := by
  have hc := kd_nine op
  generalize kd op = k at *
  rcases hc with rfl | rfl | rfl | rfl | rfl | rfl | rfl | rfl | rfl <;> decide
theorem indexC1 {op : Int} (e : hasB (kd op) 99 = true) : 0 ≤ Lib.indexByte (kd op).data.toList (99 : Int).toNat.toUInt8 := by
  rw [← indexC] at e; exact of_decide_eq_true e
theorem indexC0 {op : Int} (e : hasB (kd op) 99 = false) : ¬ 0 ≤ Lib.indexByte (kd op).data.toList (99 : Int).toNat.toUInt8 := by
  rw [← indexC] at e; exact of_decide_eq_false e
section
variable {h : Heap}
theorem bits_15 {n : Nat} (hn : n < 4294967296) : (BitVec.ofInt IntKind.u32.bits (n : Int) &&& BitVec.ofInt IntKind.u32.bits 15).toNat = n % 16 :=
  Int.ofNat.inj (and15 n n hn _ rfl (Nat.le_refl _))
theorem bits_16 {n : Nat} (hn : n < 4294967296) : (BitVec.ofInt IntKind.u32.bits (n : Int) &&& BitVec.ofInt IntKind.u32.bits 65535).toNat = n % 65536 :=
  Int.ofNat.inj (and16 n hn)
theorem decode_S (w : Nat) (hw : w < 4294967296) : HCalls Tryz.prog 74 #[.int .u32 w] h fun v h' => v = decV w ∧ Ext h h' := by
  refine HCalls.via fun R hR => ?_
  refine HCalls.of_dev T74 Tryz.func74 rfl mixed (by kernel_rfl) ?_; rw [Tryz.results74]
  have k1 : (w : Int).fdiv (2 ^ min 24 32) = ((w / 16777216 : Nat) : Int) := shr w 24
  have k2 : (w : Int).fdiv (2 ^ min 20 32) = ((w / 1048576 : Nat) : Int) := shr w 20
  have k3 : (w : Int).fdiv (2 ^ min 16 32) = ((w / 65536 : Nat) : Int) := shr w 16
  have k4 := bits_15 (n := w / 1048576) (by omega)
  have k5 := bits_15 (n := w / 65536) (by omega)
  have k6 := bits_16 hw
  have k7 : IntKind.i64.wrap ((w / 16777216 : Nat) : Int) = ((w / 16777216 : Nat) : Int) := w64_id (by omega) (by omega)
  simp (maxSteps := 2000000) (disch := first | (simp only [go_sem, simprocAttr, k1, k2, k3, ↓k4, ↓k5, k7] <;> omega) | omega) only [go_sem, simprocAttr, k1, k2, k3, ↓k4, ↓k5, k7]
  have s1 := ((Sat.init h).push (.cells zeroI.cells.toArray 84 (0, 0))).push (.cells #[.int .i64 ((w / 16777216 : Nat) : Int), .int .i64 ((w / 1048576 % 16 : Nat) : Int), .int .i64 ((w / 65536 % 16 : Nat) : Int), .int .i64 0, .int .i64 0] 84 (0, 0))
  simp only [Ins.cells_eq, zeroI, size_push'] at s1
  refine (kindK_S _).mono ?_
  rintro v h1 ⟨rfl, x1⟩
  have s2 := s1.grow x1
  simp (maxSteps := 2000000) (disch := first | (simp only [go_sem, simprocAttr, s2.get, (s2.front 1).get] <;> omega) | omega) only [go_sem, simprocAttr, s2.get, (s2.front 1).get]
  refine (HCalls.of_pure (fun w => Tryz.strings_IndexByte _ _ w)).mono ?_
  rintro v h2 ⟨rfl, rfl⟩
  unfold decV at hR
  have i1 := @indexC1 ((w / 16777216 : Nat) : Int)
  have i0 := @indexC0 ((w / 16777216 : Nat) : Int)
  have hd : decI w = decI w := rfl
  conv at hd => rhs; unfold decI
  generalize Lib.indexByte (kd ((w / 16777216 : Nat) : Int)).data.toList (99 : Int).toNat.toUInt8 = x at *
  cases c : hasB (kd ((w / 16777216 : Nat) : Int)) 99 with
  | true =>
    have q := i1 c
    rw [c, if_pos rfl, if_pos rfl] at hd
    generalize decI w = d at *
    subst hd
    simp (maxSteps := 2000000) (disch := first | (simp only [go_sem, simprocAttr, ↓k6, q, s2.get, (s2.front 1).get] <;> omega) | omega) only [go_sem, simprocAttr, ↓k6, q, s2.get, (s2.front 1).get]
    have s3 := s2.set (.cells #[.int .i64 ((w / 16777216 : Nat) : Int), .int .i64 ((w / 1048576 % 16 : Nat) : Int), .int .i64 ((w / 65536 % 16 : Nat) : Int), .int .i64 ((w % 65536 : Nat) : Int), .int .i64 0] 84 (0, 0))
    simp (maxSteps := 2000000) (disch := first | (simp only [go_sem, simprocAttr, s3.get] <;> omega) | omega) only [go_sem, simprocAttr, s3.get]
    refine (right_S ⟨_, _, _, _, _⟩).mono ?_
    rintro v h3 ⟨rfl, x3⟩
    have s4 := s3.grow x3
    by_cases r : rightI ⟨((w / 16777216 : Nat) : Int), ((w / 1048576 % 16 : Nat) : Int), ((w / 65536 % 16 : Nat) : Int), ((w % 65536 : Nat) : Int), 0⟩
    · simp (maxSteps := 2000000) (disch := first | (simp only [go_sem, simprocAttr, r, s4.get, (s4.front 1).get] <;> omega) | omega) only [go_sem, simprocAttr, r, s4.get, (s4.front 1).get]
      have s5 := s4.swap.set (.cells #[.int .i64 ((w / 16777216 : Nat) : Int), .int .i64 ((w / 1048576 % 16 : Nat) : Int), .int .i64 ((w / 65536 % 16 : Nat) : Int), .int .i64 ((w % 65536 : Nat) : Int), .int .i64 0] 84 (0, 0))
      simp (maxSteps := 2000000) (disch := first | (simp only [go_sem, simprocAttr, s5.get] <;> omega) | omega) only [go_sem, simprocAttr, s5.get]
      exact hR _ _ ⟨by rw [if_pos r]; rfl, (s5.front 2).ext⟩
    · simp (maxSteps := 2000000) (disch := first | (simp only [go_sem, simprocAttr, r, s4.get, (s4.front 1).get] <;> omega) | omega) only [go_sem, simprocAttr, r, s4.get, (s4.front 1).get]
      have s5 := s4.swap.set (.cells #[.int .i64 0, .int .i64 0, .int .i64 0, .int .i64 0, .int .i64 0] 84 (0, 0))
      simp (maxSteps := 2000000) (disch := first | (simp only [go_sem, simprocAttr, s5.get] <;> omega) | omega) only [go_sem, simprocAttr, s5.get]
      exact hR _ _ ⟨by rw [if_neg r]; rfl, (s5.front 2).ext⟩
  | false =>
    have q := i0 c
    rw [c, if_neg Bool.false_ne_true, if_neg Bool.false_ne_true] at hd
    generalize decI w = d at *
    subst hd
    simp (maxSteps := 2000000) (disch := first | (simp only [go_sem, simprocAttr, ↓k6, q, s2.get, (s2.front 1).get] <;> omega) | omega) only [go_sem, simprocAttr, ↓k6, q, s2.get, (s2.front 1).get]
    have s3 := s2.set (.cells #[.int .i64 ((w / 16777216 : Nat) : Int), .int .i64 ((w / 1048576 % 16 : Nat) : Int), .int .i64 ((w / 65536 % 16 : Nat) : Int), .int .i64 0, .int .i64 ((w % 65536 : Nat) : Int)] 84 (0, 0))
    simp (maxSteps := 2000000) (disch := first | (simp only [go_sem, simprocAttr, s3.get] <;> omega) | omega) only [go_sem, simprocAttr, s3.get]
    refine (right_S ⟨_, _, _, _, _⟩).mono ?_
    rintro v h3 ⟨rfl, x3⟩
    have s4 := s3.grow x3
    by_cases r : rightI ⟨((w / 16777216 : Nat) : Int), ((w / 1048576 % 16 : Nat) : Int), ((w / 65536 % 16 : Nat) : Int), 0, ((w % 65536 : Nat) : Int)⟩
    · simp (maxSteps := 2000000) (disch := first | (simp only [go_sem, simprocAttr, r, s4.get, (s4.front 1).get] <;> omega) | omega) only [go_sem, simprocAttr, r, s4.get, (s4.front 1).get]
      have s5 := s4.swap.set (.cells #[.int .i64 ((w / 16777216 : Nat) : Int), .int .i64 ((w / 1048576 % 16 : Nat) : Int), .int .i64 ((w / 65536 % 16 : Nat) : Int), .int .i64 0, .int .i64 ((w % 65536 : Nat) : Int)] 84 (0, 0))
      simp (maxSteps := 2000000) (disch := first | (simp only [go_sem, simprocAttr, s5.get] <;> omega) | omega) only [go_sem, simprocAttr, s5.get]
      exact hR _ _ ⟨by rw [if_pos r]; rfl, (s5.front 2).ext⟩
    · simp (maxSteps := 2000000) (disch := first | (simp only [go_sem, simprocAttr, r, s4.get, (s4.front 1).get] <;> omega) | omega) only [go_sem, simprocAttr, r, s4.get, (s4.front 1).get]
      have s5 := s4.swap.set (.cells #[.int .i64 0, .int .i64 0, .int .i64 0, .int .i64 0, .int .i64 0] 84 (0, 0))
      simp (maxSteps := 2000000) (disch := first | (simp only [go_sem, simprocAttr, s5.get] <;> omega) | omega) only [go_sem, simprocAttr, s5.get]
      exact hR _ _ ⟨by rw [if_neg r]; rfl, (s5.front 2).ext⟩
theorem wordI_dec {w : Nat} : wordI (decI w) = w := by
  unfold wordI decI
  cases hasB (kd ((w / 16777216 : Nat) : Int)) 99 <;> simp <;> omega
theorem refDecode_S (w : Nat) (hw : w < 4294967296) : HCalls Tryz.prog 49 #[.int .u32 w] h fun v h' => v = decV w ∧ Ext h h' := by
  refine HCalls.via fun R hR => ?_
  refine HCalls.of_dev T49 Tryz.func49 rfl mixed (by kernel_rfl) ?_; rw [Tryz.results49]
  have k1 : (w : Int) / 16777216 = ((w / 16777216 : Nat) : Int) := by omega
  have k2 : (w : Int) / 1048576 % 16 = ((w / 1048576 % 16 : Nat) : Int) := by omega
  have k3 : (w : Int) / 65536 % 16 = ((w / 65536 % 16 : Nat) : Int) := by omega
  have k6 : (w : Int) % 65536 = ((w % 65536 : Nat) : Int) := by omega
  have hdw := wordI_dec (w := w)
  unfold decV at hR
  simp (maxSteps := 2000000) (disch := first | (simp only [go_sem, simprocAttr, k1, k2, k3] <;> omega) | omega) only [go_sem, simprocAttr, k1, k2, k3]
  have s1 := ((Sat.init h).push (.cells zeroI.cells.toArray 84 (0, 0))).push (.cells #[.int .i64 ((w / 16777216 : Nat) : Int), .int .i64 ((w / 1048576 % 16 : Nat) : Int), .int .i64 ((w / 65536 % 16 : Nat) : Int), .int .i64 0, .int .i64 0] 84 (0, 0))
  simp only [Ins.cells_eq, zeroI, size_push'] at s1
  refine (refKind_S _).mono ?_
  rintro v h1 ⟨rfl, rfl⟩
  simp (maxSteps := 2000000) (disch := first | (simp only [go_sem, simprocAttr, s1.get, (s1.front 1).get] <;> omega) | omega) only [go_sem, simprocAttr, s1.get, (s1.front 1).get]
  refine (has_S _ 99 (by have := kd_size ((w / 16777216 : Nat) : Int); omega)).mono ?_
  rintro v h2 ⟨rfl, rfl⟩
  have hd : decI w = decI w := rfl
  conv at hd => rhs; unfold decI
  cases c : hasB (kd ((w / 16777216 : Nat) : Int)) 99 with
  | true =>
    rw [c, if_pos rfl, if_pos rfl] at hd
    generalize decI w = d at *
    subst hd
    simp (maxSteps := 2000000) (disch := first | (simp only [go_sem, simprocAttr, k6, c, s1.get, (s1.front 1).get] <;> omega) | omega) only [go_sem, simprocAttr, k6, c, s1.get, (s1.front 1).get]
    have s3 := ((Sat.init h).push (.cells zeroI.cells.toArray 84 (0, 0))).push (.cells #[.int .i64 ((w / 16777216 : Nat) : Int), .int .i64 ((w / 1048576 % 16 : Nat) : Int), .int .i64 ((w / 65536 % 16 : Nat) : Int), .int .i64 ((w % 65536 : Nat) : Int), .int .i64 0] 84 (0, 0))
    simp only [Ins.cells_eq, zeroI, size_push'] at s3
    refine (refEncode_S ⟨_, _, _, _, _⟩).mono ?_
    rintro v h3 ⟨rfl, x3⟩
    have s4 := s3.grow x3
    unfold encV
    by_cases r : rightI ⟨((w / 16777216 : Nat) : Int), ((w / 1048576 % 16 : Nat) : Int), ((w / 65536 % 16 : Nat) : Int), ((w % 65536 : Nat) : Int), 0⟩
    · rw [if_pos r]
      simp (maxSteps := 2000000) (disch := first | (simp only [go_sem, simprocAttr, r, hdw, s4.get, (s4.front 1).get] <;> omega) | omega) only [go_sem, simprocAttr, r, hdw, s4.get, (s4.front 1).get]
      have s5 := s4.swap.set (.cells #[.int .i64 ((w / 16777216 : Nat) : Int), .int .i64 ((w / 1048576 % 16 : Nat) : Int), .int .i64 ((w / 65536 % 16 : Nat) : Int), .int .i64 ((w % 65536 : Nat) : Int), .int .i64 0] 84 (0, 0))
      simp (maxSteps := 2000000) (disch := first | (simp only [go_sem, simprocAttr, s5.get] <;> omega) | omega) only [go_sem, simprocAttr, s5.get]
      exact hR _ _ ⟨by rw [if_pos r]; rfl, (s5.front 2).ext⟩
    · rw [if_neg r]
      simp (maxSteps := 2000000) (disch := first | (simp only [go_sem, simprocAttr, r, s4.get, (s4.front 1).get] <;> omega) | omega) only [go_sem, simprocAttr, r, s4.get, (s4.front 1).get]
      have s5 := s4.swap.set (.cells #[.int .i64 0, .int .i64 0, .int .i64 0, .int .i64 0, .int .i64 0] 84 (0, 0))
      simp (maxSteps := 2000000) (disch := first | (simp only [go_sem, simprocAttr, s5.get] <;> omega) | omega) only [go_sem, simprocAttr, s5.get]
      exact hR _ _ ⟨by rw [if_neg r]; rfl, (s5.front 2).ext⟩
  | false =>
    rw [c, if_neg Bool.false_ne_true, if_neg Bool.false_ne_true] at hd
    generalize decI w = d at *
    subst hd
    simp (maxSteps := 2000000) (disch := first | (simp only [go_sem, simprocAttr, k6, c, s1.get, (s1.front 1).get] <;> omega) | omega) only [go_sem, simprocAttr, k6, c, s1.get, (s1.front 1).get]
    have s3 := ((Sat.init h).push (.cells zeroI.cells.toArray 84 (0, 0))).push (.cells #[.int .i64 ((w / 16777216 : Nat) : Int), .int .i64 ((w / 1048576 % 16 : Nat) : Int), .int .i64 ((w / 65536 % 16 : Nat) : Int), .int .i64 0, .int .i64 ((w % 65536 : Nat) : Int)] 84 (0, 0))
    simp only [Ins.cells_eq, zeroI, size_push'] at s3
    refine (refEncode_S ⟨_, _, _, _, _⟩).mono ?_
    rintro v h3 ⟨rfl, x3⟩
    have s4 := s3.grow x3
    unfold encV
    by_cases r : rightI ⟨((w / 16777216 : Nat) : Int), ((w / 1048576 % 16 : Nat) : Int), ((w / 65536 % 16 : Nat) : Int), 0, ((w % 65536 : Nat) : Int)⟩
    · rw [if_pos r]
      simp (maxSteps := 2000000) (disch := first | (simp only [go_sem, simprocAttr, r, hdw, s4.get, (s4.front 1).get] <;> omega) | omega) only [go_sem, simprocAttr, r, hdw, s4.get, (s4.front 1).get]
      have s5 := s4.swap.set (.cells #[.int .i64 ((w / 16777216 : Nat) : Int), .int .i64 ((w / 1048576 % 16 : Nat) : Int), .int .i64 ((w / 65536 % 16 : Nat) : Int), .int .i64 0, .int .i64 ((w % 65536 : Nat) : Int)] 84 (0, 0))
      simp (maxSteps := 2000000) (disch := first | (simp only [go_sem, simprocAttr, s5.get] <;> omega) | omega) only [go_sem, simprocAttr, s5.get]
      exact hR _ _ ⟨by rw [if_pos r]; rfl, (s5.front 2).ext⟩
    · rw [if_neg r]
      simp (maxSteps := 2000000) (disch := first | (simp only [go_sem, simprocAttr, r, s4.get, (s4.front 1).get] <;> omega) | omega) only [go_sem, simprocAttr, r, s4.get, (s4.front 1).get]
      have s5 := s4.swap.set (.cells #[.int .i64 0, .int .i64 0, .int .i64 0, .int .i64 0, .int .i64 0] 84 (0, 0))
      simp (maxSteps := 2000000) (disch := first | (simp only [go_sem, simprocAttr, s5.get] <;> omega) | omega) only [go_sem, simprocAttr, s5.get]
      exact hR _ _ ⟨by rw [if_neg r]; rfl, (s5.front 2).ext⟩
end
end Go.Eng
