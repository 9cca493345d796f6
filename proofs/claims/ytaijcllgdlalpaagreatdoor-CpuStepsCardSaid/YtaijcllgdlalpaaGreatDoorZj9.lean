/-
  package pte: Right, Encode, Decode, Index.
-/
import Derived.Test.YtaijcllgdlalpaaGreatDoorZj8
set_option linter.unusedSimpArgs false
set_option linter.unusedVariables false
set_option maxRecDepth 16000
set_option maxHeartbeats 4000000
namespace Go.Eng
open Go Go.Proofs
theorem rightE_B {e : Ent} (r : rightE e = true) : 0 ≤ e.F ∧ e.F < 1024 ∧ 0 ≤ e.R ∧ e.R ≤ 7 ∧ (e.V = false → e = zeroE) ∧ (e.L = false → e.R = 0) := by
  obtain ⟨V, L, ri, f⟩ := e
  cases V <;> cases L <;> simp [rightE, zeroE] at r ⊢ <;> omega
theorem or3 (s : Nat) (hs : s < 1000000) : IntKind.i64.wrap ((BitVec.ofInt 64 ((4 * s + 1 : Nat) : Int) ||| BitVec.ofInt 64 2).toNat : Int) = 4 * s + 3 := by
  have e : (BitVec.ofInt 64 ((4 * s + 1 : Nat) : Int) ||| BitVec.ofInt 64 2).toNat = 4 * s + 3 := by
    rw [show BitVec.ofInt 64 2 = BitVec.ofInt 64 ((2 : Nat) : Int) from rfl, BitVec.toNat_or, BitVec.ofInt_natCast, BitVec.ofInt_natCast, BitVec.toNat_ofNat, BitVec.toNat_ofNat, Nat.mod_eq_of_lt (by omega), Nat.mod_eq_of_lt (by omega)]
    have h1 : 4 * s + 1 = 4 * s ||| 1 := Nat.two_pow_add_eq_or_of_lt (i := 2) (b := 1) (by omega) s
    have h3 : 4 * s + 3 = 4 * s ||| 3 := Nat.two_pow_add_eq_or_of_lt (i := 2) (b := 3) (by omega) s
    rw [h1, h3, Nat.or_assoc]
    rfl
  rw [e, w64_id (by omega) (by omega)]
  omega
theorem and_pow2 (w i : Nat) : w &&& 2 ^ i = if w / 2 ^ i % 2 = 1 then 2 ^ i else 0 := by
  apply Nat.eq_of_testBit_eq
  intro j
  rw [Nat.testBit_and, Nat.testBit_two_pow]
  by_cases e : i = j
  · subst e
    rw [Nat.testBit_eq_decide_div_mod_eq]
    by_cases q : w / 2 ^ i % 2 = 1 <;> simp [q]
  · by_cases q : w / 2 ^ i % 2 = 1 <;> simp [q, e, Nat.testBit_two_pow]
theorem andP (bits w n : Nat) (i : Nat) (hw : w < 2 ^ bits) (hn : n = 2 ^ i) (hi : i < bits) : (BitVec.ofInt bits (w : Int) &&& BitVec.ofInt bits (n : Int)).toNat = if w / 2 ^ i % 2 = 1 then n else 0 := by
  have hn2 : n < 2 ^ bits := by rw [hn]; exact Nat.pow_lt_pow_right (by decide) hi
  rw [BitVec.toNat_and, BitVec.ofInt_natCast, BitVec.ofInt_natCast, BitVec.toNat_ofNat, BitVec.toNat_ofNat, Nat.mod_eq_of_lt hw, Nat.mod_eq_of_lt hn2, hn, and_pow2]
theorem and7 (w : Nat) (hw : w < 65536) : (BitVec.ofInt IntKind.i64.bits (w : Int) &&& BitVec.ofInt IntKind.i64.bits 7).toNat = w % 8 := by
  show (BitVec.ofInt 64 (w : Int) &&& BitVec.ofInt 64 7).toNat = w % 8
  rw [show (BitVec.ofInt 64 7) = BitVec.ofNat 64 7 from rfl, BitVec.toNat_and, BitVec.ofInt_natCast, BitVec.toNat_ofNat, BitVec.toNat_ofNat, Nat.mod_eq_of_lt (by omega)]
  exact Nat.and_two_pow_sub_one_eq_mod w 3
section
variable {h : Heap} {F : List SP} {rb n : Nat} {mem : Nat → Int}
theorem pteRight_S (e : Ent) : HCalls Tryz.prog 118 #[.agg e.cells.toArray] h fun v h' => v = .bool (rightE e) ∧ Ext h h' := by
  refine HCalls.via fun R hR => ?_
  obtain ⟨V, L, r, f⟩ := e
  refine HCalls.of_dev T118 Tryz.func118 rfl mixed (by kernel_rfl) ?_; rw [Tryz.results118]
  simp (maxSteps := 2000000) (disch := first | (simp only [go_sem, simprocAttr] <;> omega) | omega) only [go_sem, simprocAttr]
  have s1 := ((Sat.init h).push (.cells #[.bool V, .bool L, .int .i64 r, .int .i64 f] 51 (0, 0)))
  have fin : ∀ b, b = rightE ⟨V, L, r, f⟩ → R (.bool b) _ := fun b e => hR _ _ ⟨by rw [e], (s1.front 1).ext⟩
  cases V with
  | false =>
    simp (maxSteps := 2000000) (disch := first | (simp only [go_sem, simprocAttr, eqls_51] <;> omega) | omega) only [go_sem, simprocAttr, eqls_51]
    exact fin _ (by cases L <;> simp [rightE, zeroE])
  | true =>
    by_cases c1 : 0 ≤ f ∧ f < 1024
    · have c2 : ¬ f < 0 := by omega
      have c3 : ¬ 1024 ≤ f := by omega
      cases L with
      | false =>
        simp (maxSteps := 2000000) (disch := first | (simp only [go_sem, simprocAttr, c2, c3, eqls_51] <;> omega) | omega) only [go_sem, simprocAttr, c2, c3, eqls_51]
        exact fin _ (by simp [rightE, c1])
      | true =>
        by_cases c4 : 0 ≤ r
        · simp (maxSteps := 2000000) (disch := first | (simp only [go_sem, simprocAttr, c2, c3, c4] <;> omega) | omega) only [go_sem, simprocAttr, c2, c3, c4]
          exact fin _ (by simp [rightE, c1, c4])
        · simp (maxSteps := 2000000) (disch := first | (simp only [go_sem, simprocAttr, c2, c3, c4] <;> omega) | omega) only [go_sem, simprocAttr, c2, c3, c4]
          exact fin _ (by simp [rightE, c4])
    · simp (maxSteps := 2000000) (disch := first | (simp only [go_sem, simprocAttr] <;> omega) | omega) only [go_sem, simprocAttr]
      refine ⟨fun _ => fin _ ?_, fun q => absurd q ?_⟩
      · unfold rightE
        rw [if_pos rfl]
        symm
        simp only [Bool.and_eq_false_iff, decide_eq_false_iff_not]
        by_cases q : 0 ≤ f
        · exact .inl (.inr fun q2 => c1 ⟨q, q2⟩)
        · exact .inl (.inl q)
      · simp; omega
theorem pteIndex_S (page level : Int) : HCalls Tryz.prog 103 #[.int .i64 page, .int .i64 level] h fun v h' => v = .int .i64 (idxE page level) ∧ h' = h := by
  refine HCalls.via fun R hR => ?_
  have fin : ∀ x, x = idxE page level → R (.int .i64 x) h := fun x e => hR _ _ ⟨by rw [e], rfl⟩
  refine HCalls.of_dev T103 Tryz.func103 rfl mixed (by kernel_rfl) ?_; rw [Tryz.results103]
  simp (maxSteps := 2000000) (disch := first | (simp only [go_sem, simprocAttr] <;> omega) | omega) only [go_sem, simprocAttr]
  refine ⟨fun q => fin _ ?_, fun q => ⟨fun q2 => fin _ ?_, fun q2 => ⟨fun q3 => fin _ ?_, fun q3 => fin _ ?_⟩⟩⟩
  · simp only [Bool.or_eq_true, decide_eq_true_eq] at q
    unfold idxE; rw [if_pos q]
  all_goals
    simp only [Bool.or_eq_false_iff, decide_eq_false_iff_not] at q
    unfold idxE
    rw [if_neg (by omega)]
  · rw [if_pos q2, Int.tdiv_eq_ediv_of_nonneg (by omega), w64_id (by omega) (by omega)]
  · rw [if_neg q2, if_pos q3, Int.tmod_eq_emod_of_nonneg (by omega)]
  · rw [if_neg q2, if_neg q3]
theorem pteEncode_S (e : Ent) : HCalls Tryz.prog 66 #[.agg e.cells.toArray] h fun v h' => v = (if rightE e then .tuple #[.int .u16 (wordE e), .int .i64 0] else .tuple #[.int .u16 0, .int .i64 20]) ∧ Ext h h' := by
  refine HCalls.via fun R hR => ?_
  have s1 := ((Sat.init h).push (.cells e.cells.toArray 51 (0, 0)))
  simp only [Ent.cells_eq] at s1
  refine HCalls.of_dev T66 Tryz.func66 rfl mixed (by kernel_rfl) ?_; rw [Tryz.results66]
  simp (maxSteps := 2000000) (disch := first | (simp only [go_sem, simprocAttr] <;> omega) | omega) only [go_sem, simprocAttr]
  refine (pteRight_S e).mono ?_
  rintro v h1 ⟨rfl, x1⟩
  have s2 := s1.grow x1
  cases r : rightE e with
  | false =>
    rw [r] at hR
    simp (maxSteps := 2000000) (disch := first | (simp only [go_sem, simprocAttr, s2.get] <;> omega) | omega) only [go_sem, simprocAttr, s2.get]
    exact hR _ _ ⟨rfl, (s2.front 1).ext⟩
  | true =>
    rw [r] at hR
    obtain ⟨f0, f1, r0, r1, vz, -⟩ := rightE_B r
    obtain ⟨V, L, ri, f⟩ := e
    simp only at f0 f1 r0 r1 vz
    have fin : ∀ x, x = wordE ⟨V, L, ri, f⟩ → R (.tuple #[.int .u16 x, .int .i64 0]) h1 := fun x e => hR _ _ ⟨by rw [e, if_pos rfl], (s2.front 1).ext⟩
    obtain ⟨f, rfl⟩ := Int.eq_ofNat_of_zero_le f0
    obtain ⟨ri, rfl⟩ := Int.eq_ofNat_of_zero_le r0
    have a1 : IntKind.i64.wrap ((f : Int) * 64) = f * 64 := w64_id (by omega) (by omega)
    have a2 : IntKind.i64.wrap ((ri : Int) * 4) = ri * 4 := w64_id (by omega) (by omega)
    have a3 : IntKind.i64.wrap ((f : Int) * 64 + (ri : Int) * 4) = f * 64 + ri * 4 := w64_id (by omega) (by omega)
    have o1 := or64 (x := (f : Int) * 64 + (ri : Int) * 4) (y := 1) (16 * f + ri) 2 (by omega) (by omega) (by omega) (by omega)
    have o2 := or64 (x := (f : Int) * 64 + (ri : Int) * 4) (y := 2) (16 * f + ri) 2 (by omega) (by omega) (by omega) (by omega)
    have o3 := or3 (16 * f + ri) (by omega)
    rw [show ((4 * (16 * f + ri) + 1 : Nat) : Int) = f * 64 + ri * 4 + 1 by omega] at o3
    have w0 : V = false → (f : Int) * 64 + ri * 4 = wordE ⟨V, L, ri, f⟩ := fun e => by
      have z := vz e
      rw [z]
      simp only [zeroE, Ent.mk.injEq] at z
      simp [wordE, bitI, zeroE]; omega
    have w1 : V = true → L = false → IntKind.u16.wrap (IntKind.i64.wrap ((BitVec.ofInt 64 ((f : Int) * 64 + ri * 4) ||| BitVec.ofInt 64 1).toNat : Int)) = wordE ⟨V, L, ri, f⟩ := fun e e2 => by
      rw [e, e2, o1, w16_id (by omega) (by omega)]
      simp [wordE, bitI]; omega
    have w3 : V = true → L = true → IntKind.u16.wrap (IntKind.i64.wrap ((BitVec.ofInt 64 (IntKind.i64.wrap ((BitVec.ofInt 64 ((f : Int) * 64 + ri * 4) ||| BitVec.ofInt 64 1).toNat : Int)) ||| BitVec.ofInt 64 2).toNat : Int)) = wordE ⟨V, L, ri, f⟩ := fun e e2 => by
      rw [e, e2, o1, o3, w16_id (by omega) (by omega)]
      simp [wordE, bitI]; omega
    cases V <;> cases L
    all_goals simp (maxSteps := 2000000) (disch := first | (simp only [go_sem, simprocAttr, s2.get, a1, a2, a3] <;> omega) | omega) only [go_sem, simprocAttr, s2.get, a1, a2, a3]
    · exact fin _ (w0 rfl)
    · cases vz rfl
    · exact fin _ (w1 rfl rfl)
    · exact fin _ (w3 rfl rfl)
theorem pteDecode_S (w : Nat) (hw : w < 65536) : HCalls Tryz.prog 132 #[.int .u16 w] h fun v h' => v = .tuple #[.agg (decE w).1.cells.toArray, .int .i64 (decE w).2] ∧ Ext h h' := by
  refine HCalls.via fun R hR => ?_
  refine HCalls.of_dev T132 Tryz.func132 rfl mixed (by kernel_rfl) ?_; rw [Tryz.results132]
  have b1 : (BitVec.ofInt IntKind.u16.bits (w : Int) &&& BitVec.ofInt IntKind.u16.bits 1).toNat = _ := andP 16 w 1 0 hw rfl (by decide)
  have b2 : (BitVec.ofInt IntKind.u16.bits (w : Int) &&& BitVec.ofInt IntKind.u16.bits 2).toNat = _ := andP 16 w 2 1 hw rfl (by decide)
  have b5 : (BitVec.ofInt IntKind.u16.bits (w : Int) &&& BitVec.ofInt IntKind.u16.bits 32).toNat = _ := andP 16 w 32 5 hw rfl (by decide)
  have b7 := and7 (w / 4) (by omega)
  have e1 : ((w / 4 : Nat) : Int) = (w : Int) / 4 := by omega
  have n0 : ((0 : Nat) : Int) = 0 := rfl
  have n1 : ((1 : Nat) : Int) = 1 := rfl
  have n2 : ((2 : Nat) : Int) = 2 := rfl
  have n32 : ((32 : Nat) : Int) = 32 := rfl
  rw [e1] at b7
  have sp : ∀ V L : Bool, (w % 2 = 1 ↔ V = true) → (w / 2 % 2 = 1 ↔ L = true) → decE0 (w : Int) = ⟨V, L, (w : Int) / 4 % 8, (w : Int) / 64⟩ := fun V L h1 h2 => by
    unfold decE0
    congr 1
    · rw [Bool.eq_iff_iff, ← h1, decide_eq_true_eq]; omega
    · rw [Bool.eq_iff_iff, ← h2, decide_eq_true_eq]; omega
  have e7 : ((w / 4 % 8 : Nat) : Int) = (w : Int) / 4 % 8 := by omega
  have e6 : IntKind.i64.wrap ((w : Int) / 4 % 8) = (w : Int) / 4 % 8 := w64_id (by omega) (by omega)
  have hV : ∃ V : Bool, (w % 2 = 1 ↔ V = true) := ⟨decide (w % 2 = 1), by simp⟩
  have hL : ∃ L : Bool, (w / 2 % 2 = 1 ↔ L = true) := ⟨decide (w / 2 % 2 = 1), by simp⟩
  obtain ⟨V, hV⟩ := hV
  obtain ⟨L, hL⟩ := hL
  have ed := sp V L hV hL
  have b1' : (BitVec.ofInt IntKind.u16.bits (w : Int) &&& BitVec.ofInt IntKind.u16.bits 1).toNat = if V then 1 else 0 := by
    rw [b1]; simp only [Nat.pow_zero, Nat.div_one, hV]
  have b2' : (BitVec.ofInt IntKind.u16.bits (w : Int) &&& BitVec.ofInt IntKind.u16.bits 2).toNat = if L then 2 else 0 := by
    rw [b2]; simp only [Nat.pow_one, hL]
  clear b1 b2 sp hV hL
  have s1 := ((Sat.init h).push (.cells zeroE.cells.toArray 51 (0, 0))).push (.cells #[.bool V, .bool L, .int .i64 ((w : Int) / 4 % 8), .int .i64 ((w : Int) / 64)] 51 (0, 0))
  simp only [Ent.cells_eq, zeroE, size_push'] at s1
  by_cases c : w / 32 % 2 = 1
  · have b5' : (BitVec.ofInt IntKind.u16.bits (w : Int) &&& BitVec.ofInt IntKind.u16.bits 32).toNat = 32 := by rw [b5, if_pos c]
    have hd : decE (w : Int) = (zeroE, 20) := by unfold decE; rw [if_pos (by simp; omega)]
    rw [hd] at hR
    cases V <;> cases L <;> simp only [if_true, if_false, Bool.false_eq_true] at b1' b2'
    all_goals simp (maxSteps := 2000000) (disch := first | (simp only [go_sem, simprocAttr, ↓b1', ↓b2', ↓b5', ↓b7, e7, e6, n0, n1, n2, n32] <;> omega) | omega) only [go_sem, simprocAttr, ↓b1', ↓b2', ↓b5', ↓b7, e7, e6, n0, n1, n2, n32]
    all_goals exact rdK_any fun _ => hR _ _ ⟨rfl, (s1.front 2).ext⟩
  · have b5' : (BitVec.ofInt IntKind.u16.bits (w : Int) &&& BitVec.ofInt IntKind.u16.bits 32).toNat = 0 := by rw [b5, if_neg c]
    have hd : decE (w : Int) = if rightE ⟨V, L, (w : Int) / 4 % 8, (w : Int) / 64⟩ then (⟨V, L, (w : Int) / 4 % 8, (w : Int) / 64⟩, 0) else (zeroE, 20) := by
      unfold decE
      rw [ed]
      have : decide ((w : Int) / 32 % 2 = 1) = false := decide_eq_false (by omega)
      rw [this]
      cases rightE ⟨V, L, (w : Int) / 4 % 8, (w : Int) / 64⟩ <;> rfl
    rw [hd] at hR
    have pr := fun h => pteRight_S (h := h) ⟨V, L, (w : Int) / 4 % 8, (w : Int) / 64⟩
    cases V <;> cases L <;> simp only [if_true, if_false, Bool.false_eq_true] at b1' b2'
    all_goals simp (maxSteps := 2000000) (disch := first | (simp only [go_sem, simprocAttr, ↓b1', ↓b2', ↓b5', ↓b7, e7, e6, n0, n1, n2, n32] <;> omega) | omega) only [go_sem, simprocAttr, ↓b1', ↓b2', ↓b5', ↓b7, e7, e6, n0, n1, n2, n32]
    all_goals
      refine (pr _).mono ?_
      rintro v h1 ⟨rfl, x1⟩
      have s2 := s1.grow x1
      revert hR
    all_goals generalize rightE _ = r
    all_goals
      intro hR
      cases r
    all_goals
      first
        | have s3 := s2.swap.set (.cells zeroE.cells.toArray 51 (0, 0))
          simp only [Ent.cells_eq, zeroE] at s3
          simp (maxSteps := 2000000) (disch := first | (simp only [go_sem, simprocAttr, s2.get, (s2.front 1).get, s3.get] <;> omega) | omega) only [go_sem, simprocAttr, s2.get, (s2.front 1).get, s3.get]
          exact hR _ _ ⟨rfl, (s3.front 2).ext⟩
        | have s3 := s2.swap.set (.cells #[.bool true, .bool true, .int .i64 ((w : Int) / 4 % 8), .int .i64 ((w : Int) / 64)] 51 (0, 0))
          simp (maxSteps := 2000000) (disch := first | (simp only [go_sem, simprocAttr, s2.get, (s2.front 1).get, s3.get] <;> omega) | omega) only [go_sem, simprocAttr, s2.get, (s2.front 1).get, s3.get]
          exact hR _ _ ⟨rfl, (s3.front 2).ext⟩
        | have s3 := s2.swap.set (.cells #[.bool true, .bool false, .int .i64 ((w : Int) / 4 % 8), .int .i64 ((w : Int) / 64)] 51 (0, 0))
          simp (maxSteps := 2000000) (disch := first | (simp only [go_sem, simprocAttr, s2.get, (s2.front 1).get, s3.get] <;> omega) | omega) only [go_sem, simprocAttr, s2.get, (s2.front 1).get, s3.get]
          exact hR _ _ ⟨rfl, (s3.front 2).ext⟩
        | have s3 := s2.swap.set (.cells #[.bool false, .bool true, .int .i64 ((w : Int) / 4 % 8), .int .i64 ((w : Int) / 64)] 51 (0, 0))
          simp (maxSteps := 2000000) (disch := first | (simp only [go_sem, simprocAttr, s2.get, (s2.front 1).get, s3.get] <;> omega) | omega) only [go_sem, simprocAttr, s2.get, (s2.front 1).get, s3.get]
          exact hR _ _ ⟨rfl, (s3.front 2).ext⟩
        | have s3 := s2.swap.set (.cells #[.bool false, .bool false, .int .i64 ((w : Int) / 4 % 8), .int .i64 ((w : Int) / 64)] 51 (0, 0))
          simp (maxSteps := 2000000) (disch := first | (simp only [go_sem, simprocAttr, s2.get, (s2.front 1).get, s3.get] <;> omega) | omega) only [go_sem, simprocAttr, s2.get, (s2.front 1).get, s3.get]
          exact hR _ _ ⟨rfl, (s3.front 2).ext⟩
end
end Go.Eng
/-
  package pte: place, Get, Put.
-/
namespace Go.Eng
open Go Go.Proofs
theorem plE_ok {n : Nat} {t i : Int} (q : plE n t i = 0) : 0 ≤ i ∧ i < 32 ∧ 0 ≤ t ∧ t < n := by
  unfold plE at q
  by_cases c1 : i < 0 ∨ 32 ≤ i
  · rw [if_pos c1] at q; cases q
  · rw [if_neg c1] at q
    by_cases c2 : t < 0 ∨ (n : Int) ≤ t
    · rw [if_pos c2] at q; cases q
    · omega
theorem acc2 {n : Nat} {t i : Int} (h0 : 0 ≤ i) (h1 : i < 32) (h2 : 0 ≤ t) (h3 : t < n) : accM n (t * 64 + 2 * i) 2 = 0 := by
  unfold accM
  rw [if_neg (by omega), if_neg (by rw [Int.tmod_eq_emod_of_nonneg (by omega)]; omega), if_neg (by omega)]
section
variable {h : Heap} {F : List SP} {rb n : Nat} {mem : Nat → Int}
theorem ptePlace_S (hs : Sat h (ramS rb n mem :: F)) (t i : Int) : HCalls Tryz.prog 65 #[.pointer (some ⟨rb, 0, none⟩), .int .i64 t, .int .i64 i] h fun v h' => h' = h ∧ v = .tuple #[.int .i64 (if plE n t i = 0 then t * 64 + 2 * i else 0), .int .i64 (plE n t i)] := by
  refine HCalls.via fun R hR => ?_
  obtain ⟨⟨-, hn⟩, -⟩ := ramS_iff.1 hs
  refine HCalls.of_dev T65 Tryz.func65 rfl mixed (by kernel_rfl) ?_; rw [Tryz.results65]
  by_cases c1 : i < 0 ∨ 32 ≤ i
  · have e : plE n t i = 1 := by unfold plE; rw [if_pos c1]
    rw [e, if_neg (by decide)] at hR
    by_cases c0 : i < 0
    · simp (maxSteps := 2000000) (disch := first | (simp only [go_sem, simprocAttr, c0] <;> omega) | omega) only [go_sem, simprocAttr, c0]
      exact hR _ _ ⟨rfl, rfl⟩
    · have c2 : 32 ≤ i := by omega
      simp (maxSteps := 2000000) (disch := first | (simp only [go_sem, simprocAttr, c0, c2] <;> omega) | omega) only [go_sem, simprocAttr, c0, c2]
      exact hR _ _ ⟨rfl, rfl⟩
  have c0 : ¬ i < 0 := by omega
  have c2 : ¬ 32 ≤ i := by omega
  by_cases c3 : t < 0
  · have e : plE n t i = 10 := by unfold plE; rw [if_neg c1, if_pos (.inl c3)]
    rw [e, if_neg (by decide)] at hR
    simp (maxSteps := 2000000) (disch := first | (simp only [go_sem, simprocAttr, c0, c2, c3] <;> omega) | omega) only [go_sem, simprocAttr, c0, c2, c3]
    exact rdK_any fun _ => hR _ _ ⟨rfl, rfl⟩
  · simp (maxSteps := 2000000) (disch := first | (simp only [go_sem, simprocAttr, c0, c2, c3] <;> omega) | omega) only [go_sem, simprocAttr, c0, c2, c3]
    refine (frames_S hs).mono ?_
    rintro v h' ⟨rfl, rfl⟩
    by_cases c4 : (n : Int) ≤ t
    · have e : plE n t i = 10 := by unfold plE; rw [if_neg c1, if_pos (.inr c4)]
      rw [e, if_neg (by decide)] at hR
      simp (maxSteps := 2000000) (disch := first | (simp only [go_sem, simprocAttr, c4] <;> omega) | omega) only [go_sem, simprocAttr, c4]
      exact hR _ _ ⟨rfl, rfl⟩
    · have e : plE n t i = 0 := by unfold plE; rw [if_neg c1, if_neg (by omega)]
      rw [e, if_pos rfl] at hR
      simp (maxSteps := 2000000) (disch := first | (simp only [go_sem, simprocAttr, c4] <;> omega) | omega) only [go_sem, simprocAttr, c4]
      exact hR _ _ ⟨rfl, rfl⟩
theorem load2_bd {n : Nat} {mem : Nat → Int} {t i : Int} (hb : bytesOk (64 * n) mem) (q : plE n t i = 0) : ∃ w : Nat, loadM mem (t * 64 + 2 * i).toNat 2 = w ∧ w < 65536 := by
  obtain ⟨i0, i1, t0, t1⟩ := plE_ok q
  obtain ⟨l1, l2⟩ := loadM_bd hb (t * 64 + 2 * i).toNat 2 (by omega)
  exact ⟨(loadM mem (t * 64 + 2 * i).toNat 2).toNat, by omega, by simp at l2; omega⟩
theorem pteGet_S (hs : Sat h (ramS rb n mem :: F)) (t i : Int) : HCalls Tryz.prog 102 #[.pointer (some ⟨rb, 0, none⟩), .int .i64 t, .int .i64 i] h fun v h' => v = .tuple #[.agg (getE n mem t i).1.cells.toArray, .int .i64 (getE n mem t i).2] ∧ Ext h h' := by
  refine HCalls.via fun R hR => ?_
  obtain ⟨⟨hb, hn⟩, -⟩ := ramS_iff.1 hs
  have s0 := (Sat.init h).push (.cells zeroE.cells.toArray 51 (0, 0))
  have s1 := (hs.push (.cells zeroE.cells.toArray 51 (0, 0))).swap
  simp only [Ent.cells_eq, zeroE] at s0 s1
  refine HCalls.of_dev T102 Tryz.func102 rfl mixed (by kernel_rfl) ?_; rw [Tryz.results102]
  simp (maxSteps := 2000000) (disch := first | (simp only [go_sem, simprocAttr] <;> omega) | omega) only [go_sem, simprocAttr]
  refine (ptePlace_S s1 t i).mono ?_
  rintro v h' ⟨rfl, rfl⟩
  by_cases q : plE n t i = 0
  · obtain ⟨i0, i1, t0, t1⟩ := plE_ok q
    obtain ⟨w, hw, hlt⟩ := load2_bd hb q
    have hg : getE n mem t i = decE w := by unfold getE; rw [if_neg (by omega), hw]
    rw [hg] at hR
    simp (maxSteps := 2000000) (disch := first | (simp only [go_sem, simprocAttr, q] <;> omega) | omega) only [go_sem, simprocAttr, q]
    refine (load_S s1 (t * 64 + 2 * i) 2 (by omega)).mono ?_
    rintro v h' ⟨rfl, rfl⟩
    rw [acc2 i0 i1 t0 t1, if_pos rfl, show (2 : Int).toNat = 2 from rfl, hw]
    simp (maxSteps := 2000000) (disch := first | (simp only [go_sem, simprocAttr] <;> omega) | omega) only [go_sem, simprocAttr]
    refine (pteDecode_S w hlt).mono ?_
    rintro v h2 ⟨rfl, x2⟩
    have s2 := s0.grow x2
    have s3 := s2.set (.cells (decE w).1.cells.toArray 51 (0, 0))
    simp only [Ent.cells_eq] at s3
    simp (maxSteps := 2000000) (disch := first | (simp only [go_sem, simprocAttr, s2.get, s3.get] <;> omega) | omega) only [go_sem, simprocAttr, s2.get, s3.get]
    exact hR _ _ ⟨rfl, (s3.front 1).ext⟩
  · have hg : getE n mem t i = (zeroE, plE n t i) := by unfold getE; rw [if_pos q]
    rw [hg] at hR
    simp (maxSteps := 2000000) (disch := first | (simp only [go_sem, simprocAttr, q] <;> omega) | omega) only [go_sem, simprocAttr, q]
    exact hR _ _ ⟨rfl, (s0.front 1).ext⟩
theorem ptePut_S (hs : Sat h (ramS rb n mem :: F)) (t i : Int) (x : Ent) : HCalls Tryz.prog 30 #[.pointer (some ⟨rb, 0, none⟩), .int .i64 t, .int .i64 i, .agg x.cells.toArray] h fun v h' => v = .int .i64 (putE n mem t i x).2 ∧ Sat h' (ramS rb n (putE n mem t i x).1 :: F) := by
  refine HCalls.via fun R hR => ?_
  obtain ⟨⟨hb, hn⟩, -⟩ := ramS_iff.1 hs
  have s1 := (hs.push (.cells x.cells.toArray 51 (0, 0))).swap
  simp only [Ent.cells_eq] at s1
  refine HCalls.of_dev T30 Tryz.func30 rfl mixed (by kernel_rfl) ?_; rw [Tryz.results30]
  simp (maxSteps := 2000000) (disch := first | (simp only [go_sem, simprocAttr] <;> omega) | omega) only [go_sem, simprocAttr]
  refine (ptePlace_S s1 t i).mono ?_
  rintro v h' ⟨rfl, rfl⟩
  by_cases q : plE n t i = 0
  · obtain ⟨i0, i1, t0, t1⟩ := plE_ok q
    simp (maxSteps := 2000000) (disch := first | (simp only [go_sem, simprocAttr, q] <;> omega) | omega) only [go_sem, simprocAttr, q]
    refine (pteEncode_S x).mono ?_
    rintro v h2 ⟨rfl, x2⟩
    have s2 := s1.grow x2
    cases r : rightE x with
    | false =>
      have hg : putE n mem t i x = (mem, 20) := by unfold putE; rw [if_neg (by omega), r]; rfl
      rw [hg] at hR
      simp (maxSteps := 2000000) (disch := first | (simp only [go_sem, simprocAttr] <;> omega) | omega) only [go_sem, simprocAttr]
      exact hR _ _ ⟨rfl, s2.drop1⟩
    | true =>
      have hg : putE n mem t i x = (putM mem (t * 64 + 2 * i) 2 (wordE x), 0) := by unfold putE; rw [if_neg (by omega), r]; rfl
      rw [hg] at hR
      obtain ⟨f0, f1, r0, r1, -, -⟩ := rightE_B r
      have b0 : 0 ≤ bitI x.V 1 ∧ bitI x.V 1 ≤ 1 := by unfold bitI; split <;> omega
      have b1 : 0 ≤ bitI x.L 2 ∧ bitI x.L 2 ≤ 2 := by unfold bitI; split <;> omega
      have w0 : 0 ≤ wordE x ∧ wordE x < 65536 := by unfold wordE; omega
      simp (maxSteps := 2000000) (disch := first | (simp only [go_sem, simprocAttr] <;> omega) | omega) only [go_sem, simprocAttr]
      refine (store_S s2 (t * 64 + 2 * i) 2 (wordE x) (by omega) ⟨w0.1, by omega⟩).mono ?_
      rintro v h3 ⟨rfl, s3⟩
      rw [acc2 i0 i1 t0 t1, if_pos rfl] at s3
      rw [acc2 i0 i1 t0 t1]
      simp (maxSteps := 2000000) (disch := first | (simp only [go_sem, simprocAttr] <;> omega) | omega) only [go_sem, simprocAttr]
      exact hR _ _ ⟨rfl, s3.drop1⟩
  · have hg : putE n mem t i x = (mem, plE n t i) := by unfold putE; rw [if_pos q]
    rw [hg] at hR
    simp (maxSteps := 2000000) (disch := first | (simp only [go_sem, simprocAttr, q] <;> omega) | omega) only [go_sem, simprocAttr, q]
    exact hR _ _ ⟨rfl, s1.drop1⟩
end
end Go.Eng
