/-
  What is stored is loaded, plain: the machine behind a store, with another instruction at the begin.
-/
import Derived.Test.YtpmmbmmopbmopaaGreatDoorZj20
namespace Go.Eng
set_option linter.unusedSimpArgs false
set_option linter.unusedVariables false
set_option maxRecDepth 16000
set_option maxHeartbeats 4000000
open Go Go.Proofs
def inW (w : Int) : Cp := ⟨[0, 64, w, 0, 0, 0, 0, 0, 0, 0, 0, 0, 0, 0, 0, 0], 0, List.replicate 8 0⟩
def strI (p : Nat) : Ins := ⟨8, 2, 1, 0, 4 * p⟩
def ldrI (p : Nat) : Ins := ⟨7, 3, 1, 0, 4 * p⟩
def ldbI (q : Nat) : Ins := ⟨9, 3, 1, 0, q⟩
def bT : List Ln := fillT exT 0 ⟨1, 0, 1, 2, 3⟩
def bM (p : Nat) (w : Int) : Nat → Int := putM (exM (strI p)) (128 + 4 * p) 4 w
theorem bak1 (p : Nat) (hp : p < 16) (w : Int) : stepP 16 (exMch (strI p) false) (inW w) 1 3 0 = ⟨⟨bM p w, bT, none⟩, { inW w with Pc := 4 }, okT⟩ :=
  match p, hp with
  | 0, _ => by kernel_rfl
  | 1, _ => by kernel_rfl
  | 2, _ => by kernel_rfl
  | 3, _ => by kernel_rfl
  | 4, _ => by kernel_rfl
  | 5, _ => by kernel_rfl
  | 6, _ => by kernel_rfl
  | 7, _ => by kernel_rfl
  | 8, _ => by kernel_rfl
  | 9, _ => by kernel_rfl
  | 10, _ => by kernel_rfl
  | 11, _ => by kernel_rfl
  | 12, _ => by kernel_rfl
  | 13, _ => by kernel_rfl
  | 14, _ => by kernel_rfl
  | 15, _ => by kernel_rfl
  | p + 16, h => absurd h (by omega)
theorem bak2 (p : Nat) (hp : p < 16) (w : Int) : stepP 16 ⟨putM (bM p w) 64 4 (wordI (ldrI p)), bT, none⟩ (inW w) 1 3 0 = ⟨⟨putM (bM p w) 64 4 (wordI (ldrI p)), bT, none⟩, { setR (inW w) 3 (loadM (putM (bM p w) 64 4 (wordI (ldrI p))) (128 + 4 * p) 4) with Pc := 4 }, okT⟩ :=
  match p, hp with
  | 0, _ => by kernel_rfl
  | 1, _ => by kernel_rfl
  | 2, _ => by kernel_rfl
  | 3, _ => by kernel_rfl
  | 4, _ => by kernel_rfl
  | 5, _ => by kernel_rfl
  | 6, _ => by kernel_rfl
  | 7, _ => by kernel_rfl
  | 8, _ => by kernel_rfl
  | 9, _ => by kernel_rfl
  | 10, _ => by kernel_rfl
  | 11, _ => by kernel_rfl
  | 12, _ => by kernel_rfl
  | 13, _ => by kernel_rfl
  | 14, _ => by kernel_rfl
  | 15, _ => by kernel_rfl
  | p + 16, h => absurd h (by omega)
theorem bak3 (p : Nat) (hp : p < 16) (i : Nat) (hi : i < 4) (w : Int) : stepP 16 ⟨putM (bM p w) 64 4 (wordI (ldbI (4 * p + i))), bT, none⟩ (inW w) 1 3 0 = ⟨⟨putM (bM p w) 64 4 (wordI (ldbI (4 * p + i))), bT, none⟩, { setR (inW w) 3 (loadM (putM (bM p w) 64 4 (wordI (ldbI (4 * p + i)))) (128 + 4 * p + i) 1) with Pc := 4 }, okT⟩ :=
  match p, hp, i, hi with
  | 0, _, 0, _ => by kernel_rfl
  | 0, _, 1, _ => by kernel_rfl
  | 0, _, 2, _ => by kernel_rfl
  | 0, _, 3, _ => by kernel_rfl
  | 1, _, 0, _ => by kernel_rfl
  | 1, _, 1, _ => by kernel_rfl
  | 1, _, 2, _ => by kernel_rfl
  | 1, _, 3, _ => by kernel_rfl
  | 2, _, 0, _ => by kernel_rfl
  | 2, _, 1, _ => by kernel_rfl
  | 2, _, 2, _ => by kernel_rfl
  | 2, _, 3, _ => by kernel_rfl
  | 3, _, 0, _ => by kernel_rfl
  | 3, _, 1, _ => by kernel_rfl
  | 3, _, 2, _ => by kernel_rfl
  | 3, _, 3, _ => by kernel_rfl
  | 4, _, 0, _ => by kernel_rfl
  | 4, _, 1, _ => by kernel_rfl
  | 4, _, 2, _ => by kernel_rfl
  | 4, _, 3, _ => by kernel_rfl
  | 5, _, 0, _ => by kernel_rfl
  | 5, _, 1, _ => by kernel_rfl
  | 5, _, 2, _ => by kernel_rfl
  | 5, _, 3, _ => by kernel_rfl
  | 6, _, 0, _ => by kernel_rfl
  | 6, _, 1, _ => by kernel_rfl
  | 6, _, 2, _ => by kernel_rfl
  | 6, _, 3, _ => by kernel_rfl
  | 7, _, 0, _ => by kernel_rfl
  | 7, _, 1, _ => by kernel_rfl
  | 7, _, 2, _ => by kernel_rfl
  | 7, _, 3, _ => by kernel_rfl
  | 8, _, 0, _ => by kernel_rfl
  | 8, _, 1, _ => by kernel_rfl
  | 8, _, 2, _ => by kernel_rfl
  | 8, _, 3, _ => by kernel_rfl
  | 9, _, 0, _ => by kernel_rfl
  | 9, _, 1, _ => by kernel_rfl
  | 9, _, 2, _ => by kernel_rfl
  | 9, _, 3, _ => by kernel_rfl
  | 10, _, 0, _ => by kernel_rfl
  | 10, _, 1, _ => by kernel_rfl
  | 10, _, 2, _ => by kernel_rfl
  | 10, _, 3, _ => by kernel_rfl
  | 11, _, 0, _ => by kernel_rfl
  | 11, _, 1, _ => by kernel_rfl
  | 11, _, 2, _ => by kernel_rfl
  | 11, _, 3, _ => by kernel_rfl
  | 12, _, 0, _ => by kernel_rfl
  | 12, _, 1, _ => by kernel_rfl
  | 12, _, 2, _ => by kernel_rfl
  | 12, _, 3, _ => by kernel_rfl
  | 13, _, 0, _ => by kernel_rfl
  | 13, _, 1, _ => by kernel_rfl
  | 13, _, 2, _ => by kernel_rfl
  | 13, _, 3, _ => by kernel_rfl
  | 14, _, 0, _ => by kernel_rfl
  | 14, _, 1, _ => by kernel_rfl
  | 14, _, 2, _ => by kernel_rfl
  | 14, _, 3, _ => by kernel_rfl
  | 15, _, 0, _ => by kernel_rfl
  | 15, _, 1, _ => by kernel_rfl
  | 15, _, 2, _ => by kernel_rfl
  | 15, _, 3, _ => by kernel_rfl
  | p + 16, h, _, _ => absurd h (by omega)
  | _, _, i + 4, h => absurd h (by omega)
theorem putM_putM (m : Nat → Int) (a s u v : Int) : putM (putM m a s u) a s v = putM m a s v := by
  funext j
  unfold putM
  split <;> rfl
theorem putM_far (m : Nat → Int) (a p i : Nat) (u w : Int) (ha : 4 ≤ a) (hi : i < 4) (h64 : 68 ≤ a + 4 * p) : putM (putM m (a + 4 * p) 4 w) 64 4 u (a + 4 * p + i) = w / 256 ^ i % 256 := by
  unfold putM
  rw [if_neg (by omega), if_pos (by omega)]
  congr 3
  omega
theorem bak_word (p : Nat) (w u : Int) (h0 : 0 ≤ w) (h1 : w < 4294967296) : loadM (putM (bM p w) 64 4 u) (128 + 4 * p) 4 = w := by
  have hb := fun i hi => putM_far (exM (strI p)) 128 p i u w (by omega) hi (by omega)
  have e0 := hb 0 (by omega)
  have e1 := hb 1 (by omega)
  have e2 := hb 2 (by omega)
  have e3 := hb 3 (by omega)
  rw [Nat.add_zero] at e0
  have := wordW h0 h1
  unfold bM
  simp only [loadM, Nat.add_zero, Nat.reduceAdd]
  simp only [Int.natCast_add, Int.natCast_mul, Int.cast_ofNat_Int] at e0 e1 e2 e3
  rw [e0, e1, e2, e3]
  omega
theorem bak_byte (p i : Nat) (hi : i < 4) (w u : Int) : loadM (putM (bM p w) 64 4 u) (128 + 4 * p + i) 1 = w / 256 ^ i % 256 := by
  have e := putM_far (exM (strI p)) 128 p i u w (by omega) hi (by omega)
  unfold bM
  simp only [loadM, Nat.add_zero]
  simp only [Int.natCast_add, Int.natCast_mul, Int.cast_ofNat_Int] at e
  rw [e]
  omega
theorem strI_right {p : Nat} (hp : p < 16) : rightI (strI p) = true := by
  unfold strI rightI
  rw [show kd 8 = ⟨#[97, 98, 105]⟩ from rfl]
  simp [neB_eq, fieldP, hasB]
  omega
theorem ldrI_right {p : Nat} (hp : p < 16) : rightI (ldrI p) = true := by
  unfold ldrI rightI
  rw [show kd 7 = ⟨#[97, 98, 105]⟩ from rfl]
  simp [neB_eq, fieldP, hasB]
  omega
theorem ldbI_right {q : Nat} (hq : q < 64) : rightI (ldbI q) = true := by
  unfold ldbI rightI
  rw [show kd 9 = ⟨#[97, 98, 105]⟩ from rfl]
  simp [neB_eq, fieldP, hasB]
  omega
end Go.Eng
/-
  The law CpuBack.
-/
namespace Go.Eng
set_option linter.unusedSimpArgs false
set_option linter.unusedVariables false
set_option maxRecDepth 16000
set_option maxHeartbeats 4000000
open Go Go.Proofs
theorem byte_eq {w i : Nat} (hw : w < 4294967296) (hi : i < 4) : (w : Int) / 256 ^ i % 256 = ((BitVec.ofInt IntKind.u32.bits ((w : Int).fdiv (2 ^ min (8 * (i : Int)).toNat 32)) &&& BitVec.ofInt IntKind.u32.bits 255).toNat : Int) := by
  have e0 : min (8 * (i : Int)).toNat 32 = 8 * i := by omega
  have e1 : (w : Int).fdiv (2 ^ (8 * i)) = ((w / 2 ^ (8 * i) : Nat) : Int) := by
    rw [Int.fdiv_eq_ediv_of_nonneg _ (by exact Int.le_of_lt (Int.pow_pos (by decide)))]
    norm_cast
  rw [e0, e1]
  have l : w / 2 ^ (8 * i) < 4294967296 := Nat.lt_of_le_of_lt (Nat.div_le_self _ _) hw
  have e2 : (BitVec.ofInt IntKind.u32.bits ((w / 2 ^ (8 * i) : Nat) : Int) &&& BitVec.ofInt IntKind.u32.bits 255).toNat = w / 2 ^ (8 * i) % 256 := by
    generalize w / 2 ^ (8 * i) = z at l
    show (BitVec.ofInt 32 (z : Int) &&& BitVec.ofInt 32 255).toNat = z % 256
    rw [show (BitVec.ofInt 32 255) = BitVec.ofNat 32 255 from rfl, BitVec.toNat_and, BitVec.ofInt_natCast, BitVec.toNat_ofNat, BitVec.toNat_ofNat, Nat.mod_eq_of_lt (by omega)]
    exact Nat.and_two_pow_sub_one_eq_mod z 8
  rw [e2, Nat.pow_mul]
  norm_cast
section
variable {h : Heap}
theorem back_law (w : Nat) (p : Int) (hw : w < 4294967296) :
    HCalls Tryz.prog 4 #[.int .u32 w, .int .i64 p] h fun v h' => v = .bool true ∧ Ext h h' := by
  refine HCalls.via fun R hR => ?_
  refine HCalls.of_dev T4 Tryz.func4 rfl mixed (by kernel_rfl) ?_; rw [Tryz.results4]
  simp (maxSteps := 2000000) (disch := first | (simp only [go_sem, Nat.reduceBEq, Nat.reduceAdd, Nat.reduceMul, Nat.reduceSub, Nat.reduceEqDiff, Nat.reduceLeDiff, Nat.reduceLT, Int.reduceEq, Int.reduceAdd, Int.reduceSub, Int.reduceMul, Int.reduceNeg, Int.reduceLT, Int.reduceLE, Int.reduceToNat, Int.reduceBEq, Int.reduceNe, reduceCtorEq] <;> omega) | omega) only [go_sem, Nat.reduceBEq, Nat.reduceAdd, Nat.reduceMul, Nat.reduceSub, Nat.reduceEqDiff, Nat.reduceLeDiff, Nat.reduceLT, Int.reduceEq, Int.reduceAdd, Int.reduceSub, Int.reduceMul, Int.reduceNeg, Int.reduceLT, Int.reduceLE, Int.reduceToNat, Int.reduceBEq, Int.reduceNe, reduceCtorEq, w64_id, w8_id, w16_id, w32_id, tmod_pos, tdiv_pos, Bool.or_true, Bool.true_or, Bool.or_false, Bool.false_or, Bool.and_false, Bool.false_and, condK_decide]
  refine awake_S.mono ?_
  rintro v h1 ⟨rfl, x1⟩
  have s1 := (Sat.init h).grow x1
  have out : R (.bool true) h1 := hR _ _ ⟨rfl, s1.ext⟩
  by_cases c0 : p < 0
  · simp (maxSteps := 2000000) (disch := first | (simp only [go_sem, Nat.reduceBEq, Nat.reduceAdd, Nat.reduceMul, Nat.reduceSub, Nat.reduceEqDiff, Nat.reduceLeDiff, Nat.reduceLT, Int.reduceEq, Int.reduceAdd, Int.reduceSub, Int.reduceMul, Int.reduceNeg, Int.reduceLT, Int.reduceLE, Int.reduceToNat, Int.reduceBEq, Int.reduceNe, reduceCtorEq, c0] <;> omega) | omega) only [go_sem, Nat.reduceBEq, Nat.reduceAdd, Nat.reduceMul, Nat.reduceSub, Nat.reduceEqDiff, Nat.reduceLeDiff, Nat.reduceLT, Int.reduceEq, Int.reduceAdd, Int.reduceSub, Int.reduceMul, Int.reduceNeg, Int.reduceLT, Int.reduceLE, Int.reduceToNat, Int.reduceBEq, Int.reduceNe, reduceCtorEq, w64_id, w8_id, w16_id, w32_id, tmod_pos, tdiv_pos, Bool.or_true, Bool.true_or, Bool.or_false, Bool.false_or, Bool.and_false, Bool.false_and, condK_decide, c0]
    repeat (first | exact out | refine rdK_any fun _ => ?_)
  by_cases c1 : 15 < p
  · simp (maxSteps := 2000000) (disch := first | (simp only [go_sem, Nat.reduceBEq, Nat.reduceAdd, Nat.reduceMul, Nat.reduceSub, Nat.reduceEqDiff, Nat.reduceLeDiff, Nat.reduceLT, Int.reduceEq, Int.reduceAdd, Int.reduceSub, Int.reduceMul, Int.reduceNeg, Int.reduceLT, Int.reduceLE, Int.reduceToNat, Int.reduceBEq, Int.reduceNe, reduceCtorEq, c0, c1] <;> omega) | omega) only [go_sem, Nat.reduceBEq, Nat.reduceAdd, Nat.reduceMul, Nat.reduceSub, Nat.reduceEqDiff, Nat.reduceLeDiff, Nat.reduceLT, Int.reduceEq, Int.reduceAdd, Int.reduceSub, Int.reduceMul, Int.reduceNeg, Int.reduceLT, Int.reduceLE, Int.reduceToNat, Int.reduceBEq, Int.reduceNe, reduceCtorEq, w64_id, w8_id, w16_id, w32_id, tmod_pos, tdiv_pos, Bool.or_true, Bool.true_or, Bool.or_false, Bool.false_or, Bool.and_false, Bool.false_and, condK_decide, c0, c1]
    repeat (first | exact out | refine rdK_any fun _ => ?_)
  obtain ⟨p, rfl⟩ := Int.eq_ofNat_of_zero_le (show 0 ≤ p by omega)
  have hp : p < 16 := by omega
  simp (maxSteps := 2000000) (disch := first | (simp only [go_sem, Nat.reduceBEq, Nat.reduceAdd, Nat.reduceMul, Nat.reduceSub, Nat.reduceEqDiff, Nat.reduceLeDiff, Nat.reduceLT, Int.reduceEq, Int.reduceAdd, Int.reduceSub, Int.reduceMul, Int.reduceNeg, Int.reduceLT, Int.reduceLE, Int.reduceToNat, Int.reduceBEq, Int.reduceNe, reduceCtorEq, c0, c1] <;> omega) | omega) only [go_sem, Nat.reduceBEq, Nat.reduceAdd, Nat.reduceMul, Nat.reduceSub, Nat.reduceEqDiff, Nat.reduceLeDiff, Nat.reduceLT, Int.reduceEq, Int.reduceAdd, Int.reduceSub, Int.reduceMul, Int.reduceNeg, Int.reduceLT, Int.reduceLE, Int.reduceToNat, Int.reduceBEq, Int.reduceNe, reduceCtorEq, w64_id, w8_id, w16_id, w32_id, tmod_pos, tdiv_pos, Bool.or_true, Bool.true_or, Bool.or_false, Bool.false_or, Bool.and_false, Bool.false_and, condK_decide, c0, c1]
  have s2 := s1.push (.cells #[.int .u32 0, .int .u32 64, .int .u32 w, .int .u32 0, .int .u32 0, .int .u32 0, .int .u32 0, .int .u32 0, .int .u32 0, .int .u32 0, .int .u32 0, .int .u32 0, .int .u32 0, .int .u32 0, .int .u32 0, .int .u32 0, .int .i64 0, .int .u32 0, .int .u32 0, .int .u32 0, .int .u32 0, .int .u32 0, .int .u32 0, .int .u32 0, .int .u32 0] 48 (0, 0))
  have r := strI_right hp
  obtain ⟨w0, w1⟩ := word_lt r
  refine (example_S (strI p) false).mono ?_
  rintro v h2 ⟨v1, v2, rfl, r1, r2, x2⟩
  have s3 := s2.grow x2
  simp (maxSteps := 2000000) (disch := first | (simp only [go_sem, Nat.reduceBEq, Nat.reduceAdd, Nat.reduceMul, Nat.reduceSub, Nat.reduceEqDiff, Nat.reduceLeDiff, Nat.reduceLT, Int.reduceEq, Int.reduceAdd, Int.reduceSub, Int.reduceMul, Int.reduceNeg, Int.reduceLT, Int.reduceLE, Int.reduceToNat, Int.reduceBEq, Int.reduceNe, reduceCtorEq] <;> omega) | omega) only [go_sem, Nat.reduceBEq, Nat.reduceAdd, Nat.reduceMul, Nat.reduceSub, Nat.reduceEqDiff, Nat.reduceLeDiff, Nat.reduceLT, Int.reduceEq, Int.reduceAdd, Int.reduceSub, Int.reduceMul, Int.reduceNeg, Int.reduceLT, Int.reduceLE, Int.reduceToNat, Int.reduceBEq, Int.reduceNe, reduceCtorEq, w64_id, w8_id, w16_id, w32_id, tmod_pos, tdiv_pos, Bool.or_true, Bool.true_or, Bool.or_false, Bool.false_or, Bool.and_false, Bool.false_and, condK_decide]
  refine (madeEx_S (strI p) false ⟨by rw [if_pos r]; exact w0, by rw [if_pos r]; exact w1⟩ r1 r2).mono ?_
  rintro v h3 ⟨rb, tb, q, y1, y2, y3, rfl, m1⟩
  have s4 := s3.over m1
  have s5 := s4.push (.cells #[.pointer (some ⟨rb, 0, none⟩), .pointer (some ⟨tb, 0, none⟩), .pointer q, .pointer y1, .pointer y2, .pointer y3] 38 (0, 0))
  have gm := s5.get
  have gi := (s5.front 2).get
  simp (maxSteps := 2000000) (disch := first | (simp only [go_sem, Nat.reduceBEq, Nat.reduceAdd, Nat.reduceMul, Nat.reduceSub, Nat.reduceEqDiff, Nat.reduceLeDiff, Nat.reduceLT, Int.reduceEq, Int.reduceAdd, Int.reduceSub, Int.reduceMul, Int.reduceNeg, Int.reduceLT, Int.reduceLE, Int.reduceToNat, Int.reduceBEq, Int.reduceNe, reduceCtorEq, gm, gi] <;> omega) | omega) only [go_sem, Nat.reduceBEq, Nat.reduceAdd, Nat.reduceMul, Nat.reduceSub, Nat.reduceEqDiff, Nat.reduceLeDiff, Nat.reduceLT, Int.reduceEq, Int.reduceAdd, Int.reduceSub, Int.reduceMul, Int.reduceNeg, Int.reduceLT, Int.reduceLE, Int.reduceToNat, Int.reduceBEq, Int.reduceNe, reduceCtorEq, w64_id, w8_id, w16_id, w32_id, tmod_pos, tdiv_pos, Bool.or_true, Bool.true_or, Bool.or_false, Bool.false_or, Bool.and_false, Bool.false_and, condK_decide, gm, gi]
  have fW : (inW w).fit := ⟨rfl, rfl, by intro x hx; simp [inW] at hx; omega, by intro x hx; simp [inW] at hx; omega, by simp [inW], by simp [inW]⟩
  refine (stepM_S (c := inW w) fW (s5.front 1) 1 3 0 (fun _ _ _ _ _ _ _ => Nat.zero_le _)).mono ?_
  rintro v h4 ⟨rfl, f1, t1⟩
  have e := bak1 p hp w
  simp only [exMch, Bool.false_eq_true, if_false] at e f1 t1 ⊢
  rw [e] at f1 t1 ⊢
  simp only at f1 t1 ⊢
  obtain ⟨d1, hd1⟩ : ∃ d : Cp, (⟨(inW w).Regs, 4, (inW w).Sys⟩ : Cp) = d := ⟨_, rfl⟩
  rw [hd1] at f1 ⊢
  simp (maxSteps := 2000000) (disch := first | (simp only [go_sem, Nat.reduceBEq, Nat.reduceAdd, Nat.reduceMul, Nat.reduceSub, Nat.reduceEqDiff, Nat.reduceLeDiff, Nat.reduceLT, Int.reduceEq, Int.reduceAdd, Int.reduceSub, Int.reduceMul, Int.reduceNeg, Int.reduceLT, Int.reduceLE, Int.reduceToNat, Int.reduceBEq, Int.reduceNe, reduceCtorEq] <;> omega) | omega) only [go_sem, Nat.reduceBEq, Nat.reduceAdd, Nat.reduceMul, Nat.reduceSub, Nat.reduceEqDiff, Nat.reduceLeDiff, Nat.reduceLT, Int.reduceEq, Int.reduceAdd, Int.reduceSub, Int.reduceMul, Int.reduceNeg, Int.reduceLT, Int.reduceLE, Int.reduceToNat, Int.reduceBEq, Int.reduceNe, reduceCtorEq, w64_id, w8_id, w16_id, w32_id, tmod_pos, tdiv_pos, Bool.or_true, Bool.true_or, Bool.or_false, Bool.false_or, Bool.and_false, Bool.false_and, condK_decide]
  have q0 := (t1.push (.cells (tzeroD Tryz.prog 48).cells 48 (0, 0))).push (.cells okT.cells.toArray 52 (0, 0))
  simp only [tzeroD_48, Trp.cells_eq, okT, okF, size_push'] at q0
  refine store_cpu f1 (q0.front 1).get (by rfl) ?_
  have q1 := (t1.push (.cells d1.cells.toArray 48 (0, 0))).push (.cells okT.cells.toArray 52 (0, 0))
  simp only [Trp.cells_eq, okT, okF, size_push'] at q1
  have g1 := q1.get
  simp (maxSteps := 2000000) (disch := first | (simp only [go_sem, Nat.reduceBEq, Nat.reduceAdd, Nat.reduceMul, Nat.reduceSub, Nat.reduceEqDiff, Nat.reduceLeDiff, Nat.reduceLT, Int.reduceEq, Int.reduceAdd, Int.reduceSub, Int.reduceMul, Int.reduceNeg, Int.reduceLT, Int.reduceLE, Int.reduceToNat, Int.reduceBEq, Int.reduceNe, reduceCtorEq, g1, okT, okF] <;> omega) | omega) only [go_sem, Nat.reduceBEq, Nat.reduceAdd, Nat.reduceMul, Nat.reduceSub, Nat.reduceEqDiff, Nat.reduceLeDiff, Nat.reduceLT, Int.reduceEq, Int.reduceAdd, Int.reduceSub, Int.reduceMul, Int.reduceNeg, Int.reduceLT, Int.reduceLE, Int.reduceToNat, Int.reduceBEq, Int.reduceNe, reduceCtorEq, w64_id, w8_id, w16_id, w32_id, tmod_pos, tdiv_pos, Bool.or_true, Bool.true_or, Bool.or_false, Bool.false_or, Bool.and_false, Bool.false_and, condK_decide, g1, okT, okF]
  refine (encode_S (ldrI p)).mono ?_
  rintro v h5 ⟨rfl, x5⟩
  have rl := ldrI_right hp
  rw [show encV (ldrI p) = .tuple #[.int .u32 (wordI (ldrI p)), .int .i64 0] from if_pos rl]
  obtain ⟨u0, u1⟩ := word_lt rl
  have q2 := q1.grow x5
  have gm2 := (q2.front 3).get
  simp (maxSteps := 2000000) (disch := first | (simp only [go_sem, Nat.reduceBEq, Nat.reduceAdd, Nat.reduceMul, Nat.reduceSub, Nat.reduceEqDiff, Nat.reduceLeDiff, Nat.reduceLT, Int.reduceEq, Int.reduceAdd, Int.reduceSub, Int.reduceMul, Int.reduceNeg, Int.reduceLT, Int.reduceLE, Int.reduceToNat, Int.reduceBEq, Int.reduceNe, reduceCtorEq, gm2] <;> omega) | omega) only [go_sem, Nat.reduceBEq, Nat.reduceAdd, Nat.reduceMul, Nat.reduceSub, Nat.reduceEqDiff, Nat.reduceLeDiff, Nat.reduceLT, Int.reduceEq, Int.reduceAdd, Int.reduceSub, Int.reduceMul, Int.reduceNeg, Int.reduceLT, Int.reduceLE, Int.reduceToNat, Int.reduceBEq, Int.reduceNe, reduceCtorEq, w64_id, w8_id, w16_id, w32_id, tmod_pos, tdiv_pos, Bool.or_true, Bool.true_or, Bool.or_false, Bool.false_or, Bool.and_false, Bool.false_and, condK_decide, gm2]
  refine (store_S (Sat.star.1 (q2.front 2)) 64 4 (wordI (ldrI p)) (by omega) ⟨u0, u1⟩).mono ?_
  rintro v h6 ⟨rfl, q3⟩
  have a0 : accM 16 64 4 = 0 := by decide
  rw [a0] at q3 ⊢
  rw [if_pos rfl] at q3
  have q4 : Sat h6 (mchS 16 rb tb (.pointer q) ⟨putM (bM p w) 64 4 (wordI (ldrI p)), bT, none⟩ :: _) := Sat.star.2 q3
  have gi2 := (q4.front 4).get
  have gm3 := (q4.front 3).get
  have gt3 := (q4.front 1).get
  simp (maxSteps := 2000000) (disch := first | (simp only [go_sem, Nat.reduceBEq, Nat.reduceAdd, Nat.reduceMul, Nat.reduceSub, Nat.reduceEqDiff, Nat.reduceLeDiff, Nat.reduceLT, Int.reduceEq, Int.reduceAdd, Int.reduceSub, Int.reduceMul, Int.reduceNeg, Int.reduceLT, Int.reduceLE, Int.reduceToNat, Int.reduceBEq, Int.reduceNe, reduceCtorEq, gi2, gm3, gt3] <;> omega) | omega) only [go_sem, Nat.reduceBEq, Nat.reduceAdd, Nat.reduceMul, Nat.reduceSub, Nat.reduceEqDiff, Nat.reduceLeDiff, Nat.reduceLT, Int.reduceEq, Int.reduceAdd, Int.reduceSub, Int.reduceMul, Int.reduceNeg, Int.reduceLT, Int.reduceLE, Int.reduceToNat, Int.reduceBEq, Int.reduceNe, reduceCtorEq, w64_id, w8_id, w16_id, w32_id, tmod_pos, tdiv_pos, Bool.or_true, Bool.true_or, Bool.or_false, Bool.false_or, Bool.and_false, Bool.false_and, condK_decide, gi2, gm3, gt3]
  refine (stepM_S (c := inW w) fW q4 1 3 0 (fun _ _ _ _ _ _ _ => Nat.zero_le _)).mono ?_
  rintro v h7 ⟨rfl, f2, t2⟩
  have e2 := bak2 p hp w
  rw [e2, bak_word p w _ (by omega) (by omega)] at f2 t2 ⊢
  simp only at f2 t2 ⊢
  obtain ⟨d2, hd2⟩ : ∃ d : Cp, (⟨(setR (inW w) 3 w).Regs, 4, (setR (inW w) 3 w).Sys⟩ : Cp) = d := ⟨_, rfl⟩
  rw [hd2] at f2 ⊢
  simp (maxSteps := 2000000) (disch := first | (simp only [go_sem, Nat.reduceBEq, Nat.reduceAdd, Nat.reduceMul, Nat.reduceSub, Nat.reduceEqDiff, Nat.reduceLeDiff, Nat.reduceLT, Int.reduceEq, Int.reduceAdd, Int.reduceSub, Int.reduceMul, Int.reduceNeg, Int.reduceLT, Int.reduceLE, Int.reduceToNat, Int.reduceBEq, Int.reduceNe, reduceCtorEq] <;> omega) | omega) only [go_sem, Nat.reduceBEq, Nat.reduceAdd, Nat.reduceMul, Nat.reduceSub, Nat.reduceEqDiff, Nat.reduceLeDiff, Nat.reduceLT, Int.reduceEq, Int.reduceAdd, Int.reduceSub, Int.reduceMul, Int.reduceNeg, Int.reduceLT, Int.reduceLE, Int.reduceToNat, Int.reduceBEq, Int.reduceNe, reduceCtorEq, w64_id, w8_id, w16_id, w32_id, tmod_pos, tdiv_pos, Bool.or_true, Bool.true_or, Bool.or_false, Bool.false_or, Bool.and_false, Bool.false_and, condK_decide]
  have z0 := (t2.push (.cells (tzeroD Tryz.prog 48).cells 48 (0, 0))).push (.cells okT.cells.toArray 52 (0, 0))
  simp only [tzeroD_48, Trp.cells_eq, okT, okF, size_push'] at z0
  refine store_cpu f2 (z0.front 1).get (by rfl) ?_
  have z1 := (t2.push (.cells d2.cells.toArray 48 (0, 0))).push (.cells okT.cells.toArray 52 (0, 0))
  simp only [Trp.cells_eq, okT, okF, size_push'] at z1
  have k1 := z1.get
  have k2 := (z1.front 1).get
  have k3 := (z1.front 3).get
  have n3 : nthL d2.cells 3 = some (.int .u32 w) := by rw [nthL_eq, Cp.reg f2 (i := 3) (by decide), ← hd2]; rfl
  simp (maxSteps := 2000000) (disch := first | (simp only [go_sem, Nat.reduceBEq, Nat.reduceAdd, Nat.reduceMul, Nat.reduceSub, Nat.reduceEqDiff, Nat.reduceLeDiff, Nat.reduceLT, Int.reduceEq, Int.reduceAdd, Int.reduceSub, Int.reduceMul, Int.reduceNeg, Int.reduceLT, Int.reduceLE, Int.reduceToNat, Int.reduceBEq, Int.reduceNe, reduceCtorEq, k1, k2, k3, n3, okT, okF] <;> omega) | omega) only [go_sem, Nat.reduceBEq, Nat.reduceAdd, Nat.reduceMul, Nat.reduceSub, Nat.reduceEqDiff, Nat.reduceLeDiff, Nat.reduceLT, Int.reduceEq, Int.reduceAdd, Int.reduceSub, Int.reduceMul, Int.reduceNeg, Int.reduceLT, Int.reduceLE, Int.reduceToNat, Int.reduceBEq, Int.reduceNe, reduceCtorEq, w64_id, w8_id, w16_id, w32_id, tmod_pos, tdiv_pos, Bool.or_true, Bool.true_or, Bool.or_false, Bool.false_or, Bool.and_false, Bool.false_and, condK_decide, k1, k2, k3, n3, okT, okF]
  have z2 := z1.tail.tail.drop1.drop1
  clear z0 z1 k1 k2 k3 t2 q4 q3 q2 q1 q0 t1 s5 s4 s3 s2 m1 gm gi gi2 gm2 gm3 gt3 g1
  refine loopH.intro (fun i : Nat => (.cons 0 (.int .u32 w) true (.cons 1 (.int .i64 p) true (.cons 5 (.bool true) true (.cons 6 (.pointer (some ⟨h1.size, 0, none⟩)) true (.cons 7 (.pointer (some ⟨h3.size, 0, none⟩)) true (.cons 16 (.int .i64 i) true .nil)))))))
    (fun i h' => i ≤ 4 ∧ ∃ u, Sat h' (mchS 16 rb tb (.pointer q) ⟨putM (bM p w) 64 4 u, bT, none⟩ ::
      cellAt h3.size (.cells #[.pointer (some ⟨rb, 0, none⟩), .pointer (some ⟨tb, 0, none⟩), .pointer q, .pointer y1, .pointer y2, .pointer y3] 38 (0, 0)) ::
      cellAt h1.size (.cells #[.int .u32 0, .int .u32 64, .int .u32 w, .int .u32 0, .int .u32 0, .int .u32 0, .int .u32 0, .int .u32 0, .int .u32 0, .int .u32 0, .int .u32 0, .int .u32 0, .int .u32 0, .int .u32 0, .int .u32 0, .int .u32 0, .int .i64 0, .int .u32 0, .int .u32 0, .int .u32 0, .int .u32 0, .int .u32 0, .int .u32 0, .int .u32 0, .int .u32 0] 48 (0, 0)) :: [oldS h]))
    (fun i _ => 5 - i) 0 ?_ ⟨by omega, _, z2⟩ ?_
  · rfl
  clear z2
  rintro i h8 ⟨hi, u, s⟩
  by_cases k : (i : Int) < 4
  · have hi4 : i < 4 := by omega
    have rb' := ldbI_right (q := 4 * p + i) (by omega)
    obtain ⟨b0, b1⟩ := word_lt rb'
    simp (maxSteps := 2000000) (disch := first | (simp only [go_sem, Nat.reduceBEq, Nat.reduceAdd, Nat.reduceMul, Nat.reduceSub, Nat.reduceEqDiff, Nat.reduceLeDiff, Nat.reduceLT, Int.reduceEq, Int.reduceAdd, Int.reduceSub, Int.reduceMul, Int.reduceNeg, Int.reduceLT, Int.reduceLE, Int.reduceToNat, Int.reduceBEq, Int.reduceNe, reduceCtorEq, k] <;> omega) | omega) only [go_sem, Nat.reduceBEq, Nat.reduceAdd, Nat.reduceMul, Nat.reduceSub, Nat.reduceEqDiff, Nat.reduceLeDiff, Nat.reduceLT, Int.reduceEq, Int.reduceAdd, Int.reduceSub, Int.reduceMul, Int.reduceNeg, Int.reduceLT, Int.reduceLE, Int.reduceToNat, Int.reduceBEq, Int.reduceNe, reduceCtorEq, w64_id, w8_id, w16_id, w32_id, tmod_pos, tdiv_pos, Bool.or_true, Bool.true_or, Bool.or_false, Bool.false_or, Bool.and_false, Bool.false_and, condK_decide, k]
    rw [show (4 * (p : Int) + i) = ((4 * p + i : Nat) : Int) by omega]
    refine (encode_S (ldbI (4 * p + i))).mono ?_
    rintro v h9 ⟨rfl, x9⟩
    rw [show encV (ldbI (4 * p + i)) = .tuple #[.int .u32 (wordI (ldbI (4 * p + i))), .int .i64 0] from if_pos rb']
    have j1 := s.grow x9
    have gm4 := (j1.front 1).get
    simp (maxSteps := 2000000) (disch := first | (simp only [go_sem, Nat.reduceBEq, Nat.reduceAdd, Nat.reduceMul, Nat.reduceSub, Nat.reduceEqDiff, Nat.reduceLeDiff, Nat.reduceLT, Int.reduceEq, Int.reduceAdd, Int.reduceSub, Int.reduceMul, Int.reduceNeg, Int.reduceLT, Int.reduceLE, Int.reduceToNat, Int.reduceBEq, Int.reduceNe, reduceCtorEq, gm4] <;> omega) | omega) only [go_sem, Nat.reduceBEq, Nat.reduceAdd, Nat.reduceMul, Nat.reduceSub, Nat.reduceEqDiff, Nat.reduceLeDiff, Nat.reduceLT, Int.reduceEq, Int.reduceAdd, Int.reduceSub, Int.reduceMul, Int.reduceNeg, Int.reduceLT, Int.reduceLE, Int.reduceToNat, Int.reduceBEq, Int.reduceNe, reduceCtorEq, w64_id, w8_id, w16_id, w32_id, tmod_pos, tdiv_pos, Bool.or_true, Bool.true_or, Bool.or_false, Bool.false_or, Bool.and_false, Bool.false_and, condK_decide, gm4]
    refine (store_S (Sat.star.1 j1) 64 4 (wordI (ldbI (4 * p + i))) (by omega) ⟨b0, b1⟩).mono ?_
    rintro v h10 ⟨rfl, j2⟩
    rw [a0] at j2 ⊢
    rw [if_pos rfl, putM_putM] at j2
    have j3 : Sat h10 (mchS 16 rb tb (.pointer q) ⟨putM (bM p w) 64 4 (wordI (ldbI (4 * p + i))), bT, none⟩ :: _) := Sat.star.2 j2
    have gm5 := (j3.front 1).get
    have gi5 := (j3.front 2).get
    simp (maxSteps := 2000000) (disch := first | (simp only [go_sem, Nat.reduceBEq, Nat.reduceAdd, Nat.reduceMul, Nat.reduceSub, Nat.reduceEqDiff, Nat.reduceLeDiff, Nat.reduceLT, Int.reduceEq, Int.reduceAdd, Int.reduceSub, Int.reduceMul, Int.reduceNeg, Int.reduceLT, Int.reduceLE, Int.reduceToNat, Int.reduceBEq, Int.reduceNe, reduceCtorEq, gm5, gi5] <;> omega) | omega) only [go_sem, Nat.reduceBEq, Nat.reduceAdd, Nat.reduceMul, Nat.reduceSub, Nat.reduceEqDiff, Nat.reduceLeDiff, Nat.reduceLT, Int.reduceEq, Int.reduceAdd, Int.reduceSub, Int.reduceMul, Int.reduceNeg, Int.reduceLT, Int.reduceLE, Int.reduceToNat, Int.reduceBEq, Int.reduceNe, reduceCtorEq, w64_id, w8_id, w16_id, w32_id, tmod_pos, tdiv_pos, Bool.or_true, Bool.true_or, Bool.or_false, Bool.false_or, Bool.and_false, Bool.false_and, condK_decide, gm5, gi5]
    refine (stepM_S (c := inW w) fW j3 1 3 0 (fun _ _ _ _ _ _ _ => Nat.zero_le _)).mono ?_
    rintro v h11 ⟨rfl, f3, t3⟩
    have e3 := bak3 p hp i hi4 w
    rw [e3, bak_byte p i hi4 w] at f3 t3 ⊢
    simp only at f3 t3 ⊢
    obtain ⟨d3, hd3⟩ : ∃ d : Cp, (⟨(setR (inW w) 3 ((w : Int) / 256 ^ i % 256)).Regs, 4, (setR (inW w) 3 ((w : Int) / 256 ^ i % 256)).Sys⟩ : Cp) = d := ⟨_, rfl⟩
    rw [hd3] at f3 ⊢
    simp (maxSteps := 2000000) (disch := first | (simp only [go_sem, Nat.reduceBEq, Nat.reduceAdd, Nat.reduceMul, Nat.reduceSub, Nat.reduceEqDiff, Nat.reduceLeDiff, Nat.reduceLT, Int.reduceEq, Int.reduceAdd, Int.reduceSub, Int.reduceMul, Int.reduceNeg, Int.reduceLT, Int.reduceLE, Int.reduceToNat, Int.reduceBEq, Int.reduceNe, reduceCtorEq] <;> omega) | omega) only [go_sem, Nat.reduceBEq, Nat.reduceAdd, Nat.reduceMul, Nat.reduceSub, Nat.reduceEqDiff, Nat.reduceLeDiff, Nat.reduceLT, Int.reduceEq, Int.reduceAdd, Int.reduceSub, Int.reduceMul, Int.reduceNeg, Int.reduceLT, Int.reduceLE, Int.reduceToNat, Int.reduceBEq, Int.reduceNe, reduceCtorEq, w64_id, w8_id, w16_id, w32_id, tmod_pos, tdiv_pos, Bool.or_true, Bool.true_or, Bool.or_false, Bool.false_or, Bool.and_false, Bool.false_and, condK_decide]
    have z3 := (t3.push (.cells (tzeroD Tryz.prog 48).cells 48 (0, 0))).push (.cells okT.cells.toArray 52 (0, 0))
    simp only [tzeroD_48, Trp.cells_eq, okT, okF, size_push'] at z3
    refine store_cpu f3 (z3.front 1).get (by rfl) ?_
    have z4 := (t3.push (.cells d3.cells.toArray 48 (0, 0))).push (.cells okT.cells.toArray 52 (0, 0))
    simp only [Trp.cells_eq, okT, okF, size_push'] at z4
    have l1 := z4.get
    have l2 := (z4.front 1).get
    have n4 : nthL d3.cells 3 = some (.int .u32 ((w : Int) / 256 ^ i % 256)) := by rw [nthL_eq, Cp.reg f3 (i := 3) (by decide), ← hd3]; rfl
    simp (maxSteps := 2000000) (disch := first | (simp only [go_sem, Nat.reduceBEq, Nat.reduceAdd, Nat.reduceMul, Nat.reduceSub, Nat.reduceEqDiff, Nat.reduceLeDiff, Nat.reduceLT, Int.reduceEq, Int.reduceAdd, Int.reduceSub, Int.reduceMul, Int.reduceNeg, Int.reduceLT, Int.reduceLE, Int.reduceToNat, Int.reduceBEq, Int.reduceNe, reduceCtorEq, l1, l2, n4, okT, okF] <;> omega) | omega) only [go_sem, Nat.reduceBEq, Nat.reduceAdd, Nat.reduceMul, Nat.reduceSub, Nat.reduceEqDiff, Nat.reduceLeDiff, Nat.reduceLT, Int.reduceEq, Int.reduceAdd, Int.reduceSub, Int.reduceMul, Int.reduceNeg, Int.reduceLT, Int.reduceLE, Int.reduceToNat, Int.reduceBEq, Int.reduceNe, reduceCtorEq, w64_id, w8_id, w16_id, w32_id, tmod_pos, tdiv_pos, Bool.or_true, Bool.true_or, Bool.or_false, Bool.false_or, Bool.and_false, Bool.false_and, condK_decide, l1, l2, n4, okT, okF]
    exact ⟨fun q => absurd (byte_eq hw hi4) q, fun _ => ⟨i + 1, rfl, ⟨by omega, _, z4.tail.tail⟩, by simp only; omega⟩⟩
  · simp (maxSteps := 2000000) (disch := first | (simp only [go_sem, Nat.reduceBEq, Nat.reduceAdd, Nat.reduceMul, Nat.reduceSub, Nat.reduceEqDiff, Nat.reduceLeDiff, Nat.reduceLT, Int.reduceEq, Int.reduceAdd, Int.reduceSub, Int.reduceMul, Int.reduceNeg, Int.reduceLT, Int.reduceLE, Int.reduceToNat, Int.reduceBEq, Int.reduceNe, reduceCtorEq, k] <;> omega) | omega) only [go_sem, Nat.reduceBEq, Nat.reduceAdd, Nat.reduceMul, Nat.reduceSub, Nat.reduceEqDiff, Nat.reduceLeDiff, Nat.reduceLT, Int.reduceEq, Int.reduceAdd, Int.reduceSub, Int.reduceMul, Int.reduceNeg, Int.reduceLT, Int.reduceLE, Int.reduceToNat, Int.reduceBEq, Int.reduceNe, reduceCtorEq, w64_id, w8_id, w16_id, w32_id, tmod_pos, tdiv_pos, Bool.or_true, Bool.true_or, Bool.or_false, Bool.false_or, Bool.and_false, Bool.false_and, condK_decide, k]
    exact hR _ _ ⟨rfl, (s.front 3).ext⟩
end
end Go.Eng
