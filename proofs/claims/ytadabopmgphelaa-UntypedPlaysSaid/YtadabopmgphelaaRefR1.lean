/-
  viceroyref01: New, Store, Load, Frame, Clear, Same.
-/
import Derived.Test.YtadabopmgphelaaUnt11
import Derived.Test.YtadabopmgphelaaEng16
namespace Go.Eng
set_option linter.unusedSimpArgs false
set_option linter.unusedVariables false
set_option maxRecDepth 16000
set_option maxHeartbeats 4000000
open Go Go.Proofs

/-- The bytes of a memory. -/
def memL (n : Nat) (mem : Nat → Int) : List Value := (List.range n).map fun i => .int .u8 (mem i)
theorem memL_len {n : Nat} {mem : Nat → Int} : (memL n mem).length = n := by simp [memL]
theorem memL_get {n : Nat} {mem : Nat → Int} {i : Nat} (hi : i < n) : (memL n mem)[i]? = some (.int .u8 (mem i)) := by simp [memL, hi]
theorem memL_single {n : Nat} {mem : Nat → Int} : ∀ x ∈ memL n mem, single x = true := by
  intro x hx; obtain ⟨i, -, rfl⟩ := List.mem_map.1 hx; rfl
theorem memL_congr {n : Nat} {mem mem' : Nat → Int} (e : ∀ i, i < n → mem i = mem' i) : memL n mem = memL n mem' := by
  unfold memL
  apply List.map_congr_left
  intro i hi
  rw [e i (List.mem_range.1 hi)]
theorem memL_set {n : Nat} {mem : Nat → Int} {k : Nat} {x : Int} : (memL n mem).set k (.int .u8 x) = memL n (fun j => if j = k then x else mem j) := by
  apply List.ext_getElem?
  intro i
  rw [List.getElem?_set]
  by_cases e : k = i
  · subst e
    rw [memL_len]
    by_cases hk : k < n
    · simp [memL, hk]
    · simp [memL, hk]
  · rw [if_neg e]
    by_cases hi : i < n
    · rw [memL_get hi, memL_get hi, if_neg (fun q => e q.symm)]
    · rw [List.getElem?_eq_none (by rw [memL_len]; omega), List.getElem?_eq_none (by rw [memL_len]; omega)]

def bytesOk (n : Nat) (mem : Nat → Int) : Prop := ∀ i, i < n → 0 ≤ mem i ∧ mem i < 256

/-- The document's memory. -/
def refRamS (rb n : Nat) (mem : Nat → Int) : SP := exS fun x : Value × TypeId => starL [pureS (bytesOk (64 * n) mem ∧ n ≤ 1024), cellAt rb (.cells [x.1].toArray x.2 (0, 0)), sliceS 1 (64 * n) x.1 (memL (64 * n) mem)]
theorem refRamS_iff {h : Heap} {F : List SP} {rb n : Nat} {mem : Nat → Int} : Sat h (refRamS rb n mem :: F) ↔ (bytesOk (64 * n) mem ∧ n ≤ 1024) ∧ ∃ v ty, Sat h (cellAt rb (.cells [v].toArray ty (0, 0)) :: sliceS 1 (64 * n) v (memL (64 * n) mem) :: F) := by
  unfold refRamS
  rw [Sat.ex]
  constructor
  · rintro ⟨x, hx⟩
    have := Sat.star.1 hx
    obtain ⟨p, q⟩ := Sat.pure.1 this
    exact ⟨p, x.1, x.2, q⟩
  · rintro ⟨p, v, ty, hx⟩
    exact ⟨(v, ty), Sat.star.2 (Sat.pure.2 ⟨p, hx⟩)⟩

/-- What is wrong with an access. -/
def accM (n : Nat) (addr size : Int) : Int := if size ≠ 1 ∧ size ≠ 2 ∧ size ≠ 4 then 1 else if addr.tmod size ≠ 0 then 11 else if addr < 0 ∨ 64 * n ≤ addr then 10 else 0
/-- A store. -/
def putM (mem : Nat → Int) (addr : Int) (size : Int) (w : Int) : Nat → Int := fun j => if addr ≤ j ∧ (j : Int) < addr + size then w / 256 ^ (j - addr.toNat) % 256 else mem j

section
variable {h : Heap} {F : List SP} {rb n : Nat} {mem : Nat → Int}

theorem refNew_S (hs : Sat h F) (n : Nat) (h1 : 1 ≤ n) (h2 : n ≤ 1024) : HCalls Try.prog 20 #[.int .i64 n] h fun v h' => ∃ rb, v = .tuple #[.pointer (some ⟨rb, 0, none⟩), .int .i64 0] ∧ Sat h' (refRamS rb n (fun _ => 0) :: F) := by
  refine HCalls.via fun R hR => ?_
  have c1 : ¬ ((n : Int) < 1) := by omega
  have c2 : ¬ (1024 < (n : Int)) := by omega
  have e : ((n : Int) * 64) = ((n * 64 : Nat) : Int) := by omega
  refine HCalls.of_dev T20 Try.func20 rfl mixed (by kernel_rfl) ?_; rw [Try.results20]
  simp (maxSteps := 2000000) (disch := first | (simp only [go_sem, Nat.reduceBEq, Nat.reduceAdd, Nat.reduceMul, Nat.reduceSub, Nat.reduceEqDiff, Nat.reduceLeDiff, Nat.reduceLT, Int.reduceEq, Int.reduceAdd, Int.reduceSub, Int.reduceMul, Int.reduceNeg, Int.reduceLT, Int.reduceLE, Int.reduceToNat, Int.reduceBEq, Int.reduceNe, reduceCtorEq, c1, c2, e]; done) | omega | (simp only [go_sem, Nat.reduceBEq, Nat.reduceAdd, Nat.reduceMul, Nat.reduceSub, Nat.reduceEqDiff, Nat.reduceLeDiff, Nat.reduceLT, Int.reduceEq, Int.reduceAdd, Int.reduceSub, Int.reduceMul, Int.reduceNeg, Int.reduceLT, Int.reduceLE, Int.reduceToNat, Int.reduceBEq, Int.reduceNe, reduceCtorEq, c1, c2, e]; omega)) only [go_sem, Nat.reduceBEq, Nat.reduceAdd, Nat.reduceMul, Nat.reduceSub, Nat.reduceEqDiff, Nat.reduceLeDiff, Nat.reduceLT, Int.reduceEq, Int.reduceAdd, Int.reduceSub, Int.reduceMul, Int.reduceNeg, Int.reduceLT, Int.reduceLE, Int.reduceToNat, Int.reduceBEq, Int.reduceNe, reduceCtorEq, w64_id, w8_id, w16_id, w32_id, tmod_pos, tdiv_pos, Bool.or_true, Bool.true_or, Bool.or_false, Bool.false_or, Bool.and_false, Bool.false_and, condK_decide, c1, c2, e]
  have s1 := hs.push (.cells (zrow Try.prog 40 (n * 64)) 5 (0, 0))
  have s2 : Sat _ (sliceS 1 (64 * n) (.slice (some ⟨h.size, 0, none⟩) (64 * n) (64 * n)) (memL (64 * n) fun _ => 0) :: F) := s1.toSlice (by rw [memL_len, Nat.mul_one]) memL_single (Nat.le_refl _) (by rw [zrow_size, ssz_40]; omega) fun k hk => by
    rw [memL_len] at hk
    have z : (tzeroD Try.prog 5).cells = #[.int .u8 0] := by kernel_rfl
    rw [zrow_get (by rw [ssz_40]; omega), selem_40, z, memL_get hk]
    simp [Nat.mod_one]
  have s3 := s2.push (.cells [.slice (some ⟨h.size, 0, none⟩) (64 * n) (64 * n)].toArray 76 (0, 0))
  rw [size_push'] at s3
  rw [Nat.mul_comm n 64] at s3 ⊢
  exact hR _ _ ⟨_, rfl, refRamS_iff.2 ⟨⟨fun i _ => by simp, h2⟩, _, _, s3⟩⟩

theorem refThere_S (hs : Sat h (refRamS rb n mem :: F)) (i : Int) : HCalls Try.prog 41 #[.pointer (some ⟨rb, 0, none⟩), .int .i64 i] h fun v h' => v = .bool (decide (0 ≤ i ∧ i < n)) ∧ h' = h := by
  refine HCalls.via fun R hR => ?_
  obtain ⟨⟨hb, hn⟩, v, ty, s⟩ := refRamS_iff.1 hs
  obtain ⟨_, _, rfl, -⟩ := (s.front 1).elems
  refine HCalls.of_dev T41 Try.func41 rfl mixed (by kernel_rfl) ?_; rw [Try.results41]
  simp (maxSteps := 2000000) (disch := first | (simp only [go_sem, Nat.reduceBEq, Nat.reduceAdd, Nat.reduceMul, Nat.reduceSub, Nat.reduceEqDiff, Nat.reduceLeDiff, Nat.reduceLT, Int.reduceEq, Int.reduceAdd, Int.reduceSub, Int.reduceMul, Int.reduceNeg, Int.reduceLT, Int.reduceLE, Int.reduceToNat, Int.reduceBEq, Int.reduceNe, reduceCtorEq, s.get]; done) | omega | (simp only [go_sem, Nat.reduceBEq, Nat.reduceAdd, Nat.reduceMul, Nat.reduceSub, Nat.reduceEqDiff, Nat.reduceLeDiff, Nat.reduceLT, Int.reduceEq, Int.reduceAdd, Int.reduceSub, Int.reduceMul, Int.reduceNeg, Int.reduceLT, Int.reduceLE, Int.reduceToNat, Int.reduceBEq, Int.reduceNe, reduceCtorEq, s.get]; omega)) only [go_sem, Nat.reduceBEq, Nat.reduceAdd, Nat.reduceMul, Nat.reduceSub, Nat.reduceEqDiff, Nat.reduceLeDiff, Nat.reduceLT, Int.reduceEq, Int.reduceAdd, Int.reduceSub, Int.reduceMul, Int.reduceNeg, Int.reduceLT, Int.reduceLE, Int.reduceToNat, Int.reduceBEq, Int.reduceNe, reduceCtorEq, w64_id, w8_id, w16_id, w32_id, tmod_pos, tdiv_pos, Bool.or_true, Bool.true_or, Bool.or_false, Bool.false_or, Bool.and_false, Bool.false_and, condK_decide, s.get]
  refine hR _ _ ⟨?_, rfl⟩
  rw [show ((64 * n : Nat) : Int) / 64 = n by omega, ← Bool.decide_and]

theorem wrong_S (hs : Sat h (refRamS rb n mem :: F)) (addr size : Int) : HCalls Try.prog 46 #[.pointer (some ⟨rb, 0, none⟩), .int .i64 addr, .int .i64 size] h fun v h' => v = .int .i64 (accM n addr size) ∧ h' = h := by
  refine HCalls.via fun R hR => ?_
  obtain ⟨⟨hb, hn⟩, v, ty, s⟩ := refRamS_iff.1 hs
  obtain ⟨_, _, rfl, -⟩ := (s.front 1).elems
  have acc : ∀ e, e = accM n addr size → R (.int .i64 e) h := fun e he => hR _ _ ⟨by rw [he], rfl⟩
  by_cases hz : size = 1 ∨ size = 2 ∨ size = 4
  · have hne : size ≠ 0 := by omega
    refine HCalls.of_dev T46 Try.func46 rfl mixed (by kernel_rfl) ?_; rw [Try.results46]
    simp (maxSteps := 2000000) (disch := first | (simp only [go_sem, Nat.reduceBEq, Nat.reduceAdd, Nat.reduceMul, Nat.reduceSub, Nat.reduceEqDiff, Nat.reduceLeDiff, Nat.reduceLT, Int.reduceEq, Int.reduceAdd, Int.reduceSub, Int.reduceMul, Int.reduceNeg, Int.reduceLT, Int.reduceLE, Int.reduceToNat, Int.reduceBEq, Int.reduceNe, reduceCtorEq, s.get, hne]; done) | omega | (simp only [go_sem, Nat.reduceBEq, Nat.reduceAdd, Nat.reduceMul, Nat.reduceSub, Nat.reduceEqDiff, Nat.reduceLeDiff, Nat.reduceLT, Int.reduceEq, Int.reduceAdd, Int.reduceSub, Int.reduceMul, Int.reduceNeg, Int.reduceLT, Int.reduceLE, Int.reduceToNat, Int.reduceBEq, Int.reduceNe, reduceCtorEq, s.get, hne]; omega)) only [go_sem, Nat.reduceBEq, Nat.reduceAdd, Nat.reduceMul, Nat.reduceSub, Nat.reduceEqDiff, Nat.reduceLeDiff, Nat.reduceLT, Int.reduceEq, Int.reduceAdd, Int.reduceSub, Int.reduceMul, Int.reduceNeg, Int.reduceLT, Int.reduceLE, Int.reduceToNat, Int.reduceBEq, Int.reduceNe, reduceCtorEq, w64_id, w8_id, w16_id, w32_id, tmod_pos, tdiv_pos, Bool.or_true, Bool.true_or, Bool.or_false, Bool.false_or, Bool.and_false, Bool.false_and, condK_decide, s.get, hne]
    refine ⟨fun q => absurd q (by simp; omega), fun _ => ⟨fun q => acc _ ?_, fun q => ⟨fun q2 => acc _ ?_, fun q2 => acc _ ?_⟩⟩⟩
    · unfold accM; rw [if_neg (by omega), if_pos q]
    · simp only [Bool.or_eq_true, decide_eq_true_eq] at q2
      unfold accM; rw [if_neg (by omega), if_neg (by simpa using q), if_pos (by omega)]
    · simp only [Bool.or_eq_false_iff, decide_eq_false_iff_not] at q2
      unfold accM; rw [if_neg (by omega), if_neg (by simpa using q), if_neg (by omega)]
  · have c1 : ¬ size = 1 := by omega
    have c2 : ¬ size = 2 := by omega
    have c4 : ¬ size = 4 := by omega
    refine HCalls.of_dev T46 Try.func46 rfl mixed (by kernel_rfl) ?_; rw [Try.results46]
    simp (maxSteps := 2000000) (disch := first | (simp only [go_sem, Nat.reduceBEq, Nat.reduceAdd, Nat.reduceMul, Nat.reduceSub, Nat.reduceEqDiff, Nat.reduceLeDiff, Nat.reduceLT, Int.reduceEq, Int.reduceAdd, Int.reduceSub, Int.reduceMul, Int.reduceNeg, Int.reduceLT, Int.reduceLE, Int.reduceToNat, Int.reduceBEq, Int.reduceNe, reduceCtorEq, c1, c2, c4]; done) | omega | (simp only [go_sem, Nat.reduceBEq, Nat.reduceAdd, Nat.reduceMul, Nat.reduceSub, Nat.reduceEqDiff, Nat.reduceLeDiff, Nat.reduceLT, Int.reduceEq, Int.reduceAdd, Int.reduceSub, Int.reduceMul, Int.reduceNeg, Int.reduceLT, Int.reduceLE, Int.reduceToNat, Int.reduceBEq, Int.reduceNe, reduceCtorEq, c1, c2, c4]; omega)) only [go_sem, Nat.reduceBEq, Nat.reduceAdd, Nat.reduceMul, Nat.reduceSub, Nat.reduceEqDiff, Nat.reduceLeDiff, Nat.reduceLT, Int.reduceEq, Int.reduceAdd, Int.reduceSub, Int.reduceMul, Int.reduceNeg, Int.reduceLT, Int.reduceLE, Int.reduceToNat, Int.reduceBEq, Int.reduceNe, reduceCtorEq, w64_id, w8_id, w16_id, w32_id, tmod_pos, tdiv_pos, Bool.or_true, Bool.true_or, Bool.or_false, Bool.false_or, Bool.and_false, Bool.false_and, condK_decide, c1, c2, c4]
    exact acc _ (by unfold accM; rw [if_pos (by omega)])

theorem refStore_S (hs : Sat h (refRamS rb n mem :: F)) (addr size w : Int) (hw : 0 ≤ w ∧ w < 4294967296) : HCalls Try.prog 37 #[.pointer (some ⟨rb, 0, none⟩), .int .i64 addr, .int .i64 size, .int .u32 w] h fun v h' =>
    v = .int .i64 (accM n addr size) ∧ Sat h' (refRamS rb n (if accM n addr size = 0 then putM mem addr size w else mem) :: F) := by
  refine HCalls.via fun R hR => ?_
  refine HCalls.of_dev T37 Try.func37 rfl mixed (by kernel_rfl) ?_; rw [Try.results37]
  simp (maxSteps := 2000000) (disch := first | (simp only [go_sem, Nat.reduceBEq, Nat.reduceAdd, Nat.reduceMul, Nat.reduceSub, Nat.reduceEqDiff, Nat.reduceLeDiff, Nat.reduceLT, Int.reduceEq, Int.reduceAdd, Int.reduceSub, Int.reduceMul, Int.reduceNeg, Int.reduceLT, Int.reduceLE, Int.reduceToNat, Int.reduceBEq, Int.reduceNe, reduceCtorEq]; done) | omega | (simp only [go_sem, Nat.reduceBEq, Nat.reduceAdd, Nat.reduceMul, Nat.reduceSub, Nat.reduceEqDiff, Nat.reduceLeDiff, Nat.reduceLT, Int.reduceEq, Int.reduceAdd, Int.reduceSub, Int.reduceMul, Int.reduceNeg, Int.reduceLT, Int.reduceLE, Int.reduceToNat, Int.reduceBEq, Int.reduceNe, reduceCtorEq]; omega)) only [go_sem, Nat.reduceBEq, Nat.reduceAdd, Nat.reduceMul, Nat.reduceSub, Nat.reduceEqDiff, Nat.reduceLeDiff, Nat.reduceLT, Int.reduceEq, Int.reduceAdd, Int.reduceSub, Int.reduceMul, Int.reduceNeg, Int.reduceLT, Int.reduceLE, Int.reduceToNat, Int.reduceBEq, Int.reduceNe, reduceCtorEq, w64_id, w8_id, w16_id, w32_id, tmod_pos, tdiv_pos, Bool.or_true, Bool.true_or, Bool.or_false, Bool.false_or, Bool.and_false, Bool.false_and, condK_decide]
  refine (wrong_S hs addr size).mono ?_
  rintro v h1 ⟨rfl, rfl⟩
  obtain ⟨⟨hb, hn⟩, v, ty, s⟩ := refRamS_iff.1 hs
  obtain ⟨_, _, rfl, -⟩ := (s.front 1).elems
  simp (maxSteps := 2000000) (disch := first | (simp only [go_sem, Nat.reduceBEq, Nat.reduceAdd, Nat.reduceMul, Nat.reduceSub, Nat.reduceEqDiff, Nat.reduceLeDiff, Nat.reduceLT, Int.reduceEq, Int.reduceAdd, Int.reduceSub, Int.reduceMul, Int.reduceNeg, Int.reduceLT, Int.reduceLE, Int.reduceToNat, Int.reduceBEq, Int.reduceNe, reduceCtorEq]; done) | omega | (simp only [go_sem, Nat.reduceBEq, Nat.reduceAdd, Nat.reduceMul, Nat.reduceSub, Nat.reduceEqDiff, Nat.reduceLeDiff, Nat.reduceLT, Int.reduceEq, Int.reduceAdd, Int.reduceSub, Int.reduceMul, Int.reduceNeg, Int.reduceLT, Int.reduceLE, Int.reduceToNat, Int.reduceBEq, Int.reduceNe, reduceCtorEq]; omega)) only [go_sem, Nat.reduceBEq, Nat.reduceAdd, Nat.reduceMul, Nat.reduceSub, Nat.reduceEqDiff, Nat.reduceLeDiff, Nat.reduceLT, Int.reduceEq, Int.reduceAdd, Int.reduceSub, Int.reduceMul, Int.reduceNeg, Int.reduceLT, Int.reduceLE, Int.reduceToNat, Int.reduceBEq, Int.reduceNe, reduceCtorEq, w64_id, w8_id, w16_id, w32_id, tmod_pos, tdiv_pos, Bool.or_true, Bool.true_or, Bool.or_false, Bool.false_or, Bool.and_false, Bool.false_and, condK_decide]
  refine ⟨fun q => hR _ _ ⟨rfl, by rw [if_neg q]; exact hs⟩, fun q => ?_⟩
  have q := Classical.not_not.1 q
  have hacc : (size = 1 ∨ size = 2 ∨ size = 4) ∧ addr.tmod size = 0 ∧ 0 ≤ addr ∧ addr < 64 * n := by
    unfold accM at q
    by_cases c1 : size ≠ 1 ∧ size ≠ 2 ∧ size ≠ 4
    · rw [if_pos c1] at q; cases q
    · rw [if_neg c1] at q
      by_cases c2 : addr.tmod size ≠ 0
      · rw [if_pos c2] at q; cases q
      · rw [if_neg c2] at q
        by_cases c3 : addr < 0 ∨ 64 * (n : Int) ≤ addr
        · rw [if_pos c3] at q; cases q
        · exact ⟨by omega, by omega, by omega, by omega⟩
  rw [q] at hR
  simp only [if_true] at hR
  obtain ⟨hz, ha, a0, a1⟩ := hacc
  have hfit : addr + size ≤ 64 * n := by
    rw [Int.tmod_eq_emod_of_nonneg a0] at ha
    rcases hz with rfl | rfl | rfl <;> omega
  refine loopH.intro (fun k : Nat => (.cons 0 (.pointer (some ⟨rb, 0, none⟩)) true (.cons 1 (.int .i64 addr) true (.cons 2 (.int .i64 size) true (.cons 3 (.int .u32 (w / 256 ^ k)) true (.cons 10 (.int .i64 k) true .nil))))))
    (fun k h' => (k : Int) ≤ size ∧ Sat h' (refRamS rb n (putM mem addr k w) :: F)) (fun k _ => (size - k).toNat + 1) 0 ?_ ⟨by omega, ?_⟩ ?_
  · simp (maxSteps := 2000000) (disch := first | (simp only [go_sem, Nat.reduceBEq, Nat.reduceAdd, Nat.reduceMul, Nat.reduceSub, Nat.reduceEqDiff, Nat.reduceLeDiff, Nat.reduceLT, Int.reduceEq, Int.reduceAdd, Int.reduceSub, Int.reduceMul, Int.reduceNeg, Int.reduceLT, Int.reduceLE, Int.reduceToNat, Int.reduceBEq, Int.reduceNe, reduceCtorEq]; done) | omega | (simp only [go_sem, Nat.reduceBEq, Nat.reduceAdd, Nat.reduceMul, Nat.reduceSub, Nat.reduceEqDiff, Nat.reduceLeDiff, Nat.reduceLT, Int.reduceEq, Int.reduceAdd, Int.reduceSub, Int.reduceMul, Int.reduceNeg, Int.reduceLT, Int.reduceLE, Int.reduceToNat, Int.reduceBEq, Int.reduceNe, reduceCtorEq]; omega)) only [go_sem, Nat.reduceBEq, Nat.reduceAdd, Nat.reduceMul, Nat.reduceSub, Nat.reduceEqDiff, Nat.reduceLeDiff, Nat.reduceLT, Int.reduceEq, Int.reduceAdd, Int.reduceSub, Int.reduceMul, Int.reduceNeg, Int.reduceLT, Int.reduceLE, Int.reduceToNat, Int.reduceBEq, Int.reduceNe, reduceCtorEq, w64_id, w8_id, w16_id, w32_id, tmod_pos, tdiv_pos, Bool.or_true, Bool.true_or, Bool.or_false, Bool.false_or, Bool.and_false, Bool.false_and, condK_decide]; simp
  · have e : putM mem addr ((0 : Nat) : Int) w = mem := by funext j; unfold putM; rw [if_neg (by omega)]
    rw [e]; exact hs
  rintro k h' ⟨hk, s'⟩
  have hp : (0 : Int) < 256 ^ k := Int.pow_pos (by decide)
  have hw0 : 0 ≤ w / 256 ^ k := Int.ediv_nonneg hw.1 (Int.le_of_lt hp)
  have hw1 : w / 256 ^ k ≤ w := Int.ediv_le_self _ hw.1
  obtain ⟨⟨hb', -⟩, v, ty', s'⟩ := refRamS_iff.1 s'
  obtain ⟨lb, cap, cs, ty2, rfl, hcap, hlb, hsz, hcs, hset⟩ := (s'.front 1).sliceOpen (by omega)
  have fin : (k : Int) = size → R (.int .i64 0) h' := fun e => hR _ _ ⟨rfl, refRamS_iff.2 ⟨⟨by rw [← e]; exact hb', hn⟩, _, _, by rw [← e]; exact s'⟩⟩
  by_cases hlt : (k : Int) < size
  · have i0 : 0 ≤ addr + k := by omega
    have i1 : addr + (k : Int) < ((64 * n : Nat) : Int) := by omega
    have l1 : (addr + (k : Int)).toNat < cs.size := by rw [hsz]; omega
    simp (maxSteps := 2000000) (disch := first | (simp only [go_sem, Nat.reduceBEq, Nat.reduceAdd, Nat.reduceMul, Nat.reduceSub, Nat.reduceEqDiff, Nat.reduceLeDiff, Nat.reduceLT, Int.reduceEq, Int.reduceAdd, Int.reduceSub, Int.reduceMul, Int.reduceNeg, Int.reduceLT, Int.reduceLE, Int.reduceToNat, Int.reduceBEq, Int.reduceNe, reduceCtorEq, hlt, s'.get, hlb, i0, i1, l1]; done) | omega | (simp only [go_sem, Nat.reduceBEq, Nat.reduceAdd, Nat.reduceMul, Nat.reduceSub, Nat.reduceEqDiff, Nat.reduceLeDiff, Nat.reduceLT, Int.reduceEq, Int.reduceAdd, Int.reduceSub, Int.reduceMul, Int.reduceNeg, Int.reduceLT, Int.reduceLE, Int.reduceToNat, Int.reduceBEq, Int.reduceNe, reduceCtorEq, hlt, s'.get, hlb, i0, i1, l1]; omega)) only [go_sem, Nat.reduceBEq, Nat.reduceAdd, Nat.reduceMul, Nat.reduceSub, Nat.reduceEqDiff, Nat.reduceLeDiff, Nat.reduceLT, Int.reduceEq, Int.reduceAdd, Int.reduceSub, Int.reduceMul, Int.reduceNeg, Int.reduceLT, Int.reduceLE, Int.reduceToNat, Int.reduceBEq, Int.reduceNe, reduceCtorEq, w64_id, w8_id, w16_id, w32_id, tmod_pos, tdiv_pos, Bool.or_true, Bool.true_or, Bool.or_false, Bool.false_or, Bool.and_false, Bool.false_and, condK_decide, hlt, s'.get, hlb, i0, i1, l1]
    have s6 := hset (addr + (k : Int)).toNat (.int .u8 (w / 256 ^ k % 256)) (by rw [memL_len]; omega) rfl
    rw [memL_set] at s6
    refine ⟨k + 1, ?_, ⟨by omega, refRamS_iff.2 ⟨⟨fun j hj => ?_, hn⟩, _, _, (s6.sliceEq (memL_congr fun j hj => ?_)).swap⟩⟩, by simp only; omega⟩
    · simp only
      rw [Int.pow_succ, ← Int.ediv_ediv_of_nonneg (by omega)]; rfl
    · unfold putM
      split
      · omega
      · exact hb j hj
    · unfold putM
      by_cases e1 : j = (addr + (k : Int)).toNat
      · rw [if_pos e1, if_pos (by omega), show j - addr.toNat = k by omega]
      · rw [if_neg e1]
        by_cases e2 : addr ≤ j ∧ (j : Int) < addr + k
        · rw [if_pos e2, if_pos (by omega)]
        · rw [if_neg e2, if_neg (by omega)]
  · simp (maxSteps := 2000000) (disch := first | (simp only [go_sem, Nat.reduceBEq, Nat.reduceAdd, Nat.reduceMul, Nat.reduceSub, Nat.reduceEqDiff, Nat.reduceLeDiff, Nat.reduceLT, Int.reduceEq, Int.reduceAdd, Int.reduceSub, Int.reduceMul, Int.reduceNeg, Int.reduceLT, Int.reduceLE, Int.reduceToNat, Int.reduceBEq, Int.reduceNe, reduceCtorEq, hlt]; done) | omega | (simp only [go_sem, Nat.reduceBEq, Nat.reduceAdd, Nat.reduceMul, Nat.reduceSub, Nat.reduceEqDiff, Nat.reduceLeDiff, Nat.reduceLT, Int.reduceEq, Int.reduceAdd, Int.reduceSub, Int.reduceMul, Int.reduceNeg, Int.reduceLT, Int.reduceLE, Int.reduceToNat, Int.reduceBEq, Int.reduceNe, reduceCtorEq, hlt]; omega)) only [go_sem, Nat.reduceBEq, Nat.reduceAdd, Nat.reduceMul, Nat.reduceSub, Nat.reduceEqDiff, Nat.reduceLeDiff, Nat.reduceLT, Int.reduceEq, Int.reduceAdd, Int.reduceSub, Int.reduceMul, Int.reduceNeg, Int.reduceLT, Int.reduceLE, Int.reduceToNat, Int.reduceBEq, Int.reduceNe, reduceCtorEq, w64_id, w8_id, w16_id, w32_id, tmod_pos, tdiv_pos, Bool.or_true, Bool.true_or, Bool.or_false, Bool.false_or, Bool.and_false, Bool.false_and, condK_decide, hlt]
    exact fin (by omega)

theorem refClear_S (hs : Sat h (refRamS rb n mem :: F)) (i : Int) : HCalls Try.prog 45 #[.pointer (some ⟨rb, 0, none⟩), .int .i64 i] h fun v h' =>
    (0 ≤ i ∧ i < n ∧ v = .int .i64 0 ∧ Sat h' (refRamS rb n (fun j => if 64 * i ≤ j ∧ (j : Int) < 64 * i + 64 then 0 else mem j) :: F)) ∨ (¬ (0 ≤ i ∧ i < n) ∧ v = .int .i64 10 ∧ Sat h' (refRamS rb n mem :: F)) := by
  refine HCalls.via fun R hR => ?_
  refine HCalls.of_dev T45 Try.func45 rfl mixed (by kernel_rfl) ?_; rw [Try.results45]
  simp (maxSteps := 2000000) (disch := first | (simp only [go_sem, Nat.reduceBEq, Nat.reduceAdd, Nat.reduceMul, Nat.reduceSub, Nat.reduceEqDiff, Nat.reduceLeDiff, Nat.reduceLT, Int.reduceEq, Int.reduceAdd, Int.reduceSub, Int.reduceMul, Int.reduceNeg, Int.reduceLT, Int.reduceLE, Int.reduceToNat, Int.reduceBEq, Int.reduceNe, reduceCtorEq]; done) | omega | (simp only [go_sem, Nat.reduceBEq, Nat.reduceAdd, Nat.reduceMul, Nat.reduceSub, Nat.reduceEqDiff, Nat.reduceLeDiff, Nat.reduceLT, Int.reduceEq, Int.reduceAdd, Int.reduceSub, Int.reduceMul, Int.reduceNeg, Int.reduceLT, Int.reduceLE, Int.reduceToNat, Int.reduceBEq, Int.reduceNe, reduceCtorEq]; omega)) only [go_sem, Nat.reduceBEq, Nat.reduceAdd, Nat.reduceMul, Nat.reduceSub, Nat.reduceEqDiff, Nat.reduceLeDiff, Nat.reduceLT, Int.reduceEq, Int.reduceAdd, Int.reduceSub, Int.reduceMul, Int.reduceNeg, Int.reduceLT, Int.reduceLE, Int.reduceToNat, Int.reduceBEq, Int.reduceNe, reduceCtorEq, w64_id, w8_id, w16_id, w32_id, tmod_pos, tdiv_pos, Bool.or_true, Bool.true_or, Bool.or_false, Bool.false_or, Bool.and_false, Bool.false_and, condK_decide]
  refine (refThere_S hs i).mono ?_
  rintro v h1 ⟨rfl, rfl⟩
  obtain ⟨⟨hb, hn⟩, v, ty, s⟩ := refRamS_iff.1 hs
  obtain ⟨_, _, rfl, -⟩ := (s.front 1).elems
  by_cases hi : 0 ≤ i ∧ i < n
  · simp (maxSteps := 2000000) (disch := first | (simp only [go_sem, Nat.reduceBEq, Nat.reduceAdd, Nat.reduceMul, Nat.reduceSub, Nat.reduceEqDiff, Nat.reduceLeDiff, Nat.reduceLT, Int.reduceEq, Int.reduceAdd, Int.reduceSub, Int.reduceMul, Int.reduceNeg, Int.reduceLT, Int.reduceLE, Int.reduceToNat, Int.reduceBEq, Int.reduceNe, reduceCtorEq, hi]; done) | omega | (simp only [go_sem, Nat.reduceBEq, Nat.reduceAdd, Nat.reduceMul, Nat.reduceSub, Nat.reduceEqDiff, Nat.reduceLeDiff, Nat.reduceLT, Int.reduceEq, Int.reduceAdd, Int.reduceSub, Int.reduceMul, Int.reduceNeg, Int.reduceLT, Int.reduceLE, Int.reduceToNat, Int.reduceBEq, Int.reduceNe, reduceCtorEq, hi]; omega)) only [go_sem, Nat.reduceBEq, Nat.reduceAdd, Nat.reduceMul, Nat.reduceSub, Nat.reduceEqDiff, Nat.reduceLeDiff, Nat.reduceLT, Int.reduceEq, Int.reduceAdd, Int.reduceSub, Int.reduceMul, Int.reduceNeg, Int.reduceLT, Int.reduceLE, Int.reduceToNat, Int.reduceBEq, Int.reduceNe, reduceCtorEq, w64_id, w8_id, w16_id, w32_id, tmod_pos, tdiv_pos, Bool.or_true, Bool.true_or, Bool.or_false, Bool.false_or, Bool.and_false, Bool.false_and, condK_decide, hi]
    refine loopH.intro (fun k : Nat => (.cons 0 (.pointer (some ⟨rb, 0, none⟩)) true (.cons 1 (.int .i64 i) true (.cons 6 (.int .i64 k) true .nil))))
      (fun k h' => k ≤ 64 ∧ Sat h' (refRamS rb n (fun j => if 64 * i ≤ j ∧ (j : Int) < 64 * i + k then 0 else mem j) :: F)) (fun k _ => 65 - k) 0 ?_ ⟨by omega, ?_⟩ ?_
    · simp (maxSteps := 2000000) (disch := first | (simp only [go_sem, Nat.reduceBEq, Nat.reduceAdd, Nat.reduceMul, Nat.reduceSub, Nat.reduceEqDiff, Nat.reduceLeDiff, Nat.reduceLT, Int.reduceEq, Int.reduceAdd, Int.reduceSub, Int.reduceMul, Int.reduceNeg, Int.reduceLT, Int.reduceLE, Int.reduceToNat, Int.reduceBEq, Int.reduceNe, reduceCtorEq]; done) | omega | (simp only [go_sem, Nat.reduceBEq, Nat.reduceAdd, Nat.reduceMul, Nat.reduceSub, Nat.reduceEqDiff, Nat.reduceLeDiff, Nat.reduceLT, Int.reduceEq, Int.reduceAdd, Int.reduceSub, Int.reduceMul, Int.reduceNeg, Int.reduceLT, Int.reduceLE, Int.reduceToNat, Int.reduceBEq, Int.reduceNe, reduceCtorEq]; omega)) only [go_sem, Nat.reduceBEq, Nat.reduceAdd, Nat.reduceMul, Nat.reduceSub, Nat.reduceEqDiff, Nat.reduceLeDiff, Nat.reduceLT, Int.reduceEq, Int.reduceAdd, Int.reduceSub, Int.reduceMul, Int.reduceNeg, Int.reduceLT, Int.reduceLE, Int.reduceToNat, Int.reduceBEq, Int.reduceNe, reduceCtorEq, w64_id, w8_id, w16_id, w32_id, tmod_pos, tdiv_pos, Bool.or_true, Bool.true_or, Bool.or_false, Bool.false_or, Bool.and_false, Bool.false_and, condK_decide]; rfl
    · have e : (fun j : Nat => if 64 * i ≤ j ∧ (j : Int) < 64 * i + (0 : Nat) then 0 else mem j) = mem := by funext j; rw [if_neg (by omega)]
      rw [e]; exact hs
    rintro k h' ⟨hk, s'⟩
    obtain ⟨⟨hb', -⟩, v, ty', s'⟩ := refRamS_iff.1 s'
    obtain ⟨lb, cap, cs, ty2, rfl, hcap, hlb, hsz, hcs, hset⟩ := (s'.front 1).sliceOpen (by omega)
    by_cases hlt : (k : Int) < 64
    · have i0 : 0 ≤ 64 * i + k := by omega
      have i1 : 64 * i + (k : Int) < ((64 * n : Nat) : Int) := by omega
      have l1 : (64 * i + (k : Int)).toNat < cs.size := by rw [hsz]; omega
      simp (maxSteps := 2000000) (disch := first | (simp only [go_sem, Nat.reduceBEq, Nat.reduceAdd, Nat.reduceMul, Nat.reduceSub, Nat.reduceEqDiff, Nat.reduceLeDiff, Nat.reduceLT, Int.reduceEq, Int.reduceAdd, Int.reduceSub, Int.reduceMul, Int.reduceNeg, Int.reduceLT, Int.reduceLE, Int.reduceToNat, Int.reduceBEq, Int.reduceNe, reduceCtorEq, hlt, s'.get, hlb, i0, i1, l1]; done) | omega | (simp only [go_sem, Nat.reduceBEq, Nat.reduceAdd, Nat.reduceMul, Nat.reduceSub, Nat.reduceEqDiff, Nat.reduceLeDiff, Nat.reduceLT, Int.reduceEq, Int.reduceAdd, Int.reduceSub, Int.reduceMul, Int.reduceNeg, Int.reduceLT, Int.reduceLE, Int.reduceToNat, Int.reduceBEq, Int.reduceNe, reduceCtorEq, hlt, s'.get, hlb, i0, i1, l1]; omega)) only [go_sem, Nat.reduceBEq, Nat.reduceAdd, Nat.reduceMul, Nat.reduceSub, Nat.reduceEqDiff, Nat.reduceLeDiff, Nat.reduceLT, Int.reduceEq, Int.reduceAdd, Int.reduceSub, Int.reduceMul, Int.reduceNeg, Int.reduceLT, Int.reduceLE, Int.reduceToNat, Int.reduceBEq, Int.reduceNe, reduceCtorEq, w64_id, w8_id, w16_id, w32_id, tmod_pos, tdiv_pos, Bool.or_true, Bool.true_or, Bool.or_false, Bool.false_or, Bool.and_false, Bool.false_and, condK_decide, hlt, s'.get, hlb, i0, i1, l1]
      have s6 := hset (64 * i + (k : Int)).toNat (.int .u8 0) (by rw [memL_len]; omega) rfl
      rw [memL_set] at s6
      refine ⟨k + 1, rfl, ⟨by omega, refRamS_iff.2 ⟨⟨fun j hj => ?_, hn⟩, _, _, (s6.sliceEq (memL_congr fun j hj => ?_)).swap⟩⟩, by simp only; omega⟩
      · simp only
        split
        · omega
        · exact hb j hj
      · by_cases e1 : j = (64 * i + (k : Int)).toNat
        · rw [if_pos e1, if_pos (by omega)]
        · rw [if_neg e1]
          by_cases e2 : 64 * i ≤ j ∧ (j : Int) < 64 * i + k
          · rw [if_pos e2, if_pos (by omega)]
          · rw [if_neg e2, if_neg (by omega)]
    · simp (maxSteps := 2000000) (disch := first | (simp only [go_sem, Nat.reduceBEq, Nat.reduceAdd, Nat.reduceMul, Nat.reduceSub, Nat.reduceEqDiff, Nat.reduceLeDiff, Nat.reduceLT, Int.reduceEq, Int.reduceAdd, Int.reduceSub, Int.reduceMul, Int.reduceNeg, Int.reduceLT, Int.reduceLE, Int.reduceToNat, Int.reduceBEq, Int.reduceNe, reduceCtorEq, hlt]; done) | omega | (simp only [go_sem, Nat.reduceBEq, Nat.reduceAdd, Nat.reduceMul, Nat.reduceSub, Nat.reduceEqDiff, Nat.reduceLeDiff, Nat.reduceLT, Int.reduceEq, Int.reduceAdd, Int.reduceSub, Int.reduceMul, Int.reduceNeg, Int.reduceLT, Int.reduceLE, Int.reduceToNat, Int.reduceBEq, Int.reduceNe, reduceCtorEq, hlt]; omega)) only [go_sem, Nat.reduceBEq, Nat.reduceAdd, Nat.reduceMul, Nat.reduceSub, Nat.reduceEqDiff, Nat.reduceLeDiff, Nat.reduceLT, Int.reduceEq, Int.reduceAdd, Int.reduceSub, Int.reduceMul, Int.reduceNeg, Int.reduceLT, Int.reduceLE, Int.reduceToNat, Int.reduceBEq, Int.reduceNe, reduceCtorEq, w64_id, w8_id, w16_id, w32_id, tmod_pos, tdiv_pos, Bool.or_true, Bool.true_or, Bool.or_false, Bool.false_or, Bool.and_false, Bool.false_and, condK_decide, hlt]
      obtain rfl : k = 64 := by omega
      exact hR _ _ (.inl ⟨hi.1, hi.2, rfl, refRamS_iff.2 ⟨⟨hb', hn⟩, _, _, s'⟩⟩)
  · simp (maxSteps := 2000000) (disch := first | (simp only [go_sem, Nat.reduceBEq, Nat.reduceAdd, Nat.reduceMul, Nat.reduceSub, Nat.reduceEqDiff, Nat.reduceLeDiff, Nat.reduceLT, Int.reduceEq, Int.reduceAdd, Int.reduceSub, Int.reduceMul, Int.reduceNeg, Int.reduceLT, Int.reduceLE, Int.reduceToNat, Int.reduceBEq, Int.reduceNe, reduceCtorEq, hi]; done) | omega | (simp only [go_sem, Nat.reduceBEq, Nat.reduceAdd, Nat.reduceMul, Nat.reduceSub, Nat.reduceEqDiff, Nat.reduceLeDiff, Nat.reduceLT, Int.reduceEq, Int.reduceAdd, Int.reduceSub, Int.reduceMul, Int.reduceNeg, Int.reduceLT, Int.reduceLE, Int.reduceToNat, Int.reduceBEq, Int.reduceNe, reduceCtorEq, hi]; omega)) only [go_sem, Nat.reduceBEq, Nat.reduceAdd, Nat.reduceMul, Nat.reduceSub, Nat.reduceEqDiff, Nat.reduceLeDiff, Nat.reduceLT, Int.reduceEq, Int.reduceAdd, Int.reduceSub, Int.reduceMul, Int.reduceNeg, Int.reduceLT, Int.reduceLE, Int.reduceToNat, Int.reduceBEq, Int.reduceNe, reduceCtorEq, w64_id, w8_id, w16_id, w32_id, tmod_pos, tdiv_pos, Bool.or_true, Bool.true_or, Bool.or_false, Bool.false_or, Bool.and_false, Bool.false_and, condK_decide, hi]
    exact hR _ _ (.inr ⟨hi, rfl, hs⟩)

theorem refFrame_S (hs : Sat h (refRamS rb n mem :: F)) (i : Int) : HCalls Try.prog 24 #[.pointer (some ⟨rb, 0, none⟩), .int .i64 i] h fun v h' =>
    (0 ≤ i ∧ i < n ∧ ∃ w, v = .tuple #[w, .int .i64 0] ∧ Sat h' (sliceS 1 64 w (memL 64 fun j => mem (64 * i.toNat + j)) :: refRamS rb n mem :: F)) ∨ (¬ (0 ≤ i ∧ i < n) ∧ v = .tuple #[.slice none 0 0, .int .i64 10] ∧ Sat h' (refRamS rb n mem :: F)) := by
  refine HCalls.via fun R hR => ?_
  refine HCalls.of_dev T24 Try.func24 rfl mixed (by kernel_rfl) ?_; rw [Try.results24]
  simp (maxSteps := 2000000) (disch := first | (simp only [go_sem, Nat.reduceBEq, Nat.reduceAdd, Nat.reduceMul, Nat.reduceSub, Nat.reduceEqDiff, Nat.reduceLeDiff, Nat.reduceLT, Int.reduceEq, Int.reduceAdd, Int.reduceSub, Int.reduceMul, Int.reduceNeg, Int.reduceLT, Int.reduceLE, Int.reduceToNat, Int.reduceBEq, Int.reduceNe, reduceCtorEq]; done) | omega | (simp only [go_sem, Nat.reduceBEq, Nat.reduceAdd, Nat.reduceMul, Nat.reduceSub, Nat.reduceEqDiff, Nat.reduceLeDiff, Nat.reduceLT, Int.reduceEq, Int.reduceAdd, Int.reduceSub, Int.reduceMul, Int.reduceNeg, Int.reduceLT, Int.reduceLE, Int.reduceToNat, Int.reduceBEq, Int.reduceNe, reduceCtorEq]; omega)) only [go_sem, Nat.reduceBEq, Nat.reduceAdd, Nat.reduceMul, Nat.reduceSub, Nat.reduceEqDiff, Nat.reduceLeDiff, Nat.reduceLT, Int.reduceEq, Int.reduceAdd, Int.reduceSub, Int.reduceMul, Int.reduceNeg, Int.reduceLT, Int.reduceLE, Int.reduceToNat, Int.reduceBEq, Int.reduceNe, reduceCtorEq, w64_id, w8_id, w16_id, w32_id, tmod_pos, tdiv_pos, Bool.or_true, Bool.true_or, Bool.or_false, Bool.false_or, Bool.and_false, Bool.false_and, condK_decide]
  refine (refThere_S hs i).mono ?_
  rintro v h1 ⟨rfl, rfl⟩
  obtain ⟨⟨hb, hn⟩, v, ty, s⟩ := refRamS_iff.1 hs
  obtain ⟨_, _, rfl, -⟩ := (s.front 1).elems
  by_cases hi : 0 ≤ i ∧ i < n
  · have s4 := (s.push (.cells #[] 5 (0, 0))).emptyS (sz := 1)
    have b0 : (64 * i).toNat ≤ (64 * i + 64).toNat := by omega
    have b1 : (64 * i + 64).toNat ≤ 64 * n := by omega
    obtain ⟨w, ew, sw⟩ := (s4.front 2).part (t := 40) (k := (64 * i).toNat) (m := (64 * i + 64).toNat) (lo := some (.int .i64 (64 * i))) (hi := some (.int .i64 (64 * i + 64))) isSlice_40 ssz_40 b0 b1 (fun cap h' hc => by
      have := sliceBounds_both (P := Try.prog) (h := h') (n := 64 * n) (cap := cap) (k := (64 * i).toNat) (m := (64 * i + 64).toNat) (q := .i64) (q' := .i64) (b := true) b0 (by omega)
      rwa [show (((64 * i).toNat : Nat) : Int) = 64 * i by omega, show (((64 * i + 64).toNat : Nat) : Int) = 64 * i + 64 by omega] at this)
    simp (maxSteps := 2000000) (disch := first | (simp only [go_sem, Nat.reduceBEq, Nat.reduceAdd, Nat.reduceMul, Nat.reduceSub, Nat.reduceEqDiff, Nat.reduceLeDiff, Nat.reduceLT, Int.reduceEq, Int.reduceAdd, Int.reduceSub, Int.reduceMul, Int.reduceNeg, Int.reduceLT, Int.reduceLE, Int.reduceToNat, Int.reduceBEq, Int.reduceNe, reduceCtorEq, hi, (s4.front 1).get, ew]; done) | omega | (simp only [go_sem, Nat.reduceBEq, Nat.reduceAdd, Nat.reduceMul, Nat.reduceSub, Nat.reduceEqDiff, Nat.reduceLeDiff, Nat.reduceLT, Int.reduceEq, Int.reduceAdd, Int.reduceSub, Int.reduceMul, Int.reduceNeg, Int.reduceLT, Int.reduceLE, Int.reduceToNat, Int.reduceBEq, Int.reduceNe, reduceCtorEq, hi, (s4.front 1).get, ew]; omega)) only [go_sem, Nat.reduceBEq, Nat.reduceAdd, Nat.reduceMul, Nat.reduceSub, Nat.reduceEqDiff, Nat.reduceLeDiff, Nat.reduceLT, Int.reduceEq, Int.reduceAdd, Int.reduceSub, Int.reduceMul, Int.reduceNeg, Int.reduceLT, Int.reduceLE, Int.reduceToNat, Int.reduceBEq, Int.reduceNe, reduceCtorEq, w64_id, w8_id, w16_id, w32_id, tmod_pos, tdiv_pos, Bool.or_true, Bool.true_or, Bool.or_false, Bool.false_or, Bool.and_false, Bool.false_and, condK_decide, hi, (s4.front 1).get, ew]
    have e64 : (64 * i + 64).toNat - (64 * i).toNat = 64 := by omega
    rw [e64] at sw
    refine Sat.append s4 sw isSlice_40 ssz_40 (by kernel_rfl) (by kernel_rfl) (by rw [selem_40, tbytes_5]; simp) (by omega) ?_
    intro v5 h5 s5
    simp (maxSteps := 2000000) (disch := first | (simp only [go_sem, Nat.reduceBEq, Nat.reduceAdd, Nat.reduceMul, Nat.reduceSub, Nat.reduceEqDiff, Nat.reduceLeDiff, Nat.reduceLT, Int.reduceEq, Int.reduceAdd, Int.reduceSub, Int.reduceMul, Int.reduceNeg, Int.reduceLT, Int.reduceLE, Int.reduceToNat, Int.reduceBEq, Int.reduceNe, reduceCtorEq]; done) | omega | (simp only [go_sem, Nat.reduceBEq, Nat.reduceAdd, Nat.reduceMul, Nat.reduceSub, Nat.reduceEqDiff, Nat.reduceLeDiff, Nat.reduceLT, Int.reduceEq, Int.reduceAdd, Int.reduceSub, Int.reduceMul, Int.reduceNeg, Int.reduceLT, Int.reduceLE, Int.reduceToNat, Int.reduceBEq, Int.reduceNe, reduceCtorEq]; omega)) only [go_sem, Nat.reduceBEq, Nat.reduceAdd, Nat.reduceMul, Nat.reduceSub, Nat.reduceEqDiff, Nat.reduceLeDiff, Nat.reduceLT, Int.reduceEq, Int.reduceAdd, Int.reduceSub, Int.reduceMul, Int.reduceNeg, Int.reduceLT, Int.reduceLE, Int.reduceToNat, Int.reduceBEq, Int.reduceNe, reduceCtorEq, w64_id, w8_id, w16_id, w32_id, tmod_pos, tdiv_pos, Bool.or_true, Bool.true_or, Bool.or_false, Bool.false_or, Bool.and_false, Bool.false_and, condK_decide]
    refine hR _ _ (.inl ⟨hi.1, hi.2, _, rfl, ?_⟩)
    have e : ([] : List Value) ++ ((memL (64 * n) mem).drop ((64 * i).toNat * 1)).take (64 * 1) = memL 64 fun j => mem (64 * i.toNat + j) := by
      apply List.ext_getElem?
      intro k
      rw [List.nil_append, List.getElem?_take, List.getElem?_drop]
      by_cases hk : k < 64
      · rw [if_pos (by omega), memL_get (by omega), memL_get hk]
        congr 3; omega
      · rw [if_neg (by omega), List.getElem?_eq_none (by rw [memL_len]; omega)]
    rw [e] at s5
    exact (refRamS_iff.2 ⟨⟨hb, hn⟩, _, _, ((s5.front 1).front 2).swap⟩).swap
  · simp (maxSteps := 2000000) (disch := first | (simp only [go_sem, Nat.reduceBEq, Nat.reduceAdd, Nat.reduceMul, Nat.reduceSub, Nat.reduceEqDiff, Nat.reduceLeDiff, Nat.reduceLT, Int.reduceEq, Int.reduceAdd, Int.reduceSub, Int.reduceMul, Int.reduceNeg, Int.reduceLT, Int.reduceLE, Int.reduceToNat, Int.reduceBEq, Int.reduceNe, reduceCtorEq, hi]; done) | omega | (simp only [go_sem, Nat.reduceBEq, Nat.reduceAdd, Nat.reduceMul, Nat.reduceSub, Nat.reduceEqDiff, Nat.reduceLeDiff, Nat.reduceLT, Int.reduceEq, Int.reduceAdd, Int.reduceSub, Int.reduceMul, Int.reduceNeg, Int.reduceLT, Int.reduceLE, Int.reduceToNat, Int.reduceBEq, Int.reduceNe, reduceCtorEq, hi]; omega)) only [go_sem, Nat.reduceBEq, Nat.reduceAdd, Nat.reduceMul, Nat.reduceSub, Nat.reduceEqDiff, Nat.reduceLeDiff, Nat.reduceLT, Int.reduceEq, Int.reduceAdd, Int.reduceSub, Int.reduceMul, Int.reduceNeg, Int.reduceLT, Int.reduceLE, Int.reduceToNat, Int.reduceBEq, Int.reduceNe, reduceCtorEq, w64_id, w8_id, w16_id, w32_id, tmod_pos, tdiv_pos, Bool.or_true, Bool.true_or, Bool.or_false, Bool.false_or, Bool.and_false, Bool.false_and, condK_decide, hi]
    exact hR _ _ (.inr ⟨hi, rfl, hs⟩)
end
end Go.Eng
