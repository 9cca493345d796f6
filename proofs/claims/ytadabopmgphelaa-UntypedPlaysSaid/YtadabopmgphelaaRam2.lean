/-
  package ram: place, Store (of one byte), Frame.
-/
import Derived.Test.YtadabopmgphelaaRam1
namespace Go.Eng
set_option linter.unusedSimpArgs false
set_option linter.unusedVariables false
set_option maxRecDepth 16000
set_option maxHeartbeats 4000000
open Go Go.Proofs

set_option maxRecDepth 16000 in
set_option maxHeartbeats 2000000 in
theorem place1_spec (h : Heap) (rb db : Nat) (n : Nat) (mem : Nat → Int) (r : RamAt h rb db n mem) (addr : Int) :
    HCalls Try.prog 27 #[.pointer (some ⟨rb, 0, none⟩), .int .i64 addr, .int .i64 1] h fun v h' => h' = h ∧
      ((0 ≤ addr ∧ addr < 64 * n ∧ v = .tuple #[.slice (some ⟨db, addr.toNat, none⟩) 1 (64 - addr.toNat % 64), .int .i64 0]) ∨ (¬ (0 ≤ addr ∧ addr < 64 * n) ∧ v = .tuple #[.slice none 0 0, .int .i64 10])) := by
  refine HCalls.via fun R hR => ?_
  obtain ⟨ty, hhead⟩ := r.head
  have many := r.many
  refine HCalls.of_dev T27 Try.func27 rfl mixed (by kernel_rfl) ?_; rw [Try.results27]
  simp (maxSteps := 2000000) only [↓condK_decide, go_sem, Nat.reduceBEq, Nat.reduceAdd, Nat.reduceMul, Nat.reduceSub, Nat.reduceEqDiff, Nat.reduceLeDiff, Nat.reduceLT, Int.reduceEq, Int.reduceAdd, Int.reduceSub, Int.reduceMul, Int.reduceNeg, Int.reduceLT, Int.reduceLE, Int.reduceToNat, Int.reduceBEq, Int.reduceNe, hhead]
  have t1 : addr.tmod 1 = 0 := Int.tmod_one _
  have wn : IntKind.i64.wrap ((n : Int) * 64) = n * 64 := w64_id (by omega) (by omega)
  rw [wn]
  refine ⟨fun q => by simp at q, fun _ => ⟨fun q => absurd t1 q, fun _ => ⟨fun q => hR _ _ ⟨rfl, .inr ⟨?_, rfl⟩⟩, fun q => ?_⟩⟩⟩
  · simp only [Bool.or_eq_true, decide_eq_true_eq] at q; omega
  · simp only [Bool.or_eq_false_iff, decide_eq_false_iff_not] at q
    have e1 : addr.tdiv 64 = addr / 64 := Int.tdiv_eq_ediv_of_nonneg (by omega)
    have e2 : addr.tmod 64 = addr % 64 := Int.tmod_eq_emod_of_nonneg (by omega)
    rw [e1, e2]
    have w1 : IntKind.i64.wrap (addr / 64) = addr / 64 := w64_id (by omega) (by omega)
    have w2 : IntKind.i64.wrap (addr % 64 + 1) = addr % 64 + 1 := w64_id (by omega) (by omega)
    have c1 : (0 : Int) ≤ addr / 64 := by omega
    have c2 : addr / 64 < (n : Int) := by omega
    have c3 : (0 : Int) ≤ addr % 64 := by omega
    have c4 : addr % 64 ≤ addr % 64 + 1 := by omega
    have c5 : addr % 64 + 1 ≤ ((64 : Nat) : Int) := by omega
    have c6 : addr % 64 < ((64 : Nat) : Int) := by omega
    simp (maxSteps := 2000000) only [↓condK_decide, go_sem, Nat.reduceBEq, Nat.reduceAdd, Nat.reduceMul, Nat.reduceSub, Nat.reduceEqDiff, Nat.reduceLeDiff, Nat.reduceLT, Int.reduceEq, Int.reduceAdd, Int.reduceSub, Int.reduceMul, Int.reduceNeg, Int.reduceLT, Int.reduceLE, Int.reduceToNat, Int.reduceBEq, Int.reduceNe, w1, w2, c1, c2, c3, c4, c5, c6]
    have e3 : (addr / 64).toNat * 64 + (addr % 64).toNat = addr.toNat := by omega
    have e4 : (addr % 64 + 1).toNat - (addr % 64).toNat = 1 := by omega
    have e5 : 64 - (addr % 64).toNat = 64 - addr.toNat % 64 := by omega
    refine hR _ _ ⟨rfl, .inl ⟨by omega, by omega, ?_⟩⟩
    rw [e4, e5, ← e3]
    simp only [Nat.mul_one]

theorem u8_bd (w : Int) : 0 ≤ IntKind.u8.wrap w ∧ IntKind.u8.wrap w < 256 := by
  have e : IntKind.u8.wrap w = w % 256 := by simp [IntKind.wrap, IntKind.bits, IntKind.signed]
  rw [e]; omega
def putB (mem : Nat → Int) (a : Int) (b : Int) : Nat → Int := fun j => if (j : Int) = a then b else mem j

set_option maxRecDepth 16000 in
set_option maxHeartbeats 2000000 in
theorem store1_spec (h : Heap) (rb : Nat) (F : Nat → Prop) (n : Nat) (mem : Nat → Int) (hr : RamR h rb F n mem) (addr w : Int) :
    HCalls Try.prog 17 #[.pointer (some ⟨rb, 0, none⟩), .int .i64 addr, .int .i64 1, .int .u32 w] h fun v h' =>
      ((0 ≤ addr ∧ addr < 64 * n ∧ v = .int .i64 0 ∧ RamR h' rb F n (putB mem addr (IntKind.u8.wrap w))) ∨ (¬ (0 ≤ addr ∧ addr < 64 * n) ∧ v = .int .i64 10 ∧ RamR h' rb F n mem)) ∧ Mod F h h' := by
  have hr0 := hr
  obtain ⟨db, r, f1, f2⟩ := hr
  refine HCalls.via fun R hR => ?_
  refine HCalls.of_dev T17 Try.func17 rfl mixed (by kernel_rfl) ?_; rw [Try.results17]
  simp (maxSteps := 2000000) only [↓condK_decide, go_sem, Nat.reduceBEq, Nat.reduceAdd, Nat.reduceMul, Nat.reduceSub, Nat.reduceEqDiff, Nat.reduceLeDiff, Nat.reduceLT, Int.reduceEq, Int.reduceAdd, Int.reduceSub, Int.reduceMul, Int.reduceNeg, Int.reduceLT, Int.reduceLE, Int.reduceToNat, Int.reduceBEq, Int.reduceNe]
  refine (place1_spec h rb db n mem r addr).mono ?_
  rintro v h1 ⟨rfl, hv⟩
  rcases hv with ⟨a1, a2, rfl⟩ | ⟨a1, rfl⟩
  · simp (maxSteps := 2000000) only [↓condK_decide, go_sem, Nat.reduceBEq, Nat.reduceAdd, Nat.reduceMul, Nat.reduceSub, Nat.reduceEqDiff, Nat.reduceLeDiff, Nat.reduceLT, Int.reduceEq, Int.reduceAdd, Int.reduceSub, Int.reduceMul, Int.reduceNeg, Int.reduceLT, Int.reduceLE, Int.reduceToNat, Int.reduceBEq, Int.reduceNe]
    refine loopH.intro (fun t : Nat => .cons 3 (.int .u32 w) true (.cons 9 (.slice (some ⟨db, addr.toNat, none⟩) 1 (64 - addr.toNat % 64)) true (.cons 10 (.int .i64 0) true (.cons 20 (.int .i64 ((1 : Nat) : Int)) true (.cons 21 (.int .i64 t) true .nil)))))
      (fun t h' => (t = 0 ∧ h' = h1) ∨ (t = 1 ∧ RamR h' rb F n (putB mem addr (IntKind.u8.wrap w)) ∧ Mod F h1 h')) (fun t _ => 2 - t) 0 ?_ (.inl ⟨rfl, rfl⟩) ?_
    · simp (maxSteps := 2000000) only [↓condK_decide, go_sem, Nat.reduceBEq, Nat.reduceAdd, Nat.reduceMul, Nat.reduceSub, Nat.reduceEqDiff, Nat.reduceLeDiff, Nat.reduceLT, Int.reduceEq, Int.reduceAdd, Int.reduceSub, Int.reduceMul, Int.reduceNeg, Int.reduceLT, Int.reduceLE, Int.reduceToNat, Int.reduceBEq, Int.reduceNe]; rfl
    · rintro t h' (⟨rfl, rfl⟩ | ⟨rfl, I, d⟩)
      · obtain ⟨td, cs, hd, hsz, hget⟩ := r.data
        have c1 : ((0 : Nat) : Int) < ((1 : Nat) : Int) := by omega
        have c2 : (0 : Int) ≤ ((0 : Nat) : Int) := by omega
        have c3 : (0 : Int) ≤ IntKind.i64.wrap (8 * ((0 : Nat) : Int)) := by decide
        have w0 : IntKind.i64.wrap (8 * ((0 : Nat) : Int)) = 0 := by decide
        simp (maxSteps := 2000000) only [↓condK_decide, go_sem, Nat.reduceBEq, Nat.reduceAdd, Nat.reduceMul, Nat.reduceSub, Nat.reduceEqDiff, Nat.reduceLeDiff, Nat.reduceLT, Int.reduceEq, Int.reduceAdd, Int.reduceSub, Int.reduceMul, Int.reduceNeg, Int.reduceLT, Int.reduceLE, Int.reduceToNat, Int.reduceBEq, Int.reduceNe, c1, c2, w0, hd, Int.toNat_natCast]
        refine ⟨fun _ => ⟨by omega, 1, rfl, .inr ⟨rfl, ⟨db, ⟨?_, ⟨td, _, get_set_same (lt_of_get hd), by simpa using hsz, fun j hj => ?_⟩, r.ne, r.many, fun j hj => ?_⟩, f1, f2⟩, Mod.set.mono fun b _ hb => by rw [hb]; exact f2⟩, by simp only; omega⟩, fun q => absurd trivial q⟩
        · obtain ⟨ty, hh⟩ := r.head
          exact ⟨ty, by rw [get_set_ne r.ne.symm]; exact hh⟩
        · have e0 : w.fdiv (2 ^ min 0 32) = w := by simp
          rw [e0, Array.getElem?_setIfInBounds]
          unfold putB
          by_cases q : addr.toNat = j
          · rw [if_pos q, if_pos (by omega), if_pos (by omega)]
          · rw [if_neg q, if_neg (by omega)]; exact hget j hj
        · unfold putB
          split
          · exact u8_bd w
          · exact r.byte j hj
      · simp (maxSteps := 2000000) only [↓condK_decide, go_sem, Nat.reduceBEq, Nat.reduceAdd, Nat.reduceMul, Nat.reduceSub, Nat.reduceEqDiff, Nat.reduceLeDiff, Nat.reduceLT, Int.reduceEq, Int.reduceAdd, Int.reduceSub, Int.reduceMul, Int.reduceNeg, Int.reduceLT, Int.reduceLE, Int.reduceToNat, Int.reduceBEq, Int.reduceNe]
        refine ⟨fun q => absurd q (by omega), fun _ => hR _ _ ⟨.inl ⟨a1, a2, rfl, I⟩, d⟩⟩
  · simp (maxSteps := 2000000) only [↓condK_decide, go_sem, Nat.reduceBEq, Nat.reduceAdd, Nat.reduceMul, Nat.reduceSub, Nat.reduceEqDiff, Nat.reduceLeDiff, Nat.reduceLT, Int.reduceEq, Int.reduceAdd, Int.reduceSub, Int.reduceMul, Int.reduceNeg, Int.reduceLT, Int.reduceLE, Int.reduceToNat, Int.reduceBEq, Int.reduceNe]
    refine loopH.intro (fun _ : Unit => .cons 3 (.int .u32 w) true (.cons 9 (.slice none 0 0) true (.cons 10 (.int .i64 10) true (.cons 20 (.int .i64 ((0 : Nat) : Int)) true (.cons 21 (.int .i64 0) true .nil)))))
      (fun _ h' => h' = h1) (fun _ _ => 0) () ?_ rfl ?_
    · simp (maxSteps := 2000000) only [↓condK_decide, go_sem, Nat.reduceBEq, Nat.reduceAdd, Nat.reduceMul, Nat.reduceSub, Nat.reduceEqDiff, Nat.reduceLeDiff, Nat.reduceLT, Int.reduceEq, Int.reduceAdd, Int.reduceSub, Int.reduceMul, Int.reduceNeg, Int.reduceLT, Int.reduceLE, Int.reduceToNat, Int.reduceBEq, Int.reduceNe]
    · rintro - h' rfl
      simp (maxSteps := 2000000) only [↓condK_decide, go_sem, Nat.reduceBEq, Nat.reduceAdd, Nat.reduceMul, Nat.reduceSub, Nat.reduceEqDiff, Nat.reduceLeDiff, Nat.reduceLT, Int.reduceEq, Int.reduceAdd, Int.reduceSub, Int.reduceMul, Int.reduceNeg, Int.reduceLT, Int.reduceLE, Int.reduceToNat, Int.reduceBEq, Int.reduceNe]
      refine ⟨fun q => absurd q (by omega), fun _ => hR _ _ ⟨.inr ⟨a1, rfl, hr0⟩, Mod.refl _ _⟩⟩
end Go.Eng
