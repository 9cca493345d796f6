/-
  package ram: New, Clear.
-/
import Derived.Test.YtadabopmgphelaaUnt4
namespace Go.Eng
set_option linter.unusedSimpArgs false
set_option linter.unusedVariables false
set_option maxRecDepth 16000
set_option maxHeartbeats 4000000
open Go Go.Proofs

structure RamAt (h : Heap) (rb db n : Nat) (mem : Nat → Int) : Prop where
  head : ∃ ty, h[rb]? = some (.cells [.slice (some ⟨db, 0, none⟩) n n].toArray ty (0, 0))
  data : ∃ ty cs, h[db]? = some (.cells cs ty (0, 0)) ∧ cs.size = 64 * n ∧ ∀ i, i < 64 * n → cs[i]? = some (.int .u8 (mem i))
  ne : rb ≠ db
  many : n ≤ 1024
  byte : ∀ i, i < 64 * n → 0 ≤ mem i ∧ mem i < 256

def RamR (h : Heap) (rb : Nat) (F : Nat → Prop) (n : Nat) (mem : Nat → Int) : Prop := ∃ db, RamAt h rb db n mem ∧ F rb ∧ F db

theorem RamR.frame {h h' : Heap} {rb n : Nat} {F : Nat → Prop} {mem : Nat → Int} (r : RamR h rb F n mem) (hf : ∀ b, b < h.size → F b → h'[b]? = h[b]?) : RamR h' rb F n mem := by
  obtain ⟨db, r, f1, f2⟩ := r
  refine ⟨db, ⟨?_, ?_, r.ne, r.many, r.byte⟩, f1, f2⟩
  · obtain ⟨ty, e⟩ := r.head; exact ⟨ty, (hf _ (lt_of_get e) f1).trans e⟩
  · obtain ⟨ty, cs, e, rest⟩ := r.data; exact ⟨ty, cs, (hf _ (lt_of_get e) f2).trans e, rest⟩
theorem RamR.ext {h h' : Heap} {rb n : Nat} {F : Nat → Prop} {mem : Nat → Int} (r : RamR h rb F n mem) (e : Ext h h') : RamR h' rb F n mem := r.frame fun b hb _ => e.get b hb
theorem RamR.mod {h h' : Heap} {rb n : Nat} {F G : Nat → Prop} {mem : Nat → Int} (r : RamR h rb F n mem) (e : Mod G h h') (hFG : ∀ b, b < h.size → F b → ¬ G b) : RamR h' rb F n mem := r.frame fun b hb hF => e.get b hb (hFG b hb hF)

theorem zrep : (tzeroD Try.prog 73).cells = Array.replicate 64 (.int .u8 0) := by kernel_rfl

set_option maxHeartbeats 2000000 in
set_option maxRecDepth 8000 in
theorem ramNew_spec (h : Heap) (n : Nat) (h1 : 1 ≤ n) (h2 : n ≤ 1024) : HCalls Try.prog 16 #[.int .i64 n] h fun v h' => ∃ rb, v = .tuple #[.pointer (some ⟨rb, 0, none⟩), .int .i64 0] ∧ h.size ≤ rb ∧ RamR h' rb (fun b => h.size ≤ b ∧ b < h'.size) n (fun _ => 0) ∧ Ext h h' := by
  refine HCalls.of_dev T16 Try.func16 rfl mixed (by kernel_rfl) ?_; rw [Try.results16]
  have c1 : ¬ ((n : Int) < 1) := by omega
  have c2 : ¬ (1024 < (n : Int)) := by omega
  have c3 : 64 * n ≤ 281474976710656 := by omega
  have c4 : n ≤ 9223372036854775807 := by omega
  simp (maxSteps := 2000000) only [↓condK_decide, go_sem, Nat.reduceBEq, Nat.reduceAdd, Nat.reduceMul, Nat.reduceSub, Nat.reduceEqDiff, Nat.reduceLeDiff, Nat.reduceLT, Int.reduceEq, Int.reduceAdd, Int.reduceSub, Int.reduceMul, Int.reduceNeg, Int.reduceLT, Int.reduceLE, Int.reduceToNat, Int.reduceBEq, Int.reduceNe, c1, c2, c3, c4, decide_false, Bool.or_false, Bool.false_or]
  refine ⟨h.size + 1, rfl, by omega, ⟨h.size, ⟨⟨70, ?_⟩, ⟨73, zrow Try.prog 68 n, ?_, ?_, ?_⟩, by omega, h2, fun i _ => by omega⟩, ⟨by omega, by omega⟩, ⟨by omega, by omega⟩⟩, (Ext.push _ _).trans (Ext.push _ _)⟩
  · rw [← size_push' (h := h)]; exact get_push_new
  · rw [get_push_lt (by simp)]; exact get_push_new
  · rw [zrow_size, ssz_68]; omega
  · intro i hi
    rw [zrow_get (by rw [ssz_68]; omega), selem_68, zrep]
    have hi' : i % 64 < 64 := Nat.mod_lt _ (by omega)
    simp [hi']

theorem there_spec (h : Heap) (rb : Nat) (F : Nat → Prop) (n : Nat) (mem : Nat → Int) (hr : RamR h rb F n mem) (i : Int) :
    HCalls Try.prog 28 #[.pointer (some ⟨rb, 0, none⟩), .int .i64 i] h fun v h' => v = .bool (decide (0 ≤ i ∧ i < n)) ∧ h' = h := by
  obtain ⟨db, r, f1, f2⟩ := hr
  obtain ⟨ty, hhead⟩ := r.head
  refine HCalls.of_dev T28 Try.func28 rfl mixed (by kernel_rfl) ?_; rw [Try.results28]
  simp (maxSteps := 2000000) only [↓condK_decide, go_sem, Nat.reduceBEq, Nat.reduceAdd, Nat.reduceMul, Nat.reduceSub, Nat.reduceEqDiff, Nat.reduceLeDiff, Nat.reduceLT, Int.reduceEq, Int.reduceAdd, Int.reduceSub, Int.reduceMul, Int.reduceNeg, Int.reduceLT, Int.reduceLE, Int.reduceToNat, Int.reduceBEq, Int.reduceNe, hhead]
  simp

set_option maxHeartbeats 2000000 in
set_option maxRecDepth 8000 in
theorem clear_spec (h : Heap) (rb : Nat) (F : Nat → Prop) (n : Nat) (mem : Nat → Int) (hr : RamR h rb F n mem) (i : Int) :
    HCalls Try.prog 29 #[.pointer (some ⟨rb, 0, none⟩), .int .i64 i] h fun v h' =>
      ((0 ≤ i ∧ i < n ∧ v = .int .i64 0 ∧ RamR h' rb F n (fun j => if 64 * i ≤ j ∧ j < 64 * i + 64 then 0 else mem j)) ∨ (¬ (0 ≤ i ∧ i < n) ∧ v = .int .i64 10 ∧ RamR h' rb F n mem)) ∧ Mod F h h' := by
  obtain ⟨db, r, f1, f2⟩ := hr
  obtain ⟨ty, hhead⟩ := r.head
  refine HCalls.via fun R hR => ?_
  refine HCalls.of_dev T29 Try.func29 rfl mixed (by kernel_rfl) ?_; rw [Try.results29]
  simp (maxSteps := 2000000) only [↓condK_decide, go_sem, Nat.reduceBEq, Nat.reduceAdd, Nat.reduceMul, Nat.reduceSub, Nat.reduceEqDiff, Nat.reduceLeDiff, Nat.reduceLT, Int.reduceEq, Int.reduceAdd, Int.reduceSub, Int.reduceMul, Int.reduceNeg, Int.reduceLT, Int.reduceLE, Int.reduceToNat, Int.reduceBEq, Int.reduceNe, hhead]
  refine (there_spec h rb F n mem ⟨db, r, f1, f2⟩ i).mono ?_
  rintro v h' ⟨rfl, rfl⟩
  by_cases hi : 0 ≤ i ∧ i < n
  · simp (maxSteps := 2000000) only [↓condK_decide, go_sem, Nat.reduceBEq, Nat.reduceAdd, Nat.reduceMul, Nat.reduceSub, Nat.reduceEqDiff, Nat.reduceLeDiff, Nat.reduceLT, Int.reduceEq, Int.reduceAdd, Int.reduceSub, Int.reduceMul, Int.reduceNeg, Int.reduceLT, Int.reduceLE, Int.reduceToNat, Int.reduceBEq, Int.reduceNe, hi, hhead, decide_true]
    obtain ⟨td, cs, hd, hsz, hget⟩ := r.data
    have hin : i.toNat < n := by omega
    refine runH_clear_arr (z := .int .u8 0) isSlice_40 (by rw [selem_40]; exact tzero_5) rfl (by omega) hd (by omega) ?_
    intro c' hc' hget'
    try simp (maxSteps := 2000000) only [↓condK_decide, go_sem, Nat.reduceBEq, Nat.reduceAdd, Nat.reduceMul, Nat.reduceSub, Nat.reduceEqDiff, Nat.reduceLeDiff, Nat.reduceLT, Int.reduceEq, Int.reduceAdd, Int.reduceSub, Int.reduceMul, Int.reduceNeg, Int.reduceLT, Int.reduceLE, Int.reduceToNat, Int.reduceBEq, Int.reduceNe]
    refine hR _ _ ⟨.inl ⟨hi.1, hi.2, rfl, ⟨db, ⟨⟨ty, by rw [get_set_ne r.ne.symm]; exact hhead⟩, ⟨td, c', get_set_same (lt_of_get hd), by omega, fun j hj => ?_⟩, r.ne, r.many, fun j hj => ?_⟩, f1, f2⟩⟩, Mod.set.mono fun b _ hb => by rw [hb]; exact f2⟩
    · rw [hget' j]
      by_cases hj2 : i.toNat * 64 ≤ j ∧ j < i.toNat * 64 + 64
      · rw [if_pos hj2, if_pos (by omega)]
      · rw [if_neg hj2, if_neg (by omega)]; exact hget j hj
    · split
      · omega
      · exact r.byte j hj
  · simp (maxSteps := 2000000) only [↓condK_decide, go_sem, Nat.reduceBEq, Nat.reduceAdd, Nat.reduceMul, Nat.reduceSub, Nat.reduceEqDiff, Nat.reduceLeDiff, Nat.reduceLT, Int.reduceEq, Int.reduceAdd, Int.reduceSub, Int.reduceMul, Int.reduceNeg, Int.reduceLT, Int.reduceLE, Int.reduceToNat, Int.reduceBEq, Int.reduceNe, hi, decide_false]
    exact hR _ _ ⟨.inr ⟨fun e => hi e, rfl, ⟨db, r, f1, f2⟩⟩, Mod.refl _ _⟩
end Go.Eng
