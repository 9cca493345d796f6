/-
  package ram: Frame.
-/
import Derived.Test.YtadabopmgphelaaRam2
namespace Go.Eng
set_option linter.unusedSimpArgs false
set_option linter.unusedVariables false
set_option maxRecDepth 16000
set_option maxHeartbeats 4000000
open Go Go.Proofs

theorem hreadO_ext {c : Array Value} {e : TypeId} {fr : Nat × Nat} {o n : Nat} (hn : o + n ≤ c.size) : hreadO (some (.cells c e fr)) o n = some (c.extract o (o + n)) := by simp [hreadO, hn]
theorem runH_store_all {P : Program} {h : Heap} {t e : TypeId} {b : Nat} {a c : Array Value} {K : Unit → Heap → Prop} (hs : tszD P t = a.size) (ht : (tsz P t).isSome = true) (hb : h[b]? = some (.cells c e (0, 0))) (hc : c.size = a.size)
    (hv : ∀ v ∈ a.toList, single v = true) (hK : K () (h.setIfInBounds b (.cells a e (0, 0)))) : runH P (iStoreAt t (.pointer (some ⟨b, 0, none⟩)) (.agg a)) h K := by
  obtain ⟨n, hn⟩ := Option.isSome_iff_exists.1 ht
  have e0 : tszD P t = n := by simp [tszD, hn]
  show runH P (storeVar t _ _) h K
  rw [runH_storeVar (n := n) hn (by simp only [Value.cells]; omega)]
  refine storeCells_arr a.toList 0 h c hb hv (by simp; omega) fun c' hc' hg => ?_
  have : c' = a := by
    apply Array.ext_getElem?
    intro j
    rw [hg j]
    split
    · simp
    · rename_i q
      simp only [Nat.zero_add, Nat.zero_le, true_and, Array.length_toList, Nat.not_lt] at q
      rw [Array.getElem?_eq_none (by omega), Array.getElem?_eq_none (by omega)]
  rw [this]; exact hK

set_option maxRecDepth 16000 in
set_option maxHeartbeats 2000000 in
theorem frame_spec (h : Heap) (rb : Nat) (F : Nat → Prop) (n : Nat) (mem : Nat → Int) (hr : RamR h rb F n mem) (i : Int) :
    HCalls Try.prog 18 #[.pointer (some ⟨rb, 0, none⟩), .int .i64 i] h fun v h' =>
      ((0 ≤ i ∧ i < n ∧ ∃ fb ty cs, v = .tuple #[.slice (some ⟨fb, 0, none⟩) 64 64, .int .i64 0] ∧ h.size ≤ fb ∧ h'[fb]? = some (.cells cs ty (0, 0)) ∧ cs.size = 64 ∧ ∀ j, j < 64 → cs[j]? = some (.int .u8 (mem (64 * i.toNat + j)))) ∨ (¬ (0 ≤ i ∧ i < n) ∧ v = .tuple #[.slice none 0 0, .int .i64 10])) ∧ Ext h h' := by
  have hr0 := hr
  obtain ⟨db, r, f1, f2⟩ := hr
  obtain ⟨ty, hhead⟩ := r.head
  refine HCalls.via fun R hR => ?_
  refine HCalls.of_dev T18 Try.func18 rfl mixed (by kernel_rfl) ?_; rw [Try.results18]
  simp (maxSteps := 2000000) only [↓condK_decide, go_sem, Nat.reduceBEq, Nat.reduceAdd, Nat.reduceMul, Nat.reduceSub, Nat.reduceEqDiff, Nat.reduceLeDiff, Nat.reduceLT, Int.reduceEq, Int.reduceAdd, Int.reduceSub, Int.reduceMul, Int.reduceNeg, Int.reduceLT, Int.reduceLE, Int.reduceToNat, Int.reduceBEq, Int.reduceNe]
  refine (there_spec h rb F n mem hr0 i).mono ?_
  rintro v h1 ⟨rfl, rfl⟩
  by_cases hi : 0 ≤ i ∧ i < n
  · obtain ⟨td, cs, hd, hsz, hget⟩ := r.data
    simp (maxSteps := 2000000) only [↓condK_decide, go_sem, Nat.reduceBEq, Nat.reduceAdd, Nat.reduceMul, Nat.reduceSub, Nat.reduceEqDiff, Nat.reduceLeDiff, Nat.reduceLT, Int.reduceEq, Int.reduceAdd, Int.reduceSub, Int.reduceMul, Int.reduceNeg, Int.reduceLT, Int.reduceLE, Int.reduceToNat, Int.reduceBEq, Int.reduceNe, hi, decide_true, hhead, hi.1, hi.2, hd]
    have hin : i.toNat < n := by omega
    rw [hreadO_ext (by omega)]
    simp only [Option.map_some]
    show runH _ _ _ _
    refine runH_store_all (c := (tzeroD Try.prog 73).cells) (e := 73) (by rw [tszD_73]; simp; omega) (by rw [tsz_73]; rfl) ?_ (by rw [zrep]; simp; omega) ?_ ?_
    · rw [tzeroD_73]; exact get_push_new
    · intro v hv
      obtain ⟨j, hj, e⟩ := List.getElem_of_mem hv
      have e2 : (cs.extract (i.toNat * 64) (i.toNat * 64 + 64))[j]? = some v := by
        rw [← Array.getElem?_toList, List.getElem?_eq_getElem hj, e]
      rw [Array.getElem?_extract] at e2
      split at e2
      · rw [hget _ (by omega)] at e2
        cases e2; rfl
      · cases e2
    · rw [set_push_new]
      refine hR _ _ ⟨.inl ⟨hi.1, hi.2, h1.size, _, _, rfl, Nat.le_refl _, get_push_new, by simp; omega, fun j hj => ?_⟩, Ext.push _ _⟩
      rw [Array.getElem?_extract, if_pos (by omega), hget _ (by omega), show i.toNat * 64 + j = 64 * i.toNat + j by omega]
  · simp (maxSteps := 2000000) only [↓condK_decide, go_sem, Nat.reduceBEq, Nat.reduceAdd, Nat.reduceMul, Nat.reduceSub, Nat.reduceEqDiff, Nat.reduceLeDiff, Nat.reduceLT, Int.reduceEq, Int.reduceAdd, Int.reduceSub, Int.reduceMul, Int.reduceNeg, Int.reduceLT, Int.reduceLE, Int.reduceToNat, Int.reduceBEq, Int.reduceNe, hi, decide_false]
    exact hR _ _ ⟨.inr ⟨hi, rfl⟩, Ext.refl _⟩
end Go.Eng
