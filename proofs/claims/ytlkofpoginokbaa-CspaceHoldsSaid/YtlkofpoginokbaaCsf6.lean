/-
  package cspace: Full, whole.
-/
import Derived.Test.YtlkofpoginokbaaCsf5
import Derived.Test.YtlkofpoginokbaaSrt
import Derived.Test.YtlkofpoginokbaaSrtRef
namespace Go.Eng
set_option linter.unusedSimpArgs false
set_option linter.unusedVariables false
set_option maxRecDepth 16000
set_option maxHeartbeats 4000000
open Go Go.Proofs Go.Sort Go.Shelf
section
variable {h : Heap} {F : List SP} {sb : Nat} {L : List Nd}
theorem swoR : SWO (ltOf cfR) where
  irrefl x := by
    unfold ltOf
    exact decide_eq_false fun q => ltR_irrefl x ((cfR_lt x x).1 q)
  trans x y z h1 h2 := by
    unfold ltOf at *
    rw [decide_eq_true_iff] at *
    exact (cfR_lt x z).2 (ltR_trans ((cfR_lt x y).1 h1) ((cfR_lt y z).1 h2))
  ntrans x y z h1 h2 := by
    unfold ltOf at *
    rw [decide_eq_false_iff_not] at *
    intro q
    have q := (cfR_lt x z).1 q
    have h1 := fun p => h1 ((cfR_lt x y).2 p)
    have h2 := fun p => h2 ((cfR_lt y z).2 p)
    rcases ltR_tri x y with r | r | r
    · exact h1 r
    · subst r; exact h2 q
    · rcases ltR_tri y z with s | s | s
      · exact h2 s
      · subst s; exact h1 q
      · exact ltR_irrefl z (ltR_trans (ltR_trans s r) q)
theorem sortRefs (v : Value) (Y : List (Int × Int)) (h : Heap) (F : List SP) (hs : Sat h (sliceS 2 Y.length v (refsL Y) :: F)) (hl : Y.length ≤ 100000) : HCalls Try.prog 40 #[v, .func (.func 41) #[] #[]] h fun r h' => r = .tuple #[] ∧ ∃ Z : List (Int × Int), Z.Perm Y ∧ Z.Pairwise (fun x y => ¬ ltR y x) ∧ Sat h' (sliceS 2 Z.length v (refsL Z) :: F) := by
  have hc := Sat.sort (P := Try.prog) Try.sortRef (k := 2) (by decide) Try.isAgg27 Try.sizeOf27 refC refC_len (fun x v hv => by simp [refC] at hv; rcases hv with rfl | rfl <;> rfl) refC_single cfR swoR 41 (by kernel_rfl) cmpRef_S hs (by omega)
  refine HCalls.mono hc ?_
  rintro r h' ⟨rfl, Z, h1, h2, h3⟩
  refine ⟨rfl, Z, h1, h2.imp ?_, h3⟩
  intro x y q
  unfold ltOf at q
  rw [decide_eq_false_iff_not] at q
  exact fun r => q ((cfR_lt y x).2 r)
theorem cfull_S (hs : Sat h (spaceS sb L :: F)) (hw : wfL L) : HCalls Try.prog 20 #[.pointer (some ⟨sb, 0, none⟩)] h fun v h' => Sat h' (sliceS 2 (fullN L).length v (refsL (fullN L)) :: spaceS sb L :: F) := full_S hs hw sortRefs
end
end Go.Eng
