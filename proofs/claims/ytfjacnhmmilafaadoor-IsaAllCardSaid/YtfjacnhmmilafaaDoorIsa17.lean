/-
  Lists of registers: plain.
-/
import Derived.Test.YtfjacnhmmilafaaDoorIsa15
namespace Go.Eng
set_option linter.unusedSimpArgs false
set_option linter.unusedVariables false
set_option maxRecDepth 16000
set_option maxHeartbeats 4000000
open Go Go.Proofs
def ascL : List Int → Prop
  | [] => True
  | [a] => 0 ≤ a ∧ a ≤ 15
  | [a, b] => 0 ≤ a ∧ a < b ∧ b ≤ 15
  | _ => False
theorem two_asc {a b : Int} (ha : 0 ≤ a ∧ a ≤ 15) (hb : 0 ≤ b ∧ b ≤ 15) : ascL (two a b) := by
  unfold two
  grind [ascL]
theorem rdI_asc {i : Ins} (r : rightI i = true) : ascL (rdI i) := by
  obtain ⟨o1, o2, a1, a2, b1, b2, c1, c2, m1, m2, z⟩ := rightI_B r
  unfold rdI
  rw [if_pos r]
  unfold rdP
  repeat' split
  all_goals first
    | exact two_asc ⟨by omega, by omega⟩ ⟨by omega, by omega⟩
    | exact ⟨by omega, by omega⟩
    | trivial
theorem ascL_get {l : List Int} (h : ascL l) {k : Nat} (hk : k < l.length) : 0 ≤ l[k] ∧ l[k] ≤ 15 ∧ ∀ p : k - 1 < l.length, 0 < k → l[k - 1] < l[k] := by
  match l, h, k, hk with
  | [a], h, 0, _ => exact ⟨h.1, h.2, fun _ q => by omega⟩
  | [a, b], h, 0, _ => exact ⟨h.1, by have := h.2; simp only [List.getElem_cons_zero]; omega, fun _ q => by omega⟩
  | [a, b], h, 1, _ => exact ⟨by have := h.1; have := h.2.1; simp only [List.getElem_cons_succ, List.getElem_cons_zero]; omega, h.2.2, fun _ _ => h.2.1⟩
theorem wrI_bd {i : Ins} (r : rightI i = true) : -1 ≤ wrI i ∧ wrI i ≤ 15 := by
  obtain ⟨o1, o2, a1, a2, b1, b2, c1, c2, m1, m2, z⟩ := rightI_B r
  unfold wrI
  split <;> omega
end Go.Eng
