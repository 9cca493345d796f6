/-
  Layer 12: what Put changes.
-/
import Derived.Test.YtlkofpoginokbaaCsq1
namespace Go.Eng
set_option linter.unusedSimpArgs false
set_option linter.unusedVariables false
set_option maxRecDepth 16000
set_option maxHeartbeats 4000000
open Go Go.Proofs
theorem findN_setS {id : Int} {S : List Cap} (k : Int) : ∀ {L : List Nd}, findN (setS L id S) k = (findN L k).map fun n => if k = id then { n with S := S } else n
  | [] => rfl
  | n :: L => by
    have ih := findN_setS (id := id) (S := S) k (L := L)
    unfold findN at ih ⊢
    unfold setS
    split
    · rename_i q
      rw [List.find?_cons, List.find?_cons]
      by_cases e : n.I = k
      · rw [show (n.I == k) = true by simpa using e]
        simp only [Option.map_some]
        rw [if_pos (by omega)]
      · rw [show (n.I == k) = false by simpa using e]
        have hk : ¬ k = id := by omega
        simp only [if_neg hk]
        cases List.find? (fun n => n.I == k) L <;> rfl
    · rename_i q
      rw [List.find?_cons, List.find?_cons]
      by_cases e : n.I = k
      · rw [show (n.I == k) = true by simpa using e]
        simp only [Option.map_some]
        rw [if_neg (by omega)]
      · rw [show (n.I == k) = false by simpa using e]
        exact ih
theorem putN_radix (L : List Nd) (node index : Int) (c : Cap) (k : Int) : radixN (putN L node index c).1 k = radixN L k := by
  unfold putN
  cases hn : findN L node with
  | none => rfl
  | some n =>
    simp only
    split
    · split
      · unfold radixN
        rw [findN_setS]
        cases findN L k with
        | none => rfl
        | some m => simp only [Option.map_some]; split <;> rfl
      · rfl
    · rfl
theorem putN_get (L : List Nd) (node index : Int) (c : Cap) (k i : Int) (h : ¬ (k = node ∧ i = index)) : getN (putN L node index c).1 k i = getN L k i := by
  unfold putN
  cases hn : findN L node with
  | none => rfl
  | some n =>
    simp only
    split
    · rename_i g
      split
      · unfold getN
        simp only
        rw [findN_setS]
        by_cases e : k = node
        · subst e
          rw [hn]
          simp only [Option.map_some, if_true]
          by_cases g0 : 0 ≤ i
          · simp only [if_pos g0]
            rw [List.getElem?_set_ne (by omega)]
          · simp only [if_neg g0]
        · simp only [if_neg e]
          cases findN L k <;> rfl
      · rfl
    · rfl
end Go.Eng
