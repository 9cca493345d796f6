/-
  THE ENGINE: range over a map.
-/
import Derived.Test.YtlkofpoginokbaaMapD
namespace Go.Eng
set_option linter.unusedSimpArgs false
set_option linter.unusedVariables false
set_option maxRecDepth 16000
set_option maxHeartbeats 4000000
open Go
section
variable {P : Program} {h : Heap} {t kt et : TypeId} {m r : Nat} {es : Array MapEntry} {clk : Nat}
theorem runH_range {K : Value → Heap → Prop} (ht : P.underlying t = some (.map kt et)) (hm : h[m]? = some (.map es clk)) :
    runH P (iRange t (.map (some m))) h K = K (.pointer (some ⟨h.size, 0, none⟩)) (h.push (.mapIter (some m) clk #[] clk)) := by
  unfold iRange Instr.range
  rw [runH_bind, runH_underlying ht]
  simp only
  rw [runH_bind, runH_of_runD _ (runD_getObj hm (by simp))]
  rfl
theorem runH_next {ty : TypeId} {seen : Array Nat} {K : Value → Heap → Prop} (hr : h[r]? = some (.mapIter (some m) clk seen clk)) (hm : h[m]? = some (.map es clk)) (hold : ∀ e ∈ es.toList, e.born < clk)
    (h0 : (∀ e ∈ es.toList, e.born ∈ seen.toList) → K (.tuple #[.bool false]) h)
    (h1 : ∀ e ∈ es.toList, e.born ∉ seen.toList → K (.tuple #[.bool true, e.key, e.val]) (h.setIfInBounds r (.mapIter (some m) clk (seen.push e.born) clk))) :
    runH P (iNext (.pointer (some ⟨r, 0, none⟩)) false ty) h K := by
  unfold iNext Instr.next
  simp only
  rw [runH_bind, runH_of_runD _ (runD_getObj hr (by simp))]
  simp only
  rw [runH_bind, runH_of_runD _ (runD_getObj hm (by simp))]
  simp only
  have hset : ∀ (o : Obj) (K : Unit → Heap → Prop), (∀ c e f, o ≠ .cells c e f) → runH P (setObj r o) h K = K () (h.setIfInBounds r o) := fun o K _ => by
    simp only [setObj, runH, hr]
  have g : (!seen.isEmpty && !es.isEmpty && es.all fun x => decide (x.born ≥ clk)) = false := by
    by_cases he : es.isEmpty = true
    · simp [he]
    · have hz : 0 < es.size := by
        rw [Array.isEmpty_iff_size_eq_zero] at he; omega
      have : (es.all fun x => decide (x.born ≥ clk)) = false := by
        rw [← Bool.not_eq_true, Array.all_eq_true]
        intro q
        have q0 := q 0 hz
        have := hold es[0] (by simp)
        simp only [ge_iff_le, decide_eq_true_eq] at q0
        omega
      rw [this]; simp
  rw [if_neg (by rw [g]; simp)]
  have hnew : (es.filter fun e => !seen.contains e.born).filter (fun e => decide (e.born ≥ clk)) = #[] := by
    rw [Array.filter_eq_empty_iff]
    intro e he
    rw [Array.mem_filter] at he
    have := hold e (by simpa using he.1)
    simp only [ge_iff_le, decide_eq_true_eq]
    omega
  have hold2 : (es.filter fun e => !seen.contains e.born).filter (fun e => decide (e.born < clk)) = es.filter fun e => !seen.contains e.born := by
    rw [Array.filter_eq_self]
    intro e he
    rw [Array.mem_filter] at he
    have := hold e (by simpa using he.1)
    simpa using this
  rw [hnew, hold2]
  have hmem : ∀ e, e ∈ es.filter (fun e => !seen.contains e.born) ↔ e ∈ es.toList ∧ e.born ∉ seen.toList := by
    intro e
    rw [Array.mem_filter]
    simp
  generalize es.filter (fun e => !seen.contains e.born) = left at hmem ⊢
  rw [runH_bind]
  unfold choose
  by_cases hl : left.isEmpty = true
  · have : left = #[] := by simpa using hl
    subst this
    simp only [Array.isEmpty_empty, if_true, Array.append_empty, Array.map_empty, List.size_toArray, List.length_cons, List.length_nil]
    simp only [runH]
    rw [if_pos (by rfl)]
    simp only [List.getElem?_toArray, List.getElem?_cons_zero]
    refine h0 fun e he => ?_
    refine Classical.byContradiction fun q => ?_
    exact absurd ((hmem e).2 ⟨he, q⟩) (by simp)
  · have hz : 0 < left.size := by
      rw [Array.isEmpty_iff_size_eq_zero] at hl; omega
    have hone : ∀ i, i < left.size → runH P (match ((if left.isEmpty = true then #[none] else #[]) ++ (left ++ #[]).map some)[i]? with
        | some (some e) => do
          setObj r (.mapIter (some m) clk (seen.push e.born) clk)
          pure (.tuple #[.bool true, e.key, e.val])
        | some none => pure (.tuple #[.bool false])
        | none => stuck "Next: no such candidate") h K := by
      intro i hi
      rw [if_neg hl]
      have : (#[] ++ (left ++ #[]).map some)[i]? = some (some left[i]) := by simp [hi]
      rw [this]
      simp only
      rw [runH_bind, hset _ _ (by simp)]
      have hm := (hmem left[i]).1 (Array.getElem_mem hi)
      exact h1 _ hm.1 hm.2
    have hsz : ((if left.isEmpty = true then #[none] else #[]) ++ (left ++ #[]).map some).size = left.size := by rw [if_neg hl]; simp
    simp only [runH, hsz]
    by_cases hf : (Question.mapNext left.size).forced = true
    · rw [if_pos hf]
      exact hone 0 hz
    · rw [if_neg hf]
      intro tp
      exact hone _ (Nat.mod_lt _ hz)
theorem runD_entry {seen : Array Nat} {e : MapEntry} (hr : h[r]? = some (.mapIter (some m) clk (seen.push e.born) clk)) (hm : h[m]? = some (.map es clk)) (hn : (es.toList.map (·.born)).Nodup) (he : e ∈ es.toList) :
    runD P (iEntry (.pointer (some ⟨r, 0, none⟩))) h = some (.tuple #[e.key, e.val]) := by
  unfold iEntry Instr.entry
  simp only
  rw [runD_bind, runD_getObj hr (by simp)]
  simp only [Option.bind_some, Array.back?_push]
  rw [runD_bind, runD_getObj hm (by simp)]
  simp only [Option.bind_some]
  have hf : es.find? (fun x => x.born == e.born) = some e := by
    rw [← Array.find?_toList]
    generalize es.toList = l at hn he
    clear hm
    induction l with
    | nil => cases he
    | cons x l ih =>
      rw [List.find?_cons]
      simp only [List.map_cons, List.nodup_cons] at hn
      rcases List.mem_cons.1 he with rfl | he
      · simp
      · have : (x.born == e.born) = false := by
          simp only [beq_eq_false_iff_ne, ne_eq]
          intro q
          exact hn.1 (List.mem_map.2 ⟨e, he, q.symm⟩)
        rw [this]
        exact ih hn.2 he
  simp only [hf, bne_self_eq_false, Bool.false_eq_true, if_false]
  rfl
end
end Go.Eng
