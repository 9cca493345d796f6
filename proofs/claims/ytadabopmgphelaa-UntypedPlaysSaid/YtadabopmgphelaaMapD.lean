/-
  THE ENGINE: delete, for maps keyed by int.
-/
import Derived.Test.YtadabopmgphelaaEng12
import Derived.Test.YtadabopmgphelaaEng16
namespace Go.Eng
set_option linter.unusedSimpArgs false
set_option linter.unusedVariables false
set_option maxRecDepth 16000
set_option maxHeartbeats 4000000
open Go
section
variable {h : Heap}
theorem MapIs.delete {P : Program} {r : Nat} {es : Array MapEntry} {clk : Nat} {t kt et u : TypeId} {q : IntKind} (hm : MapIs h r es clk) (ht : P.underlying t = some (.map kt et)) (hk : P.underlying kt = some (.int q)) {k : Int} {t2 : TypeId} {K : Value → Heap → Prop}
    (hK : ∀ es', MapIs (h.setIfInBounds r (.map es' clk)) r es' clk → (∀ j, mapOf es' j = if j = k then none else mapOf es j) → K (.tuple #[]) (h.setIfInBounds r (.map es' clk))) :
    runH P (iDelete #[t, t2] u #[.map (some r), .int .i64 k]) h K := by
  have hlt := lt_of_get hm.at_
  unfold iDelete Builtin.delete_
  simp only [List.getElem?_toArray, List.getElem?_cons_zero, List.getElem?_cons_succ]
  rw [runH_bind, runH_underlying ht]
  simp only
  rw [runH_bind, runH_of_runD _ (runD_getObj hm.at_ (by simp))]
  simp only
  rw [runH_bind, runH_of_runD _ (runD_checkKey_int hk)]
  rw [runH_bind, runH_of_runD _ (runD_findKey hk hm.keys)]
  have hset : ∀ (o : Obj) (K : Unit → Heap → Prop), (∀ c e f, o ≠ .cells c e f) → runH P (setObj r o) h K = K () (h.setIfInBounds r o) := fun o K _ => by
    simp only [setObj, runH, hm.at_]
  have hget : ∀ es' : Array MapEntry, (h.setIfInBounds r (.map es' clk))[r]? = some (.map es' clk) := fun es' => by simp [hlt]
  cases hf : es.toList.findIdx? (fun e => keyI e == some k) with
  | none =>
    simp only [Option.bind_none]
    rw [runH_bind, hset _ _ (by simp)]
    have hno : ∀ e ∈ es.toList, keyI e ≠ some k := by simpa using hf
    refine hK es ⟨hget es, hm.keys, hm.nodup, hm.stamps, hm.old⟩ fun j => ?_
    by_cases hj : j = k
    · subst hj
      rw [if_pos rfl]
      unfold mapOf findI
      rw [List.find?_eq_none.2 (by simpa using hno)]; rfl
    · rw [if_neg hj]
  | some i =>
    obtain ⟨hi, hki, -⟩ := List.findIdx?_eq_some_iff_getElem.1 hf
    simp only [Option.bind_some, List.getElem?_eq_getElem hi, Option.map_some]
    rw [runH_bind, hset _ _ (by simp)]
    have hl : (es.eraseIdxIfInBounds i).toList = es.toList.eraseIdx i := by
      have hi' : i < es.size := by simpa using hi
      rw [Array.eraseIdxIfInBounds, dif_pos hi', Array.toList_eraseIdx]
    have hsub : (es.toList.eraseIdx i).Sublist es.toList := List.eraseIdx_sublist _ _
    refine hK _ ⟨hget _, ?_, ?_, ?_, ?_⟩ fun j => ?_
    · rw [hl]; exact fun e he => hm.keys e (hsub.subset he)
    · rw [hl]; exact hm.nodup.sublist (hsub.map _)
    · rw [hl]; exact hm.stamps.sublist (hsub.map _)
    · rw [hl]; exact fun e he => hm.old e (hsub.subset he)
    · unfold mapOf
      rw [hl]
      have hn := hm.nodup
      have hki' : keyI es.toList[i] = some k := by simpa using hki
      clear hf hm hK hget hset hl hsub
      generalize es.toList = l at *
      have key : ∀ (l : List MapEntry) (i : Nat) (hi : i < l.length), keyI l[i] = some k → (l.map keyI).Nodup → findI (l.eraseIdx i) j = if j = k then none else findI l j := by
        intro l
        induction l with
        | nil => intro i hi; simp at hi
        | cons e l ih =>
          intro i hi hk hn
          simp only [List.map_cons, List.nodup_cons] at hn
          cases i with
          | zero =>
            simp only [List.getElem_cons_zero] at hk
            simp only [List.eraseIdx_cons_zero]
            by_cases hj : j = k
            · subst hj
              rw [if_pos rfl]
              unfold findI
              rw [List.find?_eq_none]
              intro x hx
              simp only [beq_iff_eq]
              intro hx2
              exact hn.1 (by rw [hk]; exact List.mem_map.2 ⟨x, hx, hx2⟩)
            · rw [if_neg hj]
              unfold findI
              rw [List.find?_cons]
              have : (keyI e == some j) = false := by rw [hk]; simpa using fun z => hj z.symm
              rw [this]
          | succ i =>
            simp only [List.getElem_cons_succ] at hk
            simp only [List.eraseIdx_cons_succ]
            have hi' : i < l.length := by simpa using hi
            have := ih i hi' hk hn.2
            unfold findI at this ⊢
            rw [List.find?_cons, List.find?_cons, this]
            cases hc : keyI e == some j with
            | false => rfl
            | true =>
              by_cases hj : j = k
              · subst hj
                exfalso
                have : keyI e = some j := by simpa using hc
                exact hn.1 (by rw [this, ← hk]; exact List.mem_map.2 ⟨_, List.getElem_mem hi', rfl⟩)
              · simp only [if_neg hj]
      rw [key l i hi hki' hn]
      split <;> rfl

end
section
variable {P : Program} {h : Heap} {t kt et : TypeId} {m r : Nat} {es : Array MapEntry} {clk : Nat}
theorem runH_range {K : Value → Heap → Prop} (ht : P.underlying t = some (.map kt et)) (hm : h[m]? = some (.map es clk)) :
    runH P (iRange t (.map (some m))) h K = K (.pointer (some ⟨h.size, 0, none⟩)) (h.push (.mapIter (some m) clk #[] clk)) := by
  unfold iRange Instr.range
  rw [runH_bind, runH_underlying ht]
  simp only
  rw [runH_bind, runH_of_runD _ (runD_getObj hm (by simp))]
  rfl
theorem runH_next {ty : TypeId} {seen : Array Nat} {K : Value → Heap → Prop} (hr : h[r]? = some (.mapIter (some m) clk seen clk)) (hm : h[m]? = some (.map es clk)) (hold : ∀ e ∈ es.toList, e.born < clk)
    (h0 : (∀ e ∈ es.toList, e.born ∈ seen.toList) → K (.tuple #[.bool false]) h)
    (h1 : ∀ e ∈ es.toList, e.born ∉ seen.toList → K (.tuple #[.bool true, e.key, e.val]) (h.setIfInBounds r (.mapIter (some m) clk (seen.push e.born) clk))) :
    runH P (iNext (.pointer (some ⟨r, 0, none⟩)) false ty) h K := by
  unfold iNext Instr.next
  simp only
  rw [runH_bind, runH_of_runD _ (runD_getObj hr (by simp))]
  simp only
  rw [runH_bind, runH_of_runD _ (runD_getObj hm (by simp))]
  simp only
  have hset : ∀ (o : Obj) (K : Unit → Heap → Prop), (∀ c e f, o ≠ .cells c e f) → runH P (setObj r o) h K = K () (h.setIfInBounds r o) := fun o K _ => by
    simp only [setObj, runH, hr]
  have g : (!seen.isEmpty && !es.isEmpty && es.all fun x => decide (x.born ≥ clk)) = false := by
    by_cases he : es.isEmpty = true
    · simp [he]
    · have hz : 0 < es.size := by
        rw [Array.isEmpty_iff_size_eq_zero] at he; omega
      have : (es.all fun x => decide (x.born ≥ clk)) = false := by
        rw [← Bool.not_eq_true, Array.all_eq_true]
        intro q
        have q0 := q 0 hz
        have := hold es[0] (by simp)
        simp only [ge_iff_le, decide_eq_true_eq] at q0
        omega
      rw [this]; simp
  rw [if_neg (by rw [g]; simp)]
  have hnew : (es.filter fun e => !seen.contains e.born).filter (fun e => decide (e.born ≥ clk)) = #[] := by
    rw [Array.filter_eq_empty_iff]
    intro e he
    rw [Array.mem_filter] at he
    have := hold e (by simpa using he.1)
    simp only [ge_iff_le, decide_eq_true_eq]
    omega
  have hold2 : (es.filter fun e => !seen.contains e.born).filter (fun e => decide (e.born < clk)) = es.filter fun e => !seen.contains e.born := by
    rw [Array.filter_eq_self]
    intro e he
    rw [Array.mem_filter] at he
    have := hold e (by simpa using he.1)
    simpa using this
  rw [hnew, hold2]
  have hmem : ∀ e, e ∈ es.filter (fun e => !seen.contains e.born) ↔ e ∈ es.toList ∧ e.born ∉ seen.toList := by
    intro e
    rw [Array.mem_filter]
    simp
  generalize es.filter (fun e => !seen.contains e.born) = left at hmem ⊢
  rw [runH_bind]
  unfold choose
  by_cases hl : left.isEmpty = true
  · have : left = #[] := by simpa using hl
    subst this
    simp only [Array.isEmpty_empty, if_true, Array.append_empty, Array.map_empty, List.size_toArray, List.length_cons, List.length_nil]
    simp only [runH]
    rw [if_pos (by rfl)]
    simp only [List.getElem?_toArray, List.getElem?_cons_zero]
    refine h0 fun e he => ?_
    refine Classical.byContradiction fun q => ?_
    exact absurd ((hmem e).2 ⟨he, q⟩) (by simp)
  · have hz : 0 < left.size := by
      rw [Array.isEmpty_iff_size_eq_zero] at hl; omega
    have hone : ∀ i, i < left.size → runH P (match ((if left.isEmpty = true then #[none] else #[]) ++ (left ++ #[]).map some)[i]? with
        | some (some e) => do
          setObj r (.mapIter (some m) clk (seen.push e.born) clk)
          pure (.tuple #[.bool true, e.key, e.val])
        | some none => pure (.tuple #[.bool false])
        | none => stuck "Next: no such candidate") h K := by
      intro i hi
      rw [if_neg hl]
      have : (#[] ++ (left ++ #[]).map some)[i]? = some (some left[i]) := by simp [hi]
      rw [this]
      simp only
      rw [runH_bind, hset _ _ (by simp)]
      have hm := (hmem left[i]).1 (Array.getElem_mem hi)
      exact h1 _ hm.1 hm.2
    have hsz : ((if left.isEmpty = true then #[none] else #[]) ++ (left ++ #[]).map some).size = left.size := by rw [if_neg hl]; simp
    simp only [runH, hsz]
    by_cases hf : (Question.mapNext left.size).forced = true
    · rw [if_pos hf]
      exact hone 0 hz
    · rw [if_neg hf]
      intro tp
      exact hone _ (Nat.mod_lt _ hz)
theorem runD_entry {seen : Array Nat} {e : MapEntry} (hr : h[r]? = some (.mapIter (some m) clk (seen.push e.born) clk)) (hm : h[m]? = some (.map es clk)) (hn : (es.toList.map (·.born)).Nodup) (he : e ∈ es.toList) :
    runD P (iEntry (.pointer (some ⟨r, 0, none⟩))) h = some (.tuple #[e.key, e.val]) := by
  unfold iEntry Instr.entry
  simp only
  rw [runD_bind, runD_getObj hr (by simp)]
  simp only [Option.bind_some, Array.back?_push]
  rw [runD_bind, runD_getObj hm (by simp)]
  simp only [Option.bind_some]
  have hf : es.find? (fun x => x.born == e.born) = some e := by
    rw [← Array.find?_toList]
    generalize es.toList = l at hn he
    clear hm
    induction l with
    | nil => cases he
    | cons x l ih =>
      rw [List.find?_cons]
      simp only [List.map_cons, List.nodup_cons] at hn
      rcases List.mem_cons.1 he with rfl | he
      · simp
      · have : (x.born == e.born) = false := by
          simp only [beq_eq_false_iff_ne, ne_eq]
          intro q
          exact hn.1 (List.mem_map.2 ⟨e, he, q.symm⟩)
        rw [this]
        exact ih hn.2 he
  simp only [hf, bne_self_eq_false, Bool.false_eq_true, if_false]
  rfl
end
end Go.Eng
