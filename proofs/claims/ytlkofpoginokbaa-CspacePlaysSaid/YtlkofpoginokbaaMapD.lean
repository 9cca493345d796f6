/-
  THE ENGINE: delete, for maps keyed by int.
-/
import Derived.Test.YtlkofpoginokbaaEng12
import Derived.Test.YtlkofpoginokbaaEng16
namespace Go.Eng
set_option linter.unusedSimpArgs false
set_option linter.unusedVariables false
set_option maxRecDepth 16000
set_option maxHeartbeats 4000000
open Go
section
variable {h : Heap}
theorem MapIs.delete {P : Program} {r : Nat} {es : Array MapEntry} {clk : Nat} {t kt et u : TypeId} {q : IntKind} (hm : MapIs h r es clk) (ht : P.underlying t = some (.map kt et)) (hk : P.underlying kt = some (.int q)) {k : Int} {t2 : TypeId} {K : Value → Heap → Prop}
    (hK : ∀ es', MapIs (h.setIfInBounds r (.map es' clk)) r es' clk → (∀ j, mapOf es' j = if j = k then none else mapOf es j) → K (.tuple #[]) (h.setIfInBounds r (.map es' clk))) :
    runH P (iDelete #[t, t2] u #[.map (some r), .int .i64 k]) h K := by
  have hlt := lt_of_get hm.at_
  unfold iDelete Builtin.delete_
  simp only [List.getElem?_toArray, List.getElem?_cons_zero, List.getElem?_cons_succ]
  rw [runH_bind, runH_underlying ht]
  simp only
  rw [runH_bind, runH_of_runD _ (runD_getObj hm.at_ (by simp))]
  simp only
  rw [runH_bind, runH_of_runD _ (runD_checkKey_int hk)]
  rw [runH_bind, runH_of_runD _ (runD_findKey hk hm.keys)]
  have hset : ∀ (o : Obj) (K : Unit → Heap → Prop), (∀ c e f, o ≠ .cells c e f) → runH P (setObj r o) h K = K () (h.setIfInBounds r o) := fun o K _ => by
    simp only [setObj, runH, hm.at_]
  have hget : ∀ es' : Array MapEntry, (h.setIfInBounds r (.map es' clk))[r]? = some (.map es' clk) := fun es' => by simp [hlt]
  cases hf : es.toList.findIdx? (fun e => keyI e == some k) with
  | none =>
    simp only [Option.bind_none]
    rw [runH_bind, hset _ _ (by simp)]
    have hno : ∀ e ∈ es.toList, keyI e ≠ some k := by simpa using hf
    refine hK es ⟨hget es, hm.keys, hm.nodup, hm.stamps, hm.old⟩ fun j => ?_
    by_cases hj : j = k
    · subst hj
      rw [if_pos rfl]
      unfold mapOf findI
      rw [List.find?_eq_none.2 (by simpa using hno)]; rfl
    · rw [if_neg hj]
  | some i =>
    obtain ⟨hi, hki, -⟩ := List.findIdx?_eq_some_iff_getElem.1 hf
    simp only [Option.bind_some, List.getElem?_eq_getElem hi, Option.map_some]
    rw [runH_bind, hset _ _ (by simp)]
    have hl : (es.eraseIdxIfInBounds i).toList = es.toList.eraseIdx i := by
      have hi' : i < es.size := by simpa using hi
      rw [Array.eraseIdxIfInBounds, dif_pos hi', Array.toList_eraseIdx]
    have hsub : (es.toList.eraseIdx i).Sublist es.toList := List.eraseIdx_sublist _ _
    refine hK _ ⟨hget _, ?_, ?_, ?_, ?_⟩ fun j => ?_
    · rw [hl]; exact fun e he => hm.keys e (hsub.subset he)
    · rw [hl]; exact hm.nodup.sublist (hsub.map _)
    · rw [hl]; exact hm.stamps.sublist (hsub.map _)
    · rw [hl]; exact fun e he => hm.old e (hsub.subset he)
    · unfold mapOf
      rw [hl]
      have hn := hm.nodup
      have hki' : keyI es.toList[i] = some k := by simpa using hki
      clear hf hm hK hget hset hl hsub
      generalize es.toList = l at *
      have key : ∀ (l : List MapEntry) (i : Nat) (hi : i < l.length), keyI l[i] = some k → (l.map keyI).Nodup → findI (l.eraseIdx i) j = if j = k then none else findI l j := by
        intro l
        induction l with
        | nil => intro i hi; simp at hi
        | cons e l ih =>
          intro i hi hk hn
          simp only [List.map_cons, List.nodup_cons] at hn
          cases i with
          | zero =>
            simp only [List.getElem_cons_zero] at hk
            simp only [List.eraseIdx_cons_zero]
            by_cases hj : j = k
            · subst hj
              rw [if_pos rfl]
              unfold findI
              rw [List.find?_eq_none]
              intro x hx
              simp only [beq_iff_eq]
              intro hx2
              exact hn.1 (by rw [hk]; exact List.mem_map.2 ⟨x, hx, hx2⟩)
            · rw [if_neg hj]
              unfold findI
              rw [List.find?_cons]
              have : (keyI e == some j) = false := by rw [hk]; simpa using fun z => hj z.symm
              rw [this]
          | succ i =>
            simp only [List.getElem_cons_succ] at hk
            simp only [List.eraseIdx_cons_succ]
            have hi' : i < l.length := by simpa using hi
            have := ih i hi' hk hn.2
            unfold findI at this ⊢
            rw [List.find?_cons, List.find?_cons, this]
            cases hc : keyI e == some j with
            | false => rfl
            | true =>
              by_cases hj : j = k
              · subst hj
                exfalso
                have : keyI e = some j := by simpa using hc
                exact hn.1 (by rw [this, ← hk]; exact List.mem_map.2 ⟨_, List.getElem_mem hi', rfl⟩)
              · simp only [if_neg hj]
      rw [key l i hi hki' hn]
      split <;> rfl

end
end Go.Eng
