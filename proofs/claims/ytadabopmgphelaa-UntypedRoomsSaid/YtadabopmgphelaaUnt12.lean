/-
  package untyped: Drop, Reset of what is not there.
-/
import Derived.Test.YtadabopmgphelaaRefP3
namespace Go.Eng
set_option linter.unusedSimpArgs false
set_option linter.unusedVariables false
set_option maxRecDepth 16000
set_option maxHeartbeats 4000000
open Go Go.Proofs
section
variable {h : Heap} {F : List SP} {pb rb ub : Nat} {m : Int → Option Reg}

theorem MapIs.delete {P : Program} {r : Nat} {es : Array MapEntry} {clk : Nat} {t kt et u : TypeId} {q : IntKind} (hm : MapIs h r es clk) (ht : P.underlying t = some (.map kt et)) (hk : P.underlying kt = some (.int q)) {k : Int} {t2 : TypeId} {K : Value → Heap → Prop}
    (hK : ∀ es', MapIs (h.setIfInBounds r (.map es' clk)) r es' clk → (∀ j, mapOf es' j = if j = k then none else mapOf es j) → K (.tuple #[]) (h.setIfInBounds r (.map es' clk))) :
    runH P (iDelete #[t, t2] u #[.map (some r), .int .i64 k]) h K := by
  have hlt := lt_of_get hm.at_
  unfold iDelete Builtin.delete_
  simp only [List.getElem?_toArray, List.getElem?_cons_zero, List.getElem?_cons_succ]
  rw [runH_bind, runH_underlying ht]
  simp only
  rw [runH_bind, runH_of_runD _ (runD_getObj hm.at_ (by simp))]
  simp only
  rw [runH_bind, runH_of_runD _ (runD_checkKey_int hk)]
  rw [runH_bind, runH_of_runD _ (runD_findKey hk hm.keys)]
  have hset : ∀ (o : Obj) (K : Unit → Heap → Prop), (∀ c e f, o ≠ .cells c e f) → runH P (setObj r o) h K = K () (h.setIfInBounds r o) := fun o K _ => by
    simp only [setObj, runH, hm.at_]
  have hget : ∀ es' : Array MapEntry, (h.setIfInBounds r (.map es' clk))[r]? = some (.map es' clk) := fun es' => by simp [hlt]
  cases hf : es.toList.findIdx? (fun e => keyI e == some k) with
  | none =>
    simp only [Option.bind_none]
    rw [runH_bind, hset _ _ (by simp)]
    have hno : ∀ e ∈ es.toList, keyI e ≠ some k := by simpa using hf
    refine hK es ⟨hget es, hm.keys, hm.nodup, hm.stamps, hm.old⟩ fun j => ?_
    by_cases hj : j = k
    · subst hj
      rw [if_pos rfl]
      unfold mapOf findI
      rw [List.find?_eq_none.2 (by simpa using hno)]; rfl
    · rw [if_neg hj]
  | some i =>
    obtain ⟨hi, hki, -⟩ := List.findIdx?_eq_some_iff_getElem.1 hf
    simp only [Option.bind_some, List.getElem?_eq_getElem hi, Option.map_some]
    rw [runH_bind, hset _ _ (by simp)]
    have hl : (es.eraseIdxIfInBounds i).toList = es.toList.eraseIdx i := by
      have hi' : i < es.size := by simpa using hi
      rw [Array.eraseIdxIfInBounds, dif_pos hi', Array.toList_eraseIdx]
    have hsub : (es.toList.eraseIdx i).Sublist es.toList := List.eraseIdx_sublist _ _
    refine hK _ ⟨hget _, ?_, ?_, ?_, ?_⟩ fun j => ?_
    · rw [hl]; exact fun e he => hm.keys e (hsub.subset he)
    · rw [hl]; exact hm.nodup.sublist (hsub.map _)
    · rw [hl]; exact hm.stamps.sublist (hsub.map _)
    · rw [hl]; exact fun e he => hm.old e (hsub.subset he)
    · unfold mapOf
      rw [hl]
      have hn := hm.nodup
      have hki' : keyI es.toList[i] = some k := by simpa using hki
      clear hf hm hK hget hset hl hsub
      generalize es.toList = l at *
      have key : ∀ (l : List MapEntry) (i : Nat) (hi : i < l.length), keyI l[i] = some k → (l.map keyI).Nodup → findI (l.eraseIdx i) j = if j = k then none else findI l j := by
        intro l
        induction l with
        | nil => intro i hi; simp at hi
        | cons e l ih =>
          intro i hi hk hn
          simp only [List.map_cons, List.nodup_cons] at hn
          cases i with
          | zero =>
            simp only [List.getElem_cons_zero] at hk
            simp only [List.eraseIdx_cons_zero]
            by_cases hj : j = k
            · subst hj
              rw [if_pos rfl]
              unfold findI
              rw [List.find?_eq_none]
              intro x hx
              simp only [beq_iff_eq]
              intro hx2
              exact hn.1 (by rw [hk]; exact List.mem_map.2 ⟨x, hx, hx2⟩)
            · rw [if_neg hj]
              unfold findI
              rw [List.find?_cons]
              have : (keyI e == some j) = false := by rw [hk]; simpa using fun z => hj z.symm
              rw [this]
          | succ i =>
            simp only [List.getElem_cons_succ] at hk
            simp only [List.eraseIdx_cons_succ]
            have hi' : i < l.length := by simpa using hi
            have := ih i hi' hk hn.2
            unfold findI at this ⊢
            rw [List.find?_cons, List.find?_cons, this]
            cases hc : keyI e == some j with
            | false => rfl
            | true =>
              by_cases hj : j = k
              · subst hj
                exfalso
                have : keyI e = some j := by simpa using hc
                exact hn.1 (by rw [this, ← hk]; exact List.mem_map.2 ⟨_, List.getElem_mem hi', rfl⟩)
              · simp only [if_neg hj]
      rw [key l i hi hki' hn]
      split <;> rfl

theorem drop_S (hs : Sat h (poolS pb m :: F)) (first : Int) : HCalls Try.prog 31 #[.pointer (some ⟨pb, 0, none⟩), .int .i64 first] h fun v h' =>
    v = .int .i64 (if (m first).isSome then 0 else 131) ∧ Sat h' (poolS pb (fun k => if k = first then none else m k) :: F) := by
  obtain ⟨X, ⟨mb, es, clk, β, p, hF⟩, hX, back⟩ := hs.open_ poolO_local
  obtain ⟨ty, hhead⟩ := p.head
  refine HCalls.via fun R hR => ?_
  refine HCalls.of_dev T31 Try.func31 rfl mixed (by kernel_rfl) ?_; rw [Try.results31]
  cases hm : m first with
  | none =>
    simp (maxSteps := 2000000) (disch := first | (simp only [go_sem, Nat.reduceBEq, Nat.reduceAdd, Nat.reduceMul, Nat.reduceSub, Nat.reduceEqDiff, Nat.reduceLeDiff, Nat.reduceLT, Int.reduceEq, Int.reduceAdd, Int.reduceSub, Int.reduceMul, Int.reduceNeg, Int.reduceLT, Int.reduceLE, Int.reduceToNat, Int.reduceBEq, Int.reduceNe, Nat.add_zero, List.size_toArray, List.length_cons, List.length_nil, List.cons_append, List.nil_append, List.append_nil, beq_self_eq_true, Bool.and_self, eq_self, Option.map_some, Bool.false_eq_true, Bool.true_eq_false, reduceCtorEq, decide_true, decide_false, true_implies, false_implies, not_true_eq_false, not_false_eq_true, Int.toNat_natCast, Nat.mul_one, Nat.one_mul, Nat.zero_mul, forall_const, if_true, if_false, or_true, true_or, or_false, false_or, and_false, false_and, hhead, p.map.at_, p.map.isInt, p.val, hm]; done) | omega | (simp only [go_sem, Nat.reduceBEq, Nat.reduceAdd, Nat.reduceMul, Nat.reduceSub, Nat.reduceEqDiff, Nat.reduceLeDiff, Nat.reduceLT, Int.reduceEq, Int.reduceAdd, Int.reduceSub, Int.reduceMul, Int.reduceNeg, Int.reduceLT, Int.reduceLE, Int.reduceToNat, Int.reduceBEq, Int.reduceNe, Nat.add_zero, List.size_toArray, List.length_cons, List.length_nil, List.cons_append, List.nil_append, List.append_nil, beq_self_eq_true, Bool.and_self, eq_self, Option.map_some, Bool.false_eq_true, Bool.true_eq_false, reduceCtorEq, decide_true, decide_false, true_implies, false_implies, not_true_eq_false, not_false_eq_true, Int.toNat_natCast, Nat.mul_one, Nat.one_mul, Nat.zero_mul, forall_const, if_true, if_false, or_true, true_or, or_false, false_or, and_false, false_and, hhead, p.map.at_, p.map.isInt, p.val, hm]; omega)) only [go_sem, Nat.reduceBEq, Nat.reduceAdd, Nat.reduceMul, Nat.reduceSub, Nat.reduceEqDiff, Nat.reduceLeDiff, Nat.reduceLT, Int.reduceEq, Int.reduceAdd, Int.reduceSub, Int.reduceMul, Int.reduceNeg, Int.reduceLT, Int.reduceLE, Int.reduceToNat, Int.reduceBEq, Int.reduceNe, Nat.add_zero, List.size_toArray, List.length_cons, List.length_nil, List.cons_append, List.nil_append, List.append_nil, beq_self_eq_true, Bool.and_self, eq_self, Option.map_some, Bool.false_eq_true, Bool.true_eq_false, reduceCtorEq, decide_true, decide_false, true_implies, false_implies, not_true_eq_false, not_false_eq_true, Int.toNat_natCast, Nat.mul_one, Nat.one_mul, Nat.zero_mul, forall_const, if_true, if_false, or_true, true_or, or_false, false_or, and_false, false_and, w64_id, w8_id, w16_id, w32_id, tmod_pos, tdiv_pos, Bool.or_true, Bool.true_or, Bool.or_false, Bool.false_or, Bool.and_false, Bool.false_and, condK_decide, hhead, p.map.at_, p.map.isInt, p.val, hm]
    have e : (fun k => if k = first then none else m k) = m := by
      funext k
      by_cases q : k = first
      · rw [if_pos q, q, hm]
      · rw [if_neg q]
    exact hR _ _ ⟨by rw [hm]; rfl, by rw [e]; exact hs⟩
  | some r =>
    obtain ⟨tr, hr⟩ := p.reg first r hm
    simp (maxSteps := 2000000) (disch := first | (simp only [go_sem, Nat.reduceBEq, Nat.reduceAdd, Nat.reduceMul, Nat.reduceSub, Nat.reduceEqDiff, Nat.reduceLeDiff, Nat.reduceLT, Int.reduceEq, Int.reduceAdd, Int.reduceSub, Int.reduceMul, Int.reduceNeg, Int.reduceLT, Int.reduceLE, Int.reduceToNat, Int.reduceBEq, Int.reduceNe, Nat.add_zero, List.size_toArray, List.length_cons, List.length_nil, List.cons_append, List.nil_append, List.append_nil, beq_self_eq_true, Bool.and_self, eq_self, Option.map_some, Bool.false_eq_true, Bool.true_eq_false, reduceCtorEq, decide_true, decide_false, true_implies, false_implies, not_true_eq_false, not_false_eq_true, Int.toNat_natCast, Nat.mul_one, Nat.one_mul, Nat.zero_mul, forall_const, if_true, if_false, or_true, true_or, or_false, false_or, and_false, false_and, hhead, p.map.at_, p.map.isInt, p.val, hm]; done) | omega | (simp only [go_sem, Nat.reduceBEq, Nat.reduceAdd, Nat.reduceMul, Nat.reduceSub, Nat.reduceEqDiff, Nat.reduceLeDiff, Nat.reduceLT, Int.reduceEq, Int.reduceAdd, Int.reduceSub, Int.reduceMul, Int.reduceNeg, Int.reduceLT, Int.reduceLE, Int.reduceToNat, Int.reduceBEq, Int.reduceNe, Nat.add_zero, List.size_toArray, List.length_cons, List.length_nil, List.cons_append, List.nil_append, List.append_nil, beq_self_eq_true, Bool.and_self, eq_self, Option.map_some, Bool.false_eq_true, Bool.true_eq_false, reduceCtorEq, decide_true, decide_false, true_implies, false_implies, not_true_eq_false, not_false_eq_true, Int.toNat_natCast, Nat.mul_one, Nat.one_mul, Nat.zero_mul, forall_const, if_true, if_false, or_true, true_or, or_false, false_or, and_false, false_and, hhead, p.map.at_, p.map.isInt, p.val, hm]; omega)) only [go_sem, Nat.reduceBEq, Nat.reduceAdd, Nat.reduceMul, Nat.reduceSub, Nat.reduceEqDiff, Nat.reduceLeDiff, Nat.reduceLT, Int.reduceEq, Int.reduceAdd, Int.reduceSub, Int.reduceMul, Int.reduceNeg, Int.reduceLT, Int.reduceLE, Int.reduceToNat, Int.reduceBEq, Int.reduceNe, Nat.add_zero, List.size_toArray, List.length_cons, List.length_nil, List.cons_append, List.nil_append, List.append_nil, beq_self_eq_true, Bool.and_self, eq_self, Option.map_some, Bool.false_eq_true, Bool.true_eq_false, reduceCtorEq, decide_true, decide_false, true_implies, false_implies, not_true_eq_false, not_false_eq_true, Int.toNat_natCast, Nat.mul_one, Nat.one_mul, Nat.zero_mul, forall_const, if_true, if_false, or_true, true_or, or_false, false_or, and_false, false_and, w64_id, w8_id, w16_id, w32_id, tmod_pos, tdiv_pos, Bool.or_true, Bool.true_or, Bool.or_false, Bool.false_or, Bool.and_false, Bool.false_and, condK_decide, hhead, p.map.at_, p.map.isInt, p.val, hm]
    refine MapIs.delete p.map Try.underlying64 Try.underlying3 fun es' mi mv => ?_
    simp (maxSteps := 2000000) (disch := first | (simp only [go_sem, Nat.reduceBEq, Nat.reduceAdd, Nat.reduceMul, Nat.reduceSub, Nat.reduceEqDiff, Nat.reduceLeDiff, Nat.reduceLT, Int.reduceEq, Int.reduceAdd, Int.reduceSub, Int.reduceMul, Int.reduceNeg, Int.reduceLT, Int.reduceLE, Int.reduceToNat, Int.reduceBEq, Int.reduceNe, Nat.add_zero, List.size_toArray, List.length_cons, List.length_nil, List.cons_append, List.nil_append, List.append_nil, beq_self_eq_true, Bool.and_self, eq_self, Option.map_some, Bool.false_eq_true, Bool.true_eq_false, reduceCtorEq, decide_true, decide_false, true_implies, false_implies, not_true_eq_false, not_false_eq_true, Int.toNat_natCast, Nat.mul_one, Nat.one_mul, Nat.zero_mul, forall_const, if_true, if_false, or_true, true_or, or_false, false_or, and_false, false_and]; done) | omega | (simp only [go_sem, Nat.reduceBEq, Nat.reduceAdd, Nat.reduceMul, Nat.reduceSub, Nat.reduceEqDiff, Nat.reduceLeDiff, Nat.reduceLT, Int.reduceEq, Int.reduceAdd, Int.reduceSub, Int.reduceMul, Int.reduceNeg, Int.reduceLT, Int.reduceLE, Int.reduceToNat, Int.reduceBEq, Int.reduceNe, Nat.add_zero, List.size_toArray, List.length_cons, List.length_nil, List.cons_append, List.nil_append, List.append_nil, beq_self_eq_true, Bool.and_self, eq_self, Option.map_some, Bool.false_eq_true, Bool.true_eq_false, reduceCtorEq, decide_true, decide_false, true_implies, false_implies, not_true_eq_false, not_false_eq_true, Int.toNat_natCast, Nat.mul_one, Nat.one_mul, Nat.zero_mul, forall_const, if_true, if_false, or_true, true_or, or_false, false_or, and_false, false_and]; omega)) only [go_sem, Nat.reduceBEq, Nat.reduceAdd, Nat.reduceMul, Nat.reduceSub, Nat.reduceEqDiff, Nat.reduceLeDiff, Nat.reduceLT, Int.reduceEq, Int.reduceAdd, Int.reduceSub, Int.reduceMul, Int.reduceNeg, Int.reduceLT, Int.reduceLE, Int.reduceToNat, Int.reduceBEq, Int.reduceNe, Nat.add_zero, List.size_toArray, List.length_cons, List.length_nil, List.cons_append, List.nil_append, List.append_nil, beq_self_eq_true, Bool.and_self, eq_self, Option.map_some, Bool.false_eq_true, Bool.true_eq_false, reduceCtorEq, decide_true, decide_false, true_implies, false_implies, not_true_eq_false, not_false_eq_true, Int.toNat_natCast, Nat.mul_one, Nat.one_mul, Nat.zero_mul, forall_const, if_true, if_false, or_true, true_or, or_false, false_or, and_false, false_and, w64_id, w8_id, w16_id, w32_id, tmod_pos, tdiv_pos, Bool.or_true, Bool.true_or, Bool.or_false, Bool.false_or, Bool.and_false, Bool.false_and, condK_decide]
    refine hR _ _ ⟨by rw [hm]; rfl, ?_⟩
    have hne : ∀ b o, h[b]? = some o → (∀ es c, o ≠ .map es c) → mb ≠ b := fun b o hb ho e => by
      subst e
      rw [p.map.at_] at hb
      cases hb
      exact ho _ _ rfl
    have hsub : ∀ k r, (if k = first then none else m k) = some r → m k = some r := fun k r q => by
      by_cases e : k = first
      · rw [if_pos e] at q; cases q
      · rwa [if_neg e] at q
    refine back (poolO pb _) _ X ⟨mb, es', clk, β, ⟨⟨ty, by rw [get_set_ne (hne _ _ hhead (by simp))]; exact hhead⟩, mi, fun k => ?_, fun k r hk => ?_, fun k r hk => p.ok k r (hsub k r hk), fun a b r s ha hb => p.inj a b r s (hsub _ _ ha) (hsub _ _ hb), fun k r hk => p.sep k r (hsub _ _ hk)⟩, fun b hb => ?_⟩ (fun b hb => by simpa using hX b hb) (Mod.set.mono fun i _ hi => by rw [hi]; exact hF _ (.inr (.inl rfl))) (fun b hb => .inl hb)
    · rw [mv k]
      by_cases e : k = first
      · simp [e]
      · simp only [if_neg e]; exact p.val k
    · obtain ⟨t1, e1⟩ := p.reg k r (hsub k r hk)
      exact ⟨t1, by rw [get_set_ne (hne _ _ e1 (by simp))]; exact e1⟩
    · refine hF b ?_
      rcases hb with hb | hb | ⟨k, r, hk, e⟩
      · exact .inl hb
      · exact .inr (.inl hb)
      · exact .inr (.inr ⟨k, r, hsub k r hk, e⟩)

theorem reset_none {rb n : Nat} {mem : Nat → Int} {u : Int} (hs : Sat h (poolS pb m :: F)) (first : Int) (hm : m first = none) (r u : Option Addr) :
    HCalls Try.prog 19 #[.pointer (some ⟨pb, 0, none⟩), .pointer r, .int .i64 first, .pointer u] h fun v h' => v = .int .i64 131 ∧ h' = h := by
  obtain ⟨X, ⟨mb, es, clk, β, p, hF⟩, hX, back⟩ := hs.open_ poolO_local
  obtain ⟨ty, hhead⟩ := p.head
  refine HCalls.via fun R hR => ?_
  refine HCalls.of_dev T19 Try.func19 rfl mixed (by kernel_rfl) ?_; rw [Try.results19]
  simp (maxSteps := 2000000) (disch := first | (simp only [go_sem, Nat.reduceBEq, Nat.reduceAdd, Nat.reduceMul, Nat.reduceSub, Nat.reduceEqDiff, Nat.reduceLeDiff, Nat.reduceLT, Int.reduceEq, Int.reduceAdd, Int.reduceSub, Int.reduceMul, Int.reduceNeg, Int.reduceLT, Int.reduceLE, Int.reduceToNat, Int.reduceBEq, Int.reduceNe, Nat.add_zero, List.size_toArray, List.length_cons, List.length_nil, List.cons_append, List.nil_append, List.append_nil, beq_self_eq_true, Bool.and_self, eq_self, Option.map_some, Bool.false_eq_true, Bool.true_eq_false, reduceCtorEq, decide_true, decide_false, true_implies, false_implies, not_true_eq_false, not_false_eq_true, Int.toNat_natCast, Nat.mul_one, Nat.one_mul, Nat.zero_mul, forall_const, if_true, if_false, or_true, true_or, or_false, false_or, and_false, false_and, hhead, p.map.at_, p.map.isInt, p.val, hm]; done) | omega | (simp only [go_sem, Nat.reduceBEq, Nat.reduceAdd, Nat.reduceMul, Nat.reduceSub, Nat.reduceEqDiff, Nat.reduceLeDiff, Nat.reduceLT, Int.reduceEq, Int.reduceAdd, Int.reduceSub, Int.reduceMul, Int.reduceNeg, Int.reduceLT, Int.reduceLE, Int.reduceToNat, Int.reduceBEq, Int.reduceNe, Nat.add_zero, List.size_toArray, List.length_cons, List.length_nil, List.cons_append, List.nil_append, List.append_nil, beq_self_eq_true, Bool.and_self, eq_self, Option.map_some, Bool.false_eq_true, Bool.true_eq_false, reduceCtorEq, decide_true, decide_false, true_implies, false_implies, not_true_eq_false, not_false_eq_true, Int.toNat_natCast, Nat.mul_one, Nat.one_mul, Nat.zero_mul, forall_const, if_true, if_false, or_true, true_or, or_false, false_or, and_false, false_and, hhead, p.map.at_, p.map.isInt, p.val, hm]; omega)) only [go_sem, Nat.reduceBEq, Nat.reduceAdd, Nat.reduceMul, Nat.reduceSub, Nat.reduceEqDiff, Nat.reduceLeDiff, Nat.reduceLT, Int.reduceEq, Int.reduceAdd, Int.reduceSub, Int.reduceMul, Int.reduceNeg, Int.reduceLT, Int.reduceLE, Int.reduceToNat, Int.reduceBEq, Int.reduceNe, Nat.add_zero, List.size_toArray, List.length_cons, List.length_nil, List.cons_append, List.nil_append, List.append_nil, beq_self_eq_true, Bool.and_self, eq_self, Option.map_some, Bool.false_eq_true, Bool.true_eq_false, reduceCtorEq, decide_true, decide_false, true_implies, false_implies, not_true_eq_false, not_false_eq_true, Int.toNat_natCast, Nat.mul_one, Nat.one_mul, Nat.zero_mul, forall_const, if_true, if_false, or_true, true_or, or_false, false_or, and_false, false_and, w64_id, w8_id, w16_id, w32_id, tmod_pos, tdiv_pos, Bool.or_true, Bool.true_or, Bool.or_false, Bool.false_or, Bool.and_false, Bool.false_and, condK_decide, hhead, p.map.at_, p.map.isInt, p.val, hm]
  exact hR _ _ ⟨rfl, rfl⟩
end
end Go.Eng
