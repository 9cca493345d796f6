/-
  package untyped: Drop, Reset of what is not there.
-/
import Derived.Test.YtadabopmgphelaaRefP3
import Derived.Test.YtadabopmgphelaaMapD
namespace Go.Eng
set_option linter.unusedSimpArgs false
set_option linter.unusedVariables false
set_option maxRecDepth 16000
set_option maxHeartbeats 4000000
open Go Go.Proofs
section
variable {h : Heap} {F : List SP} {pb rb ub : Nat} {m : Int → Option Reg}

theorem drop_S (hs : Sat h (poolS pb m :: F)) (first : Int) : HCalls Try.prog 31 #[.pointer (some ⟨pb, 0, none⟩), .int .i64 first] h fun v h' =>
    v = .int .i64 (if (m first).isSome then 0 else 131) ∧ Sat h' (poolS pb (fun k => if k = first then none else m k) :: F) := by
  obtain ⟨X, ⟨mb, es, clk, β, p, hF⟩, hX, back⟩ := hs.open_ poolO_local
  obtain ⟨ty, hhead⟩ := p.head
  refine HCalls.via fun R hR => ?_
  refine HCalls.of_dev T31 Try.func31 rfl mixed (by kernel_rfl) ?_; rw [Try.results31]
  cases hm : m first with
  | none =>
    simp (maxSteps := 2000000) (disch := first | (simp only [go_sem, Nat.reduceBEq, Nat.reduceAdd, Nat.reduceMul, Nat.reduceSub, Nat.reduceEqDiff, Nat.reduceLeDiff, Nat.reduceLT, Int.reduceEq, Int.reduceAdd, Int.reduceSub, Int.reduceMul, Int.reduceNeg, Int.reduceLT, Int.reduceLE, Int.reduceToNat, Int.reduceBEq, Int.reduceNe, reduceCtorEq, hhead, p.map.at_, p.map.isInt, p.val, hm]; done) | omega | (simp only [go_sem, Nat.reduceBEq, Nat.reduceAdd, Nat.reduceMul, Nat.reduceSub, Nat.reduceEqDiff, Nat.reduceLeDiff, Nat.reduceLT, Int.reduceEq, Int.reduceAdd, Int.reduceSub, Int.reduceMul, Int.reduceNeg, Int.reduceLT, Int.reduceLE, Int.reduceToNat, Int.reduceBEq, Int.reduceNe, reduceCtorEq, hhead, p.map.at_, p.map.isInt, p.val, hm]; omega)) only [go_sem, Nat.reduceBEq, Nat.reduceAdd, Nat.reduceMul, Nat.reduceSub, Nat.reduceEqDiff, Nat.reduceLeDiff, Nat.reduceLT, Int.reduceEq, Int.reduceAdd, Int.reduceSub, Int.reduceMul, Int.reduceNeg, Int.reduceLT, Int.reduceLE, Int.reduceToNat, Int.reduceBEq, Int.reduceNe, reduceCtorEq, w64_id, w8_id, w16_id, w32_id, tmod_pos, tdiv_pos, Bool.or_true, Bool.true_or, Bool.or_false, Bool.false_or, Bool.and_false, Bool.false_and, condK_decide, hhead, p.map.at_, p.map.isInt, p.val, hm]
    have e : (fun k => if k = first then none else m k) = m := by
      funext k
      by_cases q : k = first
      · rw [if_pos q, q, hm]
      · rw [if_neg q]
    exact hR _ _ ⟨by rw [hm]; rfl, by rw [e]; exact hs⟩
  | some r =>
    obtain ⟨tr, hr⟩ := p.reg first r hm
    simp (maxSteps := 2000000) (disch := first | (simp only [go_sem, Nat.reduceBEq, Nat.reduceAdd, Nat.reduceMul, Nat.reduceSub, Nat.reduceEqDiff, Nat.reduceLeDiff, Nat.reduceLT, Int.reduceEq, Int.reduceAdd, Int.reduceSub, Int.reduceMul, Int.reduceNeg, Int.reduceLT, Int.reduceLE, Int.reduceToNat, Int.reduceBEq, Int.reduceNe, reduceCtorEq, hhead, p.map.at_, p.map.isInt, p.val, hm]; done) | omega | (simp only [go_sem, Nat.reduceBEq, Nat.reduceAdd, Nat.reduceMul, Nat.reduceSub, Nat.reduceEqDiff, Nat.reduceLeDiff, Nat.reduceLT, Int.reduceEq, Int.reduceAdd, Int.reduceSub, Int.reduceMul, Int.reduceNeg, Int.reduceLT, Int.reduceLE, Int.reduceToNat, Int.reduceBEq, Int.reduceNe, reduceCtorEq, hhead, p.map.at_, p.map.isInt, p.val, hm]; omega)) only [go_sem, Nat.reduceBEq, Nat.reduceAdd, Nat.reduceMul, Nat.reduceSub, Nat.reduceEqDiff, Nat.reduceLeDiff, Nat.reduceLT, Int.reduceEq, Int.reduceAdd, Int.reduceSub, Int.reduceMul, Int.reduceNeg, Int.reduceLT, Int.reduceLE, Int.reduceToNat, Int.reduceBEq, Int.reduceNe, reduceCtorEq, w64_id, w8_id, w16_id, w32_id, tmod_pos, tdiv_pos, Bool.or_true, Bool.true_or, Bool.or_false, Bool.false_or, Bool.and_false, Bool.false_and, condK_decide, hhead, p.map.at_, p.map.isInt, p.val, hm]
    refine MapIs.delete p.map Try.underlying64 Try.underlying3 fun es' mi mv => ?_
    simp (maxSteps := 2000000) (disch := first | (simp only [go_sem, Nat.reduceBEq, Nat.reduceAdd, Nat.reduceMul, Nat.reduceSub, Nat.reduceEqDiff, Nat.reduceLeDiff, Nat.reduceLT, Int.reduceEq, Int.reduceAdd, Int.reduceSub, Int.reduceMul, Int.reduceNeg, Int.reduceLT, Int.reduceLE, Int.reduceToNat, Int.reduceBEq, Int.reduceNe, reduceCtorEq]; done) | omega | (simp only [go_sem, Nat.reduceBEq, Nat.reduceAdd, Nat.reduceMul, Nat.reduceSub, Nat.reduceEqDiff, Nat.reduceLeDiff, Nat.reduceLT, Int.reduceEq, Int.reduceAdd, Int.reduceSub, Int.reduceMul, Int.reduceNeg, Int.reduceLT, Int.reduceLE, Int.reduceToNat, Int.reduceBEq, Int.reduceNe, reduceCtorEq]; omega)) only [go_sem, Nat.reduceBEq, Nat.reduceAdd, Nat.reduceMul, Nat.reduceSub, Nat.reduceEqDiff, Nat.reduceLeDiff, Nat.reduceLT, Int.reduceEq, Int.reduceAdd, Int.reduceSub, Int.reduceMul, Int.reduceNeg, Int.reduceLT, Int.reduceLE, Int.reduceToNat, Int.reduceBEq, Int.reduceNe, reduceCtorEq, w64_id, w8_id, w16_id, w32_id, tmod_pos, tdiv_pos, Bool.or_true, Bool.true_or, Bool.or_false, Bool.false_or, Bool.and_false, Bool.false_and, condK_decide]
    refine hR _ _ ⟨by rw [hm]; rfl, ?_⟩
    have hne : ∀ b o, h[b]? = some o → (∀ es c, o ≠ .map es c) → mb ≠ b := fun b o hb ho e => by
      subst e
      rw [p.map.at_] at hb
      cases hb
      exact ho _ _ rfl
    have hsub : ∀ k r, (if k = first then none else m k) = some r → m k = some r := fun k r q => by
      by_cases e : k = first
      · rw [if_pos e] at q; cases q
      · rwa [if_neg e] at q
    refine back (poolO pb _) _ X ⟨mb, es', clk, β, ⟨⟨ty, by rw [get_set_ne (hne _ _ hhead (by simp))]; exact hhead⟩, mi, fun k => ?_, fun k r hk => ?_, fun k r hk => p.ok k r (hsub k r hk), fun a b r s ha hb => p.inj a b r s (hsub _ _ ha) (hsub _ _ hb), fun k r hk => p.sep k r (hsub _ _ hk)⟩, fun b hb => ?_⟩ (fun b hb => by simpa using hX b hb) (Mod.set.mono fun i _ hi => by rw [hi]; exact hF _ (.inr (.inl rfl))) (fun b hb => .inl hb)
    · rw [mv k]
      by_cases e : k = first
      · simp [e]
      · simp only [if_neg e]; exact p.val k
    · obtain ⟨t1, e1⟩ := p.reg k r (hsub k r hk)
      exact ⟨t1, by rw [get_set_ne (hne _ _ e1 (by simp))]; exact e1⟩
    · refine hF b ?_
      rcases hb with hb | hb | ⟨k, r, hk, e⟩
      · exact .inl hb
      · exact .inr (.inl hb)
      · exact .inr (.inr ⟨k, r, hsub k r hk, e⟩)

theorem reset_none {rb n : Nat} {mem : Nat → Int} {u : Int} (hs : Sat h (poolS pb m :: F)) (first : Int) (hm : m first = none) (r u : Option Addr) :
    HCalls Try.prog 19 #[.pointer (some ⟨pb, 0, none⟩), .pointer r, .int .i64 first, .pointer u] h fun v h' => v = .int .i64 131 ∧ h' = h := by
  obtain ⟨X, ⟨mb, es, clk, β, p, hF⟩, hX, back⟩ := hs.open_ poolO_local
  obtain ⟨ty, hhead⟩ := p.head
  refine HCalls.via fun R hR => ?_
  refine HCalls.of_dev T19 Try.func19 rfl mixed (by kernel_rfl) ?_; rw [Try.results19]
  simp (maxSteps := 2000000) (disch := first | (simp only [go_sem, Nat.reduceBEq, Nat.reduceAdd, Nat.reduceMul, Nat.reduceSub, Nat.reduceEqDiff, Nat.reduceLeDiff, Nat.reduceLT, Int.reduceEq, Int.reduceAdd, Int.reduceSub, Int.reduceMul, Int.reduceNeg, Int.reduceLT, Int.reduceLE, Int.reduceToNat, Int.reduceBEq, Int.reduceNe, reduceCtorEq, hhead, p.map.at_, p.map.isInt, p.val, hm]; done) | omega | (simp only [go_sem, Nat.reduceBEq, Nat.reduceAdd, Nat.reduceMul, Nat.reduceSub, Nat.reduceEqDiff, Nat.reduceLeDiff, Nat.reduceLT, Int.reduceEq, Int.reduceAdd, Int.reduceSub, Int.reduceMul, Int.reduceNeg, Int.reduceLT, Int.reduceLE, Int.reduceToNat, Int.reduceBEq, Int.reduceNe, reduceCtorEq, hhead, p.map.at_, p.map.isInt, p.val, hm]; omega)) only [go_sem, Nat.reduceBEq, Nat.reduceAdd, Nat.reduceMul, Nat.reduceSub, Nat.reduceEqDiff, Nat.reduceLeDiff, Nat.reduceLT, Int.reduceEq, Int.reduceAdd, Int.reduceSub, Int.reduceMul, Int.reduceNeg, Int.reduceLT, Int.reduceLE, Int.reduceToNat, Int.reduceBEq, Int.reduceNe, reduceCtorEq, w64_id, w8_id, w16_id, w32_id, tmod_pos, tdiv_pos, Bool.or_true, Bool.true_or, Bool.or_false, Bool.false_or, Bool.and_false, Bool.false_and, condK_decide, hhead, p.map.at_, p.map.isInt, p.val, hm]
  exact hR _ _ ⟨rfl, rfl⟩
end
end Go.Eng
