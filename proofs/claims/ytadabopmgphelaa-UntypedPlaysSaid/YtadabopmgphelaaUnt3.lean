/-
  package untyped: Get, Add, Carve, Drop.
-/
import Derived.Test.YtadabopmgphelaaUnt2
namespace Go.Eng
set_option linter.unusedSimpArgs false
set_option linter.unusedVariables false
set_option maxRecDepth 16000
set_option maxHeartbeats 4000000
open Go Go.Proofs

def getM (m : Int → Option Reg) (first : Int) : Reg × Int :=
  match m first with
  | some r => (r, 0)
  | none => (⟨0, 0, 0, false⟩, 131)

def regI (x : Reg × Int) : Value := .tuple #[.agg x.1.cells.toArray, .int .i64 x.2]

set_option maxRecDepth 8000 in
theorem get_spec (h : Heap) (pb : Nat) (F : Nat → Prop) (m : Int → Option Reg) (hp : PoolR h pb F m) (first : Int) :
    HCalls Try.prog 15 #[.pointer (some ⟨pb, 0, none⟩), .int .i64 first] h fun v h' => v = regI (getM m first) ∧ Ext h h' := by
  obtain ⟨mb, es, clk, β, p, hF⟩ := hp
  obtain ⟨ty, hhead⟩ := p.head
  refine HCalls.of_dev T15 Try.func15 rfl mixed (by kernel_rfl) ?_; rw [Try.results15]
  have l1 := lt_of_get hhead
  have l2 := lt_of_get p.map.at_
  simp (maxSteps := 2000000) only [↓condK_decide, go_sem, Nat.reduceBEq, Nat.reduceAdd, Nat.reduceMul, Nat.reduceSub, Nat.reduceEqDiff, Nat.reduceLeDiff, Nat.reduceLT, Int.reduceEq, Int.reduceAdd, Int.reduceSub, Int.reduceMul, Int.reduceNeg, Int.reduceLT, Int.reduceLE, Int.reduceToNat, Int.reduceBEq, Int.reduceNe, hhead, l1, l2, p.map.at_, p.map.isInt, p.val]
  cases hm : m first with
  | none =>
    simp (maxSteps := 2000000) only [↓condK_decide, go_sem, Nat.reduceBEq, Nat.reduceAdd, Nat.reduceMul, Nat.reduceSub, Nat.reduceEqDiff, Nat.reduceLeDiff, Nat.reduceLT, Int.reduceEq, Int.reduceAdd, Int.reduceSub, Int.reduceMul, Int.reduceNeg, Int.reduceLT, Int.reduceLE, Int.reduceToNat, Int.reduceBEq, Int.reduceNe]
    exact ⟨by simp [regI, getM, hm, Reg.cells], Ext.push _ _⟩
  | some r =>
    obtain ⟨tr, hr⟩ := p.reg first r hm
    have l3 := lt_of_get hr
    simp (maxSteps := 2000000) only [↓condK_decide, go_sem, Nat.reduceBEq, Nat.reduceAdd, Nat.reduceMul, Nat.reduceSub, Nat.reduceEqDiff, Nat.reduceLeDiff, Nat.reduceLT, Int.reduceEq, Int.reduceAdd, Int.reduceSub, Int.reduceMul, Int.reduceNeg, Int.reduceLT, Int.reduceLE, Int.reduceToNat, Int.reduceBEq, Int.reduceNe, hr, l3]
    exact ⟨by simp [regI, getM, hm, Reg.cells], Ext.push _ _⟩

/-! ### Add -/
def mayAdd (x : Reg) : Prop := 0 ≤ x.F ∧ x.F < 1024 ∧ 1 ≤ x.N ∧ x.N ≤ 1024 - x.F ∧ 0 ≤ x.M ∧ x.M ≤ x.N
instance (x : Reg) : Decidable (mayAdd x) := by unfold mayAdd; infer_instance

def addM (m : Int → Option Reg) (x : Reg) : (Int → Option Reg) × Int :=
  if mayAdd x then (if (m x.F).isSome then (m, 130) else (fun k => if k = x.F then some x else m k, 0)) else (m, 1)

theorem mayAdd_bool (x : Reg) : (decide (x.F < 0) || decide (1024 ≤ x.F) || decide (x.N < 1) || decide (IntKind.i64.wrap (1024 - x.F) < x.N) || decide (x.M < 0) || decide (x.N < x.M)) = !decide (mayAdd x) := by
  by_cases h : 0 ≤ x.F ∧ x.F < 1024
  · rw [w64_id (a := 1024 - x.F) (by omega) (by omega), Bool.eq_iff_iff]
    simp only [Bool.or_eq_true, decide_eq_true_eq, Bool.not_eq_true', decide_eq_false_iff_not]
    unfold mayAdd
    omega
  · have h1 : ¬ mayAdd x := fun e => h ⟨e.1, e.2.1⟩
    rw [Bool.eq_iff_iff]
    simp only [Bool.or_eq_true, decide_eq_true_eq, Bool.not_eq_true', decide_eq_false_iff_not, h1, not_false_eq_true, iff_true]
    omega

theorem addM_no {m : Int → Option Reg} {x : Reg} (hx : ¬ mayAdd x) : addM m x = (m, 1) := by unfold addM; rw [if_neg hx]
theorem addM_full {m : Int → Option Reg} {x : Reg} {r : Reg} (hx : mayAdd x) (hm : m x.F = some r) : addM m x = (m, 130) := by unfold addM; rw [if_pos hx, hm]; rfl
theorem addM_ok {m : Int → Option Reg} {x : Reg} (hx : mayAdd x) (hm : m x.F = none) : addM m x = (fun k => if k = x.F then some x else m k, 0) := by unfold addM; rw [if_pos hx, hm]; rfl
theorem grow_sub {F : Nat → Prop} {h h' : Heap} {b : Nat} (hb : F b) : grow F h h' b := .inl hb

set_option maxRecDepth 8000 in
theorem add_spec (h : Heap) (pb : Nat) (F : Nat → Prop) (m : Int → Option Reg) (hp : PoolR h pb F m) (x : Reg) :
    HCalls Try.prog 13 #[.pointer (some ⟨pb, 0, none⟩), .agg x.cells.toArray] h fun v h' => v = .int .i64 (addM m x).2 ∧ PoolR h' pb (grow F h h') (addM m x).1 ∧ Mod F h h' := by
  have hp0 := hp
  obtain ⟨mb, es, clk, β, p, hF⟩ := hp
  obtain ⟨ty, hhead⟩ := p.head
  refine HCalls.of_dev T13 Try.func13 rfl mixed (by kernel_rfl) ?_; rw [Try.results13]
  have l1 := lt_of_get hhead
  have l2 := lt_of_get p.map.at_
  simp (maxSteps := 2000000) only [↓condK_decide, go_sem, Nat.reduceBEq, Nat.reduceAdd, Nat.reduceMul, Nat.reduceSub, Nat.reduceEqDiff, Nat.reduceLeDiff, Nat.reduceLT, Int.reduceEq, Int.reduceAdd, Int.reduceSub, Int.reduceMul, Int.reduceNeg, Int.reduceLT, Int.reduceLE, Int.reduceToNat, Int.reduceBEq, Int.reduceNe, hhead, l1, l2, p.map.at_, p.map.isInt, p.val, mayAdd_bool]
  have hsame : PoolR (h.push (.cells x.cells.toArray 28)) pb (grow F h (h.push (.cells x.cells.toArray 28))) m := (hp0.ext (Ext.push _ _)).mono fun b _ hb => .inl hb
  by_cases hx : mayAdd x
  · simp only [hx, decide_true, Bool.not_true, Bool.false_eq_true, false_implies, true_and, forall_const]
    cases hm : m x.F with
    | some r =>
      simp (maxSteps := 2000000) only [↓condK_decide, go_sem, Nat.reduceBEq, Nat.reduceAdd, Nat.reduceMul, Nat.reduceSub, Nat.reduceEqDiff, Nat.reduceLeDiff, Nat.reduceLT, Int.reduceEq, Int.reduceAdd, Int.reduceSub, Int.reduceMul, Int.reduceNeg, Int.reduceLT, Int.reduceLE, Int.reduceToNat, Int.reduceBEq, Int.reduceNe]
      rw [addM_full hx hm]
      exact ⟨rfl, hsame, (Ext.push _ _).mod _⟩
    | none =>
      simp (maxSteps := 2000000) only [↓condK_decide, go_sem, Nat.reduceBEq, Nat.reduceAdd, Nat.reduceMul, Nat.reduceSub, Nat.reduceEqDiff, Nat.reduceLeDiff, Nat.reduceLT, Int.reduceEq, Int.reduceAdd, Int.reduceSub, Int.reduceMul, Int.reduceNeg, Int.reduceLT, Int.reduceLE, Int.reduceToNat, Int.reduceBEq, Int.reduceNe, hhead, l1, l2, p.map.at_, p.map.isInt, p.val]
      refine (p.map.other (get_push_lt l2)).update Try.underlying64 Try.underlying3 ?_
      intro es' clk' hmap' hes'
      try simp (maxSteps := 2000000) only [↓condK_decide, go_sem, Nat.reduceBEq, Nat.reduceAdd, Nat.reduceMul, Nat.reduceSub, Nat.reduceEqDiff, Nat.reduceLeDiff, Nat.reduceLT, Int.reduceEq, Int.reduceAdd, Int.reduceSub, Int.reduceMul, Int.reduceNeg, Int.reduceLT, Int.reduceLE, Int.reduceToNat, Int.reduceBEq, Int.reduceNe]
      rw [addM_ok hx hm]
      refine ⟨rfl, ⟨mb, es', clk', fun k => if k = x.F then h.size else β k, ?_, ?_⟩, ?_⟩
      · have hne : mb ≠ pb := fun e => by subst e; rw [p.map.at_] at hhead; cases hhead
        have hreg : ∀ k r, m k = some r → k ≠ x.F := fun k r hk e => by subst e; rw [hm] at hk; cases hk
        refine ⟨⟨ty, ?_⟩, hmap', ?_, ?_, ?_, ?_, ?_⟩
        · rw [get_set_ne hne, get_push_lt l1]; exact hhead
        · intro k
          rw [hes' k]
          by_cases hk : k = x.F
          · simp [hk]
          · simp [hk, p.val]
        · intro k r hk
          by_cases hkx : k = x.F
          · simp only [hkx, if_true, Option.some.injEq] at hk ⊢
            subst hk
            have h2 : mb ≠ h.size := by omega
            exact ⟨_, by rw [get_set_ne h2]; exact get_push_new⟩
          · simp only [hkx, if_false] at hk ⊢
            obtain ⟨tr, hr⟩ := p.reg k r hk
            have h2 : mb ≠ β k := fun e => by rw [← e, p.map.at_] at hr; cases hr
            exact ⟨tr, by rw [get_set_ne h2, get_push_lt (lt_of_get hr)]; exact hr⟩
        · intro k r hk
          by_cases hkx : k = x.F
          · simp only [hkx, if_true, Option.some.injEq] at hk ⊢
            subst hk
            obtain ⟨a1, a2, a3, a4, a5, a6⟩ := hx
            exact ⟨rfl, a1, a2, a3, by omega, a5, a6⟩
          · simp only [hkx, if_false] at hk
            exact p.ok k r hk
        · intro j k r s hj hk e
          by_cases hjx : j = x.F
          · by_cases hkx : k = x.F
            · rw [hjx, hkx]
            · simp only [hjx, hkx, if_true, if_false] at hk e
              obtain ⟨tr, hr⟩ := p.reg k s hk
              have := lt_of_get hr
              omega
          · by_cases hkx : k = x.F
            · simp only [hjx, hkx, if_true, if_false] at hj e
              obtain ⟨tr, hr⟩ := p.reg j r hj
              have := lt_of_get hr
              omega
            · simp only [hjx, hkx, if_false] at hj hk e
              exact p.inj j k r s hj hk e
        · intro k r hk
          by_cases hkx : k = x.F
          · simp only [hkx, if_true]; omega
          · simp only [hkx, if_false] at hk ⊢
            exact p.sep k r hk
      · rintro b (rfl | rfl | ⟨k, r, hk, rfl⟩)
        · exact .inl (hF _ (.inl rfl))
        · exact .inl (hF _ (.inr (.inl rfl)))
        · by_cases hkx : k = x.F
          · simp only [hkx, if_true]; exact .inr ⟨Nat.le_refl _, by simp⟩
          · simp only [hkx, if_false] at hk ⊢
            exact .inl (hF _ (.inr (.inr ⟨k, r, hk, rfl⟩)))
      · exact ((Ext.push _ _).mod F).trans (Mod.set.mono fun i _ hi => by rw [hi]; exact hF _ (.inr (.inl rfl)))
  · simp only [hx, decide_false, Bool.not_false, forall_const, Bool.true_eq_false, false_implies, and_true]
    rw [addM_no hx]
    exact ⟨rfl, hsame, (Ext.push _ _).mod _⟩

end Go.Eng
