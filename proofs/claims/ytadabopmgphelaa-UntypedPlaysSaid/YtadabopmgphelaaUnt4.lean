/-
  package untyped: Carve, Drop.
-/
import Derived.Test.YtadabopmgphelaaUnt3
namespace Go.Eng
set_option linter.unusedSimpArgs false
set_option linter.unusedVariables false
set_option maxRecDepth 16000
set_option maxHeartbeats 4000000
open Go Go.Proofs

def setMark (m : Int → Option Reg) (k : Int) (n : Int) : Int → Option Reg := fun j => if j = k then (m k).map fun r => { r with M := n } else m j

def carveM (m : Int → Option Reg) (first kind frames count : Int) : (Int → Option Reg) × (Int × Int) :=
  if (roomM m first kind frames count).2 = 0 then (setMark m first ((roomM m first kind frames count).1 + count * (sizeM kind frames).1 - first), ((roomM m first kind frames count).1, 0))
  else (m, (0, (roomM m first kind frames count).2))

/-- What a room that is told fulfils. -/
theorem roomM_ok {m : Int → Option Reg} {first kind frames count : Int} (hok : ∀ k r, m k = some r → RegOk k r) (h : (roomM m first kind frames count).2 = 0) :
    ∃ r, m first = some r ∧ (sizeM kind frames).2 = 0 ∧ 1 ≤ count ∧ count ≤ 8 ∧ r.F + r.M ≤ (roomM m first kind frames count).1 ∧ (roomM m first kind frames count).1 + count * (sizeM kind frames).1 ≤ r.F + r.N ∧
      (roomM m first kind frames count).1 = (r.F + r.M + (sizeM kind frames).1 - 1) / (sizeM kind frames).1 * (sizeM kind frames).1 ∧ ¬ (r.D = true ∧ kind ≠ 1 ∧ kind ≠ 6) := by
  unfold roomM at h ⊢
  cases hm : m first with
  | none => rw [hm] at h; simp at h
  | some r =>
    rw [hm] at h
    simp only at h ⊢
    have ok := hok first r hm
    by_cases c1 : (sizeM kind frames).2 ≠ 0
    · rw [if_pos c1] at h; exact (c1 h).elim
    · rw [if_neg c1] at h
      rw [if_neg c1]
      have c1 : (sizeM kind frames).2 = 0 := by simpa using c1
      by_cases c2 : count < 1 ∨ 8 < count
      · rw [if_pos c2] at h; simp at h
      · rw [if_neg c2] at h
        rw [if_neg c2]
        by_cases c3 : r.D = true ∧ kind ≠ 1 ∧ kind ≠ 6
        · rw [if_pos c3] at h; simp at h
        · rw [if_neg c3] at h
          rw [if_neg c3]
          by_cases c4 : r.F + r.N < (r.F + r.M + (sizeM kind frames).1 - 1) / (sizeM kind frames).1 * (sizeM kind frames).1 + count * (sizeM kind frames).1
          · rw [if_pos c4] at h; simp at h
          · rw [if_neg c4]
            obtain ⟨b1, b2⟩ := sizeM_bd c1
            obtain ⟨r1, r2, r3⟩ := round_up (x := r.F + r.M) (many := (sizeM kind frames).1) (by have := ok.lo; have := ok.mlo; omega) b1
            exact ⟨r, rfl, c1, by omega, by omega, r3, by simp only; omega, rfl, c3⟩

theorem PoolAt.setReg {h : Heap} {pb mb : Nat} {es : Array MapEntry} {clk : Nat} {β : Int → Nat} {m : Int → Option Reg} (p : PoolAt h pb mb es clk β m) {k : Int} {r : Reg} (hk : m k = some r) {n : Int} (h0 : 0 ≤ n) (h1 : n ≤ r.N) {ty : TypeId} :
    PoolAt (h.setIfInBounds (β k) (.cells [.int .i64 r.F, .int .i64 r.N, .int .i64 n, .bool r.D].toArray ty (0, 0))) pb mb es clk β (setMark m k n) := by
  obtain ⟨t0, hr⟩ := p.reg k r hk
  have hlt := lt_of_get hr
  have hsome : ∀ j s, setMark m k n j = some s → ∃ s', m j = some s' ∧ s.F = s'.F ∧ s.N = s'.N ∧ s.D = s'.D ∧ (j ≠ k → s = s') := by
    intro j s hj
    unfold setMark at hj
    by_cases hjk : j = k
    · subst hjk
      simp only [if_true, hk, Option.map_some, Option.some.injEq] at hj
      subst hj
      exact ⟨r, hk, rfl, rfl, rfl, fun e => (e rfl).elim⟩
    · simp only [hjk, if_false] at hj
      exact ⟨s, hj, rfl, rfl, rfl, fun _ => rfl⟩
  refine ⟨?_, ?_, ?_, ?_, ?_, ?_, ?_⟩
  · obtain ⟨t1, e⟩ := p.head
    exact ⟨t1, by rw [get_set_ne (p.sep k r hk)]; exact e⟩
  · refine p.map.other (get_set_ne fun e => ?_)
    have := p.map.at_
    rw [← e, hr] at this
    cases this
  · intro j
    rw [p.val j]
    unfold setMark
    by_cases hjk : j = k
    · subst hjk; simp [hk]
    · simp [hjk]
  · intro j s hj
    by_cases hjk : j = k
    · subst hjk
      simp only [setMark, if_true, hk, Option.map_some, Option.some.injEq] at hj
      subst hj
      exact ⟨ty, get_set_same hlt⟩
    · obtain ⟨s', hs', -, -, -, e⟩ := hsome j s hj
      obtain rfl := e hjk
      obtain ⟨t1, e1⟩ := p.reg j s hs'
      exact ⟨t1, by rw [get_set_ne (fun e => hjk (p.inj k j r s hk hs' e).symm)]; exact e1⟩
  · intro j s hj
    by_cases hjk : j = k
    · subst hjk
      simp only [setMark, if_true, hk, Option.map_some, Option.some.injEq] at hj
      subst hj
      have ok := p.ok j r hk
      exact ⟨ok.key, ok.lo, ok.hi, ok.one, ok.fit, h0, h1⟩
    · obtain ⟨s', hs', -, -, -, e⟩ := hsome j s hj
      obtain rfl := e hjk
      exact p.ok j s hs'
  · intro i j s u hi hj e
    obtain ⟨s', hs', -⟩ := hsome i s hi
    obtain ⟨u', hu', -⟩ := hsome j u hj
    exact p.inj i j s' u' hs' hu' e
  · intro j s hj
    obtain ⟨s', hs', -⟩ := hsome j s hj
    exact p.sep j s' hs'

theorem foot_setMark {pb mb : Nat} {β : Int → Nat} {m : Int → Option Reg} {k n : Int} {b : Nat} (h : poolFoot pb mb β (setMark m k n) b) : poolFoot pb mb β m b := by
  rcases h with h | h | ⟨j, s, hj, e⟩
  · exact .inl h
  · exact .inr (.inl h)
  · refine .inr (.inr ?_)
    unfold setMark at hj
    by_cases hjk : j = k
    · subst hjk
      simp only [if_true] at hj
      cases hm : m j with
      | none => rw [hm] at hj; cases hj
      | some r => exact ⟨j, r, hm, e⟩
    · simp only [hjk, if_false] at hj
      exact ⟨j, s, hj, e⟩

set_option maxRecDepth 8000 in
theorem carve_spec (h : Heap) (pb : Nat) (F : Nat → Prop) (m : Int → Option Reg) (hp : PoolR h pb F m) (first kind frames count : Int) :
    HCalls Try.prog 14 #[.pointer (some ⟨pb, 0, none⟩), .int .i64 first, .int .i64 kind, .int .i64 frames, .int .i64 count] h fun v h' => v = pairI (carveM m first kind frames count).2 ∧ PoolR h' pb F (carveM m first kind frames count).1 ∧ Mod F h h' := by
  refine HCalls.of_dev T14 Try.func14 rfl mixed (by kernel_rfl) ?_; rw [Try.results14]
  simp (maxSteps := 2000000) only [↓condK_decide, go_sem, Nat.reduceBEq, Nat.reduceAdd, Nat.reduceMul, Nat.reduceSub, Nat.reduceEqDiff, Nat.reduceLeDiff, Nat.reduceLT, Int.reduceEq, Int.reduceAdd, Int.reduceSub, Int.reduceMul, Int.reduceNeg, Int.reduceLT, Int.reduceLE, Int.reduceToNat, Int.reduceBEq, Int.reduceNe]
  refine (room_spec h pb F m hp first kind frames count).mono ?_
  rintro v h' ⟨rfl, rfl⟩
  obtain ⟨mb, es, clk, β, p, hF⟩ := hp
  obtain ⟨ty, hhead⟩ := p.head
  simp (maxSteps := 2000000) only [↓condK_decide, go_sem, Nat.reduceBEq, Nat.reduceAdd, Nat.reduceMul, Nat.reduceSub, Nat.reduceEqDiff, Nat.reduceLeDiff, Nat.reduceLT, Int.reduceEq, Int.reduceAdd, Int.reduceSub, Int.reduceMul, Int.reduceNeg, Int.reduceLT, Int.reduceLE, Int.reduceToNat, Int.reduceBEq, Int.reduceNe]
  by_cases he : (roomM m first kind frames count).2 = 0
  · obtain ⟨r, hm, hs, c1, c8, a1, a2, a3, -⟩ := roomM_ok p.ok he
    have ok := p.ok first r hm
    obtain ⟨b1, b2⟩ := sizeM_bd hs
    obtain ⟨m1, m2⟩ := mul_bd c1 c8 b1 b2
    simp only [he, not_true_eq_false, false_implies, true_and, not_false_eq_true, forall_const]
    refine (size_spec _ _ _).mono ?_
    rintro v h' ⟨rfl, rfl⟩
    obtain ⟨tr, hr⟩ := p.reg first r hm
    have l3 := lt_of_get hr
    have k1 := ok.lo; have k2 := ok.hi; have k3 := ok.one; have k4 := ok.fit; have k5 := ok.mlo; have k6 := ok.mhi; have k7 := ok.key
    have hc : carveM m first kind frames count = (setMark m first ((roomM m first kind frames count).1 + count * (sizeM kind frames).1 - first), ((roomM m first kind frames count).1, 0)) := by unfold carveM; rw [if_pos he]
    rw [hc]
    have e7 : IntKind.i64.wrap (count * (sizeM kind frames).1) = count * (sizeM kind frames).1 := w64_id (by omega) (by omega)
    have e8 : IntKind.i64.wrap ((roomM m first kind frames count).1 + count * (sizeM kind frames).1) = (roomM m first kind frames count).1 + count * (sizeM kind frames).1 := w64_id (by omega) (by omega)
    have e9 : IntKind.i64.wrap ((roomM m first kind frames count).1 + count * (sizeM kind frames).1 - first) = (roomM m first kind frames count).1 + count * (sizeM kind frames).1 - first := w64_id (by omega) (by omega)
    simp (maxSteps := 2000000) only [↓condK_decide, go_sem, Nat.reduceBEq, Nat.reduceAdd, Nat.reduceMul, Nat.reduceSub, Nat.reduceEqDiff, Nat.reduceLeDiff, Nat.reduceLT, Int.reduceEq, Int.reduceAdd, Int.reduceSub, Int.reduceMul, Int.reduceNeg, Int.reduceLT, Int.reduceLE, Int.reduceToNat, Int.reduceBEq, Int.reduceNe, hhead, p.map.at_, p.map.isInt, p.val, hm, hr, e7, e8, e9]
    exact ⟨⟨mb, es, clk, β, p.setReg hm (by omega) (by omega), fun b hb => hF b (foot_setMark hb)⟩, Mod.set.mono fun i _ hi => by rw [hi]; exact hF _ (.inr (.inr ⟨first, r, hm, rfl⟩))⟩
  · have hc : carveM m first kind frames count = (m, (0, (roomM m first kind frames count).2)) := by unfold carveM; rw [if_neg he]
    simp only [he, not_false_eq_true, forall_const, not_true_eq_false, false_implies, and_true]
    rw [hc]
    exact ⟨rfl, ⟨mb, es, clk, β, p, hF⟩, Mod.refl _ _⟩
end Go.Eng
