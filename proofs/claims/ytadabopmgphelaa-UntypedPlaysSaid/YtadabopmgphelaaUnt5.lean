/-
  package untyped: Reset.
-/
import Derived.Test.YtadabopmgphelaaRam1
namespace Go.Eng
set_option linter.unusedSimpArgs false
set_option linter.unusedVariables false
set_option maxRecDepth 16000
set_option maxHeartbeats 4000000
open Go Go.Proofs

def wipe (mem : Nat → Int) (lo hi : Int) : Nat → Int := fun j => if 64 * lo ≤ j ∧ (j : Int) < 64 * hi then 0 else mem j

/-- How many units are taken. -/
def unitsM (mark u : Int) : Int := min mark (max u 0)

theorem RamR.congr {h : Heap} {rb n : Nat} {F : Nat → Prop} {mem mem' : Nat → Int} (r : RamR h rb F n mem) (e : ∀ j, j < 64 * n → mem' j = mem j) : RamR h rb F n mem' := by
  obtain ⟨db, r, f1, f2⟩ := r
  obtain ⟨ty, cs, hd, hs, hg⟩ := r.data
  exact ⟨db, ⟨r.head, ⟨ty, cs, hd, hs, fun i hi => by rw [hg i hi, e i hi]⟩, r.ne, r.many, fun i hi => by rw [e i hi]; exact r.byte i hi⟩, f1, f2⟩

structure ResetOk (h : Heap) (pb rb ub n : Nat) (F G : Nat → Prop) (m : Int → Option Reg) (mem : Nat → Int) (u : Int) : Prop where
  pool : PoolR h pb F m
  ram : RamR h rb G n mem
  unit : ∃ ty, h[ub]? = some (.cells [.int .i64 u].toArray ty (0, 0))
  fg : ∀ b, F b → ¬ G b
  fu : ¬ F ub
  gu : ¬ G ub

theorem setMark_self {m : Int → Option Reg} {k : Int} {r : Reg} (hk : m k = some r) : setMark m k r.M = m := by
  funext j
  unfold setMark
  by_cases hj : j = k
  · subst hj; simp [hk]
  · simp [hj]
theorem setMark_twice {m : Int → Option Reg} {k : Int} {a b : Int} : setMark (setMark m k a) k b = setMark m k b := by
  funext j
  unfold setMark
  by_cases hj : j = k
  · subst hj; cases m j <;> simp
  · simp [hj]
theorem setMark_at {m : Int → Option Reg} {k : Int} {r : Reg} (hk : m k = some r) {n : Int} : setMark m k n k = some { r with M := n } := by simp [setMark, hk]
theorem wipe_none {mem : Nat → Int} {a : Int} : wipe mem a a = mem := by
  funext j
  unfold wipe
  rw [if_neg (by omega)]
theorem wipe_down {mem : Nat → Int} {a c : Int} (h : a ≤ c) : (fun j : Nat => if 64 * (a - 1) ≤ (j : Int) ∧ (j : Int) < 64 * (a - 1) + 64 then 0 else wipe mem a c j) = wipe mem (a - 1) c := by
  funext j
  unfold wipe
  by_cases h1 : 64 * (a - 1) ≤ (j : Int) ∧ (j : Int) < 64 * (a - 1) + 64
  · rw [if_pos h1, if_pos (by omega)]
  · rw [if_neg h1]
    by_cases h2 : 64 * a ≤ (j : Int) ∧ (j : Int) < 64 * c
    · rw [if_pos h2, if_pos (by omega)]
    · rw [if_neg h2, if_neg (by omega)]

structure ResetI (h h' : Heap) (pb rb ub n : Nat) (F G : Nat → Prop) (m : Int → Option Reg) (mem : Nat → Int) (u : Int) (mb : Nat) (es : Array MapEntry) (clk : Nat) (β : Int → Nat) (first : Int) (r : Reg) (j : Nat) : Prop where
  le : (j : Int) ≤ r.M
  leu : (j : Int) ≤ max u 0
  pool : PoolAt h' pb mb es clk β (setMark m first (r.M - j))
  ram : ∃ mem', RamR h' rb G n mem' ∧ (r.D = true → mem' = mem) ∧ (r.D = false → mem' = wipe mem (r.F + r.M - j) (r.F + r.M))
  unit : ∃ ty, h'[ub]? = some (.cells [.int .i64 (u - j)].toArray ty (0, 0))
  mod : Mod (fun b => F b ∨ G b ∨ b = ub) h h'

set_option maxHeartbeats 2000000 in
set_option maxRecDepth 8000 in
theorem reset_spec (h : Heap) (pb rb ub n : Nat) (F G : Nat → Prop) (m : Int → Option Reg) (mem : Nat → Int) (u : Int) (ok : ResetOk h pb rb ub n F G m mem u) (hu : -9223372036854775808 ≤ u ∧ u ≤ 9223372036854775807) (first : Int) (r : Reg) (hm : m first = some r) :
    HCalls Try.prog 19 #[.pointer (some ⟨pb, 0, none⟩), .pointer (some ⟨rb, 0, none⟩), .int .i64 first, .pointer (some ⟨ub, 0, none⟩)] h fun v h' =>
      v = .int .i64 (if unitsM r.M u < r.M then 3 else 0) ∧
      (∃ mem', ResetOk h' pb rb ub n F G (setMark m first (r.M - unitsM r.M u)) mem' (u - unitsM r.M u) ∧ (r.D = true → mem' = mem) ∧ (r.D = false → mem' = wipe mem (r.F + r.M - unitsM r.M u) (r.F + r.M))) ∧
      Mod (fun b => F b ∨ G b ∨ b = ub) h h' := by
  refine HCalls.via fun R hR => ?_
  obtain ⟨mb, es, clk, β, p, hF⟩ := ok.pool
  obtain ⟨ty, hhead⟩ := p.head
  obtain ⟨tr, hr⟩ := p.reg first r hm
  have rok := p.ok first r hm
  have k1 := rok.lo; have k2 := rok.hi; have k3 := rok.one; have k4 := rok.fit; have k5 := rok.mlo; have k6 := rok.mhi
  -- the end
  have fin : ∀ j h', ResetI h h' pb rb ub n F G m mem u mb es clk β first r j → (j : Int) = unitsM r.M u → R (.int .i64 (if unitsM r.M u < r.M then 3 else 0)) h' := by
    intro j h' I hj
    refine hR _ _ ⟨rfl, ?_, I.mod⟩
    rw [← hj]
    obtain ⟨mem', g1, g2, g3⟩ := I.ram
    have hfoot : ∀ b, poolFoot pb mb β (setMark m first (r.M - j)) b → F b := fun b hb => hF b (foot_setMark hb)
    exact ⟨mem', ⟨⟨mb, es, clk, β, I.pool, hfoot⟩, g1, I.unit, ok.fg, ok.fu, ok.gu⟩, g2, g3⟩
  refine HCalls.of_dev T19 Try.func19 rfl mixed (by kernel_rfl) ?_; rw [Try.results19]
  simp (maxSteps := 2000000) only [↓condK_decide, go_sem, Nat.reduceBEq, Nat.reduceAdd, Nat.reduceMul, Nat.reduceSub, Nat.reduceEqDiff, Nat.reduceLeDiff, Nat.reduceLT, Int.reduceEq, Int.reduceAdd, Int.reduceSub, Int.reduceMul, Int.reduceNeg, Int.reduceLT, Int.reduceLE, Int.reduceToNat, Int.reduceBEq, Int.reduceNe, hhead, p.map.at_, p.map.isInt, p.val, hm]
  refine loopH.intro (fun _ : Nat => .cons 1 (.pointer (some ⟨rb, 0, none⟩)) true (.cons 3 (.pointer (some ⟨ub, 0, none⟩)) true (.cons 9 (.pointer (some ⟨β first, 0, none⟩)) true .nil)))
    (fun j h' => ResetI h h' pb rb ub n F G m mem u mb es clk β first r j) (fun j _ => r.M.toNat - j) 0 ?_ ?_ ?_
  · simp (maxSteps := 2000000) only [↓condK_decide, go_sem, Nat.reduceBEq, Nat.reduceAdd, Nat.reduceMul, Nat.reduceSub, Nat.reduceEqDiff, Nat.reduceLeDiff, Nat.reduceLT, Int.reduceEq, Int.reduceAdd, Int.reduceSub, Int.reduceMul, Int.reduceNeg, Int.reduceLT, Int.reduceLE, Int.reduceToNat, Int.reduceBEq, Int.reduceNe]
  · exact ⟨by omega, by omega, by rw [show r.M - ((0 : Nat) : Int) = r.M by omega, setMark_self hm]; exact p, ⟨mem, ok.ram, fun _ => rfl, fun _ => by rw [show r.F + r.M - ((0 : Nat) : Int) = r.F + r.M by omega, wipe_none]⟩, by simpa using ok.unit, Mod.refl _ _⟩
  · intro j h' I
    obtain ⟨tr', hr'⟩ := I.pool.reg first _ (setMark_at hm)
    obtain ⟨tu, hu'⟩ := I.unit
    have hFr : F (β first) := hF _ (.inr (.inr ⟨first, r, hm, rfl⟩))
    have hne1 : ub ≠ β first := fun e => ok.fu (e ▸ hFr)
    have hne2 : β first ≠ ub := hne1.symm
    have l1 := lt_of_get hr'
    have l2 := lt_of_get hu'
    have i1 := I.le; have i2 := I.leu
    simp (maxSteps := 2000000) only [↓condK_decide, go_sem, Nat.reduceBEq, Nat.reduceAdd, Nat.reduceMul, Nat.reduceSub, Nat.reduceEqDiff, Nat.reduceLeDiff, Nat.reduceLT, Int.reduceEq, Int.reduceAdd, Int.reduceSub, Int.reduceMul, Int.reduceNeg, Int.reduceLT, Int.reduceLE, Int.reduceToNat, Int.reduceBEq, Int.reduceNe, hr', hu']
    refine ⟨fun hpos => ⟨fun hu0 => ?_, fun hu0 => ?_⟩, fun hpos => ?_⟩
    · have e := fin j h' I (by unfold unitsM; omega)
      rwa [if_pos (by unfold unitsM; omega)] at e
    · have w1 : IntKind.i64.wrap (u - j - 1) = u - (j + 1 : Nat) := by rw [w64_id (by omega) (by omega)]; omega
      have w2 : IntKind.i64.wrap (r.M - j - 1) = r.M - (j + 1 : Nat) := by rw [w64_id (by omega) (by omega)]; omega
      have w3 : IntKind.i64.wrap (r.F + (r.M - (j + 1 : Nat))) = r.F + r.M - j - 1 := by rw [w64_id (by omega) (by omega)]; omega
      simp (maxSteps := 2000000) only [↓condK_decide, go_sem, Nat.reduceBEq, Nat.reduceAdd, Nat.reduceMul, Nat.reduceSub, Nat.reduceEqDiff, Nat.reduceLeDiff, Nat.reduceLT, Int.reduceEq, Int.reduceAdd, Int.reduceSub, Int.reduceMul, Int.reduceNeg, Int.reduceLT, Int.reduceLE, Int.reduceToNat, Int.reduceBEq, Int.reduceNe, hr', hu', hne1, hne2, l1, l2, w1, w2, w3]
      -- the two stores
      have step : ∀ mem' h2,
          Mod G ((h'.setIfInBounds ub (.cells [.int .i64 (u - (j + 1 : Nat))].toArray tu (0, 0))).setIfInBounds (β first) (.cells [.int .i64 r.F, .int .i64 r.N, .int .i64 (r.M - (j + 1 : Nat)), .bool r.D].toArray tr' (0, 0))) h2 → RamR h2 rb G n mem' →
          (r.D = true → mem' = mem) → (r.D = false → mem' = wipe mem (r.F + r.M - (j + 1 : Nat)) (r.F + r.M)) →
          ResetI h h2 pb rb ub n F G m mem u mb es clk β first r (j + 1) := by
        intro mem' h2 hmod hram hd1 hd2
        have p1 : PoolAt (h'.setIfInBounds ub (.cells [.int .i64 (u - (j + 1 : Nat))].toArray tu (0, 0))) pb mb es clk β (setMark m first (r.M - j)) :=
          I.pool.frame fun b hb => get_set_ne fun e => ok.fu (e ▸ hF b (foot_setMark hb))
        have p2 := p1.setReg (setMark_at hm) (n := r.M - (j + 1 : Nat)) (by omega) (by simp only; omega) (ty := tr')
        rw [setMark_twice] at p2
        refine ⟨by omega, by omega, ?_, ⟨mem', hram, hd1, hd2⟩, ⟨tu, ?_⟩, ?_⟩
        · exact p2.frame fun b hb => hmod.get b (p2.lt hb) fun hg => ok.fg b (hF b (foot_setMark hb)) hg
        · rw [hmod.get ub (by simpa using l2) ok.gu, get_set_ne hne2, get_set_same l2]
        · refine I.mod.trans (Mod.trans (Mod.trans (Mod.set.mono fun i _ hi => .inr (.inr hi)) (Mod.set.mono fun i _ hi => .inl (hi ▸ hFr))) (hmod.mono fun i _ hi => .inr (.inl hi)))
      obtain ⟨mem', q1, q2, q3⟩ := I.ram
      have hram : RamR ((h'.setIfInBounds ub (.cells [.int .i64 (u - (j + 1 : Nat))].toArray tu (0, 0))).setIfInBounds (β first) (.cells [.int .i64 r.F, .int .i64 r.N, .int .i64 (r.M - (j + 1 : Nat)), .bool r.D].toArray tr' (0, 0))) rb G n mem' :=
        q1.frame fun b _ hb => by
          have n1 : β first ≠ b := by intro e; rw [← e] at hb; exact ok.fg _ hFr hb
          have n2 : ub ≠ b := by intro e; rw [← e] at hb; exact ok.gu hb
          rw [get_set_ne n1, get_set_ne n2]
      cases hD : r.D with
      | true =>
        rw [hD] at step hram
        simp (maxSteps := 2000000) only [↓condK_decide, go_sem, Nat.reduceBEq, Nat.reduceAdd, Nat.reduceMul, Nat.reduceSub, Nat.reduceEqDiff, Nat.reduceLeDiff, Nat.reduceLT, Int.reduceEq, Int.reduceAdd, Int.reduceSub, Int.reduceMul, Int.reduceNeg, Int.reduceLT, Int.reduceLE, Int.reduceToNat, Int.reduceBEq, Int.reduceNe, hr', hu', hne1, hne2, l1, l2, w1, w2, w3]
        refine ⟨fun e => (by cases e), fun _ => ?_⟩
        exact ⟨j + 1, rfl, step mem' _ (Mod.refl _ _) hram (fun _ => q2 hD) (fun e => by cases e), by simp only; omega⟩
      | false =>
        rw [hD] at step hram
        simp (maxSteps := 2000000) only [↓condK_decide, go_sem, Nat.reduceBEq, Nat.reduceAdd, Nat.reduceMul, Nat.reduceSub, Nat.reduceEqDiff, Nat.reduceLeDiff, Nat.reduceLT, Int.reduceEq, Int.reduceAdd, Int.reduceSub, Int.reduceMul, Int.reduceNeg, Int.reduceLT, Int.reduceLE, Int.reduceToNat, Int.reduceBEq, Int.reduceNe, hr', hu', hne1, hne2, l1, l2, w1, w2, w3]
        refine ⟨fun _ => ?_, fun e => by cases e⟩
        refine (clear_spec _ rb G n mem' hram (r.F + r.M - j - 1)).mono ?_
        rintro v h2 ⟨hv, hmod⟩
        rcases hv with ⟨c1, c2, rfl, hr2⟩ | ⟨c1, rfl, hr2⟩
        · simp (maxSteps := 2000000) only [↓condK_decide, go_sem, Nat.reduceBEq, Nat.reduceAdd, Nat.reduceMul, Nat.reduceSub, Nat.reduceEqDiff, Nat.reduceLeDiff, Nat.reduceLT, Int.reduceEq, Int.reduceAdd, Int.reduceSub, Int.reduceMul, Int.reduceNeg, Int.reduceLT, Int.reduceLE, Int.reduceToNat, Int.reduceBEq, Int.reduceNe]
          refine ⟨j + 1, rfl, step _ h2 hmod hr2 (fun e => by cases e) (fun _ => ?_), by simp only; omega⟩
          rw [q3 hD, show r.F + r.M - ((j + 1 : Nat) : Int) = r.F + r.M - j - 1 by omega]
          exact wipe_down (by omega)
        · simp (maxSteps := 2000000) only [↓condK_decide, go_sem, Nat.reduceBEq, Nat.reduceAdd, Nat.reduceMul, Nat.reduceSub, Nat.reduceEqDiff, Nat.reduceLeDiff, Nat.reduceLT, Int.reduceEq, Int.reduceAdd, Int.reduceSub, Int.reduceMul, Int.reduceNeg, Int.reduceLT, Int.reduceLE, Int.reduceToNat, Int.reduceBEq, Int.reduceNe]
          have hr3 : RamR h2 rb G n (fun k : Nat => if 64 * (r.F + r.M - j - 1) ≤ (k : Int) ∧ (k : Int) < 64 * (r.F + r.M - j - 1) + 64 then 0 else mem' k) := hr2.congr fun k hk => by rw [if_neg (by omega)]
          refine ⟨j + 1, rfl, step _ h2 hmod hr3 (fun e => by cases e) (fun _ => ?_), by simp only; omega⟩
          rw [q3 hD, show r.F + r.M - ((j + 1 : Nat) : Int) = r.F + r.M - j - 1 by omega]
          exact wipe_down (by omega)
    · have e := fin j h' I (by unfold unitsM; omega)
      rwa [if_neg (by unfold unitsM; omega)] at e
end Go.Eng
