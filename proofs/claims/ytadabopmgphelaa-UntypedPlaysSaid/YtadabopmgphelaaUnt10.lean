/-
  UntypedResets.
-/
import Derived.Test.YtadabopmgphelaaUnt11
namespace Go.Eng
set_option linter.unusedSimpArgs false
set_option linter.unusedVariables false
set_option maxRecDepth 16000
set_option maxHeartbeats 4000000
open Go Go.Proofs

/-- A slice of bytes. -/
def BytesAt (h : Heap) (sl : Option Addr) (n : Nat) (B : Nat → Int) : Prop :=
  n ≤ 9223372036854775807 ∧ ∀ i, i < n → (0 ≤ B i ∧ B i < 256) ∧ ∃ b o, sl = some ⟨b, o, none⟩ ∧ hcellO h[b]? (o + i) = some (.int .u8 (B i))
theorem BytesAt.ext {h h' : Heap} {sl : Option Addr} {n : Nat} {B : Nat → Int} (a : BytesAt h sl n B) (e : Ext h h') : BytesAt h' sl n B := by
  refine ⟨a.1, fun i hi => ?_⟩
  obtain ⟨f, b, o, hs, hc⟩ := a.2 i hi
  exact ⟨f, b, o, hs, by rw [e.get b (hcellO_lt hc)]; exact hc⟩

/-- A frame's copy in a block. -/
def copyS (fb : Nat) (mem : Nat → Int) (j : Nat) : SP := fun a => ∃ ty ds, frameC mem j ds ∧ a fb = some (.cells ds ty (0, 0))
def copiesS (β : Nat → Nat) (mem : Nat → Int) (t : Nat) : SP := starL ((List.range t).map fun j => copyS (β j) mem j)
theorem copies_add {h : Heap} {F : List SP} {β : Nat → Nat} {mem : Nat → Int} {t fb : Nat} (hs : Sat h (copyS fb mem t :: copiesS β mem t :: F)) : Sat h (copiesS (fun j => if j = t then fb else β j) mem (t + 1) :: F) := by
  have h1 := Sat.join hs
  unfold copiesS
  rw [List.range_succ, List.map_append]
  have e1 : (List.range t).map (fun j => copyS (if j = t then fb else β j) mem j) = (List.range t).map fun j => copyS (β j) mem j := by
    apply List.map_congr_left
    intro j hj
    have := List.mem_range.1 hj
    rw [if_neg (by omega)]
  rw [e1]
  simpa using h1
theorem copies_get {h : Heap} {F : List SP} {β : Nat → Nat} {mem : Nat → Int} {t j : Nat} (hs : Sat h (copiesS β mem t :: F)) (hj : j < t) : ∃ ty ds, frameC mem j ds ∧ h[β j]? = some (.cells ds ty (0, 0)) := by
  obtain ⟨a, h1, ty, ds, h2, h3⟩ := Sat.starMem hs (List.mem_map.2 ⟨j, List.mem_range.2 hj, rfl⟩)
  exact ⟨ty, ds, h2, h1 _ _ h3⟩

theorem awake_S {h : Heap} {F : List SP} (hs : Sat h F) : HCalls Try.prog 9 #[] h fun v h' => v = .bool true ∧ Sat h' F := by
  refine (awake_spec h).mono ?_
  rintro v h' ⟨rfl, e⟩
  exact ⟨rfl, hs.grow e⟩
theorem add_one {h : Heap} {F : List SP} {pb : Nat} (hs : Sat h (poolS pb (fun _ => none) :: F)) (x : Reg) :
    HCalls Try.prog 13 #[.pointer (some ⟨pb, 0, none⟩), .agg x.cells.toArray] h fun v h' => (mayAdd x ∧ v = .int .i64 0 ∧ Sat h' (poolS pb (one x x.M) :: F)) ∨ (¬ mayAdd x ∧ v = .int .i64 1 ∧ Sat h' (poolS pb (fun _ => none) :: F)) := by
  refine (add_S hs x).mono ?_
  rintro v h' ⟨rfl, s⟩
  by_cases hx : mayAdd x
  · rw [one_add hx] at s ⊢; exact .inl ⟨hx, rfl, s⟩
  · rw [addM_no hx] at s ⊢; exact .inr ⟨hx, rfl, s⟩

/-- Memory behind so many units. -/
def memW (x : Reg) (mem : Nat → Int) (s : Int) : Nat → Int := if x.D = true then mem else wipe mem (x.F + x.M - s) (x.F + x.M)

theorem memW_zero {x : Reg} {mem : Nat → Int} : memW x mem ((0 : Nat) : Int) = mem := by
  unfold memW
  split
  · rfl
  · rw [show x.F + x.M - ((0 : Nat) : Int) = x.F + x.M by omega, wipe_none]
theorem memW_step {x : Reg} {mem mem' : Nat → Int} {k d : Int} (hk : 0 ≤ k) (hd : 0 ≤ d) (e1 : x.D = true → mem' = memW x mem k) (e2 : x.D = false → mem' = wipe (memW x mem k) (x.F + (x.M - k) - d) (x.F + (x.M - k))) : mem' = memW x mem (k + d) := by
  unfold memW at *
  cases hD : x.D with
  | true => rw [e1 hD]; simp [hD]
  | false =>
    rw [e2 hD]
    simp only [hD, Bool.false_eq_true, if_false]
    funext j
    unfold wipe
    by_cases c1 : 64 * (x.F + (x.M - k) - d) ≤ (j : Int) ∧ (j : Int) < 64 * (x.F + (x.M - k))
    · rw [if_pos c1, if_pos (by omega)]
    · rw [if_neg c1]
      by_cases c2 : 64 * (x.F + x.M - k) ≤ (j : Int) ∧ (j : Int) < 64 * (x.F + x.M)
      · rw [if_pos c2, if_pos (by omega)]
      · rw [if_neg c2, if_neg (by omega)]

set_option maxRecDepth 16000 in
set_option maxHeartbeats 4000000 in
theorem resets_spec (x : Reg) (sl : Option Addr) (n cap : Nat) (B : Nat → Int) (units : Int) (hu : -9223372036854775808 ≤ units ∧ units ≤ 9223372036854775807) (h : Heap) (hB : BytesAt h sl n B) :
    HCalls Try.prog 6 #[.agg x.cells.toArray, .slice sl n cap, .int .i64 units] h fun v h' => v = .bool true ∧ Ext h h' := by
  refine HCalls.via fun R hR => ?_
  refine HCalls.of_dev T6 Try.func6 rfl mixed (by kernel_rfl) ?_; rw [Try.results6]
  simp (maxSteps := 2000000) only [↓condK_decide, go_sem, Nat.reduceBEq, Nat.reduceAdd, Nat.reduceMul, Nat.reduceSub, Nat.reduceEqDiff, Nat.reduceLeDiff, Nat.reduceLT, Int.reduceEq, Int.reduceAdd, Int.reduceSub, Int.reduceMul, Int.reduceNeg, Int.reduceLT, Int.reduceLE, Int.reduceToNat, Int.reduceBEq, Int.reduceNe]
  have s0 := (Sat.init h).push (.cells x.cells.toArray 28 (0, 0))
  refine (awake_S s0).mono ?_
  rintro v h1 ⟨rfl, s1⟩
  clear s0
  simp (maxSteps := 2000000) only [↓condK_decide, go_sem, Nat.reduceBEq, Nat.reduceAdd, Nat.reduceMul, Nat.reduceSub, Nat.reduceEqDiff, Nat.reduceLeDiff, Nat.reduceLT, Int.reduceEq, Int.reduceAdd, Int.reduceSub, Int.reduceMul, Int.reduceNeg, Int.reduceLT, Int.reduceLE, Int.reduceToNat, Int.reduceBEq, Int.reduceNe]
  refine (new_S s1).mono ?_
  rintro v h2 ⟨pb, rfl, s2⟩
  simp (maxSteps := 2000000) only [↓condK_decide, go_sem, Nat.reduceBEq, Nat.reduceAdd, Nat.reduceMul, Nat.reduceSub, Nat.reduceEqDiff, Nat.reduceLeDiff, Nat.reduceLT, Int.reduceEq, Int.reduceAdd, Int.reduceSub, Int.reduceMul, Int.reduceNeg, Int.reduceLT, Int.reduceLE, Int.reduceToNat, Int.reduceBEq, Int.reduceNe]
  refine (ramNew_S s2 32 (by omega) (by omega)).mono ?_
  rintro v h3 ⟨rb, rfl, s3⟩
  simp (maxSteps := 2000000) only [↓condK_decide, go_sem, Nat.reduceBEq, Nat.reduceAdd, Nat.reduceMul, Nat.reduceSub, Nat.reduceEqDiff, Nat.reduceLeDiff, Nat.reduceLT, Int.reduceEq, Int.reduceAdd, Int.reduceSub, Int.reduceMul, Int.reduceNeg, Int.reduceLT, Int.reduceLE, Int.reduceToNat, Int.reduceBEq, Int.reduceNe, (s3.front 2).get]
  refine (add_one (s3.front 1) x).mono ?_
  rintro v h4 (⟨hx, rfl, s4⟩ | ⟨hx, rfl, s4⟩)
  case inr =>
    simp (maxSteps := 2000000) only [↓condK_decide, go_sem, Nat.reduceBEq, Nat.reduceAdd, Nat.reduceMul, Nat.reduceSub, Nat.reduceEqDiff, Nat.reduceLeDiff, Nat.reduceLT, Int.reduceEq, Int.reduceAdd, Int.reduceSub, Int.reduceMul, Int.reduceNeg, Int.reduceLT, Int.reduceLE, Int.reduceToNat, Int.reduceBEq, Int.reduceNe]
    exact ⟨fun _ => hR _ _ ⟨rfl, (s4.front 3).ext⟩, fun q => by simp at q⟩
  clear s1 s2 s3
  simp (maxSteps := 2000000) only [↓condK_decide, go_sem, Nat.reduceBEq, Nat.reduceAdd, Nat.reduceMul, Nat.reduceSub, Nat.reduceEqDiff, Nat.reduceLeDiff, Nat.reduceLT, Int.reduceEq, Int.reduceAdd, Int.reduceSub, Int.reduceMul, Int.reduceNeg, Int.reduceLT, Int.reduceLE, Int.reduceToNat, Int.reduceBEq, Int.reduceNe]
  refine ⟨fun q => hR _ _ ⟨rfl, (s4.front 3).ext⟩, fun q => ?_⟩
  have hu1 : 1 ≤ units := by simpa using q
  unfold mayAdd at hx
  refine loopH.intro (fun t : Nat => (.cons 1 (.slice sl n cap) true (.cons 2 (.int .i64 units) true (.cons 3 (.pointer (some ⟨h.size, 0, none⟩)) true (.cons 7 (.bool true) true (.cons 8 (.pointer (some ⟨pb, 0, none⟩)) true (.cons 9 (.pointer (some ⟨rb, 0, none⟩)) true (.cons 12 (.int .i64 t) true .nil))))))))
    (fun t h' => (∃ mem, Sat h' [poolS pb (one x x.M), ramS rb 32 mem, cellAt h.size (.cells x.cells.toArray 28 (0, 0)), oldS h]) ∧ t ≤ 2048) (fun t _ => 2049 - t) 0 ?_ ⟨⟨_, s4⟩, by omega⟩ ?_
  · simp (maxSteps := 2000000) only [↓condK_decide, go_sem, Nat.reduceBEq, Nat.reduceAdd, Nat.reduceMul, Nat.reduceSub, Nat.reduceEqDiff, Nat.reduceLeDiff, Nat.reduceLT, Int.reduceEq, Int.reduceAdd, Int.reduceSub, Int.reduceMul, Int.reduceNeg, Int.reduceLT, Int.reduceLE, Int.reduceToNat, Int.reduceBEq, Int.reduceNe]; rfl
  clear s4
  rintro i h' ⟨⟨mem, s⟩, hi⟩
  simp (maxSteps := 2000000) only [↓condK_decide, go_sem, Nat.reduceBEq, Nat.reduceAdd, Nat.reduceMul, Nat.reduceSub, Nat.reduceEqDiff, Nat.reduceLeDiff, Nat.reduceLT, Int.reduceEq, Int.reduceAdd, Int.reduceSub, Int.reduceMul, Int.reduceNeg, Int.reduceLT, Int.reduceLE, Int.reduceToNat, Int.reduceBEq, Int.reduceNe]
  refine ⟨fun hc => ?_, fun hc => ?_⟩
  · simp only [Bool.and_eq_true, decide_eq_true_eq] at hc
    have hn : (n : Int) ≠ 0 := by omega
    have em : (i : Int).tmod n = ((i % n : Nat) : Int) := by rw [Int.tmod_eq_emod_of_nonneg (by omega)]; exact (Int.natCast_emod i n).symm
    have hjn : i % n < n := Nat.mod_lt _ (by omega)
    obtain ⟨bd, b, o, rfl, hcell⟩ := (hB.ext (s.front 3).ext).2 (i % n) hjn
    have c0 : (0 : Int) ≤ ((i % n : Nat) : Int) := by omega
    have c1 : ((i % n : Nat) : Int) < n := by omega
    simp (maxSteps := 2000000) only [↓condK_decide, go_sem, Nat.reduceBEq, Nat.reduceAdd, Nat.reduceMul, Nat.reduceSub, Nat.reduceEqDiff, Nat.reduceLeDiff, Nat.reduceLT, Int.reduceEq, Int.reduceAdd, Int.reduceSub, Int.reduceMul, Int.reduceNeg, Int.reduceLT, Int.reduceLE, Int.reduceToNat, Int.reduceBEq, Int.reduceNe, hn, em, c0, c1, Int.toNat_natCast, Nat.mul_one, hcell]
    refine (store1_S (s.front 1) i _).mono ?_
    rintro v h5 (⟨-, -, rfl, s5⟩ | ⟨hbad, -⟩)
    · simp (maxSteps := 2000000) only [↓condK_decide, go_sem, Nat.reduceBEq, Nat.reduceAdd, Nat.reduceMul, Nat.reduceSub, Nat.reduceEqDiff, Nat.reduceLeDiff, Nat.reduceLT, Int.reduceEq, Int.reduceAdd, Int.reduceSub, Int.reduceMul, Int.reduceNeg, Int.reduceLT, Int.reduceLE, Int.reduceToNat, Int.reduceBEq, Int.reduceNe]
      exact ⟨i + 1, by rw [w64_id (by omega) (by omega)]; rfl, ⟨⟨_, s5.front 1⟩, by omega⟩, by simp only; omega⟩
    · exfalso; omega
  clear hc
  have sp : ∀ o, Sat (h'.push o) [cellAt h'.size o, copiesS (fun _ => 0) mem 0, ramS rb 32 mem, poolS pb (one x x.M), cellAt h.size (.cells x.cells.toArray 28 (0, 0)), oldS h] := fun o => by
    have e0 : Sat _ (copiesS (fun _ => 0) mem 0 :: _) := Sat.star.2 (s.push o)
    exact e0.re [1, 0, 3, 2, 4, 5]
  clear q
  refine loopH.intro (fun t : Nat => (.cons 2 (.int .i64 units) true (.cons 3 (.pointer (some ⟨h.size, 0, none⟩)) true (.cons 7 (.bool true) true (.cons 8 (.pointer (some ⟨pb, 0, none⟩)) true (.cons 9 (.pointer (some ⟨rb, 0, none⟩)) true (.cons 13 (.pointer (some ⟨h'.size, 0, none⟩)) true (.cons 14 (.int .i64 t) true .nil))))))))
    (fun t h5 => t ≤ 32 ∧ ∃ cs ty β, cs.size = 32 ∧ (∀ j, j < t → cs[j]? = some (.slice (some ⟨β j, 0, none⟩) 64 64)) ∧
      Sat h5 [cellAt h'.size (.cells cs ty (0, 0)), copiesS β mem t, ramS rb 32 mem, poolS pb (one x x.M), cellAt h.size (.cells x.cells.toArray 28 (0, 0)), oldS h]) (fun t _ => 33 - t) 0 ?_ ⟨by omega, _, _, _, by rfl, fun j hj => by omega, sp _⟩ ?_
  · simp (maxSteps := 2000000) only [↓condK_decide, go_sem, Nat.reduceBEq, Nat.reduceAdd, Nat.reduceMul, Nat.reduceSub, Nat.reduceEqDiff, Nat.reduceLeDiff, Nat.reduceLT, Int.reduceEq, Int.reduceAdd, Int.reduceSub, Int.reduceMul, Int.reduceNeg, Int.reduceLT, Int.reduceLE, Int.reduceToNat, Int.reduceBEq, Int.reduceNe]; rfl
  clear sp s hi
  rintro i2 h5 ⟨hi2, cs, ty, β, hsz, hcp, s5⟩
  simp (maxSteps := 2000000) only [↓condK_decide, go_sem, Nat.reduceBEq, Nat.reduceAdd, Nat.reduceMul, Nat.reduceSub, Nat.reduceEqDiff, Nat.reduceLeDiff, Nat.reduceLT, Int.reduceEq, Int.reduceAdd, Int.reduceSub, Int.reduceMul, Int.reduceNeg, Int.reduceLT, Int.reduceLE, Int.reduceToNat, Int.reduceBEq, Int.reduceNe]
  refine ⟨fun hc => ?_, fun hc => ?_⟩
  · refine (frame_S (s5.front 2) i2).mono ?_
    rintro v h6 (⟨-, -, fb, tf, ds, rfl, fc, s6⟩ | ⟨hbad, -⟩)
    case inr => exfalso; omega
    have c0 : (0 : Int) ≤ (i2 : Int) := by omega
    have c1 : (i2 : Int) < ((32 : Nat) : Int) := by omega
    have s7 := (s6.front 2).set (.cells (cs.setIfInBounds i2 (.slice (some ⟨fb, 0, none⟩) 64 64)) ty (0, 0))
    have s8 := copies_add (((s7.re [2, 3, 0, 1, 4, 5, 6]).imp (A' := copyS fb mem i2) fun a ha => ⟨tf, ds, fc, ha⟩))
    simp (maxSteps := 2000000) only [↓condK_decide, go_sem, Nat.reduceBEq, Nat.reduceAdd, Nat.reduceMul, Nat.reduceSub, Nat.reduceEqDiff, Nat.reduceLeDiff, Nat.reduceLT, Int.reduceEq, Int.reduceAdd, Int.reduceSub, Int.reduceMul, Int.reduceNeg, Int.reduceLT, Int.reduceLE, Int.reduceToNat, Int.reduceBEq, Int.reduceNe, c0, c1, (s6.front 2).get, Int.toNat_natCast, Nat.mul_one]
    refine ⟨by omega, i2 + 1, by rw [w64_id (by omega) (by omega)]; rfl, ⟨by omega, _, _, _, by simpa using hsz, fun j hj => ?_, s8.re [1, 0, 2, 3, 4, 5]⟩, by simp only; omega⟩
    rw [Array.getElem?_setIfInBounds]
    by_cases e : i2 = j
    · subst e; simp; omega
    · rw [if_neg e, hcp j (by omega), if_neg (fun z => e z.symm)]
  obtain rfl : i2 = 32 := by omega
  clear hc hi2
  refine loopH.intro (fun t : Nat × Nat × Bool => (.cons 2 (.int .i64 units) true (.cons 3 (.pointer (some ⟨h.size, 0, none⟩)) true (.cons 7 (.bool true) true (.cons 8 (.pointer (some ⟨pb, 0, none⟩)) true (.cons 9 (.pointer (some ⟨rb, 0, none⟩)) true (.cons 13 (.pointer (some ⟨h'.size, 0, none⟩)) true (.cons 17 (.int .i64 t.2.1) true (.cons 18 (.int .i64 (if t.2.2 then 3 else 0)) true (.cons 19 (.int .i64 t.1) true .nil))))))))))
    (fun t h5 => Sat h5 [cellAt h'.size (.cells cs ty (0, 0)), copiesS β mem 32, ramS rb 32 (memW x mem t.2.1), poolS pb (one x (x.M - t.2.1)), cellAt h.size (.cells x.cells.toArray 28 (0, 0)), oldS h] ∧ t.2.1 ≤ x.M ∧ t.1 ≤ 1025 ∧ (t.2.2 = true → t.1 ≤ t.2.1 ∧ (t.1 = 0 ∨ t.2.1 < x.M)) ∧ (t.2.2 = false → t.2.1 = x.M)) (fun t _ => 1026 - t.1) (0, 0, true) ?_ ⟨?_, ?_, ?_, ?_, ?_⟩ ?_
  · simp (maxSteps := 2000000) only [↓condK_decide, go_sem, Nat.reduceBEq, Nat.reduceAdd, Nat.reduceMul, Nat.reduceSub, Nat.reduceEqDiff, Nat.reduceLeDiff, Nat.reduceLT, Int.reduceEq, Int.reduceAdd, Int.reduceSub, Int.reduceMul, Int.reduceNeg, Int.reduceLT, Int.reduceLE, Int.reduceToNat, Int.reduceBEq, Int.reduceNe]; rfl
  · simp only
    rw [memW_zero, show x.M - ((0 : Nat) : Int) = x.M by omega]
    exact s5.re [0, 1, 2, 3, 4, 5]
  · simp; omega
  · simp
  · simp
  · simp
  clear s5
  rintro ⟨t, k, f⟩ h7 ⟨s7, hk, ht, hf, hg⟩
  simp only at s7 hk ht hf hg
  simp (maxSteps := 2000000) only [↓condK_decide, go_sem, Nat.reduceBEq, Nat.reduceAdd, Nat.reduceMul, Nat.reduceSub, Nat.reduceEqDiff, Nat.reduceLeDiff, Nat.reduceLT, Int.reduceEq, Int.reduceAdd, Int.reduceSub, Int.reduceMul, Int.reduceNeg, Int.reduceLT, Int.reduceLE, Int.reduceToNat, Int.reduceBEq, Int.reduceNe]
  refine ⟨fun hc => ?_, fun hc => ?_⟩
  · have hc1 : t ≤ 1024 ∧ f = true := by
      cases f <;> simp at hc; exact ⟨by omega, rfl⟩
    obtain ⟨hc1, rfl⟩ := hc1
    have hf := hf rfl
    have s8 := s7.push (.cells [.int .i64 (min units 100)].toArray 3 (0, 0))
    simp (maxSteps := 2000000) only [↓condK_decide, go_sem, Nat.reduceBEq, Nat.reduceAdd, Nat.reduceMul, Nat.reduceSub, Nat.reduceEqDiff, Nat.reduceLeDiff, Nat.reduceLT, Int.reduceEq, Int.reduceAdd, Int.reduceSub, Int.reduceMul, Int.reduceNeg, Int.reduceLT, Int.reduceLE, Int.reduceToNat, Int.reduceBEq, Int.reduceNe, (s8.front 5).get]
    refine (reset_S (s8.re [4, 3, 0, 1, 2, 5, 6]) (by omega) x.F _ one_at).mono ?_
    rintro v h9 ⟨rfl, mem', ty', s9, e1, e2⟩
    rw [one_set] at s9
    simp only at s9 e1 e2
    have hd : unitsM (x.M - k) (min units 100) = min (x.M - k) (min units 100) := by unfold unitsM; omega
    rw [hd] at s9 e2
    obtain ⟨d, hdd⟩ : ∃ d : Nat, (d : Int) = min (x.M - k) (min units 100) := ⟨(min (x.M - k) (min units 100)).toNat, by omega⟩
    rw [← hdd] at s9 e2 hd
    have s9 := s9.re [3, 4, 1, 0, 5, 6, 2]
    have em := memW_step (k := k) (d := d) (by omega) (by omega) e1 e2
    have w1 : IntKind.i64.wrap (k + min units 100) = k + min units 100 := w64_id (by omega) (by omega)
    have w2 : IntKind.i64.wrap (k + min units 100 - (min units 100 - d)) = k + d := by rw [w64_id (by omega) (by omega)]; omega
    have w3 : IntKind.i64.wrap ((t : Int) + 1) = ((t + 1 : Nat) : Int) := by rw [w64_id (by omega) (by omega)]; omega
    simp (maxSteps := 2000000) only [↓condK_decide, go_sem, Nat.reduceBEq, Nat.reduceAdd, Nat.reduceMul, Nat.reduceSub, Nat.reduceEqDiff, Nat.reduceLeDiff, Nat.reduceLT, Int.reduceEq, Int.reduceAdd, Int.reduceSub, Int.reduceMul, Int.reduceNeg, Int.reduceLT, Int.reduceLE, Int.reduceToNat, Int.reduceBEq, Int.reduceNe, (s9.front 6).get, hd, w1, w2, w3]
    refine ⟨(t + 1, k + d, decide ((d : Int) < x.M - k)), ?_, ⟨?_, ?_, ?_, ?_, ?_⟩, ?_⟩
    · simp only [Int.natCast_add, decide_eq_true_eq]
    · simp only
      rw [Int.natCast_add, ← em, show x.M - (k + d : Int) = x.M - k - d by omega]
      exact s9.re [0, 1, 2, 3, 4, 5]
    · simp only; omega
    · simp only; omega
    · simp only [decide_eq_true_eq]; omega
    · simp only [decide_eq_false_iff_not]; omega
    · simp only; omega
  have hk1 : f = false ∧ (k : Int) = x.M := by
    cases f with
    | false => exact ⟨rfl, hg rfl⟩
    | true => have := hf rfl; simp at hc; omega
  obtain ⟨rfl, hkM⟩ := hk1
  rw [hkM, show x.M - x.M = 0 by omega] at s7
  rw [hkM]
  clear hc ht hf hg hk
  simp (maxSteps := 2000000) only [↓condK_decide, go_sem, Nat.reduceBEq, Nat.reduceAdd, Nat.reduceMul, Nat.reduceSub, Nat.reduceEqDiff, Nat.reduceLeDiff, Nat.reduceLT, Int.reduceEq, Int.reduceAdd, Int.reduceSub, Int.reduceMul, Int.reduceNeg, Int.reduceLT, Int.reduceLE, Int.reduceToNat, Int.reduceBEq, Int.reduceNe, (s7.front 4).get]
  refine (get_S (s7.front 3) x.F).mono ?_
  rintro v h8 ⟨rfl, s8⟩
  have hget : getM (one x 0) x.F = ({ x with M := 0 }, 0) := by unfold getM; rw [one_at]
  simp (maxSteps := 2000000) only [↓condK_decide, go_sem, Nat.reduceBEq, Nat.reduceAdd, Nat.reduceMul, Nat.reduceSub, Nat.reduceEqDiff, Nat.reduceLeDiff, Nat.reduceLT, Int.reduceEq, Int.reduceAdd, Int.reduceSub, Int.reduceMul, Int.reduceNeg, Int.reduceLT, Int.reduceLE, Int.reduceToNat, Int.reduceBEq, Int.reduceNe, hget]
  have s9 := (s8.push (.cells [.int .i64 x.F, .int .i64 x.N, .int .i64 0, .bool x.D].toArray 28 (0, 0))).re [0, 2, 3, 4, 5, 6]
  refine loopH.intro (fun i : Nat => (.cons 3 (.pointer (some ⟨h.size, 0, none⟩)) true (.cons 7 (.bool true) true (.cons 9 (.pointer (some ⟨rb, 0, none⟩)) true (.cons 13 (.pointer (some ⟨h'.size, 0, none⟩)) true (.cons 17 (.int .i64 x.M) true (.cons 18 (.int .i64 0) true (.cons 21 (.pointer (some ⟨h8.size, 0, none⟩)) true (.cons 22 (.int .i64 0) true (.cons 23 (.int .i64 i) true .nil))))))))))
    (fun i h9 => i ≤ 32 ∧ Sat h9 [cellAt h8.size (.cells [.int .i64 x.F, .int .i64 x.N, .int .i64 0, .bool x.D].toArray 28 (0, 0)), cellAt h'.size (.cells cs ty (0, 0)), copiesS β mem 32, ramS rb 32 (memW x mem x.M), cellAt h.size (.cells x.cells.toArray 28 (0, 0)), oldS h]) (fun i _ => 33 - i) 0 ?_ ⟨by omega, s9⟩ ?_
  · simp (maxSteps := 2000000) only [↓condK_decide, go_sem, Nat.reduceBEq, Nat.reduceAdd, Nat.reduceMul, Nat.reduceSub, Nat.reduceEqDiff, Nat.reduceLeDiff, Nat.reduceLT, Int.reduceEq, Int.reduceAdd, Int.reduceSub, Int.reduceMul, Int.reduceNeg, Int.reduceLT, Int.reduceLE, Int.reduceToNat, Int.reduceBEq, Int.reduceNe]; rfl
  clear s9 s8 s7
  rintro i2 h9 ⟨hi2, s9⟩
  simp (maxSteps := 2000000) only [↓condK_decide, go_sem, Nat.reduceBEq, Nat.reduceAdd, Nat.reduceMul, Nat.reduceSub, Nat.reduceEqDiff, Nat.reduceLeDiff, Nat.reduceLT, Int.reduceEq, Int.reduceAdd, Int.reduceSub, Int.reduceMul, Int.reduceNeg, Int.reduceLT, Int.reduceLE, Int.reduceToNat, Int.reduceBEq, Int.reduceNe]
  refine ⟨fun hc => ?_, fun hc => ?_⟩
  · refine (frame_S (s9.front 3) i2).mono ?_
    rintro v h10 (⟨-, -, fb, tf, ds, rfl, fc, s10⟩ | ⟨hbad, -⟩)
    case inr => exfalso; omega
    have w1 : IntKind.i64.wrap (x.F + x.M) = x.F + x.M := w64_id (by omega) (by omega)
    simp (maxSteps := 2000000) only [↓condK_decide, go_sem, Nat.reduceBEq, Nat.reduceAdd, Nat.reduceMul, Nat.reduceSub, Nat.reduceEqDiff, Nat.reduceLeDiff, Nat.reduceLT, Int.reduceEq, Int.reduceAdd, Int.reduceSub, Int.reduceMul, Int.reduceNeg, Int.reduceLT, Int.reduceLE, Int.reduceToNat, Int.reduceBEq, Int.reduceNe, (s10.front 5).get, w1]
    obtain ⟨g, hg⟩ : ∃ g, g = ((decide (x.F ≤ i2) && decide (i2 < x.F + x.M)) && !x.D) := ⟨_, rfl⟩
    refine loopH.intro (fun j : Nat => (.cons 3 (.pointer (some ⟨h.size, 0, none⟩)) true (.cons 7 (.bool true) true (.cons 9 (.pointer (some ⟨rb, 0, none⟩)) true (.cons 13 (.pointer (some ⟨h'.size, 0, none⟩)) true (.cons 17 (.int .i64 x.M) true (.cons 18 (.int .i64 0) true (.cons 21 (.pointer (some ⟨h8.size, 0, none⟩)) true (.cons 22 (.int .i64 0) true (.cons 23 (.int .i64 i2) true (.cons 24 (.slice (some ⟨fb, 0, none⟩) 64 64) true (.cons 26 (.bool g) true (.cons 27 (.int .i64 j) true .nil)))))))))))))
      (fun j h' => j ≤ 64 ∧ h' = h10) (fun j _ => 65 - j) 0 ?_ ⟨by omega, rfl⟩ ?_
    · simp (maxSteps := 2000000) only [↓condK_decide, go_sem, Nat.reduceBEq, Nat.reduceAdd, Nat.reduceMul, Nat.reduceSub, Nat.reduceEqDiff, Nat.reduceLeDiff, Nat.reduceLT, Int.reduceEq, Int.reduceAdd, Int.reduceSub, Int.reduceMul, Int.reduceNeg, Int.reduceLT, Int.reduceLE, Int.reduceToNat, Int.reduceBEq, Int.reduceNe]
      rw [hg]; rfl
    rintro j h11 ⟨hj, rfl⟩
    have c0 : (0 : Int) ≤ i2 := by omega
    have c1 : (i2 : Int) < ((32 : Nat) : Int) := by omega
    obtain ⟨td, es, fd, gd⟩ := copies_get (s10.front 4) (j := i2) (by omega)
    simp (maxSteps := 2000000) only [↓condK_decide, go_sem, Nat.reduceBEq, Nat.reduceAdd, Nat.reduceMul, Nat.reduceSub, Nat.reduceEqDiff, Nat.reduceLeDiff, Nat.reduceLT, Int.reduceEq, Int.reduceAdd, Int.reduceSub, Int.reduceMul, Int.reduceNeg, Int.reduceLT, Int.reduceLE, Int.reduceToNat, Int.reduceBEq, Int.reduceNe, (s10.front 3).get, c0, c1, Int.toNat_natCast, Nat.mul_one, hcp i2 (by omega)]
    refine ⟨fun q => ?_, fun q => ?_⟩
    · have hj2 : j < 64 := by simp at q; omega
      have d0 : (0 : Int) ≤ j := by omega
      have d1 : (j : Int) < ((64 : Nat) : Int) := by omega
      simp (maxSteps := 2000000) only [↓condK_decide, go_sem, Nat.reduceBEq, Nat.reduceAdd, Nat.reduceMul, Nat.reduceSub, Nat.reduceEqDiff, Nat.reduceLeDiff, Nat.reduceLT, Int.reduceEq, Int.reduceAdd, Int.reduceSub, Int.reduceMul, Int.reduceNeg, Int.reduceLT, Int.reduceLE, Int.reduceToNat, Int.reduceBEq, Int.reduceNe, (s10.front 3).get, (s10.front 1).get, c0, c1, d0, d1, Int.toNat_natCast, Nat.mul_one, hcp i2 (by omega), gd, fd.2 j hj2, fc.2 j hj2]
      have no : (g && decide ¬memW x mem x.M (64 * i2 + j) = 0 || !g && decide ¬memW x mem x.M (64 * i2 + j) = mem (64 * i2 + j)) = false := by
        have hg' : g = true ↔ (x.F ≤ i2 ∧ (i2 : Int) < x.F + x.M) ∧ x.D = false := by
          rw [hg]; simp only [Bool.and_eq_true, decide_eq_true_eq, Bool.not_eq_true']
        clear hg
        have e : memW x mem x.M (64 * i2 + j) = if g = true then 0 else mem (64 * i2 + j) := by
          unfold memW wipe
          cases hD : x.D with
          | true =>
            have : g = false := by
              cases g with
              | false => rfl
              | true => have := (hg'.1 rfl).2; rw [hD] at this; cases this
            simp [this]
          | false =>
            simp only [Bool.false_eq_true, if_false]
            by_cases c : g = true
            · have := hg'.1 c
              rw [if_pos c, if_pos (by omega)]
            · have h0 : ¬ (x.F ≤ i2 ∧ (i2 : Int) < x.F + x.M) := fun q => c (hg'.2 ⟨q, hD⟩)
              rw [if_neg c, if_neg (by omega)]
        rw [e]
        cases g <;> simp
      refine ⟨fun z => (by rw [no] at z; cases z), fun _ => ⟨j + 1, by rw [w64_id (by omega) (by omega)]; rfl, ⟨by omega, rfl⟩, by simp only; omega⟩⟩
    · refine ⟨i2 + 1, by rw [w64_id (by omega) (by omega)]; rfl, ⟨by omega, s10.re [2, 3, 4, 0, 5, 6]⟩, by simp only; omega⟩
  · simp (maxSteps := 2000000) only [↓condK_decide, go_sem, Nat.reduceBEq, Nat.reduceAdd, Nat.reduceMul, Nat.reduceSub, Nat.reduceEqDiff, Nat.reduceLeDiff, Nat.reduceLT, Int.reduceEq, Int.reduceAdd, Int.reduceSub, Int.reduceMul, Int.reduceNeg, Int.reduceLT, Int.reduceLE, Int.reduceToNat, Int.reduceBEq, Int.reduceNe, (s9.front 0).get, (s9.front 4).get]
    exact hR _ _ ⟨by simp, (s9.front 5).ext⟩
end Go.Eng
