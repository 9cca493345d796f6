/-
  package cspace over parts of memory: the nodes; New, AddNode, Radix.
-/
import Derived.Test.YtlkofpoginokbaaCaps
import Derived.Test.YtlkofpoginokbaaEng14
namespace Go.Eng
set_option linter.unusedSimpArgs false
set_option linter.unusedVariables false
set_option maxRecDepth 16000
set_option maxHeartbeats 4000000
open Go Go.Proofs

/-- A node: its number, its radix, its slots. -/
structure Nd where
  I : Int
  X : Nat
  S : List Cap
theorem Cap.cells_len (c : Cap) : c.cells.length = 8 := rfl
theorem Cap.cells_single (c : Cap) : ∀ x ∈ c.cells, single x = true := by simp [Cap.cells, single]
def capsL (S : List Cap) : List Value := S.flatMap Cap.cells
theorem capsL_len (S : List Cap) : (capsL S).length = S.length * 8 := flat_len Cap.cells_len S
theorem capsL_get (S : List Cap) (i j : Nat) (hj : j < 8) : (capsL S)[i * 8 + j]? = (S[i]?).bind fun x => x.cells[j]? := flat_get Cap.cells_len S i j hj
theorem capsL_single (S : List Cap) : ∀ x ∈ capsL S, single x = true := by
  intro x hx
  obtain ⟨r, -, h2⟩ := List.mem_flatMap.1 hx
  exact r.cells_single x h2
def Nd.wf (n : Nd) : Prop := 0 ≤ n.I ∧ n.I ≤ 1023 ∧ 1 ≤ n.X ∧ n.X ≤ 4 ∧ n.S.length = 2 ^ n.X ∧ ∀ c ∈ n.S, RightP c ∧ c.fit
def wfL (L : List Nd) : Prop := (∀ n ∈ L, n.wf) ∧ (L.map (·.I)).Pairwise (· < ·)
def findN (L : List Nd) (id : Int) : Option Nd := L.find? (fun n => n.I == id)
def insN (L : List Nd) (n : Nd) : List Nd := L.takeWhile (fun m => decide (m.I < n.I)) ++ n :: L.dropWhile (fun m => decide (m.I < n.I))
def addN (L : List Nd) (id radix : Int) : List Nd × Int :=
  if id < 0 ∨ 1024 ≤ id ∨ radix < 1 ∨ 4 < radix then (L, 1)
  else if (findN L id).isSome then (L, 130)
  else (insN L ⟨id, radix.toNat, List.replicate (2 ^ radix.toNat) Cap.zero⟩, 0)
def radixN (L : List Nd) (id : Int) : Int := match findN L id with | some n => n.X | none => 0

structure MapP (es : Array MapEntry) (clk : Nat) : Prop where
  keys : ∀ e ∈ es.toList, (keyI e).isSome = true
  nodup : (es.toList.map keyI).Nodup
  stamps : (es.toList.map (·.born)).Nodup
  old : ∀ e ∈ es.toList, e.born < clk
theorem MapP.is {h : Heap} {r : Nat} {es : Array MapEntry} {clk : Nat} (p : MapP es clk) (e : h[r]? = some (.map es clk)) : MapIs h r es clk := ⟨e, p.keys, p.nodup, p.stamps, p.old⟩
theorem MapIs.p {h : Heap} {r : Nat} {es : Array MapEntry} {clk : Nat} (p : MapIs h r es clk) : MapP es clk := ⟨p.keys, p.nodup, p.stamps, p.old⟩

def nodeV (z : Nd × Nat) : Value := .slice (some ⟨z.2, 0, none⟩) z.1.S.length z.1.S.length
def nodeC (z : Nd × Nat) : SP := cellAt z.2 (.cells (capsL z.1.S).toArray 24 (0, 0))
def findZ (Z : List (Nd × Nat)) (id : Int) : Option (Nd × Nat) := Z.find? (fun z => z.1.I == id)
theorem findZ_fst (Z : List (Nd × Nat)) (id : Int) : (findZ Z id).map (·.1) = findN (Z.map (·.1)) id := by
  unfold findZ findN
  rw [List.find?_map]
  rfl
structure SpaceP (L : List Nd) (es : Array MapEntry) (clk : Nat) (Z : List (Nd × Nat)) : Prop where
  mp : MapP es clk
  fst : Z.map (·.1) = L
  val : ∀ k, mapOf es k = (findZ Z k).map nodeV
/-- The nodes of a space. -/
def spaceS (sb : Nat) (L : List Nd) : SP := exS fun x : (Nat × TypeId) × (Array MapEntry × Nat) × List (Nd × Nat) =>
  starL (pureS (SpaceP L x.2.1.1 x.2.1.2 x.2.2) :: cellAt sb (.cells [.map (some x.1.1)].toArray x.1.2 (0, 0)) :: cellAt x.1.1 (.map x.2.1.1 x.2.1.2) :: x.2.2.map nodeC)
section
variable {h : Heap} {F : List SP} {sb : Nat} {L : List Nd}
theorem spaceS_iff : Sat h (spaceS sb L :: F) ↔ ∃ mb ty es clk Z, SpaceP L es clk Z ∧ Sat h (cellAt sb (.cells [.map (some mb)].toArray ty (0, 0)) :: cellAt mb (.map es clk) :: (Z.map nodeC ++ F)) := by
  unfold spaceS
  rw [Sat.ex]
  constructor
  · rintro ⟨x, hx⟩
    have := Sat.star.1 hx
    exact ⟨x.1.1, x.1.2, x.2.1.1, x.2.1.2, x.2.2, (Sat.pure.1 this).1, (Sat.pure.1 this).2⟩
  · rintro ⟨mb, ty, es, clk, Z, hp, hs⟩
    exact ⟨((mb, ty), (es, clk), Z), Sat.star.2 (Sat.pure.2 ⟨hp, hs⟩)⟩

theorem cNew_S (hs : Sat h F) : HCalls Try.prog 10 #[] h fun v h' => ∃ sb, v = .pointer (some ⟨sb, 0, none⟩) ∧ Sat h' (spaceS sb [] :: F) := by
  refine HCalls.of_dev T10 Try.func10 rfl mixed (by kernel_rfl) ?_; rw [Try.results10]
  simp (maxSteps := 2000000) (disch := first | (simp only [go_sem, Nat.reduceBEq, Nat.reduceAdd, Nat.reduceMul, Nat.reduceSub, Nat.reduceEqDiff, Nat.reduceLeDiff, Nat.reduceLT, Int.reduceEq, Int.reduceAdd, Int.reduceSub, Int.reduceMul, Int.reduceNeg, Int.reduceLT, Int.reduceLE, Int.reduceToNat, Int.reduceBEq, Int.reduceNe, reduceCtorEq]; done) | omega | (simp only [go_sem, Nat.reduceBEq, Nat.reduceAdd, Nat.reduceMul, Nat.reduceSub, Nat.reduceEqDiff, Nat.reduceLeDiff, Nat.reduceLT, Int.reduceEq, Int.reduceAdd, Int.reduceSub, Int.reduceMul, Int.reduceNeg, Int.reduceLT, Int.reduceLE, Int.reduceToNat, Int.reduceBEq, Int.reduceNe, reduceCtorEq]; omega)) only [go_sem, Nat.reduceBEq, Nat.reduceAdd, Nat.reduceMul, Nat.reduceSub, Nat.reduceEqDiff, Nat.reduceLeDiff, Nat.reduceLT, Int.reduceEq, Int.reduceAdd, Int.reduceSub, Int.reduceMul, Int.reduceNeg, Int.reduceLT, Int.reduceLE, Int.reduceToNat, Int.reduceBEq, Int.reduceNe, reduceCtorEq, w64_id, w8_id, w16_id, w32_id, tmod_pos, tdiv_pos, Bool.or_true, Bool.true_or, Bool.or_false, Bool.false_or, Bool.and_false, Bool.false_and, condK_decide]
  refine ⟨h.size + 1, rfl, ?_⟩
  have s := (hs.push (.map #[] 0)).push (.cells [.map (some h.size)].toArray 64 (0, 0))
  rw [size_push'] at s
  exact spaceS_iff.2 ⟨h.size, _, _, _, [], ⟨(MapIs.made (h := h)).p, rfl, fun k => rfl⟩, s⟩

theorem findZ_none {Z : List (Nd × Nat)} {id : Int} (hf : findZ Z id = none) : ∀ z ∈ Z, z.1.I ≠ id := by
  intro z hz
  have := List.find?_eq_none.1 hf z hz
  simpa using this

def insZ (Z : List (Nd × Nat)) (z : Nd × Nat) : List (Nd × Nat) := Z.takeWhile (fun m => decide (m.1.I < z.1.I)) ++ z :: Z.dropWhile (fun m => decide (m.1.I < z.1.I))
theorem insZ_fst (Z : List (Nd × Nat)) (z : Nd × Nat) : (insZ Z z).map (·.1) = insN (Z.map (·.1)) z.1 := by
  unfold insZ insN
  rw [List.map_append, List.map_cons, List.takeWhile_map, List.dropWhile_map]
  rfl
theorem insZ_perm (Z : List (Nd × Nat)) (z : Nd × Nat) : (insZ Z z).Perm (z :: Z) := by
  unfold insZ
  refine List.perm_middle.trans ?_
  rw [List.takeWhile_append_dropWhile]
theorem insZ_find (Z : List (Nd × Nat)) (z : Nd × Nat) (hz : findZ Z z.1.I = none) (k : Int) : findZ (insZ Z z) k = if k = z.1.I then some z else findZ Z k := by
  have hZ : findZ Z k = (findZ (Z.takeWhile (fun m => decide (m.1.I < z.1.I))) k).or (findZ (Z.dropWhile (fun m => decide (m.1.I < z.1.I))) k) := by
    unfold findZ
    rw [← List.find?_append, List.takeWhile_append_dropWhile]
  by_cases hk : k = z.1.I
  · subst hk
    rw [hz] at hZ
    rw [if_pos rfl]
    unfold insZ findZ at *
    rw [List.find?_append, List.find?_cons_of_pos (by simp)]
    cases q : List.find? (fun w : Nd × Nat => w.1.I == z.1.I) (Z.takeWhile (fun m => decide (m.1.I < z.1.I))) with
    | none => rfl
    | some w => rw [q] at hZ; cases hZ
  · rw [if_neg hk, hZ]
    unfold insZ findZ
    rw [List.find?_append, List.find?_cons_of_neg (by simpa using fun e => hk e.symm)]
theorem shl_n {n : Nat} (h1 : n ≤ 4) : IntKind.i64.wrap (1 * 2 ^ (min n 64)) = ((2 ^ n : Nat) : Int) := by
  have hn : ∀ n : Nat, n ≤ 4 → IntKind.i64.wrap (1 * 2 ^ (min n 64)) = ((2 ^ n : Nat) : Int) := by decide
  exact hn n h1
theorem zrow_0 : (zrow Try.prog 72 (2 ^ 0)).toList = capsL (List.replicate (2 ^ 0) Cap.zero) := by kernel_rfl
theorem zrow_1 : (zrow Try.prog 72 (2 ^ 1)).toList = capsL (List.replicate (2 ^ 1) Cap.zero) := by kernel_rfl
theorem zrow_2 : (zrow Try.prog 72 (2 ^ 2)).toList = capsL (List.replicate (2 ^ 2) Cap.zero) := by kernel_rfl
theorem zrow_3 : (zrow Try.prog 72 (2 ^ 3)).toList = capsL (List.replicate (2 ^ 3) Cap.zero) := by kernel_rfl
theorem zrow_4 : (zrow Try.prog 72 (2 ^ 4)).toList = capsL (List.replicate (2 ^ 4) Cap.zero) := by kernel_rfl
theorem zrow_caps {n : Nat} (h1 : n ≤ 4) : zrow Try.prog 72 (2 ^ n) = (capsL (List.replicate (2 ^ n) Cap.zero)).toArray := by
  have hn : ∀ n : Nat, n ≤ 4 → (zrow Try.prog 72 (2 ^ n)).toList = (capsL (List.replicate (2 ^ n) Cap.zero)) := by
    intro n hn
    have : n = 0 ∨ n = 1 ∨ n = 2 ∨ n = 3 ∨ n = 4 := by omega
    rcases this with rfl | rfl | rfl | rfl | rfl
    · exact zrow_0
    · exact zrow_1
    · exact zrow_2
    · exact zrow_3
    · exact zrow_4
  rw [← hn n h1]

theorem addNode_S (hs : Sat h (spaceS sb L :: F)) (id radix : Int) : HCalls Try.prog 17 #[.pointer (some ⟨sb, 0, none⟩), .int .i64 id, .int .i64 radix] h fun v h' => v = .int .i64 (addN L id radix).2 ∧ Sat h' (spaceS sb (addN L id radix).1 :: F) := by
  refine HCalls.via fun R hR => ?_
  obtain ⟨mb, ty, es, clk, Z, p, s⟩ := spaceS_iff.1 hs
  have hq := s.get
  have hm := (s.front 1).get
  refine HCalls.of_dev T17 Try.func17 rfl mixed (by kernel_rfl) ?_; rw [Try.results17]
  by_cases g1 : id < 0
  · have e : addN L id radix = (L, 1) := by unfold addN; rw [if_pos (by omega)]
    simp (maxSteps := 2000000) (disch := first | (simp only [go_sem, Nat.reduceBEq, Nat.reduceAdd, Nat.reduceMul, Nat.reduceSub, Nat.reduceEqDiff, Nat.reduceLeDiff, Nat.reduceLT, Int.reduceEq, Int.reduceAdd, Int.reduceSub, Int.reduceMul, Int.reduceNeg, Int.reduceLT, Int.reduceLE, Int.reduceToNat, Int.reduceBEq, Int.reduceNe, reduceCtorEq, g1]; done) | omega | (simp only [go_sem, Nat.reduceBEq, Nat.reduceAdd, Nat.reduceMul, Nat.reduceSub, Nat.reduceEqDiff, Nat.reduceLeDiff, Nat.reduceLT, Int.reduceEq, Int.reduceAdd, Int.reduceSub, Int.reduceMul, Int.reduceNeg, Int.reduceLT, Int.reduceLE, Int.reduceToNat, Int.reduceBEq, Int.reduceNe, reduceCtorEq, g1]; omega)) only [go_sem, Nat.reduceBEq, Nat.reduceAdd, Nat.reduceMul, Nat.reduceSub, Nat.reduceEqDiff, Nat.reduceLeDiff, Nat.reduceLT, Int.reduceEq, Int.reduceAdd, Int.reduceSub, Int.reduceMul, Int.reduceNeg, Int.reduceLT, Int.reduceLE, Int.reduceToNat, Int.reduceBEq, Int.reduceNe, reduceCtorEq, w64_id, w8_id, w16_id, w32_id, tmod_pos, tdiv_pos, Bool.or_true, Bool.true_or, Bool.or_false, Bool.false_or, Bool.and_false, Bool.false_and, condK_decide, g1]
    all_goals (try refine rdK_any fun _ => ?_)
    all_goals exact hR _ _ ⟨by rw [e], by rw [e]; exact hs⟩
  by_cases g2 : 1024 ≤ id
  · have e : addN L id radix = (L, 1) := by unfold addN; rw [if_pos (by omega)]
    simp (maxSteps := 2000000) (disch := first | (simp only [go_sem, Nat.reduceBEq, Nat.reduceAdd, Nat.reduceMul, Nat.reduceSub, Nat.reduceEqDiff, Nat.reduceLeDiff, Nat.reduceLT, Int.reduceEq, Int.reduceAdd, Int.reduceSub, Int.reduceMul, Int.reduceNeg, Int.reduceLT, Int.reduceLE, Int.reduceToNat, Int.reduceBEq, Int.reduceNe, reduceCtorEq, g1, g2]; done) | omega | (simp only [go_sem, Nat.reduceBEq, Nat.reduceAdd, Nat.reduceMul, Nat.reduceSub, Nat.reduceEqDiff, Nat.reduceLeDiff, Nat.reduceLT, Int.reduceEq, Int.reduceAdd, Int.reduceSub, Int.reduceMul, Int.reduceNeg, Int.reduceLT, Int.reduceLE, Int.reduceToNat, Int.reduceBEq, Int.reduceNe, reduceCtorEq, g1, g2]; omega)) only [go_sem, Nat.reduceBEq, Nat.reduceAdd, Nat.reduceMul, Nat.reduceSub, Nat.reduceEqDiff, Nat.reduceLeDiff, Nat.reduceLT, Int.reduceEq, Int.reduceAdd, Int.reduceSub, Int.reduceMul, Int.reduceNeg, Int.reduceLT, Int.reduceLE, Int.reduceToNat, Int.reduceBEq, Int.reduceNe, reduceCtorEq, w64_id, w8_id, w16_id, w32_id, tmod_pos, tdiv_pos, Bool.or_true, Bool.true_or, Bool.or_false, Bool.false_or, Bool.and_false, Bool.false_and, condK_decide, g1, g2]
    exact hR _ _ ⟨by rw [e], by rw [e]; exact hs⟩
  by_cases g3 : radix < 1
  · have e : addN L id radix = (L, 1) := by unfold addN; rw [if_pos (by omega)]
    simp (maxSteps := 2000000) (disch := first | (simp only [go_sem, Nat.reduceBEq, Nat.reduceAdd, Nat.reduceMul, Nat.reduceSub, Nat.reduceEqDiff, Nat.reduceLeDiff, Nat.reduceLT, Int.reduceEq, Int.reduceAdd, Int.reduceSub, Int.reduceMul, Int.reduceNeg, Int.reduceLT, Int.reduceLE, Int.reduceToNat, Int.reduceBEq, Int.reduceNe, reduceCtorEq, g1, g2, g3]; done) | omega | (simp only [go_sem, Nat.reduceBEq, Nat.reduceAdd, Nat.reduceMul, Nat.reduceSub, Nat.reduceEqDiff, Nat.reduceLeDiff, Nat.reduceLT, Int.reduceEq, Int.reduceAdd, Int.reduceSub, Int.reduceMul, Int.reduceNeg, Int.reduceLT, Int.reduceLE, Int.reduceToNat, Int.reduceBEq, Int.reduceNe, reduceCtorEq, g1, g2, g3]; omega)) only [go_sem, Nat.reduceBEq, Nat.reduceAdd, Nat.reduceMul, Nat.reduceSub, Nat.reduceEqDiff, Nat.reduceLeDiff, Nat.reduceLT, Int.reduceEq, Int.reduceAdd, Int.reduceSub, Int.reduceMul, Int.reduceNeg, Int.reduceLT, Int.reduceLE, Int.reduceToNat, Int.reduceBEq, Int.reduceNe, reduceCtorEq, w64_id, w8_id, w16_id, w32_id, tmod_pos, tdiv_pos, Bool.or_true, Bool.true_or, Bool.or_false, Bool.false_or, Bool.and_false, Bool.false_and, condK_decide, g1, g2, g3]
    exact hR _ _ ⟨by rw [e], by rw [e]; exact hs⟩
  by_cases g4 : 4 < radix
  · have e : addN L id radix = (L, 1) := by unfold addN; rw [if_pos (by omega)]
    simp (maxSteps := 2000000) (disch := first | (simp only [go_sem, Nat.reduceBEq, Nat.reduceAdd, Nat.reduceMul, Nat.reduceSub, Nat.reduceEqDiff, Nat.reduceLeDiff, Nat.reduceLT, Int.reduceEq, Int.reduceAdd, Int.reduceSub, Int.reduceMul, Int.reduceNeg, Int.reduceLT, Int.reduceLE, Int.reduceToNat, Int.reduceBEq, Int.reduceNe, reduceCtorEq, g1, g2, g3, g4]; done) | omega | (simp only [go_sem, Nat.reduceBEq, Nat.reduceAdd, Nat.reduceMul, Nat.reduceSub, Nat.reduceEqDiff, Nat.reduceLeDiff, Nat.reduceLT, Int.reduceEq, Int.reduceAdd, Int.reduceSub, Int.reduceMul, Int.reduceNeg, Int.reduceLT, Int.reduceLE, Int.reduceToNat, Int.reduceBEq, Int.reduceNe, reduceCtorEq, g1, g2, g3, g4]; omega)) only [go_sem, Nat.reduceBEq, Nat.reduceAdd, Nat.reduceMul, Nat.reduceSub, Nat.reduceEqDiff, Nat.reduceLeDiff, Nat.reduceLT, Int.reduceEq, Int.reduceAdd, Int.reduceSub, Int.reduceMul, Int.reduceNeg, Int.reduceLT, Int.reduceLE, Int.reduceToNat, Int.reduceBEq, Int.reduceNe, reduceCtorEq, w64_id, w8_id, w16_id, w32_id, tmod_pos, tdiv_pos, Bool.or_true, Bool.true_or, Bool.or_false, Bool.false_or, Bool.and_false, Bool.false_and, condK_decide, g1, g2, g3, g4]
    exact hR _ _ ⟨by rw [e], by rw [e]; exact hs⟩
  have hI := (p.mp.is hm).isInt
  have hv := p.val id
  have hff := findZ_fst Z id
  rw [p.fst] at hff
  cases hz : findZ Z id with
  | some z =>
    have e : addN L id radix = (L, 130) := by unfold addN; rw [if_neg (by omega), ← hff, hz]; rfl
    rw [hz] at hv
    simp (maxSteps := 2000000) (disch := first | (simp only [go_sem, Nat.reduceBEq, Nat.reduceAdd, Nat.reduceMul, Nat.reduceSub, Nat.reduceEqDiff, Nat.reduceLeDiff, Nat.reduceLT, Int.reduceEq, Int.reduceAdd, Int.reduceSub, Int.reduceMul, Int.reduceNeg, Int.reduceLT, Int.reduceLE, Int.reduceToNat, Int.reduceBEq, Int.reduceNe, reduceCtorEq, g1, g2, g3, g4, hq, hm, hI, hv]; done) | omega | (simp only [go_sem, Nat.reduceBEq, Nat.reduceAdd, Nat.reduceMul, Nat.reduceSub, Nat.reduceEqDiff, Nat.reduceLeDiff, Nat.reduceLT, Int.reduceEq, Int.reduceAdd, Int.reduceSub, Int.reduceMul, Int.reduceNeg, Int.reduceLT, Int.reduceLE, Int.reduceToNat, Int.reduceBEq, Int.reduceNe, reduceCtorEq, g1, g2, g3, g4, hq, hm, hI, hv]; omega)) only [go_sem, Nat.reduceBEq, Nat.reduceAdd, Nat.reduceMul, Nat.reduceSub, Nat.reduceEqDiff, Nat.reduceLeDiff, Nat.reduceLT, Int.reduceEq, Int.reduceAdd, Int.reduceSub, Int.reduceMul, Int.reduceNeg, Int.reduceLT, Int.reduceLE, Int.reduceToNat, Int.reduceBEq, Int.reduceNe, reduceCtorEq, w64_id, w8_id, w16_id, w32_id, tmod_pos, tdiv_pos, Bool.or_true, Bool.true_or, Bool.or_false, Bool.false_or, Bool.and_false, Bool.false_and, condK_decide, g1, g2, g3, g4, hq, hm, hI, hv]
    exact hR _ _ ⟨by rw [e], by rw [e]; exact hs⟩
  | none =>
    obtain ⟨n, rfl⟩ := Int.eq_ofNat_of_zero_le (show 0 ≤ radix by omega)
    have e : addN L id n = (insN L ⟨id, n, List.replicate (2 ^ n) Cap.zero⟩, 0) := by unfold addN; rw [if_neg (by omega), ← hff, hz]; rfl
    rw [hz] at hv
    simp (maxSteps := 2000000) (disch := first | (simp only [go_sem, Nat.reduceBEq, Nat.reduceAdd, Nat.reduceMul, Nat.reduceSub, Nat.reduceEqDiff, Nat.reduceLeDiff, Nat.reduceLT, Int.reduceEq, Int.reduceAdd, Int.reduceSub, Int.reduceMul, Int.reduceNeg, Int.reduceLT, Int.reduceLE, Int.reduceToNat, Int.reduceBEq, Int.reduceNe, reduceCtorEq, g1, g2, g3, g4, hq, hm, hI, hv]; done) | omega | (simp only [go_sem, Nat.reduceBEq, Nat.reduceAdd, Nat.reduceMul, Nat.reduceSub, Nat.reduceEqDiff, Nat.reduceLeDiff, Nat.reduceLT, Int.reduceEq, Int.reduceAdd, Int.reduceSub, Int.reduceMul, Int.reduceNeg, Int.reduceLT, Int.reduceLE, Int.reduceToNat, Int.reduceBEq, Int.reduceNe, reduceCtorEq, g1, g2, g3, g4, hq, hm, hI, hv]; omega)) only [go_sem, Nat.reduceBEq, Nat.reduceAdd, Nat.reduceMul, Nat.reduceSub, Nat.reduceEqDiff, Nat.reduceLeDiff, Nat.reduceLT, Int.reduceEq, Int.reduceAdd, Int.reduceSub, Int.reduceMul, Int.reduceNeg, Int.reduceLT, Int.reduceLE, Int.reduceToNat, Int.reduceBEq, Int.reduceNe, reduceCtorEq, w64_id, w8_id, w16_id, w32_id, tmod_pos, tdiv_pos, Bool.or_true, Bool.true_or, Bool.or_false, Bool.false_or, Bool.and_false, Bool.false_and, condK_decide, g1, g2, g3, g4, hq, hm, hI, hv]
    have n4 : n ≤ 4 := by omega
    have hsz : 2 ^ n ≤ 16 := by
      have : n = 0 ∨ n = 1 ∨ n = 2 ∨ n = 3 ∨ n = 4 := by omega
      rcases this with rfl | rfl | rfl | rfl | rfl <;> decide
    have b1 : (tbytes Try.prog (sliceElem Try.prog 72)).getD 0 * 2 ^ n ≤ 281474976710656 := by
      have e1 : (tbytes Try.prog (sliceElem Try.prog 72)).getD 0 ≤ 128 := by decide
      exact Nat.le_trans (Nat.mul_le_mul e1 hsz) (by decide)
    have b2 : 2 ^ n ≤ 9223372036854775807 := by omega
    have ec : (Obj.cells (zrow Try.prog 72 (2 ^ n)) (sliceElem Try.prog 72) (0, 0)) = Obj.cells (capsL (List.replicate (2 ^ n) Cap.zero)).toArray 24 (0, 0) := by
      rw [zrow_caps n4]; rfl
    rw [shl_n n4, runH_makeSlice (n := 2 ^ n) (by rfl) (by rfl) b1 b2, ec]
    have s1 := s.push (.cells (capsL (List.replicate (2 ^ n) Cap.zero)).toArray 24 (0, 0))
    simp (maxSteps := 2000000) (disch := first | (simp only [go_sem, Nat.reduceBEq, Nat.reduceAdd, Nat.reduceMul, Nat.reduceSub, Nat.reduceEqDiff, Nat.reduceLeDiff, Nat.reduceLT, Int.reduceEq, Int.reduceAdd, Int.reduceSub, Int.reduceMul, Int.reduceNeg, Int.reduceLT, Int.reduceLE, Int.reduceToNat, Int.reduceBEq, Int.reduceNe, reduceCtorEq, (s1.front 1).get, (s1.front 2).get]; done) | omega | (simp only [go_sem, Nat.reduceBEq, Nat.reduceAdd, Nat.reduceMul, Nat.reduceSub, Nat.reduceEqDiff, Nat.reduceLeDiff, Nat.reduceLT, Int.reduceEq, Int.reduceAdd, Int.reduceSub, Int.reduceMul, Int.reduceNeg, Int.reduceLT, Int.reduceLE, Int.reduceToNat, Int.reduceBEq, Int.reduceNe, reduceCtorEq, (s1.front 1).get, (s1.front 2).get]; omega)) only [go_sem, Nat.reduceBEq, Nat.reduceAdd, Nat.reduceMul, Nat.reduceSub, Nat.reduceEqDiff, Nat.reduceLeDiff, Nat.reduceLT, Int.reduceEq, Int.reduceAdd, Int.reduceSub, Int.reduceMul, Int.reduceNeg, Int.reduceLT, Int.reduceLE, Int.reduceToNat, Int.reduceBEq, Int.reduceNe, reduceCtorEq, w64_id, w8_id, w16_id, w32_id, tmod_pos, tdiv_pos, Bool.or_true, Bool.true_or, Bool.or_false, Bool.false_or, Bool.and_false, Bool.false_and, condK_decide, (s1.front 1).get, (s1.front 2).get]
    refine MapIs.update (p.mp.is (s1.front 2).get) Try.underlying62 Try.underlying3 fun es' clk' mi mv => ?_
    refine hR _ _ ⟨by rw [e], ?_⟩
    rw [e]
    have s2 := (s1.front 2).set (.map es' clk')
    have hp := insZ_perm Z (⟨id, n, List.replicate (2 ^ n) Cap.zero⟩, h.size)
    refine spaceS_iff.2 ⟨mb, ty, es', clk', insZ Z (⟨id, n, List.replicate (2 ^ n) Cap.zero⟩, h.size), ⟨mi.p, by rw [insZ_fst, p.fst], fun k => ?_⟩, ?_⟩
    · rw [mv k, insZ_find Z _ hz]
      by_cases hk : k = id
      · simp only [if_pos hk]
        simp only [nodeV, Option.map_some, List.length_replicate]
      · simp only [if_neg hk]
        exact p.val k
    · refine s2.perm ?_
      have := (hp.map nodeC).append_right F
      refine List.Perm.trans ?_ ((List.Perm.cons _ (List.Perm.cons _ this)).symm)
      simp only [List.map_cons, List.cons_append]
      exact (List.Perm.trans (List.Perm.cons _ (List.Perm.swap _ _ _)) (List.Perm.trans (List.Perm.swap _ _ _) (List.Perm.cons _ (List.Perm.refl _))))
end
end Go.Eng
