/-
  Layer 14: an act by both.
-/
import Derived.Test.YtadabopmgphelaaUnt12
namespace Go.Eng
set_option linter.unusedSimpArgs false
set_option linter.unusedVariables false
set_option maxRecDepth 16000
set_option maxHeartbeats 4000000
open Go Go.Proofs

/-- By rising places, each as it may be. -/
def SortedOk (L : List Reg) : Prop := L.Pairwise (fun a b => a.F < b.F) ∧ ∀ r ∈ L, RegOk r.F r
theorem SortedOk.nil : SortedOk [] := ⟨List.Pairwise.nil, by simp⟩

theorem sorted_inj {L : List Reg} (hs : L.Pairwise (fun a b => a.F < b.F)) {i j : Nat} {a b : Reg} (hi : L[i]? = some a) (hj : L[j]? = some b) (e : a.F = b.F) : i = j := by
  obtain ⟨hi1, rfl⟩ := List.getElem?_eq_some_iff.1 hi
  obtain ⟨hj1, rfl⟩ := List.getElem?_eq_some_iff.1 hj
  rcases Nat.lt_trichotomy i j with q | q | q
  · have := List.pairwise_iff_getElem.1 hs i j hi1 hj1 q; omega
  · exact q
  · have := List.pairwise_iff_getElem.1 hs j i hj1 hi1 q; omega

theorem mOf_some {L : List Reg} {k : Int} {r : Reg} (h : mOf L k = some r) : r ∈ L ∧ r.F = k := by
  unfold mOf at h
  exact ⟨List.mem_of_find?_eq_some h, by simpa using List.find?_some h⟩
theorem mOf_mem {L : List Reg} (hs : L.Pairwise (fun a b => a.F < b.F)) {r : Reg} (h : r ∈ L) : mOf L r.F = some r := by
  obtain ⟨i, hi, rfl⟩ := List.getElem_of_mem h
  cases hf : mOf L L[i].F with
  | none =>
    unfold mOf at hf
    rw [List.find?_eq_none] at hf
    exact absurd (hf _ (List.getElem_mem hi)) (by simp)
  | some s =>
    obtain ⟨h1, h2⟩ := mOf_some hf
    obtain ⟨j, hj, rfl⟩ := List.getElem_of_mem h1
    have := sorted_inj hs (List.getElem?_eq_getElem hj) (List.getElem?_eq_getElem hi) h2
    subst this; rfl
/-- Two lists by rising places that hold the same. -/
theorem mOf_ext {L : List Reg} (hs : L.Pairwise (fun a b => a.F < b.F)) {m : Int → Option Reg} (h1 : ∀ r ∈ L, m r.F = some r) (h2 : ∀ k r, m k = some r → r ∈ L ∧ r.F = k) : mOf L = m := by
  funext k
  cases hf : mOf L k with
  | some r =>
    obtain ⟨q1, rfl⟩ := mOf_some hf
    exact (h1 r q1).symm
  | none =>
    cases hm : m k with
    | none => rfl
    | some r =>
      obtain ⟨q1, rfl⟩ := h2 k r hm
      rw [mOf_mem hs q1] at hf; cases hf

theorem insM_mem {L : List Reg} {x r : Reg} : r ∈ insM L x ↔ r = x ∨ r ∈ L := by
  unfold insM
  constructor
  · intro h
    rcases List.mem_append.1 h with h | h
    · exact .inr ((List.takeWhile_sublist _).subset h)
    · rcases List.mem_cons.1 h with h | h
      · exact .inl h
      · exact .inr ((List.dropWhile_sublist _).subset h)
  · rintro (rfl | h)
    · simp
    · have : r ∈ L.takeWhile (fun r => decide (r.F < x.F)) ++ L.dropWhile (fun r => decide (r.F < x.F)) := by rw [List.takeWhile_append_dropWhile]; exact h
      rcases List.mem_append.1 this with q | q
      · exact List.mem_append_left _ q
      · exact List.mem_append_right _ (List.mem_cons_of_mem _ q)
theorem takeWhile_all {α : Type} {p : α → Bool} : ∀ (l : List α), ∀ x ∈ l.takeWhile p, p x = true
  | [], x, h => by simp at h
  | y :: l, x, h => by
    rw [List.takeWhile_cons] at h
    split at h
    · rename_i hp
      rcases List.mem_cons.1 h with rfl | h
      · exact hp
      · exact takeWhile_all l x h
    · simp at h
theorem dropWhile_ge {x : Reg} : ∀ (L : List Reg), L.Pairwise (fun a b => a.F < b.F) → ∀ r ∈ L.dropWhile (fun r => decide (r.F < x.F)), x.F ≤ r.F
  | [], _, r, h => by simp at h
  | y :: L, hs, r, h => by
    rw [List.dropWhile_cons] at h
    obtain ⟨h1, h2⟩ := List.pairwise_cons.1 hs
    split at h
    · exact dropWhile_ge L h2 r h
    · rename_i hp
      simp only [decide_eq_true_eq, Int.not_lt] at hp
      rcases List.mem_cons.1 h with rfl | h
      · exact hp
      · have := h1 r h; omega
theorem insM_sorted {L : List Reg} {x : Reg} (hs : L.Pairwise (fun a b => a.F < b.F)) (hx : ∀ r ∈ L, r.F ≠ x.F) : (insM L x).Pairwise (fun a b => a.F < b.F) := by
  unfold insM
  rw [List.pairwise_append]
  refine ⟨hs.sublist (List.takeWhile_sublist _), ?_, ?_⟩
  · rw [List.pairwise_cons]
    refine ⟨fun r hr => ?_, hs.sublist (List.dropWhile_sublist _)⟩
    have h1 := dropWhile_ge L hs r hr
    have h2 := hx r ((List.dropWhile_sublist _).subset hr)
    omega
  · intro a ha b hb
    have h1 := takeWhile_all _ a ha
    simp only [decide_eq_true_eq] at h1
    rcases List.mem_cons.1 hb with rfl | hb
    · exact h1
    · have := dropWhile_ge L hs b hb; omega

theorem addL_ok {L : List Reg} {x : Reg} (hs : SortedOk L) : addM (mOf L) x = (mOf (addL L x).1, (addL L x).2) ∧ SortedOk (addL L x).1 ∧ (addL L x).1.length ≤ L.length + 1 := by
  unfold addL
  by_cases hm : mayAdd x
  case neg => rw [if_neg hm, addM_no hm]; exact ⟨rfl, hs, by simp⟩
  rw [if_pos hm]
  cases hf : L.find? (fun r => r.F == x.F) with
  | some r => rw [addM_full hm (r := r) hf]; exact ⟨rfl, hs, by simp⟩
  | none =>
    have hne : ∀ r ∈ L, r.F ≠ x.F := by
      rw [List.find?_eq_none] at hf
      intro r hr
      simpa using hf r hr
    have hsort := insM_sorted hs.1 hne
    unfold mayAdd at hm
    have hxok : RegOk x.F x := ⟨rfl, by omega, by omega, by omega, by omega, by omega, by omega⟩
    refine ⟨?_, ⟨hsort, fun r hr => ?_⟩, ?_⟩
    · rw [addM_ok hm hf]
      congr 1
      refine (mOf_ext hsort (fun r hr => ?_) fun k r hk => ?_).symm
      · rcases insM_mem.1 hr with rfl | hr
        · rw [if_pos rfl]
        · rw [if_neg (hne r hr)]; exact mOf_mem hs.1 hr
      · by_cases e : k = x.F
        · rw [if_pos e] at hk
          cases hk
          exact ⟨insM_mem.2 (.inl rfl), e.symm⟩
        · rw [if_neg e] at hk
          obtain ⟨q1, q2⟩ := mOf_some hk
          exact ⟨insM_mem.2 (.inr q1), q2⟩
    · rcases insM_mem.1 hr with rfl | hr
      · exact hxok
      · exact hs.2 r hr
    · unfold insM
      have := congrArg List.length (List.takeWhile_append_dropWhile (p := fun r : Reg => decide (r.F < x.F)) (l := L))
      simp only [List.length_append, List.length_cons] at this ⊢
      omega

theorem dropL_ok {L : List Reg} {first : Int} {k : Nat} {r : Reg} (hs : SortedOk L) (hk : L[k]? = some r) (hF : r.F = first) : mOf (L.take k ++ L.drop (k + 1)) = (fun j => if j = first then none else mOf L j) ∧ SortedOk (L.take k ++ L.drop (k + 1)) ∧ (L.take k ++ L.drop (k + 1)).length ≤ L.length := by
  have hsub : (L.take k ++ L.drop (k + 1)).Sublist L := by
    rw [← List.eraseIdx_eq_take_drop_succ]; exact List.eraseIdx_sublist _ _
  have hsort := hs.1.sublist hsub
  have hlt := (List.getElem?_eq_some_iff.1 hk).1
  have hne : ∀ s ∈ L.take k ++ L.drop (k + 1), s.F ≠ first := by
    intro s hm e
    rcases List.mem_append.1 hm with q | q
    · obtain ⟨i, hi, rfl⟩ := List.getElem_of_mem q
      rw [List.length_take] at hi
      have h1 : L[i]? = some (L.take k)[i] := by rw [List.getElem_take, List.getElem?_eq_getElem]
      have := sorted_inj hs.1 h1 hk (by rw [e, hF])
      omega
    · obtain ⟨i, hi, rfl⟩ := List.getElem_of_mem q
      rw [List.length_drop] at hi
      have h1 : L[k + 1 + i]? = some (L.drop (k + 1))[i] := by rw [List.getElem_drop, List.getElem?_eq_getElem]
      have := sorted_inj hs.1 h1 hk (by rw [e, hF])
      omega
  refine ⟨mOf_ext hsort (fun s hm => ?_) (fun j s hj => ?_), ⟨hsort, fun s hm => hs.2 s (hsub.subset hm)⟩, hsub.length_le⟩
  · rw [if_neg (hne s hm)]
    exact mOf_mem hs.1 (hsub.subset hm)
  · by_cases e : j = first
    · rw [if_pos e] at hj; cases hj
    · rw [if_neg e] at hj
      obtain ⟨q1, q2⟩ := mOf_some hj
      refine ⟨?_, q2⟩
      obtain ⟨i, hi, rfl⟩ := List.getElem_of_mem q1
      have hik : i ≠ k := by
        rintro rfl
        rw [List.getElem?_eq_getElem hi] at hk
        cases hk
        exact e (q2.symm.trans hF)
      rcases Nat.lt_or_gt_of_ne hik with q | q
      · exact List.mem_append_left _ (List.mem_iff_getElem?.2 ⟨i, by rw [List.getElem?_take, if_pos q, List.getElem?_eq_getElem hi]⟩)
      · exact List.mem_append_right _ (List.mem_iff_getElem?.2 ⟨i - (k + 1), by rw [List.getElem?_drop, show k + 1 + (i - (k + 1)) = i by omega, List.getElem?_eq_getElem hi]⟩)

theorem setL_ok {L : List Reg} {k : Nat} {r : Reg} {first n : Int} (hs : SortedOk L) (ha : atM L first = (k : Int)) (hk : L[k]? = some r) (hF : r.F = first) (h0 : 0 ≤ n) (h1 : n ≤ r.N) : mOf (L.set k { r with M := n }) = setMark (mOf L) first n ∧ SortedOk (L.set k { r with M := n }) ∧ (L.set k { r with M := n }).length = L.length := by
  have hlt := (List.getElem?_eq_some_iff.1 hk).1
  have hrk : L[k] = r := (List.getElem?_eq_some_iff.1 hk).2
  refine ⟨mOf_set ha hk hF, ⟨?_, fun s hm => ?_⟩, by simp⟩
  · rw [List.pairwise_iff_getElem]
    intro i j hi hj hij
    rw [List.length_set] at hi hj
    have key : ∀ i (hi : i < L.length), ((L.set k { r with M := n })[i]'(by simpa using hi)).F = L[i].F := fun i hi => by
      rw [List.getElem_set]
      split
      · rename_i e; subst e; rw [hrk]
      · rfl
    rw [key i hi, key j hj]
    exact List.pairwise_iff_getElem.1 hs.1 i j hi hj hij
  · rcases List.mem_or_eq_of_mem_set hm with q | q
    · exact hs.2 s q
    · have ok := hs.2 r (List.mem_of_getElem? hk)
      rw [q]
      exact ⟨rfl, ok.lo, ok.hi, ok.one, ok.fit, h0, h1⟩

theorem getL_eq {L : List Reg} {first : Int} : getL L first = getM (mOf L) first := by
  unfold getL getM mOf
  cases L.find? (fun r => r.F == first) <;> rfl
theorem acc1 {n : Nat} {a : Int} : accM n a 1 = if 0 ≤ a ∧ a < 64 * n then 0 else 10 := by
  unfold accM
  rw [if_neg (by omega), if_neg (by simp [Int.tmod_one])]
  by_cases c : 0 ≤ a ∧ a < 64 * n
  · rw [if_pos c, if_neg (by omega)]
  · rw [if_neg c, if_pos (by omega)]
theorem u32_bd (w : Int) : 0 ≤ IntKind.u32.wrap w ∧ IntKind.u32.wrap w < 4294967296 := by
  have e : IntKind.u32.wrap w = w % 4294967296 := by simp [IntKind.wrap, IntKind.bits, IntKind.signed]
  rw [e]; omega
theorem put1 {mem : Nat → Int} {a w : Int} (h0 : 0 ≤ a) : putM mem a 1 w = putB mem a (IntKind.u8.wrap w) := by
  funext j
  unfold putM putB
  have e : IntKind.u8.wrap w = w % 256 := by simp [IntKind.wrap, IntKind.bits, IntKind.signed]
  rw [e]
  by_cases c : (j : Int) = a
  · rw [if_pos c, if_pos (by omega), show j - a.toNat = 0 by omega]; simp
  · rw [if_neg c, if_neg (by omega)]
structure Act2 (a : Act) : Prop where
  n : -9223372036854775808 ≤ a.X.N ∧ a.X.N ≤ 9223372036854775807
  units : -9223372036854775808 ≤ a.Units ∧ a.Units ≤ 9223372036854775807

section
variable {h : Heap} {F : List SP} {pb qb rb sb : Nat} {L : List Reg} {mem : Nat → Int}

theorem resetRef_none (hs : Sat h (refS qb L :: F)) (hL : L.length ≤ 100000) {first : Int} (hm : mOf L first = none) (r u : Option Addr) :
    HCalls Try.prog 35 #[.pointer (some ⟨qb, 0, none⟩), .pointer r, .int .i64 first, .pointer u] h fun v h' => v = .int .i64 131 ∧ h' = h := by
  refine HCalls.via fun R hR => ?_
  refine HCalls.of_dev T35 Try.func35 rfl mixed (by kernel_rfl) ?_; rw [Try.results35]
  simp (maxSteps := 2000000) (disch := first | (simp only [go_sem, Nat.reduceBEq, Nat.reduceAdd, Nat.reduceMul, Nat.reduceSub, Nat.reduceEqDiff, Nat.reduceLeDiff, Nat.reduceLT, Int.reduceEq, Int.reduceAdd, Int.reduceSub, Int.reduceMul, Int.reduceNeg, Int.reduceLT, Int.reduceLE, Int.reduceToNat, Int.reduceBEq, Int.reduceNe, reduceCtorEq]; done) | omega | (simp only [go_sem, Nat.reduceBEq, Nat.reduceAdd, Nat.reduceMul, Nat.reduceSub, Nat.reduceEqDiff, Nat.reduceLeDiff, Nat.reduceLT, Int.reduceEq, Int.reduceAdd, Int.reduceSub, Int.reduceMul, Int.reduceNeg, Int.reduceLT, Int.reduceLE, Int.reduceToNat, Int.reduceBEq, Int.reduceNe, reduceCtorEq]; omega)) only [go_sem, Nat.reduceBEq, Nat.reduceAdd, Nat.reduceMul, Nat.reduceSub, Nat.reduceEqDiff, Nat.reduceLeDiff, Nat.reduceLT, Int.reduceEq, Int.reduceAdd, Int.reduceSub, Int.reduceMul, Int.reduceNeg, Int.reduceLT, Int.reduceLE, Int.reduceToNat, Int.reduceBEq, Int.reduceNe, reduceCtorEq, w64_id, w8_id, w16_id, w32_id, tmod_pos, tdiv_pos, Bool.or_true, Bool.true_or, Bool.or_false, Bool.false_or, Bool.and_false, Bool.false_and, condK_decide]
  refine (at_S hs hL first).mono ?_
  rintro v h1 ⟨rfl, rfl⟩
  rcases mOf_at (L := L) (first := first) with ⟨e, e2⟩ | ⟨k, r, e, e1, e2, e3, e4⟩
  · rw [e]
    simp (maxSteps := 2000000) (disch := first | (simp only [go_sem, Nat.reduceBEq, Nat.reduceAdd, Nat.reduceMul, Nat.reduceSub, Nat.reduceEqDiff, Nat.reduceLeDiff, Nat.reduceLT, Int.reduceEq, Int.reduceAdd, Int.reduceSub, Int.reduceMul, Int.reduceNeg, Int.reduceLT, Int.reduceLE, Int.reduceToNat, Int.reduceBEq, Int.reduceNe, reduceCtorEq]; done) | omega | (simp only [go_sem, Nat.reduceBEq, Nat.reduceAdd, Nat.reduceMul, Nat.reduceSub, Nat.reduceEqDiff, Nat.reduceLeDiff, Nat.reduceLT, Int.reduceEq, Int.reduceAdd, Int.reduceSub, Int.reduceMul, Int.reduceNeg, Int.reduceLT, Int.reduceLE, Int.reduceToNat, Int.reduceBEq, Int.reduceNe, reduceCtorEq]; omega)) only [go_sem, Nat.reduceBEq, Nat.reduceAdd, Nat.reduceMul, Nat.reduceSub, Nat.reduceEqDiff, Nat.reduceLeDiff, Nat.reduceLT, Int.reduceEq, Int.reduceAdd, Int.reduceSub, Int.reduceMul, Int.reduceNeg, Int.reduceLT, Int.reduceLE, Int.reduceToNat, Int.reduceBEq, Int.reduceNe, reduceCtorEq, w64_id, w8_id, w16_id, w32_id, tmod_pos, tdiv_pos, Bool.or_true, Bool.true_or, Bool.or_false, Bool.false_or, Bool.and_false, Bool.false_and, condK_decide]
    exact hR _ _ ⟨rfl, rfl⟩
  · rw [hm] at e3; cases e3

theorem does_S (hs : Sat h (poolS pb (mOf L) :: refS qb L :: ramS rb 32 mem :: refRamS sb 32 mem :: F)) (ok : SortedOk L) (hL : L.length ≤ 100000) (x : Act) (fit : Act2 x) :
    HCalls Try.prog 21 #[.pointer (some ⟨pb, 0, none⟩), .pointer (some ⟨rb, 0, none⟩), .pointer (some ⟨qb, 0, none⟩), .pointer (some ⟨sb, 0, none⟩), .agg x.cells.toArray] h fun v h' => v = .bool true ∧
      ∃ L' mem', Sat h' (poolS pb (mOf L') :: refS qb L' :: ramS rb 32 mem' :: refRamS sb 32 mem' :: F) ∧ SortedOk L' ∧ L'.length ≤ L.length + 1 := by
  refine HCalls.via fun R hR => ?_
  refine HCalls.of_dev T21 Try.func21 rfl mixed (by kernel_rfl) ?_; rw [Try.results21]
  unfold Act.cells
  have s0 := fun o => hs.push o
  have fin : ∀ (b : Bool) h' L' mem', b = true → Sat h' (poolS pb (mOf L') :: refS qb L' :: ramS rb 32 mem' :: refRamS sb 32 mem' :: F) → SortedOk L' → L'.length ≤ L.length + 1 → R (.bool b) h' := fun b h' L' mem' hb a1 a2 a3 => hR _ _ ⟨by rw [hb], L', mem', a1, a2, a3⟩
  have ord : ∀ {h' : Heap} {A B C D E : SP}, Sat h' (A :: B :: C :: D :: E :: F) → Sat h' (D :: E :: B :: A :: F) := fun {h' A B C D E} q => by
    exact (((q.front 2).tail.front 1).front 3).front 3
  by_cases d1 : x.Do = 1
  · simp (maxSteps := 2000000) (disch := first | (simp only [go_sem, Nat.reduceBEq, Nat.reduceAdd, Nat.reduceMul, Nat.reduceSub, Nat.reduceEqDiff, Nat.reduceLeDiff, Nat.reduceLT, Int.reduceEq, Int.reduceAdd, Int.reduceSub, Int.reduceMul, Int.reduceNeg, Int.reduceLT, Int.reduceLE, Int.reduceToNat, Int.reduceBEq, Int.reduceNe, reduceCtorEq, d1]; done) | omega | (simp only [go_sem, Nat.reduceBEq, Nat.reduceAdd, Nat.reduceMul, Nat.reduceSub, Nat.reduceEqDiff, Nat.reduceLeDiff, Nat.reduceLT, Int.reduceEq, Int.reduceAdd, Int.reduceSub, Int.reduceMul, Int.reduceNeg, Int.reduceLT, Int.reduceLE, Int.reduceToNat, Int.reduceBEq, Int.reduceNe, reduceCtorEq, d1]; omega)) only [go_sem, Nat.reduceBEq, Nat.reduceAdd, Nat.reduceMul, Nat.reduceSub, Nat.reduceEqDiff, Nat.reduceLeDiff, Nat.reduceLT, Int.reduceEq, Int.reduceAdd, Int.reduceSub, Int.reduceMul, Int.reduceNeg, Int.reduceLT, Int.reduceLE, Int.reduceToNat, Int.reduceBEq, Int.reduceNe, reduceCtorEq, w64_id, w8_id, w16_id, w32_id, tmod_pos, tdiv_pos, Bool.or_true, Bool.true_or, Bool.or_false, Bool.false_or, Bool.and_false, Bool.false_and, condK_decide, d1]
    refine (add_S ((s0 _).front 1) x.X).mono ?_
    rintro v h1 ⟨rfl, s1⟩
    simp (maxSteps := 2000000) (disch := first | (simp only [go_sem, Nat.reduceBEq, Nat.reduceAdd, Nat.reduceMul, Nat.reduceSub, Nat.reduceEqDiff, Nat.reduceLeDiff, Nat.reduceLT, Int.reduceEq, Int.reduceAdd, Int.reduceSub, Int.reduceMul, Int.reduceNeg, Int.reduceLT, Int.reduceLE, Int.reduceToNat, Int.reduceBEq, Int.reduceNe, reduceCtorEq, (s1.front 1).get]; done) | omega | (simp only [go_sem, Nat.reduceBEq, Nat.reduceAdd, Nat.reduceMul, Nat.reduceSub, Nat.reduceEqDiff, Nat.reduceLeDiff, Nat.reduceLT, Int.reduceEq, Int.reduceAdd, Int.reduceSub, Int.reduceMul, Int.reduceNeg, Int.reduceLT, Int.reduceLE, Int.reduceToNat, Int.reduceBEq, Int.reduceNe, reduceCtorEq, (s1.front 1).get]; omega)) only [go_sem, Nat.reduceBEq, Nat.reduceAdd, Nat.reduceMul, Nat.reduceSub, Nat.reduceEqDiff, Nat.reduceLeDiff, Nat.reduceLT, Int.reduceEq, Int.reduceAdd, Int.reduceSub, Int.reduceMul, Int.reduceNeg, Int.reduceLT, Int.reduceLE, Int.reduceToNat, Int.reduceBEq, Int.reduceNe, reduceCtorEq, w64_id, w8_id, w16_id, w32_id, tmod_pos, tdiv_pos, Bool.or_true, Bool.true_or, Bool.or_false, Bool.false_or, Bool.and_false, Bool.false_and, condK_decide, (s1.front 1).get]
    refine (addRef_S (s1.front 2) hL x.X fit.n).mono ?_
    rintro v h2 ⟨rfl, s2⟩
    obtain ⟨q1, q2, q3⟩ := addL_ok (x := x.X) ok
    rw [q1] at s2 ⊢
    simp (maxSteps := 2000000) (disch := first | (simp only [go_sem, Nat.reduceBEq, Nat.reduceAdd, Nat.reduceMul, Nat.reduceSub, Nat.reduceEqDiff, Nat.reduceLeDiff, Nat.reduceLT, Int.reduceEq, Int.reduceAdd, Int.reduceSub, Int.reduceMul, Int.reduceNeg, Int.reduceLT, Int.reduceLE, Int.reduceToNat, Int.reduceBEq, Int.reduceNe, reduceCtorEq]; done) | omega | (simp only [go_sem, Nat.reduceBEq, Nat.reduceAdd, Nat.reduceMul, Nat.reduceSub, Nat.reduceEqDiff, Nat.reduceLeDiff, Nat.reduceLT, Int.reduceEq, Int.reduceAdd, Int.reduceSub, Int.reduceMul, Int.reduceNeg, Int.reduceLT, Int.reduceLE, Int.reduceToNat, Int.reduceBEq, Int.reduceNe, reduceCtorEq]; omega)) only [go_sem, Nat.reduceBEq, Nat.reduceAdd, Nat.reduceMul, Nat.reduceSub, Nat.reduceEqDiff, Nat.reduceLeDiff, Nat.reduceLT, Int.reduceEq, Int.reduceAdd, Int.reduceSub, Int.reduceMul, Int.reduceNeg, Int.reduceLT, Int.reduceLE, Int.reduceToNat, Int.reduceBEq, Int.reduceNe, reduceCtorEq, w64_id, w8_id, w16_id, w32_id, tmod_pos, tdiv_pos, Bool.or_true, Bool.true_or, Bool.or_false, Bool.false_or, Bool.and_false, Bool.false_and, condK_decide]
    exact fin _ _ _ _ (by simp) s2.swap.drop2 q2 q3
  by_cases d2 : x.Do = 2
  · simp (maxSteps := 2000000) (disch := first | (simp only [go_sem, Nat.reduceBEq, Nat.reduceAdd, Nat.reduceMul, Nat.reduceSub, Nat.reduceEqDiff, Nat.reduceLeDiff, Nat.reduceLT, Int.reduceEq, Int.reduceAdd, Int.reduceSub, Int.reduceMul, Int.reduceNeg, Int.reduceLT, Int.reduceLE, Int.reduceToNat, Int.reduceBEq, Int.reduceNe, reduceCtorEq, d1, d2]; done) | omega | (simp only [go_sem, Nat.reduceBEq, Nat.reduceAdd, Nat.reduceMul, Nat.reduceSub, Nat.reduceEqDiff, Nat.reduceLeDiff, Nat.reduceLT, Int.reduceEq, Int.reduceAdd, Int.reduceSub, Int.reduceMul, Int.reduceNeg, Int.reduceLT, Int.reduceLE, Int.reduceToNat, Int.reduceBEq, Int.reduceNe, reduceCtorEq, d1, d2]; omega)) only [go_sem, Nat.reduceBEq, Nat.reduceAdd, Nat.reduceMul, Nat.reduceSub, Nat.reduceEqDiff, Nat.reduceLeDiff, Nat.reduceLT, Int.reduceEq, Int.reduceAdd, Int.reduceSub, Int.reduceMul, Int.reduceNeg, Int.reduceLT, Int.reduceLE, Int.reduceToNat, Int.reduceBEq, Int.reduceNe, reduceCtorEq, w64_id, w8_id, w16_id, w32_id, tmod_pos, tdiv_pos, Bool.or_true, Bool.true_or, Bool.or_false, Bool.false_or, Bool.and_false, Bool.false_and, condK_decide, d1, d2]
    refine (drop_S ((s0 _).front 1) x.First).mono ?_
    rintro v h1 ⟨rfl, s1⟩
    simp (maxSteps := 2000000) (disch := first | (simp only [go_sem, Nat.reduceBEq, Nat.reduceAdd, Nat.reduceMul, Nat.reduceSub, Nat.reduceEqDiff, Nat.reduceLeDiff, Nat.reduceLT, Int.reduceEq, Int.reduceAdd, Int.reduceSub, Int.reduceMul, Int.reduceNeg, Int.reduceLT, Int.reduceLE, Int.reduceToNat, Int.reduceBEq, Int.reduceNe, reduceCtorEq, (s1.front 1).get]; done) | omega | (simp only [go_sem, Nat.reduceBEq, Nat.reduceAdd, Nat.reduceMul, Nat.reduceSub, Nat.reduceEqDiff, Nat.reduceLeDiff, Nat.reduceLT, Int.reduceEq, Int.reduceAdd, Int.reduceSub, Int.reduceMul, Int.reduceNeg, Int.reduceLT, Int.reduceLE, Int.reduceToNat, Int.reduceBEq, Int.reduceNe, reduceCtorEq, (s1.front 1).get]; omega)) only [go_sem, Nat.reduceBEq, Nat.reduceAdd, Nat.reduceMul, Nat.reduceSub, Nat.reduceEqDiff, Nat.reduceLeDiff, Nat.reduceLT, Int.reduceEq, Int.reduceAdd, Int.reduceSub, Int.reduceMul, Int.reduceNeg, Int.reduceLT, Int.reduceLE, Int.reduceToNat, Int.reduceBEq, Int.reduceNe, reduceCtorEq, w64_id, w8_id, w16_id, w32_id, tmod_pos, tdiv_pos, Bool.or_true, Bool.true_or, Bool.or_false, Bool.false_or, Bool.and_false, Bool.false_and, condK_decide, (s1.front 1).get]
    refine (dropRef_S (s1.front 2) hL x.First).mono ?_
    rintro v h2 (⟨hm, rfl, s2⟩ | ⟨k, r, hk, hF, hm, rfl, s2⟩)
    · have e : (fun k => if k = x.First then none else mOf L k) = mOf L := by
        funext k
        by_cases q : k = x.First
        · rw [if_pos q, q, hm]
        · rw [if_neg q]
      rw [e] at s2
      simp (maxSteps := 2000000) (disch := first | (simp only [go_sem, Nat.reduceBEq, Nat.reduceAdd, Nat.reduceMul, Nat.reduceSub, Nat.reduceEqDiff, Nat.reduceLeDiff, Nat.reduceLT, Int.reduceEq, Int.reduceAdd, Int.reduceSub, Int.reduceMul, Int.reduceNeg, Int.reduceLT, Int.reduceLE, Int.reduceToNat, Int.reduceBEq, Int.reduceNe, reduceCtorEq, hm]; done) | omega | (simp only [go_sem, Nat.reduceBEq, Nat.reduceAdd, Nat.reduceMul, Nat.reduceSub, Nat.reduceEqDiff, Nat.reduceLeDiff, Nat.reduceLT, Int.reduceEq, Int.reduceAdd, Int.reduceSub, Int.reduceMul, Int.reduceNeg, Int.reduceLT, Int.reduceLE, Int.reduceToNat, Int.reduceBEq, Int.reduceNe, reduceCtorEq, hm]; omega)) only [go_sem, Nat.reduceBEq, Nat.reduceAdd, Nat.reduceMul, Nat.reduceSub, Nat.reduceEqDiff, Nat.reduceLeDiff, Nat.reduceLT, Int.reduceEq, Int.reduceAdd, Int.reduceSub, Int.reduceMul, Int.reduceNeg, Int.reduceLT, Int.reduceLE, Int.reduceToNat, Int.reduceBEq, Int.reduceNe, reduceCtorEq, w64_id, w8_id, w16_id, w32_id, tmod_pos, tdiv_pos, Bool.or_true, Bool.true_or, Bool.or_false, Bool.false_or, Bool.and_false, Bool.false_and, condK_decide, hm]
      exact fin _ _ _ _ (by simp) s2.swap.drop2 ok (by omega)
    · obtain ⟨q1, q2, q3⟩ := dropL_ok ok hk hF
      rw [← q1] at s2
      simp (maxSteps := 2000000) (disch := first | (simp only [go_sem, Nat.reduceBEq, Nat.reduceAdd, Nat.reduceMul, Nat.reduceSub, Nat.reduceEqDiff, Nat.reduceLeDiff, Nat.reduceLT, Int.reduceEq, Int.reduceAdd, Int.reduceSub, Int.reduceMul, Int.reduceNeg, Int.reduceLT, Int.reduceLE, Int.reduceToNat, Int.reduceBEq, Int.reduceNe, reduceCtorEq, hm]; done) | omega | (simp only [go_sem, Nat.reduceBEq, Nat.reduceAdd, Nat.reduceMul, Nat.reduceSub, Nat.reduceEqDiff, Nat.reduceLeDiff, Nat.reduceLT, Int.reduceEq, Int.reduceAdd, Int.reduceSub, Int.reduceMul, Int.reduceNeg, Int.reduceLT, Int.reduceLE, Int.reduceToNat, Int.reduceBEq, Int.reduceNe, reduceCtorEq, hm]; omega)) only [go_sem, Nat.reduceBEq, Nat.reduceAdd, Nat.reduceMul, Nat.reduceSub, Nat.reduceEqDiff, Nat.reduceLeDiff, Nat.reduceLT, Int.reduceEq, Int.reduceAdd, Int.reduceSub, Int.reduceMul, Int.reduceNeg, Int.reduceLT, Int.reduceLE, Int.reduceToNat, Int.reduceBEq, Int.reduceNe, reduceCtorEq, w64_id, w8_id, w16_id, w32_id, tmod_pos, tdiv_pos, Bool.or_true, Bool.true_or, Bool.or_false, Bool.false_or, Bool.and_false, Bool.false_and, condK_decide, hm]
      exact fin _ _ _ _ (by simp) s2.swap.drop2 q2 (by omega)
  by_cases d3 : x.Do = 3
  · simp (maxSteps := 2000000) (disch := first | (simp only [go_sem, Nat.reduceBEq, Nat.reduceAdd, Nat.reduceMul, Nat.reduceSub, Nat.reduceEqDiff, Nat.reduceLeDiff, Nat.reduceLT, Int.reduceEq, Int.reduceAdd, Int.reduceSub, Int.reduceMul, Int.reduceNeg, Int.reduceLT, Int.reduceLE, Int.reduceToNat, Int.reduceBEq, Int.reduceNe, reduceCtorEq, d1, d2, d3]; done) | omega | (simp only [go_sem, Nat.reduceBEq, Nat.reduceAdd, Nat.reduceMul, Nat.reduceSub, Nat.reduceEqDiff, Nat.reduceLeDiff, Nat.reduceLT, Int.reduceEq, Int.reduceAdd, Int.reduceSub, Int.reduceMul, Int.reduceNeg, Int.reduceLT, Int.reduceLE, Int.reduceToNat, Int.reduceBEq, Int.reduceNe, reduceCtorEq, d1, d2, d3]; omega)) only [go_sem, Nat.reduceBEq, Nat.reduceAdd, Nat.reduceMul, Nat.reduceSub, Nat.reduceEqDiff, Nat.reduceLeDiff, Nat.reduceLT, Int.reduceEq, Int.reduceAdd, Int.reduceSub, Int.reduceMul, Int.reduceNeg, Int.reduceLT, Int.reduceLE, Int.reduceToNat, Int.reduceBEq, Int.reduceNe, reduceCtorEq, w64_id, w8_id, w16_id, w32_id, tmod_pos, tdiv_pos, Bool.or_true, Bool.true_or, Bool.or_false, Bool.false_or, Bool.and_false, Bool.false_and, condK_decide, d1, d2, d3]
    refine (get_S ((s0 _).front 1) x.First).mono ?_
    rintro v h1 ⟨rfl, s1⟩
    generalize hz : getM (mOf L) x.First = z at *
    have s1p := s1.push (.cells [.int .i64 z.1.F, .int .i64 z.1.N, .int .i64 z.1.M, .bool z.1.D].toArray 28 (0, 0))
    simp (maxSteps := 2000000) (disch := first | (simp only [go_sem, Nat.reduceBEq, Nat.reduceAdd, Nat.reduceMul, Nat.reduceSub, Nat.reduceEqDiff, Nat.reduceLeDiff, Nat.reduceLT, Int.reduceEq, Int.reduceAdd, Int.reduceSub, Int.reduceMul, Int.reduceNeg, Int.reduceLT, Int.reduceLE, Int.reduceToNat, Int.reduceBEq, Int.reduceNe, reduceCtorEq, (s1.front 1).get, (s1p.front 2).get]; done) | omega | (simp only [go_sem, Nat.reduceBEq, Nat.reduceAdd, Nat.reduceMul, Nat.reduceSub, Nat.reduceEqDiff, Nat.reduceLeDiff, Nat.reduceLT, Int.reduceEq, Int.reduceAdd, Int.reduceSub, Int.reduceMul, Int.reduceNeg, Int.reduceLT, Int.reduceLE, Int.reduceToNat, Int.reduceBEq, Int.reduceNe, reduceCtorEq, (s1.front 1).get, (s1p.front 2).get]; omega)) only [go_sem, Nat.reduceBEq, Nat.reduceAdd, Nat.reduceMul, Nat.reduceSub, Nat.reduceEqDiff, Nat.reduceLeDiff, Nat.reduceLT, Int.reduceEq, Int.reduceAdd, Int.reduceSub, Int.reduceMul, Int.reduceNeg, Int.reduceLT, Int.reduceLE, Int.reduceToNat, Int.reduceBEq, Int.reduceNe, reduceCtorEq, w64_id, w8_id, w16_id, w32_id, tmod_pos, tdiv_pos, Bool.or_true, Bool.true_or, Bool.or_false, Bool.false_or, Bool.and_false, Bool.false_and, condK_decide, (s1.front 1).get, (s1p.front 2).get]
    refine (getRef_S (s1p.front 3) hL x.First).mono ?_
    rintro v h2 ⟨rfl, s2⟩
    rw [getL_eq, hz]
    have s2p := s2.push (.cells [.int .i64 z.1.F, .int .i64 z.1.N, .int .i64 z.1.M, .bool z.1.D].toArray 28 (0, 0))
    simp (maxSteps := 2000000) (disch := first | (simp only [go_sem, Nat.reduceBEq, Nat.reduceAdd, Nat.reduceMul, Nat.reduceSub, Nat.reduceEqDiff, Nat.reduceLeDiff, Nat.reduceLT, Int.reduceEq, Int.reduceAdd, Int.reduceSub, Int.reduceMul, Int.reduceNeg, Int.reduceLT, Int.reduceLE, Int.reduceToNat, Int.reduceBEq, Int.reduceNe, reduceCtorEq, (s2p.front 2).get]; done) | omega | (simp only [go_sem, Nat.reduceBEq, Nat.reduceAdd, Nat.reduceMul, Nat.reduceSub, Nat.reduceEqDiff, Nat.reduceLeDiff, Nat.reduceLT, Int.reduceEq, Int.reduceAdd, Int.reduceSub, Int.reduceMul, Int.reduceNeg, Int.reduceLT, Int.reduceLE, Int.reduceToNat, Int.reduceBEq, Int.reduceNe, reduceCtorEq, (s2p.front 2).get]; omega)) only [go_sem, Nat.reduceBEq, Nat.reduceAdd, Nat.reduceMul, Nat.reduceSub, Nat.reduceEqDiff, Nat.reduceLeDiff, Nat.reduceLT, Int.reduceEq, Int.reduceAdd, Int.reduceSub, Int.reduceMul, Int.reduceNeg, Int.reduceLT, Int.reduceLE, Int.reduceToNat, Int.reduceBEq, Int.reduceNe, reduceCtorEq, w64_id, w8_id, w16_id, w32_id, tmod_pos, tdiv_pos, Bool.or_true, Bool.true_or, Bool.or_false, Bool.false_or, Bool.and_false, Bool.false_and, condK_decide, (s2p.front 2).get]
    exact fin _ _ _ _ rfl s2p.tail.drop1.swap.drop2 ok (by omega)
  by_cases d4 : x.Do = 4
  · simp (maxSteps := 2000000) (disch := first | (simp only [go_sem, Nat.reduceBEq, Nat.reduceAdd, Nat.reduceMul, Nat.reduceSub, Nat.reduceEqDiff, Nat.reduceLeDiff, Nat.reduceLT, Int.reduceEq, Int.reduceAdd, Int.reduceSub, Int.reduceMul, Int.reduceNeg, Int.reduceLT, Int.reduceLE, Int.reduceToNat, Int.reduceBEq, Int.reduceNe, reduceCtorEq, d1, d2, d3, d4]; done) | omega | (simp only [go_sem, Nat.reduceBEq, Nat.reduceAdd, Nat.reduceMul, Nat.reduceSub, Nat.reduceEqDiff, Nat.reduceLeDiff, Nat.reduceLT, Int.reduceEq, Int.reduceAdd, Int.reduceSub, Int.reduceMul, Int.reduceNeg, Int.reduceLT, Int.reduceLE, Int.reduceToNat, Int.reduceBEq, Int.reduceNe, reduceCtorEq, d1, d2, d3, d4]; omega)) only [go_sem, Nat.reduceBEq, Nat.reduceAdd, Nat.reduceMul, Nat.reduceSub, Nat.reduceEqDiff, Nat.reduceLeDiff, Nat.reduceLT, Int.reduceEq, Int.reduceAdd, Int.reduceSub, Int.reduceMul, Int.reduceNeg, Int.reduceLT, Int.reduceLE, Int.reduceToNat, Int.reduceBEq, Int.reduceNe, reduceCtorEq, w64_id, w8_id, w16_id, w32_id, tmod_pos, tdiv_pos, Bool.or_true, Bool.true_or, Bool.or_false, Bool.false_or, Bool.and_false, Bool.false_and, condK_decide, d1, d2, d3, d4]
    refine (carve_S ((s0 _).front 1) x.First x.Kind x.Frames x.Count).mono ?_
    rintro v h1 ⟨rfl, s1⟩
    simp (maxSteps := 2000000) (disch := first | (simp only [go_sem, Nat.reduceBEq, Nat.reduceAdd, Nat.reduceMul, Nat.reduceSub, Nat.reduceEqDiff, Nat.reduceLeDiff, Nat.reduceLT, Int.reduceEq, Int.reduceAdd, Int.reduceSub, Int.reduceMul, Int.reduceNeg, Int.reduceLT, Int.reduceLE, Int.reduceToNat, Int.reduceBEq, Int.reduceNe, reduceCtorEq, (s1.front 1).get]; done) | omega | (simp only [go_sem, Nat.reduceBEq, Nat.reduceAdd, Nat.reduceMul, Nat.reduceSub, Nat.reduceEqDiff, Nat.reduceLeDiff, Nat.reduceLT, Int.reduceEq, Int.reduceAdd, Int.reduceSub, Int.reduceMul, Int.reduceNeg, Int.reduceLT, Int.reduceLE, Int.reduceToNat, Int.reduceBEq, Int.reduceNe, reduceCtorEq, (s1.front 1).get]; omega)) only [go_sem, Nat.reduceBEq, Nat.reduceAdd, Nat.reduceMul, Nat.reduceSub, Nat.reduceEqDiff, Nat.reduceLeDiff, Nat.reduceLT, Int.reduceEq, Int.reduceAdd, Int.reduceSub, Int.reduceMul, Int.reduceNeg, Int.reduceLT, Int.reduceLE, Int.reduceToNat, Int.reduceBEq, Int.reduceNe, reduceCtorEq, w64_id, w8_id, w16_id, w32_id, tmod_pos, tdiv_pos, Bool.or_true, Bool.true_or, Bool.or_false, Bool.false_or, Bool.and_false, Bool.false_and, condK_decide, (s1.front 1).get]
    refine (carveRef_S (s1.front 2) hL ok.2 x.First x.Kind x.Frames x.Count).mono ?_
    rintro v h2 ⟨rfl, (⟨q0, s2⟩ | ⟨k, r, n, ha, hk, hF, q0, n0, n1, s2⟩)⟩
    · rw [q0] at s2
      simp (maxSteps := 2000000) (disch := first | (simp only [go_sem, Nat.reduceBEq, Nat.reduceAdd, Nat.reduceMul, Nat.reduceSub, Nat.reduceEqDiff, Nat.reduceLeDiff, Nat.reduceLT, Int.reduceEq, Int.reduceAdd, Int.reduceSub, Int.reduceMul, Int.reduceNeg, Int.reduceLT, Int.reduceLE, Int.reduceToNat, Int.reduceBEq, Int.reduceNe, reduceCtorEq]; done) | omega | (simp only [go_sem, Nat.reduceBEq, Nat.reduceAdd, Nat.reduceMul, Nat.reduceSub, Nat.reduceEqDiff, Nat.reduceLeDiff, Nat.reduceLT, Int.reduceEq, Int.reduceAdd, Int.reduceSub, Int.reduceMul, Int.reduceNeg, Int.reduceLT, Int.reduceLE, Int.reduceToNat, Int.reduceBEq, Int.reduceNe, reduceCtorEq]; omega)) only [go_sem, Nat.reduceBEq, Nat.reduceAdd, Nat.reduceMul, Nat.reduceSub, Nat.reduceEqDiff, Nat.reduceLeDiff, Nat.reduceLT, Int.reduceEq, Int.reduceAdd, Int.reduceSub, Int.reduceMul, Int.reduceNeg, Int.reduceLT, Int.reduceLE, Int.reduceToNat, Int.reduceBEq, Int.reduceNe, reduceCtorEq, w64_id, w8_id, w16_id, w32_id, tmod_pos, tdiv_pos, Bool.or_true, Bool.true_or, Bool.or_false, Bool.false_or, Bool.and_false, Bool.false_and, condK_decide]
      exact fin _ _ _ _ (by simp) s2.swap.drop2 ok (by omega)
    · obtain ⟨q1, q2, q3⟩ := setL_ok ok ha hk hF n0 n1
      rw [q0, ← q1] at s2
      simp (maxSteps := 2000000) (disch := first | (simp only [go_sem, Nat.reduceBEq, Nat.reduceAdd, Nat.reduceMul, Nat.reduceSub, Nat.reduceEqDiff, Nat.reduceLeDiff, Nat.reduceLT, Int.reduceEq, Int.reduceAdd, Int.reduceSub, Int.reduceMul, Int.reduceNeg, Int.reduceLT, Int.reduceLE, Int.reduceToNat, Int.reduceBEq, Int.reduceNe, reduceCtorEq]; done) | omega | (simp only [go_sem, Nat.reduceBEq, Nat.reduceAdd, Nat.reduceMul, Nat.reduceSub, Nat.reduceEqDiff, Nat.reduceLeDiff, Nat.reduceLT, Int.reduceEq, Int.reduceAdd, Int.reduceSub, Int.reduceMul, Int.reduceNeg, Int.reduceLT, Int.reduceLE, Int.reduceToNat, Int.reduceBEq, Int.reduceNe, reduceCtorEq]; omega)) only [go_sem, Nat.reduceBEq, Nat.reduceAdd, Nat.reduceMul, Nat.reduceSub, Nat.reduceEqDiff, Nat.reduceLeDiff, Nat.reduceLT, Int.reduceEq, Int.reduceAdd, Int.reduceSub, Int.reduceMul, Int.reduceNeg, Int.reduceLT, Int.reduceLE, Int.reduceToNat, Int.reduceBEq, Int.reduceNe, reduceCtorEq, w64_id, w8_id, w16_id, w32_id, tmod_pos, tdiv_pos, Bool.or_true, Bool.true_or, Bool.or_false, Bool.false_or, Bool.and_false, Bool.false_and, condK_decide]
      exact fin _ _ _ _ (by simp) s2.swap.drop2 q2 (by omega)
  by_cases d6 : x.Do = 6
  · have d5 : ¬ x.Do = 5 := by omega
    simp (maxSteps := 2000000) (disch := first | (simp only [go_sem, Nat.reduceBEq, Nat.reduceAdd, Nat.reduceMul, Nat.reduceSub, Nat.reduceEqDiff, Nat.reduceLeDiff, Nat.reduceLT, Int.reduceEq, Int.reduceAdd, Int.reduceSub, Int.reduceMul, Int.reduceNeg, Int.reduceLT, Int.reduceLE, Int.reduceToNat, Int.reduceBEq, Int.reduceNe, reduceCtorEq, d1, d2, d3, d4, d5, d6]; done) | omega | (simp only [go_sem, Nat.reduceBEq, Nat.reduceAdd, Nat.reduceMul, Nat.reduceSub, Nat.reduceEqDiff, Nat.reduceLeDiff, Nat.reduceLT, Int.reduceEq, Int.reduceAdd, Int.reduceSub, Int.reduceMul, Int.reduceNeg, Int.reduceLT, Int.reduceLE, Int.reduceToNat, Int.reduceBEq, Int.reduceNe, reduceCtorEq, d1, d2, d3, d4, d5, d6]; omega)) only [go_sem, Nat.reduceBEq, Nat.reduceAdd, Nat.reduceMul, Nat.reduceSub, Nat.reduceEqDiff, Nat.reduceLeDiff, Nat.reduceLT, Int.reduceEq, Int.reduceAdd, Int.reduceSub, Int.reduceMul, Int.reduceNeg, Int.reduceLT, Int.reduceLE, Int.reduceToNat, Int.reduceBEq, Int.reduceNe, reduceCtorEq, w64_id, w8_id, w16_id, w32_id, tmod_pos, tdiv_pos, Bool.or_true, Bool.true_or, Bool.or_false, Bool.false_or, Bool.and_false, Bool.false_and, condK_decide, d1, d2, d3, d4, d5, d6]
    refine (room_S ((s0 _).front 1) x.First x.Kind x.Frames x.Count).mono ?_
    rintro v h1 ⟨rfl, rfl⟩
    simp (maxSteps := 2000000) (disch := first | (simp only [go_sem, Nat.reduceBEq, Nat.reduceAdd, Nat.reduceMul, Nat.reduceSub, Nat.reduceEqDiff, Nat.reduceLeDiff, Nat.reduceLT, Int.reduceEq, Int.reduceAdd, Int.reduceSub, Int.reduceMul, Int.reduceNeg, Int.reduceLT, Int.reduceLE, Int.reduceToNat, Int.reduceBEq, Int.reduceNe, reduceCtorEq]; done) | omega | (simp only [go_sem, Nat.reduceBEq, Nat.reduceAdd, Nat.reduceMul, Nat.reduceSub, Nat.reduceEqDiff, Nat.reduceLeDiff, Nat.reduceLT, Int.reduceEq, Int.reduceAdd, Int.reduceSub, Int.reduceMul, Int.reduceNeg, Int.reduceLT, Int.reduceLE, Int.reduceToNat, Int.reduceBEq, Int.reduceNe, reduceCtorEq]; omega)) only [go_sem, Nat.reduceBEq, Nat.reduceAdd, Nat.reduceMul, Nat.reduceSub, Nat.reduceEqDiff, Nat.reduceLeDiff, Nat.reduceLT, Int.reduceEq, Int.reduceAdd, Int.reduceSub, Int.reduceMul, Int.reduceNeg, Int.reduceLT, Int.reduceLE, Int.reduceToNat, Int.reduceBEq, Int.reduceNe, reduceCtorEq, w64_id, w8_id, w16_id, w32_id, tmod_pos, tdiv_pos, Bool.or_true, Bool.true_or, Bool.or_false, Bool.false_or, Bool.and_false, Bool.false_and, condK_decide]
    refine (roomRef_S ((s0 _).front 2) hL ok.2 x.First x.Kind x.Frames x.Count).mono ?_
    rintro v h2 ⟨rfl, s2⟩
    simp (maxSteps := 2000000) (disch := first | (simp only [go_sem, Nat.reduceBEq, Nat.reduceAdd, Nat.reduceMul, Nat.reduceSub, Nat.reduceEqDiff, Nat.reduceLeDiff, Nat.reduceLT, Int.reduceEq, Int.reduceAdd, Int.reduceSub, Int.reduceMul, Int.reduceNeg, Int.reduceLT, Int.reduceLE, Int.reduceToNat, Int.reduceBEq, Int.reduceNe, reduceCtorEq]; done) | omega | (simp only [go_sem, Nat.reduceBEq, Nat.reduceAdd, Nat.reduceMul, Nat.reduceSub, Nat.reduceEqDiff, Nat.reduceLeDiff, Nat.reduceLT, Int.reduceEq, Int.reduceAdd, Int.reduceSub, Int.reduceMul, Int.reduceNeg, Int.reduceLT, Int.reduceLE, Int.reduceToNat, Int.reduceBEq, Int.reduceNe, reduceCtorEq]; omega)) only [go_sem, Nat.reduceBEq, Nat.reduceAdd, Nat.reduceMul, Nat.reduceSub, Nat.reduceEqDiff, Nat.reduceLeDiff, Nat.reduceLT, Int.reduceEq, Int.reduceAdd, Int.reduceSub, Int.reduceMul, Int.reduceNeg, Int.reduceLT, Int.reduceLE, Int.reduceToNat, Int.reduceBEq, Int.reduceNe, reduceCtorEq, w64_id, w8_id, w16_id, w32_id, tmod_pos, tdiv_pos, Bool.or_true, Bool.true_or, Bool.or_false, Bool.false_or, Bool.and_false, Bool.false_and, condK_decide]
    exact fin _ _ _ _ (by simp) (s2.drop1.swap) ok (by omega)
  by_cases d7 : x.Do = 7
  · have d5 : ¬ x.Do = 5 := by omega
    simp (maxSteps := 2000000) (disch := first | (simp only [go_sem, Nat.reduceBEq, Nat.reduceAdd, Nat.reduceMul, Nat.reduceSub, Nat.reduceEqDiff, Nat.reduceLeDiff, Nat.reduceLT, Int.reduceEq, Int.reduceAdd, Int.reduceSub, Int.reduceMul, Int.reduceNeg, Int.reduceLT, Int.reduceLE, Int.reduceToNat, Int.reduceBEq, Int.reduceNe, reduceCtorEq, d1, d2, d3, d4, d5, d6, d7]; done) | omega | (simp only [go_sem, Nat.reduceBEq, Nat.reduceAdd, Nat.reduceMul, Nat.reduceSub, Nat.reduceEqDiff, Nat.reduceLeDiff, Nat.reduceLT, Int.reduceEq, Int.reduceAdd, Int.reduceSub, Int.reduceMul, Int.reduceNeg, Int.reduceLT, Int.reduceLE, Int.reduceToNat, Int.reduceBEq, Int.reduceNe, reduceCtorEq, d1, d2, d3, d4, d5, d6, d7]; omega)) only [go_sem, Nat.reduceBEq, Nat.reduceAdd, Nat.reduceMul, Nat.reduceSub, Nat.reduceEqDiff, Nat.reduceLeDiff, Nat.reduceLT, Int.reduceEq, Int.reduceAdd, Int.reduceSub, Int.reduceMul, Int.reduceNeg, Int.reduceLT, Int.reduceLE, Int.reduceToNat, Int.reduceBEq, Int.reduceNe, reduceCtorEq, w64_id, w8_id, w16_id, w32_id, tmod_pos, tdiv_pos, Bool.or_true, Bool.true_or, Bool.or_false, Bool.false_or, Bool.and_false, Bool.false_and, condK_decide, d1, d2, d3, d4, d5, d6, d7]
    refine (store1_S ((s0 _).front 3) x.First _).mono ?_
    rintro v h1 (⟨a0, a1, rfl, s1⟩ | ⟨a0, rfl, s1⟩)
    case' inl =>
      simp (maxSteps := 2000000) (disch := first | (simp only [go_sem, Nat.reduceBEq, Nat.reduceAdd, Nat.reduceMul, Nat.reduceSub, Nat.reduceEqDiff, Nat.reduceLeDiff, Nat.reduceLT, Int.reduceEq, Int.reduceAdd, Int.reduceSub, Int.reduceMul, Int.reduceNeg, Int.reduceLT, Int.reduceLE, Int.reduceToNat, Int.reduceBEq, Int.reduceNe, reduceCtorEq, (s1.front 1).get]; done) | omega | (simp only [go_sem, Nat.reduceBEq, Nat.reduceAdd, Nat.reduceMul, Nat.reduceSub, Nat.reduceEqDiff, Nat.reduceLeDiff, Nat.reduceLT, Int.reduceEq, Int.reduceAdd, Int.reduceSub, Int.reduceMul, Int.reduceNeg, Int.reduceLT, Int.reduceLE, Int.reduceToNat, Int.reduceBEq, Int.reduceNe, reduceCtorEq, (s1.front 1).get]; omega)) only [go_sem, Nat.reduceBEq, Nat.reduceAdd, Nat.reduceMul, Nat.reduceSub, Nat.reduceEqDiff, Nat.reduceLeDiff, Nat.reduceLT, Int.reduceEq, Int.reduceAdd, Int.reduceSub, Int.reduceMul, Int.reduceNeg, Int.reduceLT, Int.reduceLE, Int.reduceToNat, Int.reduceBEq, Int.reduceNe, reduceCtorEq, w64_id, w8_id, w16_id, w32_id, tmod_pos, tdiv_pos, Bool.or_true, Bool.true_or, Bool.or_false, Bool.false_or, Bool.and_false, Bool.false_and, condK_decide, (s1.front 1).get]
      refine (refStore_S (s1.front 4) x.First 1 _ (u32_bd _)).mono ?_
      rintro v h2 ⟨rfl, s2⟩
    case' inr =>
      simp (maxSteps := 2000000) (disch := first | (simp only [go_sem, Nat.reduceBEq, Nat.reduceAdd, Nat.reduceMul, Nat.reduceSub, Nat.reduceEqDiff, Nat.reduceLeDiff, Nat.reduceLT, Int.reduceEq, Int.reduceAdd, Int.reduceSub, Int.reduceMul, Int.reduceNeg, Int.reduceLT, Int.reduceLE, Int.reduceToNat, Int.reduceBEq, Int.reduceNe, reduceCtorEq, (s1.front 1).get]; done) | omega | (simp only [go_sem, Nat.reduceBEq, Nat.reduceAdd, Nat.reduceMul, Nat.reduceSub, Nat.reduceEqDiff, Nat.reduceLeDiff, Nat.reduceLT, Int.reduceEq, Int.reduceAdd, Int.reduceSub, Int.reduceMul, Int.reduceNeg, Int.reduceLT, Int.reduceLE, Int.reduceToNat, Int.reduceBEq, Int.reduceNe, reduceCtorEq, (s1.front 1).get]; omega)) only [go_sem, Nat.reduceBEq, Nat.reduceAdd, Nat.reduceMul, Nat.reduceSub, Nat.reduceEqDiff, Nat.reduceLeDiff, Nat.reduceLT, Int.reduceEq, Int.reduceAdd, Int.reduceSub, Int.reduceMul, Int.reduceNeg, Int.reduceLT, Int.reduceLE, Int.reduceToNat, Int.reduceBEq, Int.reduceNe, reduceCtorEq, w64_id, w8_id, w16_id, w32_id, tmod_pos, tdiv_pos, Bool.or_true, Bool.true_or, Bool.or_false, Bool.false_or, Bool.and_false, Bool.false_and, condK_decide, (s1.front 1).get]
      refine (refStore_S (s1.front 4) x.First 1 _ (u32_bd _)).mono ?_
      rintro v h2 ⟨rfl, s2⟩
    · have e : accM 32 x.First 1 = 10 := by rw [acc1, if_neg a0]
      rw [e] at s2 ⊢
      rw [if_neg (by omega)] at s2
      simp (maxSteps := 2000000) (disch := first | (simp only [go_sem, Nat.reduceBEq, Nat.reduceAdd, Nat.reduceMul, Nat.reduceSub, Nat.reduceEqDiff, Nat.reduceLeDiff, Nat.reduceLT, Int.reduceEq, Int.reduceAdd, Int.reduceSub, Int.reduceMul, Int.reduceNeg, Int.reduceLT, Int.reduceLE, Int.reduceToNat, Int.reduceBEq, Int.reduceNe, reduceCtorEq]; done) | omega | (simp only [go_sem, Nat.reduceBEq, Nat.reduceAdd, Nat.reduceMul, Nat.reduceSub, Nat.reduceEqDiff, Nat.reduceLeDiff, Nat.reduceLT, Int.reduceEq, Int.reduceAdd, Int.reduceSub, Int.reduceMul, Int.reduceNeg, Int.reduceLT, Int.reduceLE, Int.reduceToNat, Int.reduceBEq, Int.reduceNe, reduceCtorEq]; omega)) only [go_sem, Nat.reduceBEq, Nat.reduceAdd, Nat.reduceMul, Nat.reduceSub, Nat.reduceEqDiff, Nat.reduceLeDiff, Nat.reduceLT, Int.reduceEq, Int.reduceAdd, Int.reduceSub, Int.reduceMul, Int.reduceNeg, Int.reduceLT, Int.reduceLE, Int.reduceToNat, Int.reduceBEq, Int.reduceNe, reduceCtorEq, w64_id, w8_id, w16_id, w32_id, tmod_pos, tdiv_pos, Bool.or_true, Bool.true_or, Bool.or_false, Bool.false_or, Bool.and_false, Bool.false_and, condK_decide]
      exact fin _ _ _ _ (by simp) (ord s2) ok (by omega)
    · have e : accM 32 x.First 1 = 0 := by rw [acc1, if_pos ⟨a0, a1⟩]
      rw [e] at s2 ⊢
      simp only [if_true, put1 a0] at s2
      simp (maxSteps := 2000000) (disch := first | (simp only [go_sem, Nat.reduceBEq, Nat.reduceAdd, Nat.reduceMul, Nat.reduceSub, Nat.reduceEqDiff, Nat.reduceLeDiff, Nat.reduceLT, Int.reduceEq, Int.reduceAdd, Int.reduceSub, Int.reduceMul, Int.reduceNeg, Int.reduceLT, Int.reduceLE, Int.reduceToNat, Int.reduceBEq, Int.reduceNe, reduceCtorEq]; done) | omega | (simp only [go_sem, Nat.reduceBEq, Nat.reduceAdd, Nat.reduceMul, Nat.reduceSub, Nat.reduceEqDiff, Nat.reduceLeDiff, Nat.reduceLT, Int.reduceEq, Int.reduceAdd, Int.reduceSub, Int.reduceMul, Int.reduceNeg, Int.reduceLT, Int.reduceLE, Int.reduceToNat, Int.reduceBEq, Int.reduceNe, reduceCtorEq]; omega)) only [go_sem, Nat.reduceBEq, Nat.reduceAdd, Nat.reduceMul, Nat.reduceSub, Nat.reduceEqDiff, Nat.reduceLeDiff, Nat.reduceLT, Int.reduceEq, Int.reduceAdd, Int.reduceSub, Int.reduceMul, Int.reduceNeg, Int.reduceLT, Int.reduceLE, Int.reduceToNat, Int.reduceBEq, Int.reduceNe, reduceCtorEq, w64_id, w8_id, w16_id, w32_id, tmod_pos, tdiv_pos, Bool.or_true, Bool.true_or, Bool.or_false, Bool.false_or, Bool.and_false, Bool.false_and, condK_decide]
      exact fin _ _ _ _ (by simp) (ord s2) ok (by omega)
  by_cases d5 : x.Do = 5
  · have p1 := (s0 (.cells [.int .i64 5, .int .i64 x.First, .int .i64 x.X.F, .int .i64 x.X.N, .int .i64 x.X.M, .bool x.X.D, .int .i64 x.Kind, .int .i64 x.Frames, .int .i64 x.Count, .int .i64 x.Units].toArray 35 (0, 0))).push (.cells [.int .i64 0].toArray 3 (0, 0))
    rw [size_push'] at p1
    have p0 := (s0 (.cells [.int .i64 5, .int .i64 x.First, .int .i64 x.X.F, .int .i64 x.X.N, .int .i64 x.X.M, .bool x.X.D, .int .i64 x.Kind, .int .i64 x.Frames, .int .i64 x.Count, .int .i64 x.Units].toArray 35 (0, 0))).push (.cells [.int .i64 x.Units].toArray 3 (0, 0))
    have p2 := p0.push (.cells [.int .i64 (max 0 x.Units)].toArray 79 (0, 0))
    simp (maxSteps := 2000000) (disch := first | (simp only [go_sem, Nat.reduceBEq, Nat.reduceAdd, Nat.reduceMul, Nat.reduceSub, Nat.reduceEqDiff, Nat.reduceLeDiff, Nat.reduceLT, Int.reduceEq, Int.reduceAdd, Int.reduceSub, Int.reduceMul, Int.reduceNeg, Int.reduceLT, Int.reduceLE, Int.reduceToNat, Int.reduceBEq, Int.reduceNe, reduceCtorEq, d1, d2, d3, d4, d5, p1.get, p0.get]; done) | omega | (simp only [go_sem, Nat.reduceBEq, Nat.reduceAdd, Nat.reduceMul, Nat.reduceSub, Nat.reduceEqDiff, Nat.reduceLeDiff, Nat.reduceLT, Int.reduceEq, Int.reduceAdd, Int.reduceSub, Int.reduceMul, Int.reduceNeg, Int.reduceLT, Int.reduceLE, Int.reduceToNat, Int.reduceBEq, Int.reduceNe, reduceCtorEq, d1, d2, d3, d4, d5, p1.get, p0.get]; omega)) only [go_sem, Nat.reduceBEq, Nat.reduceAdd, Nat.reduceMul, Nat.reduceSub, Nat.reduceEqDiff, Nat.reduceLeDiff, Nat.reduceLT, Int.reduceEq, Int.reduceAdd, Int.reduceSub, Int.reduceMul, Int.reduceNeg, Int.reduceLT, Int.reduceLE, Int.reduceToNat, Int.reduceBEq, Int.reduceNe, reduceCtorEq, w64_id, w8_id, w16_id, w32_id, tmod_pos, tdiv_pos, Bool.or_true, Bool.true_or, Bool.or_false, Bool.false_or, Bool.and_false, Bool.false_and, condK_decide, d1, d2, d3, d4, d5, p1.get, p0.get]
    simp only [size_push'] at p2
    generalize Array.push (Array.push (Array.push _ _) _) _ = h5 at p2 ⊢
    cases hm : mOf L x.First with
    | none =>
      refine (reset_none (rb := rb) (n := 32) (mem := mem) (u := 0) (p2.front 3) x.First hm _ _).mono ?_
      rintro v h6 ⟨rfl, rfl⟩
      simp (maxSteps := 2000000) (disch := first | (simp only [go_sem, Nat.reduceBEq, Nat.reduceAdd, Nat.reduceMul, Nat.reduceSub, Nat.reduceEqDiff, Nat.reduceLeDiff, Nat.reduceLT, Int.reduceEq, Int.reduceAdd, Int.reduceSub, Int.reduceMul, Int.reduceNeg, Int.reduceLT, Int.reduceLE, Int.reduceToNat, Int.reduceBEq, Int.reduceNe, reduceCtorEq, (p2.front 2).get]; done) | omega | (simp only [go_sem, Nat.reduceBEq, Nat.reduceAdd, Nat.reduceMul, Nat.reduceSub, Nat.reduceEqDiff, Nat.reduceLeDiff, Nat.reduceLT, Int.reduceEq, Int.reduceAdd, Int.reduceSub, Int.reduceMul, Int.reduceNeg, Int.reduceLT, Int.reduceLE, Int.reduceToNat, Int.reduceBEq, Int.reduceNe, reduceCtorEq, (p2.front 2).get]; omega)) only [go_sem, Nat.reduceBEq, Nat.reduceAdd, Nat.reduceMul, Nat.reduceSub, Nat.reduceEqDiff, Nat.reduceLeDiff, Nat.reduceLT, Int.reduceEq, Int.reduceAdd, Int.reduceSub, Int.reduceMul, Int.reduceNeg, Int.reduceLT, Int.reduceLE, Int.reduceToNat, Int.reduceBEq, Int.reduceNe, reduceCtorEq, w64_id, w8_id, w16_id, w32_id, tmod_pos, tdiv_pos, Bool.or_true, Bool.true_or, Bool.or_false, Bool.false_or, Bool.and_false, Bool.false_and, condK_decide, (p2.front 2).get]
      refine (resetRef_none (p2.front 4) hL hm _ _).mono ?_
      rintro v h7 ⟨rfl, rfl⟩
      simp (maxSteps := 2000000) (disch := first | (simp only [go_sem, Nat.reduceBEq, Nat.reduceAdd, Nat.reduceMul, Nat.reduceSub, Nat.reduceEqDiff, Nat.reduceLeDiff, Nat.reduceLT, Int.reduceEq, Int.reduceAdd, Int.reduceSub, Int.reduceMul, Int.reduceNeg, Int.reduceLT, Int.reduceLE, Int.reduceToNat, Int.reduceBEq, Int.reduceNe, reduceCtorEq, p2.get, (p2.front 1).get]; done) | omega | (simp only [go_sem, Nat.reduceBEq, Nat.reduceAdd, Nat.reduceMul, Nat.reduceSub, Nat.reduceEqDiff, Nat.reduceLeDiff, Nat.reduceLT, Int.reduceEq, Int.reduceAdd, Int.reduceSub, Int.reduceMul, Int.reduceNeg, Int.reduceLT, Int.reduceLE, Int.reduceToNat, Int.reduceBEq, Int.reduceNe, reduceCtorEq, p2.get, (p2.front 1).get]; omega)) only [go_sem, Nat.reduceBEq, Nat.reduceAdd, Nat.reduceMul, Nat.reduceSub, Nat.reduceEqDiff, Nat.reduceLeDiff, Nat.reduceLT, Int.reduceEq, Int.reduceAdd, Int.reduceSub, Int.reduceMul, Int.reduceNeg, Int.reduceLT, Int.reduceLE, Int.reduceToNat, Int.reduceBEq, Int.reduceNe, reduceCtorEq, w64_id, w8_id, w16_id, w32_id, tmod_pos, tdiv_pos, Bool.or_true, Bool.true_or, Bool.or_false, Bool.false_or, Bool.and_false, Bool.false_and, condK_decide, p2.get, (p2.front 1).get]
      exact fin _ _ _ _ (by simp) p2.tail.tail.tail ok (by omega)
    | some r =>
      obtain ⟨q1, q2⟩ := mOf_some hm
      have rok := ok.2 r q1
      have k5 := rok.mlo
      have hun := fit.units
      have p3 : Sat h5 (poolS pb (mOf L) :: ramS rb 32 mem :: cellAt (h.size + 1) (.cells [.int .i64 x.Units].toArray 3 (0, 0)) :: _) := ((p2.front 1).front 5).front 4
      refine (reset_S p3 fit.units x.First r hm).mono ?_
      rintro v h6 ⟨rfl, mem', ty', s6, m1, m2⟩
      simp (maxSteps := 2000000) (disch := first | (simp only [go_sem, Nat.reduceBEq, Nat.reduceAdd, Nat.reduceMul, Nat.reduceSub, Nat.reduceEqDiff, Nat.reduceLeDiff, Nat.reduceLT, Int.reduceEq, Int.reduceAdd, Int.reduceSub, Int.reduceMul, Int.reduceNeg, Int.reduceLT, Int.reduceLE, Int.reduceToNat, Int.reduceBEq, Int.reduceNe, reduceCtorEq, (s6.front 4).get]; done) | omega | (simp only [go_sem, Nat.reduceBEq, Nat.reduceAdd, Nat.reduceMul, Nat.reduceSub, Nat.reduceEqDiff, Nat.reduceLeDiff, Nat.reduceLT, Int.reduceEq, Int.reduceAdd, Int.reduceSub, Int.reduceMul, Int.reduceNeg, Int.reduceLT, Int.reduceLE, Int.reduceToNat, Int.reduceBEq, Int.reduceNe, reduceCtorEq, (s6.front 4).get]; omega)) only [go_sem, Nat.reduceBEq, Nat.reduceAdd, Nat.reduceMul, Nat.reduceSub, Nat.reduceEqDiff, Nat.reduceLeDiff, Nat.reduceLT, Int.reduceEq, Int.reduceAdd, Int.reduceSub, Int.reduceMul, Int.reduceNeg, Int.reduceLT, Int.reduceLE, Int.reduceToNat, Int.reduceBEq, Int.reduceNe, reduceCtorEq, w64_id, w8_id, w16_id, w32_id, tmod_pos, tdiv_pos, Bool.or_true, Bool.true_or, Bool.or_false, Bool.false_or, Bool.and_false, Bool.false_and, condK_decide, (s6.front 4).get]
      rcases mOf_at (L := L) (first := x.First) with ⟨e, e2⟩ | ⟨k, r', ha, hk, hF, e3, e4⟩
      · rw [hm] at e2; cases e2
      rw [hm] at e3
      cases e3
      have s7 := ((s6.front 3).front 6).front 6
      refine (resetRef_S s7 hL (by omega) ha hk hF rok).mono ?_
      rintro v h7 ⟨rfl, mem'', s8, n1, n2⟩
      have eu : unitsM r.M (max 0 x.Units) = unitsM r.M x.Units := by unfold unitsM; omega
      rw [eu] at s8 n2 ⊢
      have em : mem'' = mem' := by
        cases hD : r.D with
        | true => rw [n1 hD, m1 hD]
        | false => rw [n2 hD, m2 hD]
      rw [em] at s8
      have hub : 0 ≤ r.M - unitsM r.M x.Units ∧ r.M - unitsM r.M x.Units ≤ r.N := by have := rok.mhi; unfold unitsM; omega
      obtain ⟨z1, z2, z3⟩ := setL_ok ok ha hk hF hub.1 hub.2
      rw [← z1] at s8
      have ex : max 0 (x.Units - unitsM r.M x.Units) = max 0 x.Units - unitsM r.M x.Units := by unfold unitsM; omega
      simp (maxSteps := 2000000) (disch := first | (simp only [go_sem, Nat.reduceBEq, Nat.reduceAdd, Nat.reduceMul, Nat.reduceSub, Nat.reduceEqDiff, Nat.reduceLeDiff, Nat.reduceLT, Int.reduceEq, Int.reduceAdd, Int.reduceSub, Int.reduceMul, Int.reduceNeg, Int.reduceLT, Int.reduceLE, Int.reduceToNat, Int.reduceBEq, Int.reduceNe, reduceCtorEq, (s8.front 2).get, (s8.front 5).get, ex]; done) | omega | (simp only [go_sem, Nat.reduceBEq, Nat.reduceAdd, Nat.reduceMul, Nat.reduceSub, Nat.reduceEqDiff, Nat.reduceLeDiff, Nat.reduceLT, Int.reduceEq, Int.reduceAdd, Int.reduceSub, Int.reduceMul, Int.reduceNeg, Int.reduceLT, Int.reduceLE, Int.reduceToNat, Int.reduceBEq, Int.reduceNe, reduceCtorEq, (s8.front 2).get, (s8.front 5).get, ex]; omega)) only [go_sem, Nat.reduceBEq, Nat.reduceAdd, Nat.reduceMul, Nat.reduceSub, Nat.reduceEqDiff, Nat.reduceLeDiff, Nat.reduceLT, Int.reduceEq, Int.reduceAdd, Int.reduceSub, Int.reduceMul, Int.reduceNeg, Int.reduceLT, Int.reduceLE, Int.reduceToNat, Int.reduceBEq, Int.reduceNe, reduceCtorEq, w64_id, w8_id, w16_id, w32_id, tmod_pos, tdiv_pos, Bool.or_true, Bool.true_or, Bool.or_false, Bool.false_or, Bool.and_false, Bool.false_and, condK_decide, (s8.front 2).get, (s8.front 5).get, ex]
      exact fin _ _ _ _ (by simp) ((((((s8.drop2.front 4).tail.front 4).tail.front 3).front 1).front 3)) z2 (by omega)
  · simp (maxSteps := 2000000) (disch := first | (simp only [go_sem, Nat.reduceBEq, Nat.reduceAdd, Nat.reduceMul, Nat.reduceSub, Nat.reduceEqDiff, Nat.reduceLeDiff, Nat.reduceLT, Int.reduceEq, Int.reduceAdd, Int.reduceSub, Int.reduceMul, Int.reduceNeg, Int.reduceLT, Int.reduceLE, Int.reduceToNat, Int.reduceBEq, Int.reduceNe, reduceCtorEq, d1, d2, d3, d4, d5, d6, d7]; done) | omega | (simp only [go_sem, Nat.reduceBEq, Nat.reduceAdd, Nat.reduceMul, Nat.reduceSub, Nat.reduceEqDiff, Nat.reduceLeDiff, Nat.reduceLT, Int.reduceEq, Int.reduceAdd, Int.reduceSub, Int.reduceMul, Int.reduceNeg, Int.reduceLT, Int.reduceLE, Int.reduceToNat, Int.reduceBEq, Int.reduceNe, reduceCtorEq, d1, d2, d3, d4, d5, d6, d7]; omega)) only [go_sem, Nat.reduceBEq, Nat.reduceAdd, Nat.reduceMul, Nat.reduceSub, Nat.reduceEqDiff, Nat.reduceLeDiff, Nat.reduceLT, Int.reduceEq, Int.reduceAdd, Int.reduceSub, Int.reduceMul, Int.reduceNeg, Int.reduceLT, Int.reduceLE, Int.reduceToNat, Int.reduceBEq, Int.reduceNe, reduceCtorEq, w64_id, w8_id, w16_id, w32_id, tmod_pos, tdiv_pos, Bool.or_true, Bool.true_or, Bool.or_false, Bool.false_or, Bool.and_false, Bool.false_and, condK_decide, d1, d2, d3, d4, d5, d6, d7]
    exact fin _ _ _ _ rfl (s0 _).tail ok (by omega)
end
end Go.Eng
