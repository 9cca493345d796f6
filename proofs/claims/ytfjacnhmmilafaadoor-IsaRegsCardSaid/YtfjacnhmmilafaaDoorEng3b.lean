/-
  THE ENGINE, PART 3b: a drawn region: a head that only reads, a middle in a fixed order, an end that only reads.
-/
import Derived.Test.YtfjacnhmmilafaaDoorEng3
namespace Go.Eng
set_option linter.unusedSimpArgs false
set_option linter.unusedVariables false
set_option maxRecDepth 16000
set_option maxHeartbeats 4000000
open Go

section
variable {P : Program} {md : Region.Mode} {ops : Array Oper} {w : World}

/-- Whatever of the head is open, nothing from n on may begin. -/
def Waits (md : Region.Mode) (ops : Array Oper) (n : Nat) : Prop :=
  ∀ listed, HeadInv md ops n listed → ∀ i, i < n → listed.getD i true = false → ∀ t, n ≤ t → t ∉ Region.ready md ops listed

/-- Each operation behind n waits for one that stands ahead of it, not ahead of n. -/
def chainB2 (md : Region.Mode) (ops : Array Oper) (n : Nat) : Bool :=
  (List.range ops.size).all fun t => decide (t ≤ n) || (List.range t).any fun s => decide (n ≤ s) && Region.waitsFor md ops t s

theorem not_ready {t s : Nat} {listed : Array Bool} (hw : Region.waitsFor md ops t s = true) (hu : listed.getD s true = false) : t ∉ Region.ready md ops listed := by
  intro hr
  obtain ⟨oj, hoj, e, he, hb, hon⟩ := Region.waitsFor_spec hw
  obtain ⟨_, ot, hot, hall⟩ := mem_ready.1 hr
  obtain rfl : oj = ot := Option.some.inj (hoj.symm.trans hot)
  have := hall e he hb
  rw [hon, getD_both hu] at this
  cases this

theorem head_waits {n : Nat} {listed : Array Bool} (hs : Region.sinkB md ops n = true) (inv : HeadInv md ops n listed) : ∀ (d i : Nat), n - i ≤ d → i < n → listed.getD i true = false → n ∉ Region.ready md ops listed := by
  intro d
  induction d with
  | zero => intro i hd hi; omega
  | succ d ih =>
    intro i hd hi hun
    obtain ⟨j, hj, hj2⟩ := List.any_eq_true.1 (List.all_eq_true.1 hs i (List.mem_range.2 hi))
    simp only [Bool.and_eq_true, decide_eq_true_eq] at hj2
    have hjn := List.mem_range.1 hj
    by_cases e : j = n
    · subst e; exact not_ready hj2.2 hun
    · refine ih j (by omega) (by omega) ?_
      obtain ⟨oj, hoj, e, he, hb, hon⟩ := Region.waitsFor_spec hj2.2
      cases hl : listed.getD j false with
      | false => exact getD_in (by rw [inv.size]; exact (Array.getElem?_eq_some_iff.1 hoj).1) hl
      | true =>
        have := inv.closed j oj hoj hl e he hb
        rw [hon, getD_both hun] at this
        cases this

theorem waits_of {n : Nat} (hs : Region.sinkB md ops n = true) (hc : chainB2 md ops n = true) : Waits md ops n := by
  intro listed inv i hi hun t ht hr
  by_cases e : t = n
  · subst e; exact head_waits hs inv _ i (Nat.le_refl _) hi hun hr
  · have htlt : t < ops.size := (Array.getElem?_eq_some_iff.1 (mem_ready.1 hr).2.choose_spec.1).1
    have h1 := List.all_eq_true.1 hc t (List.mem_range.2 htlt)
    simp only [Bool.or_eq_true, decide_eq_true_eq] at h1
    obtain ⟨s, hs', h2⟩ := List.any_eq_true.1 (h1.resolve_left (by omega))
    simp only [Bool.and_eq_true, decide_eq_true_eq] at h2
    have := List.mem_range.1 hs'
    exact not_ready h2.2 (inv.tail s h2.1 (by omega)) hr

theorem head_first {n i : Nat} {oi : Oper} {v : Value} {L : Array Bool → Act → Prop} (hW : Waits md ops n) (hi : ops[i]? = some oi) (hsel : ∀ (j : Nat) (o : Oper) cs b, ops[j]? = some o → o.op ≠ .select cs b) (hin : i < n)
    (hdone : ∀ listed a, L listed a → ∀ j ∈ Region.ready md ops listed, n ≤ j) :
    ∀ (f : Nat) (listed : Array Bool) (a : Act), HeadInv md ops n listed →
      (∀ j oj, ops[j]? = some oj → j ≠ i → listed.getD j true = false → (∀ e ∈ oj.after, Region.binds md e = true → e.on ≠ i) → oi.apart ops oj = true) →
      i ∈ Region.ready md ops listed → YieldsAt P ops w oi v a →
      wpAnyL P md ops w n L f (listed.setIfInBounds i true) (a.put oi.dst v) → wpAnyL P md ops w n L (f + 1) listed a := by
  intro f
  induction f with
  | zero =>
    intro listed a inv _ hr hy H
    refine ⟨List.ne_nil_of_mem hr, fun j hj => ?_⟩
    have hjn : j < n := Nat.lt_of_not_le fun h => hW listed inv i hin (mem_ready.1 hr).1 j h hj
    refine ⟨hjn, ?_⟩
    by_cases e : j = i
    · subst e; exact hy.stOp hi H
    · exact absurd (hdone _ _ H j (ready_mono hj e)) (by omega)
  | succ f ih =>
    intro listed a inv hfree hr hy H
    refine ⟨List.ne_nil_of_mem hr, fun j hj => ?_⟩
    have hun := (mem_ready.1 hr).1
    have hjn : j < n := Nat.lt_of_not_le fun h => hW listed inv i hin hun j h hj
    refine ⟨hjn, ?_⟩
    by_cases e : j = i
    · subst e; exact hy.stOp hi H
    · have h1 := (H.2 j (ready_mono hj e)).2
      obtain ⟨hjun, oj, hoj, hall⟩ := mem_ready.1 hj
      have hno : ∀ d ∈ oj.after, Region.binds md d = true → d.on ≠ i := fun d hd hb heq => by
        have := hall d hd hb
        rw [heq, getD_both hun] at this
        cases this
      have h2 := stOp_put hoj (hfree j oj hoj e hjun hno) (fun cs b => hsel i oi cs b hi) (fun cs b => hsel j oj cs b hoj) hy h1
      refine stOp_mono (fun a' h3 => ih (listed.setIfInBounds j true) a' (inv.set hj hjn) (fun k ok hk hki hku hkn => ?_) (ready_mono hr (Ne.symm e)) h3.1 ?_) h2
      · refine hfree k ok hk hki ?_ hkn
        by_cases q : j = k
        · subst q; exact hjun
        · rw [getD_set_ne true q] at hku; exact hku
      · rw [Array.setIfInBounds_comm _ _ e]
        exact h3.2

/-- The head in the order of the text; then B. -/
def headB (md : Region.Mode) (ops : Array Oper) (B : Array Bool → Bool) : Nat → Nat → Array Bool → Bool
  | 0, _, listed => B listed
  | f + 1, k, listed => (Region.ready md ops listed).contains k && Region.free md ops listed k && headB md ops B f (k + 1) (listed.setIfInBounds k true)

theorem head_lex {n : Nat} {Lq : Act → Prop} {B : Array Bool → Bool} (hW : Waits md ops n) (hsel : Region.noSelect ops = true) (hB0 : ∀ listed, B listed = true → ∀ j ∈ Region.ready md ops listed, n ≤ j) :
    ∀ (l : List Oper) (k : Nat) (listed : Array Bool) (a : Act), (∀ j, j < l.length → l[j]? = ops[k + j]?) → k + l.length = n → HeadInv md ops n listed →
    headB md ops B l.length k listed = true → wpStill P ops w Lq l a → wpAnyL P md ops w n (fun listed' a' => B listed' = true ∧ Lq a') l.length listed a
  | [], k, listed, a, _, _, _, hB, h => ⟨hB, h⟩
  | o :: l, k, listed, a, hl, hk, inv, hB, h => by
    have h0 : ops[k]? = some o := by simpa using (hl 0 (by simp)).symm
    simp only [List.length_cons, headB, Bool.and_eq_true] at hB hk
    have hr' : k ∈ Region.ready md ops listed := by simpa using hB.1.1
    have hst : stOp P ops w k (wpStill P ops w Lq l) a := by unfold stOp; simp only [h0]; exact h
    obtain ⟨v, hy, hK⟩ := yieldsAt_of_stOp h0 hst
    exact head_first hW h0 (Region.noSelect_spec hsel) (by omega) (fun listed' a' hL => hB0 listed' hL.1) l.length listed a inv (Region.free_spec h0 hB.1.2) hr' hy
      (head_lex hW hsel hB0 l (k + 1) _ _ (fun j hj => by have := hl (j + 1) (by simp; omega); simpa [Nat.add_assoc, Nat.add_comm 1 j] using this) (by omega) (inv.set hr' (by omega)) hB.2 hK)

/-- The middle in a fixed order; the end, which only reads, in any. -/
def midB (md : Region.Mode) (ops : Array Oper) (r : Nat) : Nat → Nat → Array Bool → Bool
  | 0, k, listed => Region.lexFrom md ops r k listed
  | g + 1, k, listed => decide (Region.ready md ops listed = [k]) && midB md ops r g (k + 1) (listed.setIfInBounds k true)

/-- A list of operations, one behind the other; then K. -/
def wpListK (P : Program) (ops : Array Oper) (Q : Exit → Act → World → Prop) (K : Act → World → Prop) : List Oper → Act → World → Prop
  | [], a, w => K a w
  | o :: l, a, w => if Region.wanted o (yielded ops a.tmps) then o.wp P a w (wpListK P ops Q K l) Q ∨ (o.asks P a w ∧ LetsOut Q) else wpListK P ops Q K l (a.put o.dst undef) w

theorem wpAny_of_mid {Q : Exit → Act → World → Prop} (hsel : Region.noSelect ops = true) (rest : List Oper) : ∀ (l : List Oper) (k : Nat) (listed : Array Bool) (a : Act) (w : World), (∀ j, (l ++ rest)[j]? = ops[k + j]?) →
    midB md ops rest.length l.length k listed = true → wpListK P ops Q (fun a' w' => wpStill P ops w' (fun a'' => Q .normal a'' w') rest a') l a w → wpAny P md ops Q (l.length + rest.length) listed a w
  | [], k, listed, a, w, hl, hB, h => by
    have := wpAnyS_lex (md := md) hsel rest k listed a (by simpa using hl) hB h
    simpa using wpAny_of_still (Q' := Q) (fun _ h => h) _ _ _ this
  | o :: l, k, listed, a, w, hl, hB, h => by
    have h0 : ops[k]? = some o := by simpa using (hl 0).symm
    simp only [List.length_cons, midB, Bool.and_eq_true, decide_eq_true_eq] at hB
    rw [show (o :: l).length + rest.length = (l.length + rest.length) + 1 by simp; omega]
    refine ⟨fun h1 => (by rw [hB.1] at h1; cases h1), fun i hi => ?_⟩
    rw [hB.1] at hi
    obtain rfl : i = k := by simpa using hi
    have hw : wpOp P ops Q i (wpListK P ops Q (fun a' w' => wpStill P ops w' (fun a'' => Q .normal a'' w') rest a') l) a w := by unfold wpOp; simp only [h0]; exact h
    exact wpOp_mono (fun a' w' h' => wpAny_of_mid hsel rest l (i + 1) _ a' w' (fun j => by have := hl (j + 1); simpa [Nat.add_assoc, Nat.add_comm 1 j] using this) hB.2 h') hw

theorem midB_ready {r g k : Nat} {listed : Array Bool} (hg : 0 < g) (h : midB md ops r g k listed = true) : ∀ j ∈ Region.ready md ops listed, k ≤ j := by
  cases g with
  | zero => omega
  | succ g =>
    intro j hj
    simp only [midB, Bool.and_eq_true, decide_eq_true_eq] at h
    rw [h.1] at hj
    have : j = k := by simpa using hj
    omega

/-- n: the head; g: the middle; r: the end. -/
def lexMidB (ops : Array Oper) (n g r : Nat) : Bool :=
  Region.noSelect ops && decide (0 < g) && decide (n + g + r = ops.size) && Region.sinkB .any ops n && chainB2 .any ops n && headB .any ops (midB .any ops r g n) n 0 (Array.replicate ops.size false)

theorem wp_region_mid {id : Nat} {Q : Exit → Act → World → Prop} {a : Act} (n g r : Nat) (hm : P.follows .mixedOrders = true) (hB : lexMidB ops n g r = true)
    (h : wpStill P ops { w with drawn := w.drawn + 1 } (fun a' => wpListK P ops Q (fun a' w' => wpStill P ops w' (fun a'' => Q .normal a'' w') (ops.toList.drop (n + g)) a') ((ops.toList.drop n).take g) a' { w with drawn := w.drawn + 1 }) (ops.toList.take n) a) : (Code.region id ops true).wp P Q a w := by
  simp only [lexMidB, Bool.and_eq_true, decide_eq_true_eq] at hB
  obtain ⟨⟨⟨⟨⟨hsel, hg⟩, hz⟩, hs⟩, hc⟩, hlex⟩ := hB
  have hlen : ops.toList.length = ops.size := by simp
  have l1 : (ops.toList.take n).length = n := by rw [List.length_take, hlen]; omega
  have l2 : ((ops.toList.drop n).take g).length = g := by rw [List.length_take, List.length_drop, hlen]; omega
  have l3 : (ops.toList.drop (n + g)).length = r := by rw [List.length_drop, hlen]; omega
  have inv0 : HeadInv .any ops n (Array.replicate ops.size false) :=
    ⟨by simp, fun j oj _ hl => (by rw [getD_replicate_false] at hl; cases hl), fun t _ ht => getD_in (by simpa using ht) (getD_replicate_false _ _)⟩
  have H := head_lex (md := .any) (B := midB .any ops r g n) (waits_of hs hc) hsel (fun listed hb => midB_ready hg hb) (ops.toList.take n) 0 _ a (fun j hj => by
    rw [l1] at hj; simp [hj]) (by omega) inv0 (by rw [l1]; exact hlex) h
  refine wp_region_any hm ?_
  have := wpAny_of_head (Q' := Q) (g := g + r) (fun listed a' hL => by
    have := wpAny_of_mid (md := .any) (Q := Q) hsel (ops.toList.drop (n + g)) ((ops.toList.drop n).take g) n listed a' { w with drawn := w.drawn + 1 } (fun j => by
      rw [← List.drop_drop, List.take_append_drop, List.getElem?_drop]; simp) (by rw [l2, l3]; exact hL.1) hL.2
    rwa [l2, l3] at this) _ _ _ H
  rw [l1, show n + (g + r) = ops.size by omega] at this
  exact this
end
end Go.Eng
