/-
  Layer 12: all slots that are not empty, as the document lists them.
-/
import Derived.Test.YtlkofpoginokbaaCsq1
import Derived.Test.YtlkofpoginokbaaRefL
namespace Go.Eng
set_option linter.unusedSimpArgs false
set_option linter.unusedVariables false
set_option maxRecDepth 16000
set_option maxHeartbeats 4000000
open Go Go.Proofs
def slotR (n : Nd) (i : Nat) : List (Int × Int) := match n.S[i]? with
  | some c => if c = Cap.zero then [] else [(n.I, (i : Int))]
  | none => []
def fullTo (n : Nd) (j : Nat) : List (Int × Int) := (List.range j).flatMap (slotR n)
def fullNode (n : Nd) : List (Int × Int) := fullTo n n.S.length
def fullN (L : List Nd) : List (Int × Int) := L.flatMap fullNode
theorem slotR_len (n : Nd) (i : Nat) : (slotR n i).length ≤ 1 := by
  unfold slotR
  split
  · split <;> simp
  · simp
theorem fullTo_succ (n : Nd) (j : Nat) : fullTo n (j + 1) = fullTo n j ++ slotR n j := by
  unfold fullTo
  rw [List.range_succ, List.flatMap_append]
  simp
theorem fullTo_len (n : Nd) : ∀ j, (fullTo n j).length ≤ j
  | 0 => by simp [fullTo]
  | j + 1 => by
    rw [fullTo_succ, List.length_append]
    have := fullTo_len n j
    have := slotR_len n j
    omega
theorem fullNode_len {n : Nd} (w : n.wf) : (fullNode n).length ≤ 16 := Nat.le_trans (fullTo_len n _) w.len16
theorem fullN_len : ∀ {L : List Nd}, (∀ n ∈ L, n.wf) → (fullN L).length ≤ 16 * L.length
  | [], _ => by simp [fullN]
  | n :: L, h => by
    have h1 := fullNode_len (h n (by simp))
    have h2 := fullN_len (L := L) fun m hm => h m (by simp [hm])
    unfold fullN at h2 ⊢
    rw [List.flatMap_cons, List.length_append, List.length_cons]
    omega
def ltR (x y : Int × Int) : Prop := x.1 < y.1 ∨ (x.1 = y.1 ∧ x.2 < y.2)
theorem slotR_mem {n : Nd} {i : Nat} {x : Int × Int} (h : x ∈ slotR n i) : x.1 = n.I ∧ x.2 = i ∧ ∃ c, n.S[i]? = some c ∧ c ≠ Cap.zero := by
  unfold slotR at h
  split at h
  · rename_i c hc
    split at h
    · cases h
    · rename_i hz
      simp only [List.mem_singleton] at h
      subst h
      exact ⟨rfl, rfl, c, hc, hz⟩
  · cases h
theorem fullTo_sorted (n : Nd) : ∀ j, (fullTo n j).Pairwise ltR ∧ ∀ x ∈ fullTo n j, x.1 = n.I ∧ 0 ≤ x.2 ∧ x.2 < j
  | 0 => by simp [fullTo]
  | j + 1 => by
    obtain ⟨h1, h2⟩ := fullTo_sorted n j
    rw [fullTo_succ]
    refine ⟨List.pairwise_append.2 ⟨h1, ?_, fun a ha b hb => ?_⟩, fun x hx => ?_⟩
    · have := slotR_len n j
      match h : slotR n j with
      | [] => simp
      | [x] => simp
      | x :: y :: l => rw [h] at this; simp at this
    · have q1 := h2 a ha
      have q2 := slotR_mem hb
      exact .inr ⟨by omega, by omega⟩
    · rcases List.mem_append.1 hx with hx | hx
      · have := h2 x hx; omega
      · have := slotR_mem hx; omega
theorem fullN_sorted {L : List Nd} (hw : wfL L) : (fullN L).Pairwise ltR := by
  unfold fullN
  rw [List.pairwise_flatMap]
  refine ⟨fun n hn => (fullTo_sorted n _).1, ?_⟩
  have := List.pairwise_map.1 hw.2
  refine this.imp ?_
  intro a b hab x hx y hy
  have q1 := ((fullTo_sorted a _).2 x hx).1
  have q2 := ((fullTo_sorted b _).2 y hy).1
  exact .inl (by omega)
theorem ltR_trans {x y z : Int × Int} (h1 : ltR x y) (h2 : ltR y z) : ltR x z := by unfold ltR at *; omega
theorem ltR_irrefl (x : Int × Int) : ¬ ltR x x := by unfold ltR; omega
theorem ltR_tri (x y : Int × Int) : ltR x y ∨ x = y ∨ ltR y x := by
  unfold ltR
  by_cases h1 : x.1 = y.1
  · by_cases h2 : x.2 = y.2
    · exact .inr (.inl (Prod.ext h1 h2))
    · omega
  · omega
/-- Two lists of the same, one rising, the other one nowhere falling: one list. -/
theorem sorted_unique : ∀ {l m : List (Int × Int)}, l.Perm m → m.Pairwise ltR → l.Pairwise (fun x y => ¬ ltR y x) → l = m
  | [], m, p, _, _ => by rw [p.nil_eq]
  | x :: l, [], p, _, _ => by have := p.length_eq; simp at this
  | x :: l, y :: m, p, hm, hl => by
    obtain ⟨m1, m2⟩ := List.pairwise_cons.1 hm
    obtain ⟨l1, l2⟩ := List.pairwise_cons.1 hl
    have e : x = y := by
      have hx : x ∈ y :: m := p.subset (by simp)
      have hy : y ∈ x :: l := p.symm.subset (by simp)
      rcases List.mem_cons.1 hx with q | q
      · exact q
      · rcases List.mem_cons.1 hy with r | r
        · exact r.symm
        · exact absurd (m1 x q) (l1 y r)
    subst e
    rw [sorted_unique (List.perm_cons x |>.1 p) m2 l2]
end Go.Eng
