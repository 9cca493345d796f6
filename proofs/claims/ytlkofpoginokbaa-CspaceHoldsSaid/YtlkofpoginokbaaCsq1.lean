/-
  Layer 12: the nodes stay right.
-/
import Derived.Test.YtlkofpoginokbaaCsr7
namespace Go.Eng
set_option linter.unusedSimpArgs false
set_option linter.unusedVariables false
set_option maxRecDepth 16000
set_option maxHeartbeats 4000000
open Go Go.Proofs
theorem sorted_len {hi : Int} : ∀ (l : List Int) (lo : Int), l.Pairwise (· < ·) → (∀ x ∈ l, lo ≤ x ∧ x ≤ hi) → lo ≤ hi + 1 → (l.length : Int) ≤ hi + 1 - lo
  | [], lo, _, _, h => by simp; omega
  | x :: l, lo, hp, hx, h => by
    obtain ⟨h1, h2⟩ := List.pairwise_cons.1 hp
    have hb := hx x (by simp)
    have := sorted_len l (x + 1) h2 (fun y hy => ⟨by have := h1 y hy; omega, (hx y (by simp [hy])).2⟩) (by omega)
    simp only [List.length_cons]
    omega
theorem wfL.len {L : List Nd} (hw : wfL L) : L.length ≤ 1024 := by
  have := sorted_len (hi := 1023) (L.map (·.I)) 0 hw.2 (fun x hx => by
    obtain ⟨n, hn, rfl⟩ := List.mem_map.1 hx
    exact ⟨(hw.1 n hn).1, (hw.1 n hn).2.1⟩) (by omega)
  rw [List.length_map] at this
  omega
theorem wfL.nil : wfL [] := ⟨by simp, List.Pairwise.nil⟩
theorem twN {p : Nd → Bool} : ∀ (l : List Nd), ∀ x ∈ l.takeWhile p, p x = true
  | [], x, h => by simp at h
  | y :: l, x, h => by
    rw [List.takeWhile_cons] at h
    split at h
    · rename_i hp
      rcases List.mem_cons.1 h with rfl | h
      · exact hp
      · exact twN l x h
    · simp at h
theorem dwN {x : Nd} : ∀ (L : List Nd), L.Pairwise (fun a b => a.I < b.I) → ∀ r ∈ L.dropWhile (fun r => decide (r.I < x.I)), x.I ≤ r.I
  | [], _, r, h => by simp at h
  | y :: L, hs, r, h => by
    rw [List.dropWhile_cons] at h
    obtain ⟨h1, h2⟩ := List.pairwise_cons.1 hs
    split at h
    · exact dwN L h2 r h
    · rename_i hp
      simp only [decide_eq_true_eq, Int.not_lt] at hp
      rcases List.mem_cons.1 h with rfl | h
      · exact hp
      · have := h1 r h; omega
theorem insN_mem {L : List Nd} {x r : Nd} : r ∈ insN L x ↔ r = x ∨ r ∈ L := by
  unfold insN
  constructor
  · intro h
    rcases List.mem_append.1 h with h | h
    · exact .inr ((List.takeWhile_sublist _).subset h)
    · rcases List.mem_cons.1 h with h | h
      · exact .inl h
      · exact .inr ((List.dropWhile_sublist _).subset h)
  · rintro (rfl | h)
    · simp
    · have : r ∈ L.takeWhile (fun r => decide (r.I < x.I)) ++ L.dropWhile (fun r => decide (r.I < x.I)) := by rw [List.takeWhile_append_dropWhile]; exact h
      rcases List.mem_append.1 this with q | q
      · exact List.mem_append_left _ q
      · exact List.mem_append_right _ (List.mem_cons_of_mem _ q)
theorem insN_sorted {L : List Nd} {x : Nd} (hs : L.Pairwise (fun a b => a.I < b.I)) (hx : ∀ r ∈ L, r.I ≠ x.I) : (insN L x).Pairwise (fun a b => a.I < b.I) := by
  unfold insN
  rw [List.pairwise_append]
  refine ⟨hs.sublist (List.takeWhile_sublist _), ?_, ?_⟩
  · rw [List.pairwise_cons]
    refine ⟨fun r hr => ?_, hs.sublist (List.dropWhile_sublist _)⟩
    have h1 := dwN L hs r hr
    have h2 := hx r ((List.dropWhile_sublist _).subset hr)
    omega
  · intro a ha b hb
    have h1 := twN _ a ha
    simp only [decide_eq_true_eq] at h1
    rcases List.mem_cons.1 hb with rfl | hb
    · exact h1
    · have := dwN L hs b hb; omega
theorem wf_zero : RightP Cap.zero ∧ Cap.zero.fit := by refine ⟨by decide, ?_⟩; unfold Cap.fit i64ok Cap.zero; decide
theorem findN_none {L : List Nd} {id : Int} (h : findN L id = none) : ∀ r ∈ L, r.I ≠ id := by
  intro r hr
  have := List.find?_eq_none.1 h r hr
  simpa using this
theorem wfL.add {L : List Nd} (hw : wfL L) (id radix : Int) : wfL (addN L id radix).1 := by
  unfold addN
  split
  · exact hw
  · rename_i h
    split
    · exact hw
    · rename_i h2
      have hn : findN L id = none := by simpa using h2
      refine ⟨fun n hn => ?_, ?_⟩
      · rcases insN_mem.1 hn with rfl | hn
        · obtain ⟨n, rfl⟩ := Int.eq_ofNat_of_zero_le (show 0 ≤ radix by omega)
          refine ⟨by simp only; omega, by simp only; omega, by simp only; omega, by simp only; omega, by simp, fun c hc => ?_⟩
          obtain rfl := List.eq_of_mem_replicate hc
          exact wf_zero
        · exact hw.1 n hn
      · have := insN_sorted (x := ⟨id, radix.toNat, List.replicate (2 ^ radix.toNat) Cap.zero⟩) (List.pairwise_map.1 hw.2) (findN_none hn)
        exact List.pairwise_map.2 this
theorem setS_ids (id : Int) (S : List Cap) : ∀ L : List Nd, (setS L id S).map (·.I) = L.map (·.I)
  | [] => rfl
  | n :: L => by
    unfold setS
    split
    · rfl
    · rw [List.map_cons, List.map_cons, setS_ids id S L]
theorem setS_mem {id : Int} {S : List Cap} {m : Nd} : ∀ {L : List Nd}, m ∈ setS L id S → m ∈ L ∨ ∃ n, findN L id = some n ∧ m = { n with S := S }
  | [], h => by cases h
  | n :: L, h => by
    unfold setS at h
    unfold findN
    rw [List.find?_cons]
    split at h
    · rename_i q
      rcases List.mem_cons.1 h with rfl | h
      · right; exact ⟨n, by simp [q], rfl⟩
      · left; simp [h]
    · rename_i q
      rw [show (n.I == id) = false by simpa using q]
      rcases List.mem_cons.1 h with rfl | h
      · left; simp
      · rcases setS_mem h with h | h
        · left; simp [h]
        · right; exact h
theorem wfL.set {L : List Nd} (hw : wfL L) {id : Int} {n : Nd} (hn : findN L id = some n) {S : List Cap} (h1 : S.length = n.S.length) (h2 : ∀ c ∈ S, RightP c ∧ c.fit) : wfL (setS L id S) := by
  refine ⟨fun m hm => ?_, by rw [setS_ids]; exact hw.2⟩
  rcases setS_mem hm with hm | ⟨n', hn', rfl⟩
  · exact hw.1 m hm
  · rw [hn] at hn'
    cases hn'
    have w := hw.1 n (List.mem_of_find?_eq_some hn)
    exact ⟨w.1, w.2.1, w.2.2.1, w.2.2.2.1, by simp only; rw [h1]; exact w.2.2.2.2.1, h2⟩
theorem wfL.put {L : List Nd} (hw : wfL L) (node index : Int) (c : Cap) (hf : c.fit) : wfL (putN L node index c).1 := by
  unfold putN
  cases hn : findN L node with
  | none => exact hw
  | some n =>
    simp only
    split
    · split
      · rename_i g r
        refine hw.set hn (List.length_set ..) fun x hx => ?_
        rcases List.mem_or_eq_of_mem_set hx with q | rfl
        · exact (hw.1 n (List.mem_of_find?_eq_some hn)).2.2.2.2.2 x q
        · exact ⟨r, hf⟩
      · exact hw
    · exact hw
theorem wfL.drop {L : List Nd} (hw : wfL L) (id : Int) : wfL (dropN L id).1 := by
  unfold dropN
  cases hn : findN L id with
  | none => exact hw
  | some n =>
    simp only
    split
    · have hs : (L.eraseP (fun n => n.I == id)).Sublist L := List.eraseP_sublist
      exact ⟨fun m hm => hw.1 m (hs.subset hm), hw.2.sublist (hs.map _)⟩
    · exact hw
end Go.Eng
