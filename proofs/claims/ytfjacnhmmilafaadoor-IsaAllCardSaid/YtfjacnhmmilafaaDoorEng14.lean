/-
  THE ENGINE, PART 14: two things that are told by footprints, as one.
-/
import Derived.Test.YtfjacnhmmilafaaDoorEng13
namespace Go.Eng
set_option linter.unusedSimpArgs false
set_option linter.unusedVariables false
set_option maxRecDepth 16000
set_option maxHeartbeats 4000000
open Go

def pairO (Φ Ψ : Heap → (Nat → Prop) → Prop) : Heap → (Nat → Prop) → Prop := fun h X => ∃ Y Z : Nat → Prop, Φ h Y ∧ Ψ h Z ∧ (∀ b, Y b → ¬ Z b) ∧ (∀ b, X b ↔ Y b ∨ Z b)
def cellO (b : Nat) (o : Obj) : Heap → (Nat → Prop) → Prop := fun h X => h[b]? = some o ∧ X b
theorem cellO_local {b : Nat} {o : Obj} : Local (cellO b o) := fun h h' X ⟨h1, h2⟩ k => ⟨(k b h2 (lt_of_get h1)).trans h1, h2⟩
theorem pairO_local {Φ Ψ : Heap → (Nat → Prop) → Prop} (h1 : Local Φ) (h2 : Local Ψ) : Local (pairO Φ Ψ) := fun _ _ _ ⟨Y, Z, k1, k2, k3, k4⟩ e =>
  ⟨Y, Z, h1 _ _ _ k1 fun b hb => e b ((k4 b).2 (.inl hb)), h2 _ _ _ k2 fun b hb => e b ((k4 b).2 (.inr hb)), k3, k4⟩

section
variable {h : Heap} {F : List SP}
theorem Sat.toOwn {b : Nat} {o : Obj} (hs : Sat h (cellAt b o :: F)) : Sat h (own (cellO b o) :: F) := by
  have hb := hs.get
  exact hs.imp fun a ha => ⟨h, (· = b), ⟨hb, rfl⟩, fun i hi => by subst hi; exact ⟨lt_of_get hb, by rw [show a i = some o from ha, hb]⟩⟩
theorem Sat.ofOwn {b : Nat} {o : Obj} (hs : Sat h (own (cellO b o) :: F)) : Sat h (cellAt b o :: F) :=
  hs.imp fun a ⟨k, X, ⟨h1, h2⟩, h3⟩ => (h3 b h2).2.trans h1
theorem own_at {Φ : Heap → (Nat → Prop) → Prop} (hl : Local Φ) {a : Part} (ha : Part.le a (hp h)) {k : Heap} {X : Nat → Prop} (h1 : Φ k X) (h2 : ∀ b, X b → b < k.size ∧ a b = k[b]?) : Φ h X ∧ ∀ b, X b → b < h.size ∧ a b = h[b]? ∧ (a b).isSome = true := by
  have hk : ∀ b, X b → k[b]? = h[b]? ∧ b < h.size ∧ (a b).isSome = true := fun b hb => by
    obtain ⟨q1, q2⟩ := h2 b hb
    rw [Array.getElem?_eq_getElem q1] at q2 ⊢
    have := ha b _ q2
    exact ⟨this.symm, lt_of_get this, by rw [q2]; rfl⟩
  exact ⟨hl _ _ _ h1 fun b hb _ => (hk b hb).1.symm, fun b hb => ⟨(hk b hb).2.1, (h2 b hb).2.trans (hk b hb).1, (hk b hb).2.2⟩⟩
theorem Sat.pair {Φ Ψ : Heap → (Nat → Prop) → Prop} (l1 : Local Φ) (l2 : Local Ψ) (hs : Sat h (own Φ :: own Ψ :: F)) : Sat h (own (pairO Φ Ψ) :: F) := by
  obtain ⟨a, b, h1, h2, h3, ⟨k, Y, k1, k2⟩, c, d, m1, m2, m3, ⟨j, Z, j1, j2⟩, m5⟩ := hs
  obtain ⟨p1, p2⟩ := own_at l1 h2 k1 k2
  obtain ⟨q1, q2⟩ := own_at l2 (m2.trans h3) j1 j2
  have hac := h1.mono (Part.le.refl _) m2
  have had := h1.mono (Part.le.refl _) m3
  refine ⟨Part.join a c, d, (Part.apart_join had.symm m1.symm).symm, Part.join_le h2 (m2.trans h3), m3.trans h3, ⟨h, fun b => Y b ∨ Z b, ⟨Y, Z, p1, q1, fun b hy hz => ?_, fun _ => Iff.rfl⟩, fun b hb => ?_⟩, m5⟩
  · rcases hac b with e | e
    · have := (p2 b hy).2.2; rw [e] at this; cases this
    · have := (q2 b hz).2.2; rw [e] at this; cases this
  · rcases hb with hb | hb
    · refine ⟨(p2 b hb).1, ?_⟩
      obtain ⟨o, ho⟩ := Option.isSome_iff_exists.1 (p2 b hb).2.2
      rw [Part.join_left b o ho, ← (p2 b hb).2.1, ho]
    · refine ⟨(q2 b hb).1, ?_⟩
      obtain ⟨o, ho⟩ := Option.isSome_iff_exists.1 (q2 b hb).2.2
      rw [Part.join_right hac b o ho, ← (q2 b hb).2.1, ho]
theorem Sat.unpair {Φ Ψ : Heap → (Nat → Prop) → Prop} (hs : Sat h (own (pairO Φ Ψ) :: F)) : Sat h (own Φ :: own Ψ :: F) := by
  obtain ⟨a, b, h1, h2, h3, ⟨k, X, ⟨Y, Z, k1, k2, k3, k4⟩, k5⟩, h5⟩ := hs
  classical
  have r1 : Part.le (fun i => if Y i then a i else none) a := fun i o q => by
    simp only at q
    split at q
    · exact q
    · cases q
  have r2 : Part.le (fun i => if Z i then a i else none) a := fun i o q => by
    simp only at q
    split at q
    · exact q
    · cases q
  refine ⟨fun i => if Y i then a i else none, Part.join (fun i => if Z i then a i else none) b, Part.apart_join (fun i => ?_) (h1.mono r1 (Part.le.refl _)), r1.trans h2, Part.join_le (r2.trans h2) h3, ⟨k, Y, k1, fun b hb => ?_⟩,
    fun i => if Z i then a i else none, b, h1.mono r2 (Part.le.refl _), Part.join_left, Part.join_right (h1.mono r2 (Part.le.refl _)), ⟨k, Z, k2, fun b hb => ?_⟩, h5⟩
  · by_cases hy : Y i
    · exact .inr (by simp [k3 i hy])
    · exact .inl (by simp [hy])
  · have := k5 b ((k4 b).2 (.inl hb)); simpa [hb] using this
  · have := k5 b ((k4 b).2 (.inr hb)); simpa [hb] using this
theorem SatP.mem : ∀ {l : List SP} {m : Part} {A : SP}, SatP m l → A ∈ l → ∃ a, Part.le a m ∧ A a
  | B :: l, m, A, ⟨a, b, _, h2, h3, h4, h5⟩, hm => by
    rcases List.mem_cons.1 hm with rfl | hm
    · exact ⟨a, h2, h4⟩
    · obtain ⟨c, k1, k2⟩ := SatP.mem h5 hm
      exact ⟨c, k1.trans h3, k2⟩
theorem Sat.starMem {l : List SP} {A : SP} (hs : Sat h (starL l :: F)) (hm : A ∈ l) : ∃ a, Part.le a (hp h) ∧ A a := by
  obtain ⟨a, _, _, h2, _, h4, _⟩ := hs
  obtain ⟨c, k1, k2⟩ := SatP.mem h4 hm
  exact ⟨c, k1.trans h2, k2⟩
/-- l by its places. -/
def Parts (m : Part) (l : List SP) (a : Nat → Part) : Prop := (∀ i j, i < l.length → j < l.length → i ≠ j → Part.apart (a i) (a j)) ∧ (∀ i, i < l.length → Part.le (a i) m) ∧ ∀ (i : Nat) (A : SP), l[i]? = some A → A (a i)
theorem SatP.parts : ∀ {l : List SP} {m : Part}, SatP m l → ∃ a, Parts m l a
  | [], m, _ => ⟨fun _ _ => none, fun i j hi => by simp at hi, fun i hi => by simp at hi, fun i A q => by simp at q⟩
  | B :: l, m, ⟨b, c, h1, h2, h3, h4, h5⟩ => by
    obtain ⟨a, k1, k2, k3⟩ := SatP.parts h5
    refine ⟨fun i => match i with | 0 => b | i + 1 => a i, fun i j hi hj hne => ?_, fun i hi => ?_, fun i A q => ?_⟩
    · match i, j with
      | 0, 0 => exact (hne rfl).elim
      | 0, j + 1 => exact h1.mono (Part.le.refl _) (k2 j (by simpa using hj))
      | i + 1, 0 => exact (h1.mono (Part.le.refl _) (k2 i (by simpa using hi))).symm
      | i + 1, j + 1 => exact k1 i j (by simpa using hi) (by simpa using hj) (by omega)
    · match i with
      | 0 => exact h2
      | i + 1 => exact (k2 i (by simpa using hi)).trans h3
    · match i with
      | 0 => simp at q; subst q; exact h4
      | i + 1 => exact k3 i A (by simpa using q)
theorem SatP.ofParts : ∀ {l : List SP} {m : Part} (a : Nat → Part), Parts m l a → SatP m l
  | [], _, _, _ => trivial
  | B :: l, m, a, ⟨k1, k2, k3⟩ => by
    refine ⟨a 0, fun x => match a 0 x with | some _ => none | none => m x, fun x => ?_, k2 0 (by simp), fun x o q => ?_, k3 0 B rfl, SatP.ofParts (fun i => a (i + 1)) ⟨fun i j hi hj hne => k1 (i + 1) (j + 1) (by simpa using hi) (by simpa using hj) (by omega), fun i hi x o q => ?_, fun i A q => k3 (i + 1) A (by simpa using q)⟩⟩
    · cases e : a 0 x with
      | none => exact .inl rfl
      | some o => exact .inr (by simp [e])
    · simp only at q
      split at q
      · cases q
      · exact q
    · have h1 := k1 0 (i + 1) (by simp) (by simpa using hi) (by omega) x
      have h2 := k2 (i + 1) (by simpa using hi) x o q
      rcases h1 with e | e
      · simp only [e]; exact h2
      · simp only at q; rw [e] at q; cases q
/-- Brought into another order; what is not named is left. -/
theorem Sat.re {l : List SP} (hs : Sat h l) (is : List Nat) (hn : is.Nodup := by decide) (hl : (is.all fun i => decide (i < l.length)) = true := by rfl) : Sat h (is.map fun i => l.getD i fun _ => True) := by
  obtain ⟨a, k1, k2, k3⟩ := SatP.parts hs
  have hlt : ∀ i (hi : i < is.length), is[i] < l.length := fun i hi => by
    have := List.all_eq_true.1 hl _ (List.getElem_mem hi); simpa using this
  refine SatP.ofParts (fun i => if hi : i < is.length then a is[i] else fun _ => none) ⟨fun i j hi hj hne => ?_, fun i hi => ?_, fun i A q => ?_⟩
  · simp only [List.length_map] at hi hj
    simp only [dif_pos hi, dif_pos hj]
    refine k1 _ _ (hlt i hi) (hlt j hj) fun e => ?_
    rcases Nat.lt_or_gt_of_ne hne with q | q
    · exact List.pairwise_iff_getElem.1 hn i j hi hj q e
    · exact List.pairwise_iff_getElem.1 hn j i hj hi q e.symm
  · simp only [List.length_map] at hi
    simp only [dif_pos hi]; exact k2 _ (hlt i hi)
  · rw [List.getElem?_map] at q
    obtain ⟨x, hx, rfl⟩ := Option.map_eq_some_iff.1 q
    obtain ⟨hi, rfl⟩ := List.getElem?_eq_some_iff.1 hx
    simp only [dif_pos hi]
    exact k3 _ _ (by rw [List.getElem?_eq_getElem (hlt i hi), List.getD_eq_getElem?_getD, List.getElem?_eq_getElem (hlt i hi)]; rfl)
theorem Sat.join {l : List SP} {A : SP} (hs : Sat h (A :: starL l :: F)) : Sat h (starL (l ++ [A]) :: F) := by
  rw [Sat.star, List.append_assoc]
  have h1 := Sat.star.1 hs.swap
  refine h1.perm ?_
  simp
end
end Go.Eng
