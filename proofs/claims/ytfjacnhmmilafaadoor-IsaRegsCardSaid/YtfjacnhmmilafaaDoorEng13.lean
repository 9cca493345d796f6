/-
  THE ENGINE, PART 13: parts of memory, side by side.
-/
import Derived.Test.YtfjacnhmmilafaaDoorEng9
namespace Go.Eng
set_option linter.unusedSimpArgs false
set_option linter.unusedVariables false
set_option maxRecDepth 16000
set_option maxHeartbeats 4000000
open Go

abbrev Part := Nat → Option Obj
abbrev SP := Part → Prop

def Part.le (a b : Part) : Prop := ∀ i o, a i = some o → b i = some o
def Part.apart (a b : Part) : Prop := ∀ i, a i = none ∨ b i = none
def Part.join (a b : Part) : Part := fun i => match a i with | some o => some o | none => b i
def hp (h : Heap) : Part := fun i => h[i]?

theorem Part.le.refl (a : Part) : Part.le a a := fun _ _ h => h
theorem Part.le.trans {a b c : Part} (h : Part.le a b) (k : Part.le b c) : Part.le a c := fun i o q => k i o (h i o q)
theorem Part.apart.symm {a b : Part} (h : Part.apart a b) : Part.apart b a := fun i => (h i).symm
theorem Part.apart.mono {a b a' b' : Part} (h : Part.apart a b) (ha : Part.le a' a) (hb : Part.le b' b) : Part.apart a' b' := fun i => by
  rcases h i with q | q
  · left; cases e : a' i with
    | none => rfl
    | some o => rw [ha i o e] at q; cases q
  · right; cases e : b' i with
    | none => rfl
    | some o => rw [hb i o e] at q; cases q
theorem Part.join_left {a b : Part} : Part.le a (Part.join a b) := fun i o q => by simp [Part.join, q]
theorem Part.join_right {a b : Part} (h : Part.apart a b) : Part.le b (Part.join a b) := fun i o q => by
  rcases h i with z | z
  · simp [Part.join, z, q]
  · rw [z] at q; cases q
theorem Part.join_le {a b m : Part} (ha : Part.le a m) (hb : Part.le b m) : Part.le (Part.join a b) m := fun i o q => by
  unfold Part.join at q
  split at q
  · rename_i o' e; cases q; exact ha i _ e
  · exact hb i o q
theorem Part.apart_join {a b c : Part} (h1 : Part.apart a b) (h2 : Part.apart a c) : Part.apart a (Part.join b c) := fun i => by
  rcases h1 i with q | q
  · exact .inl q
  · rcases h2 i with z | z
    · exact .inl z
    · exact .inr (by simp [Part.join, q, z])

/-- l, side by side in m. -/
def SatP (m : Part) : List SP → Prop
  | [] => True
  | A :: l => ∃ a b, Part.apart a b ∧ Part.le a m ∧ Part.le b m ∧ A a ∧ SatP b l
def Sat (h : Heap) (l : List SP) : Prop := SatP (hp h) l

theorem SatP.mono : ∀ {l : List SP} {m m' : Part}, SatP m l → Part.le m m' → SatP m' l
  | [], _, _, _, _ => trivial
  | _ :: _, _, _, ⟨a, b, h1, h2, h3, h4, h5⟩, hm => ⟨a, b, h1, h2.trans hm, h3.trans hm, h4, h5⟩
theorem SatP.tail {A : SP} {l : List SP} {m : Part} : SatP m (A :: l) → SatP m l := fun ⟨_, _, _, _, h3, _, h5⟩ => h5.mono h3
theorem SatP.swap {A B : SP} {l : List SP} {m : Part} : SatP m (A :: B :: l) → SatP m (B :: A :: l)
  | ⟨a, b, h1, h2, h3, h4, c, d, k1, k2, k3, k4, k5⟩ => by
    refine ⟨c, Part.join a d, ?_, k2.trans h3, Part.join_le h2 (k3.trans h3), k4, a, d, h1.mono (Part.le.refl _) k3, Part.join_left, Part.join_right (h1.mono (Part.le.refl _) k3), h4, k5⟩
    exact Part.apart_join (h1.symm.mono k2 (Part.le.refl _)) k1
theorem SatP.cons {A : SP} {l l' : List SP} (H : ∀ m, SatP m l → SatP m l') {m : Part} : SatP m (A :: l) → SatP m (A :: l') := fun ⟨a, b, h1, h2, h3, h4, h5⟩ => ⟨a, b, h1, h2, h3, h4, H b h5⟩
theorem SatP.perm {l l' : List SP} (p : l.Perm l') : ∀ {m : Part}, SatP m l → SatP m l' := by
  induction p with
  | nil => exact id
  | cons x _ ih => exact SatP.cons fun m => ih
  | swap x y l => exact SatP.swap
  | trans _ _ ih1 ih2 => exact fun h => ih2 (ih1 h)
theorem SatP.imp {A A' : SP} {l : List SP} (H : ∀ a, A a → A' a) {m : Part} : SatP m (A :: l) → SatP m (A' :: l) := fun ⟨a, b, h1, h2, h3, h4, h5⟩ => ⟨a, b, h1, h2, h3, H a h4, h5⟩

/-! ### what may stand in the list -/
def cellAt (b : Nat) (o : Obj) : SP := fun a => a b = some o
def starL (l : List SP) : SP := fun a => SatP a l
def exS {α : Type} (Φ : α → SP) : SP := fun a => ∃ x, Φ x a
def pureS (p : Prop) : SP := fun _ => p
/-- What was there at h0 still is. -/
def oldS (h0 : Heap) : SP := fun a => ∀ i, i < h0.size → a i = h0[i]?

theorem SatP.split : ∀ {l l' : List SP} {m : Part}, SatP m (l ++ l') ↔ ∃ a b, Part.apart a b ∧ Part.le a m ∧ Part.le b m ∧ SatP a l ∧ SatP b l'
  | [], l', m => ⟨fun h => ⟨fun _ => none, m, fun _ => .inl rfl, fun _ _ q => (by cases q), Part.le.refl _, trivial, h⟩, fun ⟨a, b, _, _, h3, _, h5⟩ => h5.mono h3⟩
  | A :: l, l', m => by
    constructor
    · rintro ⟨a, b, h1, h2, h3, h4, h5⟩
      obtain ⟨c, d, k1, k2, k3, k4, k5⟩ := SatP.split.1 h5
      have hac := h1.mono (Part.le.refl _) k2
      have had := h1.mono (Part.le.refl _) k3
      exact ⟨Part.join a c, d, (Part.apart_join had.symm k1.symm).symm, Part.join_le h2 (k2.trans h3), k3.trans h3, ⟨a, c, hac, Part.join_left, Part.join_right hac, h4, k4⟩, k5⟩
    · rintro ⟨a, b, h1, h2, h3, ⟨c, d, k1, k2, k3, k4, k5⟩, h5⟩
      have hcb := h1.mono k2 (Part.le.refl _)
      have hdb := h1.mono k3 (Part.le.refl _)
      exact ⟨c, Part.join d b, Part.apart_join k1 hcb, k2.trans h2, Part.join_le (k3.trans h2) h3, k4, SatP.split.2 ⟨d, b, hdb, Part.join_left, Part.join_right hdb, k5, h5⟩⟩

theorem SatP.star {l F : List SP} {m : Part} : SatP m (starL l :: F) ↔ SatP m (l ++ F) := SatP.split.symm
theorem SatP.ex {α : Type} {Φ : α → SP} {F : List SP} {m : Part} : SatP m (exS Φ :: F) ↔ ∃ x, SatP m (Φ x :: F) :=
  ⟨fun ⟨a, b, h1, h2, h3, ⟨x, h4⟩, h5⟩ => ⟨x, a, b, h1, h2, h3, h4, h5⟩, fun ⟨x, a, b, h1, h2, h3, h4, h5⟩ => ⟨a, b, h1, h2, h3, ⟨x, h4⟩, h5⟩⟩
theorem SatP.pure {p : Prop} {F : List SP} {m : Part} : SatP m (pureS p :: F) ↔ p ∧ SatP m F :=
  ⟨fun ⟨_, _, _, _, h3, h4, h5⟩ => ⟨h4, h5.mono h3⟩, fun ⟨hp, h⟩ => ⟨fun _ => none, m, fun _ => .inl rfl, fun _ _ q => (by cases q), Part.le.refl _, hp, h⟩⟩

section
variable {h : Heap} {F : List SP} {A B : SP}
theorem Sat.perm {l l' : List SP} (hs : Sat h l) (p : l.Perm l') : Sat h l' := SatP.perm p hs
theorem Sat.tail (hs : Sat h (A :: F)) : Sat h F := SatP.tail hs
theorem Sat.imp {A' : SP} (hs : Sat h (A :: F)) (H : ∀ a, A a → A' a) : Sat h (A' :: F) := SatP.imp H hs
theorem Sat.star {l : List SP} : Sat h (starL l :: F) ↔ Sat h (l ++ F) := SatP.star
theorem Sat.ex {α : Type} {Φ : α → SP} : Sat h (exS Φ :: F) ↔ ∃ x, Sat h (Φ x :: F) := SatP.ex
theorem Sat.pure {p : Prop} : Sat h (pureS p :: F) ↔ p ∧ Sat h F := SatP.pure
theorem Sat.swap (hs : Sat h (A :: B :: F)) : Sat h (B :: A :: F) := SatP.swap hs

theorem perm_pick : ∀ (l : List SP) (i : Nat) (hi : i < l.length), l.Perm (l[i] :: l.eraseIdx i)
  | [], i, hi => by simp at hi
  | x :: l, 0, _ => .refl _
  | x :: l, i + 1, hi => by
    simp only [List.getElem_cons_succ, List.eraseIdx_cons_succ]
    exact ((perm_pick l i (by simpa using hi)).cons x).trans (.swap ..)
/-- The i-th, brought to the front. -/
def front (i : Nat) (l : List SP) : List SP := match l[i]? with
  | some A => A :: l.eraseIdx i
  | none => l
theorem Sat.front {l : List SP} (hs : Sat h l) (i : Nat) : Sat h (front i l) := by
  unfold Eng.front
  split
  · rename_i A hA
    obtain ⟨hi, rfl⟩ := List.getElem?_eq_some_iff.1 hA
    exact hs.perm (perm_pick l i hi)
  · exact hs
/-- The first, put back at the i-th place. -/
def back (i : Nat) : List SP → List SP
  | [] => []
  | A :: l => l.take i ++ A :: l.drop i
theorem Sat.back {l : List SP} (hs : Sat h l) (i : Nat) : Sat h (back i l) := by
  cases l with
  | nil => exact hs
  | cons A l =>
    refine hs.perm ?_
    unfold Eng.back
    have := (List.perm_middle (a := A) (l₁ := l.take i) (l₂ := l.drop i)).symm
    rwa [List.take_append_drop] at this

theorem Sat.get {b : Nat} {o : Obj} (hs : Sat h (cellAt b o :: F)) : h[b]? = some o := by
  obtain ⟨a, _, _, h2, _, h4, _⟩ := hs; exact h2 b o h4
theorem Sat.lt {b : Nat} {o : Obj} (hs : Sat h (cellAt b o :: F)) : b < h.size := lt_of_get hs.get
theorem Sat.ne {b c : Nat} {o o' : Obj} (hs : Sat h (cellAt b o :: cellAt c o' :: F)) : b ≠ c := by
  rintro rfl
  obtain ⟨a, _, h1, _, _, h4, d, _, _, k2, _, k4, _⟩ := hs
  rcases h1 b with q | q
  · rw [show a b = some o from h4] at q; cases q
  · rw [k2 b o' k4] at q; cases q
theorem Sat.set {b : Nat} {o : Obj} (hs : Sat h (cellAt b o :: F)) (o' : Obj) : Sat (h.setIfInBounds b o') (cellAt b o' :: F) := by
  have hlt := hs.lt
  obtain ⟨a, c, h1, h2, h3, h4, h5⟩ := hs
  have hcb : c b = none := by
    rcases h1 b with q | q
    · rw [show a b = some o from h4] at q; cases q
    · exact q
  refine ⟨fun i => if i = b then some o' else none, c, fun i => ?_, fun i x q => ?_, fun i x q => ?_, by simp [cellAt], h5⟩
  · by_cases e : i = b
    · exact .inr (e ▸ hcb)
    · exact .inl (by simp [e])
  · by_cases e : i = b
    · subst e; simp at q; subst q; simp [hp, hlt]
    · simp [e] at q
  · have hne : b ≠ i := by rintro rfl; rw [hcb] at q; cases q
    have := h3 i x q
    simp only [hp] at this ⊢
    rw [get_set_ne hne]; exact this
theorem Sat.push (hs : Sat h F) (o : Obj) : Sat (h.push o) (cellAt h.size o :: F) := by
  refine ⟨fun i => if i = h.size then some o else none, hp h, fun i => ?_, fun i x q => ?_, fun i x q => ?_, by simp [cellAt], hs⟩
  · by_cases e : i = h.size
    · exact .inr (by subst e; simp [hp])
    · exact .inl (by simp [e])
  · by_cases e : i = h.size
    · subst e; simp at q; subst q; simp [hp]
    · simp [e] at q
  · have hlt := lt_of_get q
    simp only [hp] at q ⊢
    rw [get_push_lt hlt]; exact q
theorem Sat.init (h : Heap) : Sat h [oldS h] := ⟨hp h, fun _ => none, fun _ => .inr rfl, Part.le.refl _, fun _ _ q => (by cases q), fun _ _ => rfl, trivial⟩
theorem Sat.ext {h0 : Heap} (hs : Sat h (oldS h0 :: F)) : Ext h0 h := by
  obtain ⟨a, _, _, h2, _, h4, _⟩ := hs
  have g : ∀ b, b < h0.size → h[b]? = h0[b]? := fun b hb => by
    have e := h4 b hb
    rw [Array.getElem?_eq_getElem hb] at e ⊢
    exact h2 b _ e
  refine ⟨?_, g⟩
  by_cases hz : h0.size = 0
  · omega
  · have := g (h0.size - 1) (by omega)
    rw [Array.getElem?_eq_getElem (by omega : h0.size - 1 < h0.size)] at this
    have := lt_of_get this
    omega
theorem Sat.old {h0 : Heap} {b : Nat} {o : Obj} (hs : Sat h (oldS h0 :: F)) (hb : h0[b]? = some o) : h[b]? = some o := hs.ext.some hb
theorem Sat.new {h0 : Heap} {b : Nat} {o : Obj} (hs : Sat h (oldS h0 :: cellAt b o :: F)) : h0.size ≤ b := by
  refine Nat.le_of_not_lt fun hlt => ?_
  obtain ⟨a, _, h1, _, _, h4, d, _, _, k2, _, k4, _⟩ := hs
  rcases h1 b with q | q
  · rw [h4 b hlt, Array.getElem?_eq_getElem hlt] at q; cases q
  · rw [k2 b o k4] at q; cases q

/-! ### a thing that is told by a footprint -/
/-- Φ of a heap and of the blocks that it speaks of. -/
def own (Φ : Heap → (Nat → Prop) → Prop) : SP := fun a => ∃ (h : Heap) (F : Nat → Prop), Φ h F ∧ ∀ b, F b → b < h.size ∧ a b = h[b]?
/-- It speaks of these blocks alone. -/
def Local (Φ : Heap → (Nat → Prop) → Prop) : Prop := ∀ h h' F, Φ h F → (∀ b, F b → b < h.size → h'[b]? = h[b]?) → Φ h' F

theorem Sat.open_ {Φ : Heap → (Nat → Prop) → Prop} (hl : Local Φ) (hs : Sat h (own Φ :: F)) : ∃ X : Nat → Prop, Φ h X ∧ (∀ b, X b → b < h.size) ∧
    ∀ (Φ' : Heap → (Nat → Prop) → Prop) (h' : Heap) (X' : Nat → Prop), Φ' h' X' → (∀ b, X' b → b < h'.size) → Mod X h h' → (∀ b, X' b → X b ∨ h.size ≤ b) → Sat h' (own Φ' :: F) := by
  obtain ⟨a, c, h1, h2, h3, ⟨k, X, hΦ, hX⟩, h5⟩ := hs
  have hk : ∀ b, X b → ∃ o, k[b]? = some o ∧ a b = some o ∧ h[b]? = some o := fun b hb => by
    obtain ⟨q1, q2⟩ := hX b hb
    rw [Array.getElem?_eq_getElem q1] at q2
    exact ⟨_, Array.getElem?_eq_getElem q1, q2, h2 b _ q2⟩
  refine ⟨X, hl _ _ _ hΦ fun b hb _ => by obtain ⟨o, e1, _, e3⟩ := hk b hb; rw [e1, e3], fun b hb => by obtain ⟨o, _, _, e3⟩ := hk b hb; exact lt_of_get e3, ?_⟩
  intro Φ' h' X' hΦ' hlt' hmod hsub
  have hc : ∀ i, X i → c i = none := fun i hi => by
    obtain ⟨o, _, e2, _⟩ := hk i hi
    rcases h1 i with q | q
    · rw [e2] at q; cases q
    · exact q
  classical
  refine ⟨fun i => if X' i then h'[i]? else none, c, fun i => ?_, fun i o q => ?_, fun i o q => ?_, ⟨h', X', hΦ', fun b hb => ⟨hlt' b hb, by simp [hb]⟩⟩, h5⟩
  · by_cases hi : X' i
    · rcases hsub i hi with z | z
      · exact .inr (hc i z)
      · refine .inr ?_
        cases e : c i with
        | none => rfl
        | some o => have := lt_of_get (h3 i o e); omega
    · exact .inl (by simp [hi])
  · by_cases hi : X' i
    · simpa [hi, hp] using q
    · simp [hi] at q
  · have hnx : ¬ X i := fun z => by rw [hc i z] at q; cases q
    have := h3 i o q
    simp only [hp] at this ⊢
    rw [hmod.get i (lt_of_get this) hnx]; exact this
theorem Sat.made {Φ : Heap → (Nat → Prop) → Prop} {h' : Heap} {X : Nat → Prop} (hs : Sat h F) (hΦ : Φ h' X) (hX : ∀ b, X b → h.size ≤ b ∧ b < h'.size) (he : Ext h h') : Sat h' (own Φ :: F) := by
  classical
  refine ⟨fun i => if X i then h'[i]? else none, hp h, fun i => ?_, fun i o q => ?_, fun i o q => ?_, ⟨h', X, hΦ, fun b hb => ⟨(hX b hb).2, by simp [hb]⟩⟩, hs⟩
  · by_cases hi : X i
    · refine .inr ?_
      have := (hX i hi).1
      simp [hp, this]
    · exact .inl (by simp [hi])
  · by_cases hi : X i
    · simpa [hi, hp] using q
    · simp [hi] at q
  · exact he.some q
theorem Sat.grow {h' : Heap} (hs : Sat h F) (he : Ext h h') : Sat h' F := SatP.mono hs fun i o q => he.some q
end
end Go.Eng
