/-
  THE ENGINE, PART 13: parts of memory, side by side.
-/
import Derived.Test.YtaijcllgdlalpaaGreatDoorZj1
import Derived.Laws.RangeString
set_option linter.unusedSimpArgs false
set_option linter.unusedVariables false
set_option maxRecDepth 16000
set_option maxHeartbeats 4000000
namespace Go.Eng
open Go

abbrev Part := Nat → Option Obj
abbrev SP := Part → Prop

def Part.le (a b : Part) : Prop := ∀ i o, a i = some o → b i = some o
def Part.apart (a b : Part) : Prop := ∀ i, a i = none ∨ b i = none
def Part.join (a b : Part) : Part := fun i => match a i with | some o => some o | none => b i
def hp (h : Heap) : Part := fun i => h[i]?

theorem Part.le.refl (a : Part) : Part.le a a := fun _ _ h => h
theorem Part.le.trans {a b c : Part} (h : Part.le a b) (k : Part.le b c) : Part.le a c := fun i o q => k i o (h i o q)
theorem Part.apart.symm {a b : Part} (h : Part.apart a b) : Part.apart b a := fun i => (h i).symm
theorem Part.apart.mono {a b a' b' : Part} (h : Part.apart a b) (ha : Part.le a' a) (hb : Part.le b' b) : Part.apart a' b' := fun i => by
  rcases h i with q | q
  · left; cases e : a' i with
    | none => rfl
    | some o => rw [ha i o e] at q; cases q
  · right; cases e : b' i with
    | none => rfl
    | some o => rw [hb i o e] at q; cases q
theorem Part.join_left {a b : Part} : Part.le a (Part.join a b) := fun i o q => by simp [Part.join, q]
theorem Part.join_right {a b : Part} (h : Part.apart a b) : Part.le b (Part.join a b) := fun i o q => by
  rcases h i with z | z
  · simp [Part.join, z, q]
  · rw [z] at q; cases q
theorem Part.join_le {a b m : Part} (ha : Part.le a m) (hb : Part.le b m) : Part.le (Part.join a b) m := fun i o q => by
  unfold Part.join at q
  split at q
  · rename_i o' e; cases q; exact ha i _ e
  · exact hb i o q
theorem Part.apart_join {a b c : Part} (h1 : Part.apart a b) (h2 : Part.apart a c) : Part.apart a (Part.join b c) := fun i => by
  rcases h1 i with q | q
  · exact .inl q
  · rcases h2 i with z | z
    · exact .inl z
    · exact .inr (by simp [Part.join, q, z])

/-- l, side by side in m. -/
def SatP (m : Part) : List SP → Prop
  | [] => True
  | A :: l => ∃ a b, Part.apart a b ∧ Part.le a m ∧ Part.le b m ∧ A a ∧ SatP b l
def Sat (h : Heap) (l : List SP) : Prop := SatP (hp h) l

theorem SatP.mono : ∀ {l : List SP} {m m' : Part}, SatP m l → Part.le m m' → SatP m' l
  | [], _, _, _, _ => trivial
  | _ :: _, _, _, ⟨a, b, h1, h2, h3, h4, h5⟩, hm => ⟨a, b, h1, h2.trans hm, h3.trans hm, h4, h5⟩
theorem SatP.tail {A : SP} {l : List SP} {m : Part} : SatP m (A :: l) → SatP m l := fun ⟨_, _, _, _, h3, _, h5⟩ => h5.mono h3
theorem SatP.swap {A B : SP} {l : List SP} {m : Part} : SatP m (A :: B :: l) → SatP m (B :: A :: l)
  | ⟨a, b, h1, h2, h3, h4, c, d, k1, k2, k3, k4, k5⟩ => by
    refine ⟨c, Part.join a d, ?_, k2.trans h3, Part.join_le h2 (k3.trans h3), k4, a, d, h1.mono (Part.le.refl _) k3, Part.join_left, Part.join_right (h1.mono (Part.le.refl _) k3), h4, k5⟩
    exact Part.apart_join (h1.symm.mono k2 (Part.le.refl _)) k1
theorem SatP.cons {A : SP} {l l' : List SP} (H : ∀ m, SatP m l → SatP m l') {m : Part} : SatP m (A :: l) → SatP m (A :: l') := fun ⟨a, b, h1, h2, h3, h4, h5⟩ => ⟨a, b, h1, h2, h3, h4, H b h5⟩
theorem SatP.perm {l l' : List SP} (p : l.Perm l') : ∀ {m : Part}, SatP m l → SatP m l' := by
  induction p with
  | nil => exact id
  | cons x _ ih => exact SatP.cons fun m => ih
  | swap x y l => exact SatP.swap
  | trans _ _ ih1 ih2 => exact fun h => ih2 (ih1 h)
theorem SatP.imp {A A' : SP} {l : List SP} (H : ∀ a, A a → A' a) {m : Part} : SatP m (A :: l) → SatP m (A' :: l) := fun ⟨a, b, h1, h2, h3, h4, h5⟩ => ⟨a, b, h1, h2, h3, H a h4, h5⟩

/-! ### what may stand in the list -/
def cellAt (b : Nat) (o : Obj) : SP := fun a => a b = some o
def starL (l : List SP) : SP := fun a => SatP a l
def exS {α : Type} (Φ : α → SP) : SP := fun a => ∃ x, Φ x a
def pureS (p : Prop) : SP := fun _ => p
/-- What was there at h0 still is. -/
def oldS (h0 : Heap) : SP := fun a => ∀ i, i < h0.size → a i = h0[i]?

theorem SatP.split : ∀ {l l' : List SP} {m : Part}, SatP m (l ++ l') ↔ ∃ a b, Part.apart a b ∧ Part.le a m ∧ Part.le b m ∧ SatP a l ∧ SatP b l'
  | [], l', m => ⟨fun h => ⟨fun _ => none, m, fun _ => .inl rfl, fun _ _ q => (by cases q), Part.le.refl _, trivial, h⟩, fun ⟨a, b, _, _, h3, _, h5⟩ => h5.mono h3⟩
  | A :: l, l', m => by
    constructor
    · rintro ⟨a, b, h1, h2, h3, h4, h5⟩
      obtain ⟨c, d, k1, k2, k3, k4, k5⟩ := SatP.split.1 h5
      have hac := h1.mono (Part.le.refl _) k2
      have had := h1.mono (Part.le.refl _) k3
      exact ⟨Part.join a c, d, (Part.apart_join had.symm k1.symm).symm, Part.join_le h2 (k2.trans h3), k3.trans h3, ⟨a, c, hac, Part.join_left, Part.join_right hac, h4, k4⟩, k5⟩
    · rintro ⟨a, b, h1, h2, h3, ⟨c, d, k1, k2, k3, k4, k5⟩, h5⟩
      have hcb := h1.mono k2 (Part.le.refl _)
      have hdb := h1.mono k3 (Part.le.refl _)
      exact ⟨c, Part.join d b, Part.apart_join k1 hcb, k2.trans h2, Part.join_le (k3.trans h2) h3, k4, SatP.split.2 ⟨d, b, hdb, Part.join_left, Part.join_right hdb, k5, h5⟩⟩

theorem SatP.star {l F : List SP} {m : Part} : SatP m (starL l :: F) ↔ SatP m (l ++ F) := SatP.split.symm
theorem SatP.ex {α : Type} {Φ : α → SP} {F : List SP} {m : Part} : SatP m (exS Φ :: F) ↔ ∃ x, SatP m (Φ x :: F) :=
  ⟨fun ⟨a, b, h1, h2, h3, ⟨x, h4⟩, h5⟩ => ⟨x, a, b, h1, h2, h3, h4, h5⟩, fun ⟨x, a, b, h1, h2, h3, h4, h5⟩ => ⟨a, b, h1, h2, h3, ⟨x, h4⟩, h5⟩⟩
theorem SatP.pure {p : Prop} {F : List SP} {m : Part} : SatP m (pureS p :: F) ↔ p ∧ SatP m F :=
  ⟨fun ⟨_, _, _, _, h3, h4, h5⟩ => ⟨h4, h5.mono h3⟩, fun ⟨hp, h⟩ => ⟨fun _ => none, m, fun _ => .inl rfl, fun _ _ q => (by cases q), Part.le.refl _, hp, h⟩⟩

section
variable {h : Heap} {F : List SP} {A B : SP}
theorem Sat.perm {l l' : List SP} (hs : Sat h l) (p : l.Perm l') : Sat h l' := SatP.perm p hs
theorem Sat.tail (hs : Sat h (A :: F)) : Sat h F := SatP.tail hs
theorem Sat.imp {A' : SP} (hs : Sat h (A :: F)) (H : ∀ a, A a → A' a) : Sat h (A' :: F) := SatP.imp H hs
theorem Sat.star {l : List SP} : Sat h (starL l :: F) ↔ Sat h (l ++ F) := SatP.star
theorem Sat.ex {α : Type} {Φ : α → SP} : Sat h (exS Φ :: F) ↔ ∃ x, Sat h (Φ x :: F) := SatP.ex
theorem Sat.pure {p : Prop} : Sat h (pureS p :: F) ↔ p ∧ Sat h F := SatP.pure
theorem Sat.swap (hs : Sat h (A :: B :: F)) : Sat h (B :: A :: F) := SatP.swap hs

theorem perm_pick : ∀ (l : List SP) (i : Nat) (hi : i < l.length), l.Perm (l[i] :: l.eraseIdx i)
  | [], i, hi => by simp at hi
  | x :: l, 0, _ => .refl _
  | x :: l, i + 1, hi => by
    simp only [List.getElem_cons_succ, List.eraseIdx_cons_succ]
    exact ((perm_pick l i (by simpa using hi)).cons x).trans (.swap ..)
/-- The i-th, brought to the front. -/
def front (i : Nat) (l : List SP) : List SP := match l[i]? with
  | some A => A :: l.eraseIdx i
  | none => l
theorem Sat.front {l : List SP} (hs : Sat h l) (i : Nat) : Sat h (front i l) := by
  unfold Eng.front
  split
  · rename_i A hA
    obtain ⟨hi, rfl⟩ := List.getElem?_eq_some_iff.1 hA
    exact hs.perm (perm_pick l i hi)
  · exact hs
/-- The first, put back at the i-th place. -/
def back (i : Nat) : List SP → List SP
  | [] => []
  | A :: l => l.take i ++ A :: l.drop i
theorem Sat.back {l : List SP} (hs : Sat h l) (i : Nat) : Sat h (back i l) := by
  cases l with
  | nil => exact hs
  | cons A l =>
    refine hs.perm ?_
    unfold Eng.back
    have := (List.perm_middle (a := A) (l₁ := l.take i) (l₂ := l.drop i)).symm
    rwa [List.take_append_drop] at this

theorem Sat.get {b : Nat} {o : Obj} (hs : Sat h (cellAt b o :: F)) : h[b]? = some o := by
  obtain ⟨a, _, _, h2, _, h4, _⟩ := hs; exact h2 b o h4
theorem Sat.lt {b : Nat} {o : Obj} (hs : Sat h (cellAt b o :: F)) : b < h.size := lt_of_get hs.get
theorem Sat.set {b : Nat} {o : Obj} (hs : Sat h (cellAt b o :: F)) (o' : Obj) : Sat (h.setIfInBounds b o') (cellAt b o' :: F) := by
  have hlt := hs.lt
  obtain ⟨a, c, h1, h2, h3, h4, h5⟩ := hs
  have hcb : c b = none := by
    rcases h1 b with q | q
    · rw [show a b = some o from h4] at q; cases q
    · exact q
  refine ⟨fun i => if i = b then some o' else none, c, fun i => ?_, fun i x q => ?_, fun i x q => ?_, by simp [cellAt], h5⟩
  · by_cases e : i = b
    · exact .inr (e ▸ hcb)
    · exact .inl (by simp [e])
  · by_cases e : i = b
    · subst e; simp at q; subst q; simp [hp, hlt]
    · simp [e] at q
  · have hne : b ≠ i := by rintro rfl; rw [hcb] at q; cases q
    have := h3 i x q
    simp only [hp] at this ⊢
    rw [get_set_ne hne]; exact this
theorem Sat.push (hs : Sat h F) (o : Obj) : Sat (h.push o) (cellAt h.size o :: F) := by
  refine ⟨fun i => if i = h.size then some o else none, hp h, fun i => ?_, fun i x q => ?_, fun i x q => ?_, by simp [cellAt], hs⟩
  · by_cases e : i = h.size
    · exact .inr (by subst e; simp [hp])
    · exact .inl (by simp [e])
  · by_cases e : i = h.size
    · subst e; simp at q; subst q; simp [hp]
    · simp [e] at q
  · have hlt := lt_of_get q
    simp only [hp] at q ⊢
    rw [get_push_lt hlt]; exact q
theorem Sat.init (h : Heap) : Sat h [oldS h] := ⟨hp h, fun _ => none, fun _ => .inr rfl, Part.le.refl _, fun _ _ q => (by cases q), fun _ _ => rfl, trivial⟩
theorem Sat.ext {h0 : Heap} (hs : Sat h (oldS h0 :: F)) : Ext h0 h := by
  obtain ⟨a, _, _, h2, _, h4, _⟩ := hs
  have g : ∀ b, b < h0.size → h[b]? = h0[b]? := fun b hb => by
    have e := h4 b hb
    rw [Array.getElem?_eq_getElem hb] at e ⊢
    exact h2 b _ e
  refine ⟨?_, g⟩
  by_cases hz : h0.size = 0
  · omega
  · have := g (h0.size - 1) (by omega)
    rw [Array.getElem?_eq_getElem (by omega : h0.size - 1 < h0.size)] at this
    have := lt_of_get this
    omega
/-- Φ of a heap and of the blocks that it speaks of. -/
def own (Φ : Heap → (Nat → Prop) → Prop) : SP := fun a => ∃ (h : Heap) (F : Nat → Prop), Φ h F ∧ ∀ b, F b → b < h.size ∧ a b = h[b]?
/-- It speaks of these blocks alone. -/
def Local (Φ : Heap → (Nat → Prop) → Prop) : Prop := ∀ h h' F, Φ h F → (∀ b, F b → b < h.size → h'[b]? = h[b]?) → Φ h' F

theorem Sat.grow {h' : Heap} (hs : Sat h F) (he : Ext h h') : Sat h' F := SatP.mono hs fun i o q => he.some q
end
end Go.Eng
/-
  THE ENGINE, PART 14: two things that are told by footprints, as one.
-/
namespace Go.Eng
open Go

def pairO (Φ Ψ : Heap → (Nat → Prop) → Prop) : Heap → (Nat → Prop) → Prop := fun h X => ∃ Y Z : Nat → Prop, Φ h Y ∧ Ψ h Z ∧ (∀ b, Y b → ¬ Z b) ∧ (∀ b, X b ↔ Y b ∨ Z b)
def cellO (b : Nat) (o : Obj) : Heap → (Nat → Prop) → Prop := fun h X => h[b]? = some o ∧ X b
section
variable {h : Heap} {F : List SP}
/-- l by its places. -/
def Parts (m : Part) (l : List SP) (a : Nat → Part) : Prop := (∀ i j, i < l.length → j < l.length → i ≠ j → Part.apart (a i) (a j)) ∧ (∀ i, i < l.length → Part.le (a i) m) ∧ ∀ (i : Nat) (A : SP), l[i]? = some A → A (a i)
theorem SatP.parts : ∀ {l : List SP} {m : Part}, SatP m l → ∃ a, Parts m l a
  | [], m, _ => ⟨fun _ _ => none, fun i j hi => by simp at hi, fun i hi => by simp at hi, fun i A q => by simp at q⟩
  | B :: l, m, ⟨b, c, h1, h2, h3, h4, h5⟩ => by
    obtain ⟨a, k1, k2, k3⟩ := SatP.parts h5
    refine ⟨fun i => match i with | 0 => b | i + 1 => a i, fun i j hi hj hne => ?_, fun i hi => ?_, fun i A q => ?_⟩
    · match i, j with
      | 0, 0 => exact (hne rfl).elim
      | 0, j + 1 => exact h1.mono (Part.le.refl _) (k2 j (by simpa using hj))
      | i + 1, 0 => exact (h1.mono (Part.le.refl _) (k2 i (by simpa using hi))).symm
      | i + 1, j + 1 => exact k1 i j (by simpa using hi) (by simpa using hj) (by omega)
    · match i with
      | 0 => exact h2
      | i + 1 => exact (k2 i (by simpa using hi)).trans h3
    · match i with
      | 0 => simp at q; subst q; exact h4
      | i + 1 => exact k3 i A (by simpa using q)
theorem SatP.ofParts : ∀ {l : List SP} {m : Part} (a : Nat → Part), Parts m l a → SatP m l
  | [], _, _, _ => trivial
  | B :: l, m, a, ⟨k1, k2, k3⟩ => by
    refine ⟨a 0, fun x => match a 0 x with | some _ => none | none => m x, fun x => ?_, k2 0 (by simp), fun x o q => ?_, k3 0 B rfl, SatP.ofParts (fun i => a (i + 1)) ⟨fun i j hi hj hne => k1 (i + 1) (j + 1) (by simpa using hi) (by simpa using hj) (by omega), fun i hi x o q => ?_, fun i A q => k3 (i + 1) A (by simpa using q)⟩⟩
    · cases e : a 0 x with
      | none => exact .inl rfl
      | some o => exact .inr (by simp [e])
    · simp only at q
      split at q
      · cases q
      · exact q
    · have h1 := k1 0 (i + 1) (by simp) (by simpa using hi) (by omega) x
      have h2 := k2 (i + 1) (by simpa using hi) x o q
      rcases h1 with e | e
      · simp only [e]; exact h2
      · simp only at q; rw [e] at q; cases q
/-- Brought into another order; what is not named is left. -/
theorem Sat.re {l : List SP} (hs : Sat h l) (is : List Nat) (hn : is.Nodup := by decide) (hl : (is.all fun i => decide (i < l.length)) = true := by rfl) : Sat h (is.map fun i => l.getD i fun _ => True) := by
  obtain ⟨a, k1, k2, k3⟩ := SatP.parts hs
  have hlt : ∀ i (hi : i < is.length), is[i] < l.length := fun i hi => by
    have := List.all_eq_true.1 hl _ (List.getElem_mem hi); simpa using this
  refine SatP.ofParts (fun i => if hi : i < is.length then a is[i] else fun _ => none) ⟨fun i j hi hj hne => ?_, fun i hi => ?_, fun i A q => ?_⟩
  · simp only [List.length_map] at hi hj
    simp only [dif_pos hi, dif_pos hj]
    refine k1 _ _ (hlt i hi) (hlt j hj) fun e => ?_
    rcases Nat.lt_or_gt_of_ne hne with q | q
    · exact List.pairwise_iff_getElem.1 hn i j hi hj q e
    · exact List.pairwise_iff_getElem.1 hn j i hj hi q e.symm
  · simp only [List.length_map] at hi
    simp only [dif_pos hi]; exact k2 _ (hlt i hi)
  · rw [List.getElem?_map] at q
    obtain ⟨x, hx, rfl⟩ := Option.map_eq_some_iff.1 q
    obtain ⟨hi, rfl⟩ := List.getElem?_eq_some_iff.1 hx
    simp only [dif_pos hi]
    exact k3 _ _ (by rw [List.getElem?_eq_getElem (hlt i hi), List.getD_eq_getElem?_getD, List.getElem?_eq_getElem (hlt i hi)]; rfl)
end
end Go.Eng
/-
  THE ENGINE, PART 15: lists in memory; append.
-/
namespace Go.Eng
open Go

/-- A list of n things of sz cells each: its cells one behind the other. -/
def sliceS (sz n : Nat) (v : Value) (l : List Value) : SP := fun a => l.length = n * sz ∧ (∀ x ∈ l, single x = true) ∧
  ((n = 0 ∧ v = .slice none 0 0) ∨ ∃ lb cap cs ty, v = .slice (some ⟨lb, 0, none⟩) n cap ∧ n ≤ cap ∧ cs.size = cap * sz ∧ a lb = some (.cells cs ty (0, 0)) ∧ ∀ k, k < l.length → cs[k]? = l[k]?)

/-- A list that is read. -/
def SrcAt (h : Heap) (sz n : Nat) (w : Value) (l : List Value) : Prop := l.length = n * sz ∧ (∀ x ∈ l, single x = true) ∧
  ∃ a cap, w = .slice a n cap ∧ (0 < n → ∃ b o cs ty fr, a = some ⟨b, o, none⟩ ∧ h[b]? = some (.cells cs ty fr) ∧ o + n * sz ≤ cs.size ∧ ∀ k, k < l.length → cs[o + k]? = l[k]?)

section
variable {P : Program} {h : Heap} {t : TypeId} {F : List SP}

theorem Sat.drop1 {A B : SP} (hs : Sat h (A :: B :: F)) : Sat h (A :: F) := hs.swap.tail
theorem Sat.drop2 {A B C : SP} (hs : Sat h (A :: B :: C :: F)) : Sat h (A :: B :: F) := (hs.front 2).tail
theorem runD_loadCells {b o n : Nat} {c : Array Value} {e : TypeId} {fr : Nat × Nat} (hb : h[b]? = some (.cells c e fr)) (hn : o + n ≤ c.size) : runD P (loadCells ⟨b, o, none⟩ n) h = some (c.extract o (o + n)) := by
  unfold loadCells
  rw [runD_loadCellsFrom hb, if_pos (by omega)]
  simp

theorem SrcAt.first {sz n : Nat} {w : Value} {l : List Value} (s : SrcAt h sz n w l) : runD P (Builtin.lenOf w) h = some n ∧ runD P (Builtin.firstCells sz n w) h = some l.toArray := by
  obtain ⟨h1, h2, a, cap, rfl, h3⟩ := s
  refine ⟨rfl, ?_⟩
  by_cases hn : 0 < n
  · obtain ⟨b, o, cs, ty, fr, rfl, e, hsz, hg⟩ := h3 hn
    show runD P (loadCells ⟨b, o, none⟩ (n * sz)) h = _
    rw [runD_loadCells e hsz]
    congr 1
    apply Array.ext_getElem?
    intro i
    rw [Array.getElem?_extract]
    split
    · rw [hg i (by omega)]; simp
    · rw [List.getElem?_toArray, List.getElem?_eq_none (by omega)]
  · obtain rfl : n = 0 := by omega
    obtain rfl : l = [] := List.eq_nil_of_length_eq_zero (by simpa using h1)
    cases a with
    | none => rfl
    | some a =>
      show runD P (loadCells a (0 * sz)) h = _
      rw [Nat.zero_mul]
      rfl

theorem growBy_le {need : Nat} : ∀ (r c : Nat), c ≤ need → Builtin.growBy need r c ≤ 2 * need + 1024
  | 0, c, hc => by simp only [Builtin.growBy]; omega
  | r + 1, c, hc => by
    simp only [Builtin.growBy]
    split
    · omega
    · by_cases h2 : c + (c + 768) / 4 ≤ need
      · exact growBy_le r _ h2
      · have : Builtin.growBy need r (c + (c + 768) / 4) = c + (c + 768) / 4 := by
          cases r with
          | zero => rfl
          | succ r => simp only [Builtin.growBy]; rw [if_pos (by omega)]
        rw [this]; omega
theorem nextslicecap_le {need old : Nat} (h : old ≤ need) : Builtin.nextslicecap need old ≤ 2 * need + 1024 := by
  unfold Builtin.nextslicecap
  split
  · omega
  · split
    · omega
    · exact growBy_le 4 old h

theorem zeroCells_size {z : Array Value} {n : Nat} : (Builtin.zeroCells z n).size = n * z.size := by simp [Builtin.zeroCells]

def notIntB (P : Program) (t : TypeId) : Bool := match P.underlying t with | some (.int _) => false | some _ => true | none => false

/-- append: the list grows, in its own block or in a new one. -/
theorem Sat.append {sz n m : Nat} {v w : Value} {l l2 : List Value} {u : TypeId} {t2 : TypeId} {K : Value → Heap → Prop} (hs : Sat h (sliceS sz n v l :: F)) (src : SrcAt h sz m w l2)
    (hsl : isSliceB P t = true) (hsz : sliceSz P t = sz) (hz : zeroOkB P (sliceElem P t) = true) (h2 : notIntB P t2 = true)
    (hb : (2 * (n + m) + 1024) * (tbytes P (sliceElem P t)).getD 0 ≤ 281474976710656) (hm : n + m ≤ 9223372036854775807)
    (hK : ∀ v' h', Sat h' (sliceS sz (n + m) v' (l ++ l2) :: F) → K v' h') : runH P (iAppend #[t, t2] u #[v, w]) h K := by
  obtain ⟨e, s, ht, hs1, hs2⟩ := isSliceB_of hsl
  have he : sliceElem P t = e := by simp [sliceElem, ht]
  rw [he] at hz hb
  obtain rfl : s = sz := by rw [← hsz, hs2]
  obtain ⟨i, hi⟩ : ∃ i, P.info? e = some i := by
    cases q : P.info? e with
    | none => simp [tsz, q] at hs1
    | some i => exact ⟨i, rfl⟩
  have hby : (tbytes P e).getD 0 = i.bytes := by simp [tbytes, hi]
  rw [hby] at hb
  simp only [zeroOkB, Bool.and_eq_true, decide_eq_true_eq] at hz
  obtain ⟨z, hz1⟩ := Option.isSome_iff_exists.1 hz.1
  have hz2 : z.cells.size = s := by have := hz.2; simp only [tzeroD, hz1, Option.getD_some, tszD, hs1] at this; exact this
  obtain ⟨d, hd, hd2⟩ : ∃ d, P.underlying t2 = some d ∧ (match d with | .int _ => true | _ => false) = false := by
    unfold notIntB at h2
    cases q : P.underlying t2 with
    | none => rw [q] at h2; cases h2
    | some d => rw [q] at h2; exact ⟨d, rfl, by cases d <;> first | rfl | cases h2⟩
  obtain ⟨q1, q2⟩ := src.first (P := P)
  obtain ⟨k1, k2, -⟩ := src
  obtain ⟨a, c, p1, p2, p3, ⟨r1, r2, r3⟩, p5⟩ := hs
  have hall : ∀ x ∈ l ++ l2, single x = true := fun x hx => (List.mem_append.1 hx).elim (r2 x) (k2 x)
  have hlen : (l ++ l2).length = (n + m) * s := by rw [List.length_append, r1, k1, Nat.add_mul]
  -- the two ends
  obtain ⟨base, cap, rfl, hcap⟩ : ∃ base cap, v = .slice base n cap ∧ ((base = none ∧ n = 0 ∧ cap = 0) ∨ ∃ lb cs ty, base = some ⟨lb, 0, none⟩ ∧ n ≤ cap ∧ cs.size = cap * s ∧ a lb = some (.cells cs ty (0, 0)) ∧ ∀ k, k < l.length → cs[k]? = l[k]?) := by
    rcases r3 with ⟨rfl, rfl⟩ | ⟨lb, cap, cs, ty, rfl, w1, w2, w3, w4⟩
    · exact ⟨none, 0, rfl, .inl ⟨rfl, rfl, rfl⟩⟩
    · exact ⟨_, cap, rfl, .inr ⟨lb, cs, ty, rfl, w1, w2, w3, w4⟩⟩
  unfold iAppend Builtin.append_
  simp only [List.getElem?_toArray, List.getElem?_cons_zero, List.getElem?_cons_succ]
  rw [runH_bind, runH_underlying ht]
  try simp only
  rw [runH_bind, runH_of_runD _ (runD_sizeOf hs1)]
  rw [runH_bind, runH_underlying hd]
  have hz : runD P (Pure.pure (match d with | .int _ => true | x => false) : Sem Bool) h = some false := by
    cases d <;> first | rfl | cases hd2
  refine Eq.mpr (congrArg (fun q : Sem Bool => runH P (q >>= _) h K) (?_ : _ = (Pure.pure false : Sem Bool))) ?_
  · cases d <;> first | rfl | cases hd2
  simp only [pure_bind, Bool.false_eq_true, if_false, Bool.not_false, if_true]
  rw [runH_bind, runH_of_runD _ q1]
  by_cases hin : n + m ≤ cap
  · rw [if_pos hin, runH_bind, runH_of_runD _ q2]
    rcases hcap with ⟨rfl, rfl, rfl⟩ | ⟨lb, cs, ty, rfl, w1, w2, w3, w4⟩
    · obtain rfl : m = 0 := by omega
      refine hK _ _ ⟨a, c, p1, p2, p3, ⟨hlen, hall, .inl ⟨rfl, rfl⟩⟩, p5⟩
    · simp only
      rw [runH_bind, add_mk]
      have hlb : h[lb]? = some (.cells cs ty (0, 0)) := p2 lb _ w3
      have hle : (n + m) * s ≤ cap * s := Nat.mul_le_mul_right _ hin
      rw [Nat.add_mul] at hle
      refine storeCells_arr _ 0 h cs hlb k2 (by rw [k1]; omega) ?_
      intro c' hc' hg
      have base : Sat h (cellAt lb (.cells cs ty (0, 0)) :: F) := ⟨a, c, p1, p2, p3, w3, p5⟩
      refine hK _ _ ((base.set (.cells c' ty (0, 0))).imp fun b hb' => ⟨hlen, hall, .inr ⟨lb, cap, c', ty, rfl, hin, by rw [hc', w2], hb', fun k hk => ?_⟩⟩)
      rw [hg k, hlen, Nat.add_mul] at *
      by_cases hk2 : k < l.length
      · rw [if_neg (by omega), w4 k hk2, List.getElem?_append_left hk2]
      · rw [if_pos (by omega), List.getElem?_append_right (by omega)]
        congr 1
        omega
  · rw [if_neg hin]
    have g1 : ¬ ((n + m : Nat) : Int) > IntKind.i64.max := by rw [show IntKind.i64.max = 9223372036854775807 by decide]; omega
    have hold : cap ≤ n + m := by omega
    have g2 := nextslicecap_le hold
    have g3 : Builtin.nextslicecap (n + m) cap * i.bytes ≤ 281474976710656 := Nat.le_trans (Nat.mul_le_mul_right _ g2) hb
    have hold' : runD P (Builtin.firstCells s n (.slice base n cap)) h = some l.toArray := by
      refine (SrcAt.first (P := P) ⟨r1, r2, base, cap, rfl, fun hn => ?_⟩).2
      rcases hcap with ⟨rfl, rfl, rfl⟩ | ⟨lb, cs, ty, rfl, w1, w2, w3, w4⟩
      · omega
      · have : n * s ≤ cap * s := Nat.mul_le_mul_right _ w1
        exact ⟨lb, 0, cs, ty, _, rfl, p2 lb _ w3, by omega, fun k hk => by rw [Nat.zero_add]; exact w4 k hk⟩
    rw [runH_bind, runH_of_runD _ (runD_typeInfo hi)]
    rw [if_neg (by rintro ⟨q, -⟩; exact g1 q)]
    rw [runH_bind, runH_of_runD _ (runD_typeInfo hi)]
    rw [if_neg (by have e48 : (2 : Nat) ^ 48 = 281474976710656 := by decide
                   omega)]
    rw [runH_bind]
    show runH P (choose _) h _
    unfold choose
    simp only [runH]
    rw [if_neg (by simp [Question.forced])]
    intro tp
    obtain ⟨nc, hnc⟩ : ∃ nc, nc = (Question.appendCap (n + m) cap e).cut tp := ⟨_, rfl⟩
    have hge : n + m ≤ nc := by rw [hnc]; simp only [Question.cut]; omega
    rw [← hnc]
    simp only [runH_bind]
    rw [runH_of_runD _ (runD_typeInfo hi), runH_askRoom, runH_of_runD _ hold', runH_of_runD _ q2, runH_of_runD _ (runD_zero hz1)]
    refine hK _ _ ?_
    have s1 : Sat h F := SatP.mono p5 p3
    refine (s1.push _).imp fun b hb' => ⟨hlen, hall, .inr ⟨h.size, nc, _, e, rfl, hge, ?_, hb', fun k hk => ?_⟩⟩
    · simp only [Array.size_append, zeroCells_size, hz2, List.size_toArray]
      rw [r1, k1, ← Nat.add_mul, ← Nat.add_mul]
      congr 1
      omega
    · rw [Array.getElem?_append_left (by simpa using hk)]
      rw [← Array.getElem?_toList]
      simp

/-- A literal's cells. -/
theorem SrcAt.lit {sz n c : Nat} {l : List Value} {b : Nat} {ty : TypeId} {fr : Nat × Nat} (hb : h[b]? = some (.cells l.toArray ty fr)) (hl : l.length = n * sz) (hx : ∀ x ∈ l, single x = true) : SrcAt h sz n (.slice (some ⟨b, 0, none⟩) n c) l :=
  ⟨hl, hx, _, c, rfl, fun _ => ⟨b, 0, l.toArray, ty, fr, rfl, hb, by simp [hl], fun k _ => by simp⟩⟩
theorem flat_get {α : Type} {enc : α → List Value} {sz : Nat} (he : ∀ x, (enc x).length = sz) : ∀ (L : List α) (i j : Nat), j < sz → (L.flatMap enc)[i * sz + j]? = (L[i]?).bind fun x => (enc x)[j]?
  | [], i, j, _ => by simp
  | x :: L, 0, j, hj => by simp only [List.flatMap_cons, Nat.zero_mul, Nat.zero_add]; rw [List.getElem?_append_left (by rw [he]; exact hj)]; rfl
  | x :: L, i + 1, j, hj => by
    simp only [List.flatMap_cons]
    rw [List.getElem?_append_right (by rw [he, Nat.succ_mul]; omega), he, show (i + 1) * sz + j - sz = i * sz + j by rw [Nat.succ_mul]; omega, flat_get he L i j hj]
    simp
theorem flat_len {α : Type} {enc : α → List Value} {sz : Nat} (he : ∀ x, (enc x).length = sz) : ∀ (L : List α), (L.flatMap enc).length = L.length * sz
  | [] => by simp
  | x :: L => by simp only [List.flatMap_cons, List.length_append, he, flat_len he L, List.length_cons, Nat.succ_mul]; omega
end
end Go.Eng
/-
  THE ENGINE, PART 16: literals of lists; parts of lists.
-/
namespace Go.Eng
open Go

def partsOk (sz : Nat) : Nat → List (Nat × Value) → Bool
  | _, [] => true
  | k, (i, v) :: r => i == k && v.cells.size == sz && partsOk sz (k + 1) r
def catL : List (Nat × Value) → List Value
  | [] => []
  | (_, v) :: r => v.cells.toList ++ catL r
theorem catL_nil : catL [] = [] := (rfl)
theorem catL_cons {i : Nat} {v : Value} {r : List (Nat × Value)} : catL ((i, v) :: r) = v.cells.toList ++ catL r := (rfl)
theorem partsOk_nil {sz k : Nat} : partsOk sz k [] = true := (rfl)
theorem partsOk_cons {sz k i : Nat} {v : Value} {r : List (Nat × Value)} : partsOk sz k ((i, v) :: r) = (i == k && v.cells.size == sz && partsOk sz (k + 1) r) := (rfl)

theorem foldl_put (off : Nat) : ∀ (xs : List (Value × Nat)) (n : Nat) (cs : Array Value), (∀ i x, xs[i]? = some x → x.2 = n + i) → off + n + xs.length ≤ cs.size →
    (xs.foldl (fun cs x => cs.setIfInBounds (off + x.2) x.1) cs).size = cs.size ∧ ∀ j : Nat, (xs.foldl (fun cs x => cs.setIfInBounds (off + x.2) x.1) cs)[j]? = if off + n ≤ j ∧ j < off + n + xs.length then (xs[j - (off + n)]?).map (·.1) else cs[j]?
  | [], n, cs, _, _ => ⟨rfl, fun j => by simp only [List.foldl_nil, List.length_nil]; rw [if_neg (by omega)]⟩
  | x :: xs, n, cs, hx, hle => by
    simp only [List.length_cons] at hle
    have h0 : x.2 = n := by simpa using hx 0 x rfl
    obtain ⟨q1, q2⟩ := foldl_put off xs (n + 1) (cs.setIfInBounds (off + x.2) x.1) (fun i y hy => by have := hx (i + 1) y (by simpa using hy); omega) (by simp; omega)
    refine ⟨by simpa using q1, fun j => ?_⟩
    rw [List.foldl_cons, q2 j]
    simp only [List.length_cons]
    by_cases h1 : off + (n + 1) ≤ j ∧ j < off + (n + 1) + xs.length
    · rw [if_pos h1, if_pos (by omega), show j - (off + n) = (j - (off + (n + 1))) + 1 by omega]; rfl
    · rw [if_neg h1, h0, Array.getElem?_setIfInBounds]
      by_cases h2 : j = off + n
      · subst h2
        rw [if_pos rfl, if_pos (by omega), if_pos (by omega), Nat.sub_self]; rfl
      · rw [if_neg (fun e => h2 e.symm), if_neg (by omega)]

theorem fill_parts {sz : Nat} : ∀ (ps : List (Nat × Value)) (k : Nat) (cs : Array Value), partsOk sz k ps = true → cs.size = (k + ps.length) * sz →
    ∃ cs', Instr.fill (fun i => some (i * sz, sz)) cs ps = some cs' ∧ cs'.size = cs.size ∧ ∀ j, cs'[j]? = if k * sz ≤ j then (catL ps)[j - k * sz]? else cs[j]?
  | [], k, cs, _, hs => ⟨cs, rfl, rfl, fun j => by
      split
      · rw [Array.getElem?_eq_none (by simp at hs; omega)]; rfl
      · rfl⟩
  | (i, v) :: ps, k, cs, hok, hs => by
    simp only [partsOk, Bool.and_eq_true, beq_iff_eq] at hok
    obtain ⟨⟨rfl, hv⟩, hok⟩ := hok
    simp only [List.length_cons] at hs
    have e1 : (i + (ps.length + 1)) * sz = i * sz + sz + ps.length * sz := by rw [Nat.add_mul, Nat.add_mul, Nat.one_mul]; omega
    rw [e1] at hs
    unfold Instr.fill
    have hc : (decide (v.cells.size ≠ sz) || decide (i * sz + v.cells.size > cs.size)) = false := by
      rw [hv]
      simp only [ne_eq, not_true_eq_false, decide_false, Bool.false_or, decide_eq_false_iff_not]
      omega
    simp only [hc, Bool.false_eq_true, if_false]
    have hl : v.cells.zipIdx.toList.length = sz := by simp [hv]
    have hfold := foldl_put (i * sz) v.cells.zipIdx.toList 0 cs (fun j x hx => by
      rw [Array.getElem?_toList, Array.getElem?_zipIdx] at hx
      obtain ⟨y, -, rfl⟩ := Option.map_eq_some_iff.1 hx
      simp) (by rw [hl]; omega)
    simp only [← Array.foldl_toList]
    obtain ⟨p1, p2⟩ := hfold
    generalize hcs2 : List.foldl _ cs v.cells.zipIdx.toList = cs2 at *
    have e2 : (i + 1 + ps.length) * sz = i * sz + sz + ps.length * sz := by rw [Nat.add_mul, Nat.add_mul, Nat.one_mul]
    obtain ⟨cs', f1, f2, f3⟩ := fill_parts ps (i + 1) cs2 hok (by rw [p1, hs, e2])
    refine ⟨cs', ?_, by rw [f2, p1], fun j => ?_⟩
    · rw [← f1]
    · rw [f3 j, Nat.add_mul, Nat.one_mul, catL_cons]
      have hlen : v.cells.toList.length = sz := by simp [hv]
      by_cases h1 : i * sz + sz ≤ j
      · rw [if_pos h1, if_pos (by omega), List.getElem?_append_right (by omega), hlen]
        congr 1; omega
      · rw [if_neg h1, p2 j, hl]
        by_cases h2 : i * sz ≤ j
        · rw [if_pos (by omega), if_pos h2, List.getElem?_append_left (by omega), Nat.add_zero, Array.getElem?_toList, Array.getElem?_zipIdx, Array.getElem?_toList]
          cases v.cells[j - i * sz]? <;> rfl
        · rw [if_neg (by omega), if_neg h2]

section
variable {P : Program} {h : Heap} {t : TypeId} {F : List SP}
theorem runH_buildSlice {n : Nat} {ps : List (Nat × Value)} {K : Value → Heap → Prop} (hsl : isSliceB P t = true) (hz : (tzero P (sliceElem P t)).isSome = true) (hz2 : (tzeroD P (sliceElem P t)).cells.size = sliceSz P t)
    (hn : ps.length = n) (h24 : n * sliceSz P t ≤ 16777216) (hok : partsOk (sliceSz P t) 0 ps = true) :
    runH P (iBuildSlice t n ps.toArray) h K = K (.slice (some ⟨h.size, 0, none⟩) n n) (h.push (.cells (catL ps).toArray (sliceElem P t))) := by
  obtain ⟨e, s, ht, hs, hsz⟩ := isSliceB_of hsl
  have he : sliceElem P t = e := by simp [sliceElem, ht]
  rw [he] at hz hz2 ⊢
  rw [hsz] at hz2 h24 hok
  subst hn
  obtain ⟨z, hz'⟩ := Option.isSome_iff_exists.1 hz
  have hzd : tzeroD P e = z := by simp [tzeroD, hz']
  rw [hzd] at hz2
  unfold iBuildSlice Instr.buildSlice
  rw [runH_bind, runH_underlying ht]
  try simp only
  rw [runH_bind, runH_of_runD _ (runD_sizeOf hs)]
  rw [if_neg (by have e24 : (2 : Nat) ^ 24 = 16777216 := by decide
                 omega)]
  have key : ∀ zc : Array Value, ∃ cs', Instr.fill (fun i => some (i * s, s)) ((Array.range (ps.length * s)).map (zc[· % zc.size]!)) ps = some cs' ∧ cs' = (catL ps).toArray := by
    intro zc
    obtain ⟨cs', f1, f2, f3⟩ := fill_parts (sz := s) ps 0 ((Array.range (ps.length * s)).map (zc[· % zc.size]!)) hok (by simp)
    refine ⟨cs', f1, ?_⟩
    apply Array.ext_getElem?
    intro j
    rw [f3 j]
    simp
  by_cases h0 : ps.length * s = 0
  · rw [if_pos h0, runH_bind]
    simp only [runH_pure]
    obtain ⟨cs', f1, rfl⟩ := key #[]
    simp only [List.toList_toArray, f1]
    rfl
  · rw [if_neg h0, runH_bind, runH_of_runD _ (runD_zero hz'), runH_bind]
    simp only [runH_pure]
    obtain ⟨cs', f1, rfl⟩ := key z.cells
    simp only [List.toList_toArray, f1]
    rfl

theorem runD_slice_slice {a : Option Addr} {n cap l u : Nat} {lo hi : Option Value} (hsl : isSliceB P t = true)
    (h1 : runD P (Instr.sliceBounds true n cap lo hi none) h = some (l, u, cap)) : runD P (iSliceAt t (.slice a n cap) lo hi none) h = some (.slice (if cap = l then a else a.map (·.add (l * sliceSz P t))) (u - l) (cap - l)) := by
  obtain ⟨e, s, ht, hs, hsz⟩ := isSliceB_of hsl
  unfold iSliceAt Instr.sliceAt
  rw [runD_bind, runD_underlying ht]
  simp only [Option.bind_some]
  unfold Instr.slice
  rw [runD_bind, runD_underlying ht]
  simp only [Option.bind_some]
  rw [runD_bind]
  have h1' : ∀ c, runD P (Instr.sliceBounds c n cap lo hi none) h = some (l, u, cap) → True := fun _ _ => trivial
  rw [h1]
  simp only [Option.bind_some]
  rw [runD_bind, runD_sizeOf hs]
  simp only [Option.bind_some, hsz]
  rfl
theorem sliceBounds_from {n cap k : Nat} {q : IntKind} {b : Bool} (hk : k ≤ n) : runD P (Instr.sliceBounds b n cap (some (.int q k)) none none) h = some (k, n, cap) := by
  unfold Instr.sliceBounds
  simp only [pure_bind]
  rw [runD_bind, runD_sliceBound (by omega) (by omega)]
  simp
theorem sliceBounds_to {n cap k : Nat} {q : IntKind} {b : Bool} (hk : k ≤ cap) : runD P (Instr.sliceBounds b n cap none (some (.int q k)) none) h = some (0, k, cap) := by
  unfold Instr.sliceBounds
  simp only [pure_bind]
  rw [runD_bind, runD_sliceBound (by omega) (by omega)]
  simp
theorem sliceBounds_both {n cap k m : Nat} {q q' : IntKind} {b : Bool} (hk : k ≤ m) (hm : m ≤ cap) : runD P (Instr.sliceBounds b n cap (some (.int q k)) (some (.int q' m)) none) h = some (k, m, cap) := by
  unfold Instr.sliceBounds
  simp only [pure_bind]
  rw [runD_bind, runD_sliceBound (by omega) (by omega)]
  simp only [Option.bind_some]
  rw [runD_bind, runD_sliceBound (by omega) (by omega)]
  simp

/-- A part of a list. -/
theorem Sat.part {sz n k m : Nat} {v : Value} {l : List Value} {lo hi : Option Value} (hs : Sat h (sliceS sz n v l :: F)) (hsl : isSliceB P t = true) (hsz : sliceSz P t = sz) (hk : k ≤ m) (hm : m ≤ n)
    (hb : ∀ cap (h' : Heap), n ≤ cap → runD P (Instr.sliceBounds true n cap lo hi none) h' = some (k, m, cap)) : ∃ w, (∀ h' : Heap, runD P (iSliceAt t v lo hi none) h' = some w) ∧ SrcAt h sz (m - k) w ((l.drop (k * sz)).take ((m - k) * sz)) := by
  subst hsz
  obtain ⟨a, c, p1, p2, p3, ⟨r1, r2, r3⟩, p5⟩ := hs
  have hlen : ((l.drop (k * sliceSz P t)).take ((m - k) * sliceSz P t)).length = (m - k) * sliceSz P t := by
    rw [List.length_take, List.length_drop, r1]
    have : m * sliceSz P t ≤ n * sliceSz P t := Nat.mul_le_mul_right _ hm
    rw [Nat.sub_mul]
    have : k * sliceSz P t ≤ m * sliceSz P t := Nat.mul_le_mul_right _ hk
    omega
  have hall : ∀ x ∈ (l.drop (k * sliceSz P t)).take ((m - k) * sliceSz P t), single x = true := fun x hx => r2 x (List.mem_of_mem_drop (List.mem_of_mem_take hx))
  rcases r3 with ⟨rfl, rfl⟩ | ⟨lb, cap, cs, ty, rfl, w1, w2, w3, w4⟩
  · obtain rfl : m = 0 := by omega
    obtain rfl : k = 0 := by omega
    exact ⟨_, fun h' => runD_slice_slice hsl (hb 0 h' (Nat.le_refl _)), hlen, hall, _, _, rfl, fun q => by omega⟩
  · refine ⟨_, fun h' => runD_slice_slice hsl (hb cap h' w1), hlen, hall, _, _, rfl, fun q => ?_⟩
    have hlb : h[lb]? = some (.cells cs ty (0, 0)) := p2 lb _ w3
    have e3 : m * sliceSz P t ≤ n * sliceSz P t := Nat.mul_le_mul_right _ hm
    have e4 : n * sliceSz P t ≤ cap * sliceSz P t := Nat.mul_le_mul_right _ w1
    have e5 : k * sliceSz P t ≤ m * sliceSz P t := Nat.mul_le_mul_right _ hk
    refine ⟨lb, k * sliceSz P t, cs, ty, _, ?_, hlb, ?_, fun i hi => ?_⟩
    · rw [if_neg (by omega)]
      simp [add_mk]
    · rw [Nat.sub_mul]; omega
    · rw [hlen, Nat.sub_mul] at hi
      rw [w4 _ (by omega), List.getElem?_take, if_pos (by rw [Nat.sub_mul]; omega), List.getElem?_drop]
theorem w8_id {a : Int} (h1 : 0 ≤ a) (h2 : a ≤ 255) : IntKind.u8.wrap a = a := by
  have e : IntKind.u8.wrap a = a % 256 := by simp [IntKind.wrap, IntKind.bits, IntKind.signed]
  rw [e]; omega
theorem w16_id {a : Int} (h1 : 0 ≤ a) (h2 : a ≤ 65535) : IntKind.u16.wrap a = a := by
  have e : IntKind.u16.wrap a = a % 65536 := by simp [IntKind.wrap, IntKind.bits, IntKind.signed]
  rw [e]; omega
theorem w32_id {a : Int} (h1 : 0 ≤ a) (h2 : a ≤ 4294967295) : IntKind.u32.wrap a = a := by
  have e : IntKind.u32.wrap a = a % 4294967296 := by simp [IntKind.wrap, IntKind.bits, IntKind.signed]
  rw [e]; omega
theorem Sat.toSlice {sz n cap lb : Nat} {l : List Value} {cs : Array Value} {ty : TypeId} (hs : Sat h (cellAt lb (.cells cs ty (0, 0)) :: F)) (hl : l.length = n * sz) (hx : ∀ x ∈ l, single x = true) (hc : n ≤ cap) (hz : cs.size = cap * sz) (hg : ∀ k, k < l.length → cs[k]? = l[k]?) :
    Sat h (sliceS sz n (.slice (some ⟨lb, 0, none⟩) n cap) l :: F) := hs.imp fun a ha => ⟨hl, hx, .inr ⟨lb, cap, cs, ty, rfl, hc, hz, ha, hg⟩⟩
theorem rdK_any {r : Option Value} {K : Value → Prop} (hK : ∀ v, K v) : rdK false r K := by
  unfold rdK
  split
  · exact hK _
  · exact ⟨rfl, hK _⟩
/-- What is read of a list. -/
theorem Sat.elems {sz n : Nat} {v : Value} {l : List Value} (hs : Sat h (sliceS sz n v l :: F)) : ∃ sl cap, v = .slice sl n cap ∧ n ≤ cap ∧ l.length = n * sz ∧ (n = 0 ∨ ∃ lb, sl = some ⟨lb, 0, none⟩ ∧ (∀ k, k < n * sz → hcellO h[lb]? k = l[k]?) ∧ ∀ o m, o + m ≤ n * sz → hreadO h[lb]? o m = some ((l.drop o).take m).toArray) := by
  obtain ⟨a, c, p1, p2, p3, ⟨r1, r2, r3⟩, p5⟩ := hs
  rcases r3 with ⟨rfl, rfl⟩ | ⟨lb, cap, cs, ty, rfl, w1, w2, w3, w4⟩
  · exact ⟨_, _, rfl, Nat.le_refl _, r1, .inl rfl⟩
  · have := p2 lb _ w3
    simp only [hp] at this
    refine ⟨_, _, rfl, w1, r1, .inr ⟨lb, rfl, fun k hk => ?_, fun o m hm => ?_⟩⟩
    · rw [this, hcellO_arr]
      exact w4 k (by omega)
    · have hle : n * sz ≤ cap * sz := Nat.mul_le_mul_right _ w1
      rw [this, hreadO_arr (by omega)]
      congr 1
      apply Array.ext_getElem?
      intro i
      rw [Array.getElem?_extract]
      simp only [List.getElem?_toArray, List.getElem?_take, List.getElem?_drop]
      split
      · rw [w4 _ (by omega), if_pos (by omega)]
      · rw [if_neg (by omega)]
theorem Sat.sliceOpen {sz n : Nat} {v : Value} {l : List Value} (hs : Sat h (sliceS sz n v l :: F)) (hn : 0 < n) : ∃ lb cap cs ty, v = .slice (some ⟨lb, 0, none⟩) n cap ∧ n ≤ cap ∧ h[lb]? = some (.cells cs ty (0, 0)) ∧ cs.size = cap * sz ∧ (∀ k, k < l.length → cs[k]? = l[k]?) ∧
    ∀ k x, k < l.length → single x = true → Sat (h.setIfInBounds lb (.cells (cs.setIfInBounds k x) ty (0, 0))) (sliceS sz n v (l.set k x) :: F) := by
  obtain ⟨a, c, p1, p2, p3, ⟨r1, r2, r3⟩, p5⟩ := hs
  rcases r3 with ⟨rfl, rfl⟩ | ⟨lb, cap, cs, ty, rfl, w1, w2, w3, w4⟩
  · omega
  · refine ⟨lb, cap, cs, ty, rfl, w1, p2 lb _ w3, w2, w4, fun k x hk hx => ?_⟩
    have base : Sat h (cellAt lb (.cells cs ty (0, 0)) :: F) := ⟨a, c, p1, p2, p3, w3, p5⟩
    refine (base.set (.cells (cs.setIfInBounds k x) ty (0, 0))).imp fun b hb => ⟨by simpa using r1, fun y hy => ?_, .inr ⟨lb, cap, _, ty, rfl, w1, by simpa using w2, hb, fun j hj => ?_⟩⟩
    · rcases List.mem_or_eq_of_mem_set hy with q | q
      · exact r2 y q
      · rw [q]; exact hx
    · simp only [List.length_set] at hj
      rw [Array.getElem?_setIfInBounds, List.getElem?_set]
      by_cases e : k = j
      · subst e
        have hle : n * sz ≤ cap * sz := Nat.mul_le_mul_right _ w1
        rw [if_pos rfl, if_pos rfl, if_pos (by omega), if_pos hk]
      · rw [if_neg e, if_neg e]; exact w4 j hj
theorem Sat.sliceEq {sz n : Nat} {v : Value} {l l' : List Value} (hs : Sat h (sliceS sz n v l :: F)) (e : l = l') : Sat h (sliceS sz n v l' :: F) := e ▸ hs
theorem Sat.nilS {sz : Nat} (hs : Sat h F) : Sat h (sliceS sz 0 (.slice none 0 0) [] :: F) :=
  ⟨fun _ => none, hp h, fun _ => .inl rfl, fun _ _ q => (by cases q), Part.le.refl _, ⟨by simp, by simp, .inl ⟨rfl, rfl⟩⟩, hs⟩
theorem Sat.emptyS {sz b : Nat} {ty : TypeId} (hs : Sat h (cellAt b (.cells #[] ty (0, 0)) :: F)) : Sat h (sliceS sz 0 (.slice (some ⟨b, 0, none⟩) 0 0) [] :: F) :=
  hs.imp fun a ha => ⟨by simp, by simp, .inr ⟨b, 0, #[], ty, rfl, Nat.le_refl _, by simp, ha, fun k hk => by simp at hk⟩⟩
end
section
variable {h : Heap} {a b c d : Obj}
theorem get_push2a : ((h.push a).push b)[h.size]? = some a := by rw [get_push_lt (by simp)]; exact get_push_new
theorem get_push2b : ((h.push a).push b)[h.size + 1]? = some b := by rw [← size_push' (h := h) (o := a)]; exact get_push_new
theorem get_push3a : (((h.push a).push b).push c)[h.size]? = some a := by rw [get_push_lt (by simp; omega)]; exact get_push2a
theorem get_push3b : (((h.push a).push b).push c)[h.size + 1]? = some b := by rw [get_push_lt (by simp)]; exact get_push2b
theorem get_push3c : (((h.push a).push b).push c)[h.size + 1 + 1]? = some c := by rw [← size_push' (h := h) (o := a)]; exact get_push2b
theorem set_push2a : ((h.push a).push b).setIfInBounds h.size d = (h.push d).push b := by
  apply Array.ext_getElem?
  intro i
  simp only [Array.getElem?_setIfInBounds, Array.getElem?_push, Array.size_push]
  by_cases e : h.size = i
  · subst e; simp; omega
  · have e2 : ¬ i = h.size := fun z => e z.symm
    simp [e, e2]
theorem set_push2b : ((h.push a).push b).setIfInBounds (h.size + 1) d = (h.push a).push d := by rw [← size_push' (h := h) (o := a)]; exact set_push_new
theorem set_push3a : (((h.push a).push b).push c).setIfInBounds h.size d = ((h.push d).push b).push c := by
  apply Array.ext_getElem?
  intro i
  simp only [Array.getElem?_setIfInBounds, Array.getElem?_push, Array.size_push]
  by_cases e : h.size = i
  · subst e
    simp
    rw [if_pos (by omega), if_neg (by omega)]
  · have e2 : ¬ i = h.size := fun z => e z.symm
    simp [e, e2]
theorem set_push3b : (((h.push a).push b).push c).setIfInBounds (h.size + 1) d = ((h.push a).push d).push c := by rw [← size_push' (h := h) (o := a)]; exact set_push2a
theorem set_push3c : (((h.push a).push b).push c).setIfInBounds (h.size + 1 + 1) d = ((h.push a).push b).push d := by rw [← size_push' (h := h) (o := a)]; exact set_push2b
end
attribute [go_sem] get_push2a get_push2b get_push3a get_push3b get_push3c set_push2a set_push2b set_push3a set_push3b set_push3c
attribute [go_sem ↓] runH_buildSlice
theorem tmod_pos {a b : Int} (h : 0 ≤ a) : a.tmod b = a % b := Int.tmod_eq_emod_of_nonneg h
theorem tdiv_pos {a b : Int} (h : 0 ≤ a) : a.tdiv b = a / b := Int.tdiv_eq_ediv_of_nonneg h
attribute [go_sem] catL_nil catL_cons partsOk_nil partsOk_cons
attribute [go_sem] Nat.add_zero List.size_toArray List.length_cons List.length_nil List.cons_append List.nil_append List.append_nil beq_self_eq_true Bool.and_self eq_self Option.map_some Bool.false_eq_true Bool.true_eq_false decide_true decide_false true_implies false_implies not_true_eq_false not_false_eq_true Int.toNat_natCast Nat.mul_one Nat.one_mul Nat.zero_mul forall_const if_true if_false or_true true_or or_false false_or and_false false_and
end Go.Eng
/-
  THE ENGINE, PART 12: arrays by index; min and max.
-/
namespace Go.Eng
open Go
section
variable {P : Program} {h : Heap} {t : TypeId}

theorem runD_indexAt_arr {b o : Nat} {k : IntKind} {i : Int} (ha : isArrB P t = true) (h0 : 0 ≤ i) (h1 : i < arrLen P t) : runD P (iIndexAt t (.pointer (some ⟨b, o, none⟩)) (.int k i)) h = some (.pointer (some ⟨b, o + i.toNat * arrSz P t, none⟩)) := by
  obtain ⟨e, n, s, ht, hs, hsz, hl⟩ := isArrB_of ha
  rw [hl] at h1
  rw [hsz]
  unfold iIndexAt Instr.indexAt
  simp only [asIntOf, pure_bind]
  rw [runD_bind, runD_underlying ht]
  simp only [Option.bind_some, Instr.sureAddr, pure_bind]
  rw [runD_bind, runD_underlying ht]
  simp only [Option.bind_some, h0, h1, and_self, if_true]
  rw [runD_bind, runD_sizeOf hs, Option.bind_some, add_mk]
  rfl
theorem runD_min2 {ts : Array TypeId} {k l : IntKind} {a b : Int} : runD P (iMin ts t #[.int k a, .int l b]) h = some (.int k (min a b)) := by
  have e : (if b < a then b else a) = min a b := by rw [Int.min_def]; split <;> split <;> omega
  rw [← e]; rfl
theorem runD_max2 {ts : Array TypeId} {k l : IntKind} {a b : Int} : runD P (iMax ts t #[.int k a, .int l b]) h = some (.int k (max a b)) := by
  have e : (if a < b then b else a) = max a b := by rw [Int.max_def]; split <;> split <;> omega
  rw [← e]; rfl
attribute [go_sem ↓] runD_indexAt_arr runD_min2 runD_max2
end
end Go.Eng
/-
  THE ENGINE: contracts of the kit, as calls told of heaps.
-/
namespace Go.Eng
open Go
theorem HCalls.of_pure {P : Program} {f : FuncId} {args : Array Value} {v : Value} {h : Heap} (hc : ∀ w : World, Calls P f args w fun e w' => e = .returned v ∧ w' = w) : HCalls P f args h fun r h' => r = v ∧ h' = h := by
  intro w hw
  refine (hc w).mono ?_
  rintro e w' ⟨rfl, rfl⟩
  exact ⟨Same.refl _, v, rfl, rfl, hw⟩
theorem HCalls.of_iter {P : Program} {f : FuncId} {args : Array Value} {v : Value} {s : ByteArray} {h : Heap} (hc : ∀ w : World, Calls P f args w fun e w' => e = .returned v ∧ ∃ pos, w' = w.iter s pos) : HCalls P f args h fun r h' => r = v ∧ Ext h h' := by
  intro w hw
  subst hw
  refine (hc w).mono ?_
  rintro e w' ⟨rfl, pos, rfl⟩
  exact ⟨⟨rfl, rfl, rfl, Nat.le_refl _⟩, v, rfl, rfl, Ext.push _ _⟩
end Go.Eng
namespace Go.Eng
attribute [go_sem] w64_id w8_id w16_id w32_id tmod_pos tdiv_pos Bool.or_true Bool.true_or Bool.or_false Bool.false_or Bool.and_false Bool.false_and condK_decide
end Go.Eng
