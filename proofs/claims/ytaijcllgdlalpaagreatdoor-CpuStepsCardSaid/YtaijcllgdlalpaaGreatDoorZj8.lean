/-
  Layer 8, plain: a guest's interrupts; the order of the list registers.
-/
import Derived.Test.YtaijcllgdlalpaaGreatDoorZj7
import Derived.Test.YtaijcllgdlalpaaGreatDoorZj3
set_option linter.unusedSimpArgs false
set_option linter.unusedVariables false
set_option maxRecDepth 16000
set_option maxHeartbeats 4000000
namespace Go.Eng
structure Lr where
  I : Int
  P : Int
  L : Bool
  Pe : Bool
  Ac : Bool
  deriving DecidableEq
structure Vg where
  mask : Int
  P : Int → Option (Int × Bool)
  A : Int → Option (Int × Bool)
structure Vg.ok (V : Vg) : Prop where
  p : ∀ k a l, V.P k = some (a, l) → 0 ≤ k ∧ k < 64 ∧ 0 ≤ a ∧ a < 256
  a : ∀ k a l, V.A k = some (a, l) → 0 ≤ k ∧ k < 64 ∧ 0 ≤ a ∧ a < 256
  m0 : 0 ≤ V.mask
  m1 : V.mask ≤ 256
def vg0 : Vg := ⟨256, fun _ => none, fun _ => none⟩
def oneV (V : Vg) (k : Int) : Option Lr := match V.A k with
  | some (a, l) => some ⟨k, a, l, (V.P k).isSome, true⟩
  | none => match V.P k with
    | some (p, l) => some ⟨k, p, l, true, false⟩
    | none => none
def rawV (V : Vg) (n : Nat) : List Lr := (List.range n).filterMap fun k => oneV V (k : Nat)
def docO (V : Vg) (ac : Bool) (p : Int) (k : Int) : Option Lr := (oneV V k).filter fun x => decide (x.Ac = ac) && decide (x.P = p)
def docR (V : Vg) (ac : Bool) (p : Int) (n : Nat) : List Lr := (List.range n).filterMap fun k => docO V ac p (k : Nat)
def docA (V : Vg) (ac : Bool) (q : Nat) : List Lr := (List.range q).flatMap fun p => docR V ac (p : Nat) 64
def allV (V : Vg) : List Lr := docA V true 256 ++ docA V false 256
def ltL (x y : Lr) : Prop := (x.Ac = true ∧ y.Ac = false) ∨ (x.Ac = y.Ac ∧ (x.P < y.P ∨ (x.P = y.P ∧ x.I < y.I)))
def cmp3 (x y : Int) : Int := if x < y then -1 else if y < x then 1 else 0
def cfL (x y : Lr) : Int := if x.Ac = y.Ac then cmp3 x.P y.P else if x.Ac = true then -1 else 1
def cL (x y : Lr) : Bool := decide (cfL x y < 0)
def runV (V : Vg) : Nat → Int
  | 0 => 256
  | n + 1 => match V.A (n : Nat) with
    | some (a, _) => min (runV V n) a
    | none => runV V n
def leastV (V : Vg) : Int := min V.mask (runV V 64)
def nextV (V : Vg) : Option Int := ((allV V).find? fun x => !x.Ac && decide (x.P < leastV V)).map (·.I)
def setF (f : Int → Option (Int × Bool)) (k : Int) (x : Option (Int × Bool)) : Int → Option (Int × Bool) := fun j => if j = k then x else f j
def ackV (V : Vg) : Vg × Int := match nextV V with
  | none => (V, 1023)
  | some k => ({ V with P := setF V.P k none, A := setF V.A k (V.P k) }, k)
def endV (V : Vg) (k : Int) : Vg × Bool := match V.A k with
  | none => (V, false)
  | some (_, l) => ({ V with A := setF V.A k none }, l)
def injV (V : Vg) (k p : Int) (l : Bool) : Vg × Int :=
  if k < 0 ∨ 64 ≤ k ∨ p < 0 ∨ 256 ≤ p then (V, 1) else match V.P k with
    | some _ => (V, 80)
    | none => ({ V with P := setF V.P k (some (p, l)) }, 0)
theorem ltL_trans {x y z : Lr} (a : ltL x y) (b : ltL y z) : ltL x z := by
  unfold ltL at *
  rcases a with ⟨a1, a2⟩ | ⟨a1, a2⟩ <;> rcases b with ⟨b1, b2⟩ | ⟨b1, b2⟩
  · rw [a2] at b1; cases b1
  · left; exact ⟨a1, by rw [← b1]; exact a2⟩
  · left; exact ⟨by rw [a1]; exact b1, b2⟩
  · right
    refine ⟨a1.trans b1, ?_⟩
    omega
theorem ltL_irrefl (x : Lr) : ¬ ltL x x := by
  unfold ltL
  rintro (⟨a, b⟩ | ⟨-, a⟩)
  · rw [a] at b; cases b
  · omega
theorem cL_spec {x y : Lr} (h : y.I < x.I) : if cL x y = true then ltL x y else ltL y x := by
  unfold cL cfL cmp3
  by_cases q : x.Ac = y.Ac
  · rw [if_pos q]
    by_cases c1 : x.P < y.P
    · simp only [if_pos c1]; exact .inr ⟨q, .inl c1⟩
    · rw [if_neg c1]
      by_cases c2 : y.P < x.P
      · simp only [if_pos c2]; exact .inr ⟨q.symm, .inl c2⟩
      · simp only [if_neg c2]; exact .inr ⟨q.symm, .inr ⟨by omega, h⟩⟩
  · rw [if_neg q]
    cases hx : x.Ac with
    | true => simp only [if_true]; exact .inl ⟨hx, by cases hy : y.Ac <;> simp_all⟩
    | false => simp; exact .inl ⟨by cases hy : y.Ac <;> simp_all, hx⟩
theorem oneV_I {V : Vg} {k : Int} {x : Lr} (h : oneV V k = some x) : x.I = k := by
  unfold oneV at h
  split at h
  · cases h; rfl
  · split at h
    · cases h; rfl
    · cases h
theorem oneV_P {V : Vg} (ok : V.ok) {k : Int} {x : Lr} (h : oneV V k = some x) : 0 ≤ x.P ∧ x.P < 256 := by
  unfold oneV at h
  split at h
  · rename_i a l e; cases h; exact ⟨(ok.a _ _ _ e).2.2.1, (ok.a _ _ _ e).2.2.2⟩
  · split at h
    · rename_i a l e; cases h; exact ⟨(ok.p _ _ _ e).2.2.1, (ok.p _ _ _ e).2.2.2⟩
    · cases h
theorem docO_some {V : Vg} {ac : Bool} {p k : Int} {x : Lr} : docO V ac p k = some x ↔ oneV V k = some x ∧ x.Ac = ac ∧ x.P = p := by
  unfold docO
  rw [Option.filter_eq_some_iff]
  simp
theorem rawV_up (V : Vg) (n : Nat) : (rawV V n).Pairwise fun x y => x.I < y.I := by
  unfold rawV
  refine List.Pairwise.filterMap (R := fun a b : Nat => a < b) _ ?_ List.pairwise_lt_range
  intro a b hab x hx y hy
  rw [oneV_I hx, oneV_I hy]
  omega
theorem rawV_len (V : Vg) (n : Nat) : (rawV V n).length ≤ n := by
  unfold rawV
  have := List.length_filterMap_le (fun k : Nat => oneV V (k : Nat)) (List.range n)
  simpa using this
theorem rawV_succ (V : Vg) (n : Nat) : rawV V (n + 1) = rawV V n ++ (oneV V (n : Nat)).toList := by
  unfold rawV
  rw [List.range_succ, List.filterMap_append]
  congr 1
theorem docR_succ (V : Vg) (ac : Bool) (p : Int) (n : Nat) : docR V ac p (n + 1) = docR V ac p n ++ (docO V ac p (n : Nat)).toList := by
  unfold docR
  rw [List.range_succ, List.filterMap_append]
  congr 1
theorem docA_succ (V : Vg) (ac : Bool) (q : Nat) : docA V ac (q + 1) = docA V ac q ++ docR V ac (q : Nat) 64 := by
  unfold docA
  rw [List.range_succ, List.flatMap_append]
  simp
theorem docR_mem {V : Vg} {ac : Bool} {p : Int} {n : Nat} {x : Lr} : x ∈ docR V ac p n ↔ ∃ k : Nat, k < n ∧ oneV V k = some x ∧ x.Ac = ac ∧ x.P = p := by
  unfold docR
  simp only [List.mem_filterMap, List.mem_range, docO_some]
theorem docR_len (V : Vg) (ac : Bool) (p : Int) (n : Nat) : (docR V ac p n).length ≤ n := by
  unfold docR
  have := List.length_filterMap_le (fun k : Nat => docO V ac p (k : Nat)) (List.range n)
  simpa using this
theorem docA_len (V : Vg) (ac : Bool) : ∀ q : Nat, (docA V ac q).length ≤ q * 64
  | 0 => by simp [docA]
  | q + 1 => by
    rw [docA_succ, List.length_append]
    have := docA_len V ac q
    have := docR_len V ac (q : Nat) 64
    omega
theorem docR_up (V : Vg) (ac : Bool) (p : Int) (n : Nat) : (docR V ac p n).Pairwise ltL := by
  unfold docR
  refine List.Pairwise.filterMap (R := fun a b : Nat => a < b) _ ?_ List.pairwise_lt_range
  intro a b hab x hx y hy
  obtain ⟨x1, x2, x3⟩ := docO_some.1 hx
  obtain ⟨y1, y2, y3⟩ := docO_some.1 hy
  have := oneV_I x1
  have := oneV_I y1
  exact .inr ⟨by rw [x2, y2], .inr ⟨by omega, by omega⟩⟩
theorem docA_mem {V : Vg} {ac : Bool} {q : Nat} {x : Lr} : x ∈ docA V ac q ↔ ∃ p : Nat, p < q ∧ x ∈ docR V ac p 64 := by
  unfold docA
  simp only [List.mem_flatMap, List.mem_range]
theorem docA_up (V : Vg) (ac : Bool) : ∀ q : Nat, (docA V ac q).Pairwise ltL
  | 0 => by simp [docA]
  | q + 1 => by
    rw [docA_succ]
    refine List.pairwise_append.2 ⟨docA_up V ac q, docR_up _ _ _ _, ?_⟩
    intro x hx y hy
    obtain ⟨p, hp, hx⟩ := docA_mem.1 hx
    obtain ⟨k, -, -, x2, x3⟩ := docR_mem.1 hx
    obtain ⟨k2, -, -, y2, y3⟩ := docR_mem.1 hy
    exact .inr ⟨by rw [x2, y2], .inl (by omega)⟩
theorem allV_up (V : Vg) : (allV V).Pairwise ltL := by
  unfold allV
  refine List.pairwise_append.2 ⟨docA_up _ _ _, docA_up _ _ _, ?_⟩
  intro x hx y hy
  obtain ⟨p, hp, hx⟩ := docA_mem.1 hx
  obtain ⟨k, -, -, x2, x3⟩ := docR_mem.1 hx
  obtain ⟨p, hp, hy⟩ := docA_mem.1 hy
  obtain ⟨k2, -, -, y2, y3⟩ := docR_mem.1 hy
  exact .inl ⟨x2, y2⟩
theorem allV_mem {V : Vg} (ok : V.ok) {x : Lr} : x ∈ allV V ↔ ∃ k : Nat, k < 64 ∧ oneV V k = some x := by
  unfold allV
  rw [List.mem_append]
  constructor
  · rintro (h | h)
    all_goals
      obtain ⟨p, hp, h⟩ := docA_mem.1 h
      obtain ⟨k, h1, h2, -⟩ := docR_mem.1 h
      exact ⟨k, h1, h2⟩
  · rintro ⟨k, h1, h2⟩
    obtain ⟨p0, p1⟩ := oneV_P ok h2
    have key : x ∈ docA V x.Ac 256 := docA_mem.2 ⟨x.P.toNat, by omega, docR_mem.2 ⟨k, h1, h2, rfl, by omega⟩⟩
    cases hx : x.Ac with
    | true => rw [hx] at key; exact .inl key
    | false => rw [hx] at key; exact .inr key
theorem rawV_mem {V : Vg} {x : Lr} {n : Nat} : x ∈ rawV V n ↔ ∃ k : Nat, k < n ∧ oneV V k = some x := by
  unfold rawV
  simp only [List.mem_filterMap, List.mem_range]
theorem rawV_perm {V : Vg} (ok : V.ok) : (rawV V 64).Perm (allV V) := by
  refine (List.perm_ext_iff_of_nodup ?_ ?_).2 fun x => ?_
  · exact (rawV_up V 64).imp fun {a b} h e => by rw [e] at h; exact absurd h (by omega)
  · exact (allV_up V).imp fun {a b} h e => by rw [e] at h; exact ltL_irrefl _ h
  · rw [rawV_mem, allV_mem ok]
theorem allV_len {V : Vg} (ok : V.ok) : (allV V).length ≤ 64 := by
  rw [← (rawV_perm ok).length_eq]; exact rawV_len V 64
/-- The running priority. -/
def isMinV (V : Vg) (n : Nat) (r : Int) : Prop := r ≤ 256 ∧ (∀ (k : Nat) a l, k < n → V.A (k : Nat) = some (a, l) → r ≤ a) ∧ (r = 256 ∨ ∃ (k : Nat) (l : Bool), k < n ∧ V.A (k : Nat) = some (r, l))
theorem runV_min (V : Vg) : ∀ n, isMinV V n (runV V n)
  | 0 => ⟨Int.le_refl _, fun k a l h => absurd h (Nat.not_lt_zero _), .inl rfl⟩
  | n + 1 => by
    obtain ⟨h1, h2, h3⟩ := runV_min V n
    unfold runV
    cases ha : V.A (n : Nat) with
    | none =>
      refine ⟨h1, fun k a l hk e => ?_, ?_⟩
      · by_cases q : k = n
        · subst q; rw [ha] at e; cases e
        · exact h2 k a l (by omega) e
      · rcases h3 with h | ⟨k, l, hk, e⟩
        · exact .inl h
        · exact .inr ⟨k, l, by omega, e⟩
    | some x =>
      obtain ⟨a, l⟩ := x
      try simp only
      refine ⟨by omega, fun k a2 l2 hk e => ?_, ?_⟩
      · by_cases q : k = n
        · subst q; rw [ha] at e; cases e; omega
        · have := h2 k a2 l2 (by omega) e; omega
      · by_cases q : runV V n ≤ a
        · rw [Int.min_eq_left q]
          rcases h3 with h | ⟨k, l, hk, e⟩
          · exact .inl h
          · exact .inr ⟨k, l, by omega, e⟩
        · rw [Int.min_eq_right (by omega)]
          exact .inr ⟨n, l, by omega, ha⟩
theorem minV_uniq {V : Vg} {n : Nat} {r s : Int} (a : isMinV V n r) (b : isMinV V n s) : r = s := by
  obtain ⟨a1, a2, a3⟩ := a
  obtain ⟨b1, b2, b3⟩ := b
  have key : ∀ {r s : Int}, r ≤ 256 → (∀ (k : Nat) a l, k < n → V.A (k : Nat) = some (a, l) → r ≤ a) → (s = 256 ∨ ∃ (k : Nat) (l : Bool), k < n ∧ V.A (k : Nat) = some (s, l)) → r ≤ s := by
    intro r s h1 h2 h3
    rcases h3 with h | ⟨k, l, hk, e⟩
    · omega
    · exact h2 k _ l hk e
  have := key a1 a2 b3
  have := key b1 b2 a3
  omega
theorem find_min {l : List Lr} (hl : l.Pairwise ltL) {p : Lr → Bool} {x : Lr} (hx : x ∈ l) (px : p x = true) (hm : ∀ y ∈ l, p y = true → y = x ∨ ltL x y) : l.find? p = some x := by
  induction l with
  | nil => cases hx
  | cons y l ih =>
    rw [List.find?_cons]
    obtain ⟨q1, q2⟩ := List.pairwise_cons.1 hl
    cases py : p y with
    | true =>
      rcases hm y (by simp) py with h | h
      · rw [h]
      · rcases List.mem_cons.1 hx with e | e
        · rw [e]
        · exact absurd (ltL_trans h (q1 x e)) (ltL_irrefl _)
    | false =>
      rcases List.mem_cons.1 hx with e | e
      · rw [e, py] at px; cases px
      · exact ih q2 e fun z hz => hm z (by simp [hz])
/-- Which may be heard, by its priority. -/
def mayV (V : Vg) (k : Int) : Option Int := match V.A k with
  | some _ => none
  | none => match V.P k with
    | none => none
    | some (p, _) => if p < V.mask ∧ p < runV V 64 then some p else none
theorem mayV_one {V : Vg} {k p : Int} : mayV V k = some p ↔ ∃ x, oneV V k = some x ∧ x.Ac = false ∧ x.P = p ∧ x.P < leastV V := by
  unfold mayV oneV leastV
  cases V.A k with
  | some a => simp
  | none =>
    cases V.P k with
    | none => simp
    | some a =>
      obtain ⟨a, l⟩ := a
      simp only [Option.some.injEq, exists_eq_left', true_and]
      by_cases q : a < V.mask ∧ a < runV V 64
      · rw [if_pos q, Option.some.injEq]
        constructor
        · intro e; exact ⟨e, by omega⟩
        · exact fun e => e.1
      · rw [if_neg q]
        constructor
        · intro e; cases e
        · rintro ⟨-, e⟩; omega
theorem nextV_none {V : Vg} (ok : V.ok) (h : ∀ k : Nat, k < 64 → mayV V k = none) : nextV V = none := by
  unfold nextV
  rw [List.find?_eq_none.2, Option.map_none]
  intro x hx
  obtain ⟨k, hk, e⟩ := (allV_mem ok).1 hx
  intro q
  simp only [Bool.and_eq_true, Bool.not_eq_true', decide_eq_true_eq] at q
  have := h k hk
  rw [mayV_one.2 ⟨x, e, q.1, rfl, q.2⟩] at this
  cases this
theorem nextV_some {V : Vg} (ok : V.ok) {b : Nat} (hb : b < 64) {p : Int} (hp : mayV V b = some p) (h : ∀ k : Nat, k < 64 → ∀ q, mayV V k = some q → p < q ∨ (p = q ∧ b ≤ k)) : nextV V = some (b : Int) := by
  obtain ⟨x, x1, x2, x3, x4⟩ := mayV_one.1 hp
  unfold nextV
  rw [find_min (allV_up V) ((allV_mem ok).2 ⟨b, hb, x1⟩) (by simp [x2, x4]), Option.map_some, oneV_I x1]
  intro y hy py
  simp only [Bool.and_eq_true, Bool.not_eq_true', decide_eq_true_eq] at py
  obtain ⟨k, hk, e⟩ := (allV_mem ok).1 hy
  have i1 := oneV_I x1
  have i2 := oneV_I e
  rcases h k hk _ (mayV_one.2 ⟨y, e, py.1, rfl, py.2⟩) with q | ⟨q1, q2⟩
  · exact .inr (.inr ⟨by rw [x2, py.1], .inl (by omega)⟩)
  · by_cases z : k = b
    · subst z; rw [x1] at e; exact .inl (by simpa using e.symm)
    · exact .inr (.inr ⟨by rw [x2, py.1], .inr ⟨by omega, by omega⟩⟩)
theorem nextV_is {V : Vg} (ok : V.ok) {k : Int} (h : nextV V = some k) : 0 ≤ k ∧ k < 64 ∧ V.A k = none ∧ ∃ p l, V.P k = some (p, l) := by
  unfold nextV at h
  obtain ⟨x, hx, rfl⟩ := Option.map_eq_some_iff.1 h
  have h1 := List.mem_of_find?_eq_some hx
  have h2 := List.find?_some hx
  simp only [Bool.and_eq_true, Bool.not_eq_true', decide_eq_true_eq] at h2
  obtain ⟨k, hk, e⟩ := (allV_mem ok).1 h1
  rw [oneV_I e]
  refine ⟨by omega, by omega, ?_⟩
  unfold oneV at e
  cases ha : V.A (k : Nat) with
  | some a => rw [ha] at e; cases e; cases h2.1
  | none =>
    rw [ha] at e
    refine ⟨rfl, ?_⟩
    cases hp : V.P (k : Nat) with
    | none => rw [hp] at e; cases e
    | some a => exact ⟨a.1, a.2, rfl⟩
theorem ackV_ok {V : Vg} (ok : V.ok) : (ackV V).1.ok := by
  unfold ackV
  cases h : nextV V with
  | none => exact ok
  | some k =>
    refine ⟨fun j a l e => ?_, fun j a l e => ?_, ok.m0, ok.m1⟩
    · simp only [setF] at e
      split at e
      · cases e
      · exact ok.p j a l e
    · simp only [setF] at e
      split at e
      · rename_i q; subst q; exact ok.p _ _ _ e
      · exact ok.a j a l e
theorem endV_ok {V : Vg} (ok : V.ok) (k : Int) : (endV V k).1.ok := by
  unfold endV
  cases h : V.A k with
  | none => exact ok
  | some x =>
    refine ⟨ok.p, fun j a l e => ?_, ok.m0, ok.m1⟩
    simp only [setF] at e
    split at e
    · cases e
    · exact ok.a j a l e
theorem injV_ok {V : Vg} (ok : V.ok) (k p : Int) (l : Bool) : (injV V k p l).1.ok := by
  unfold injV
  split
  · exact ok
  · rename_i q
    cases h : V.P k with
    | some x => exact ok
    | none =>
      refine ⟨fun j a l e => ?_, ok.a, ok.m0, ok.m1⟩
      simp only [setF] at e
      split at e
      · rename_i z; subst z; cases e; omega
      · exact ok.p j a l e
theorem ackV_bd {V : Vg} (ok : V.ok) : 0 ≤ (ackV V).2 ∧ (ackV V).2 < 4294967296 := by
  unfold ackV
  cases h : nextV V with
  | none => simp only; omega
  | some k => have := nextV_is ok h; simp only; omega
theorem vg0_ok : vg0.ok := by
  refine ⟨?_, ?_, by decide, by decide⟩ <;> intro k a l e <;> cases e
end Go.Eng
/-
  Layers 2, 3, 4, 9, plain: entries of tables, the buffer, the walk, a step of the processor.
-/
namespace Go.Eng
open Go Go.Proofs
structure Ent where
  V : Bool
  L : Bool
  R : Int
  F : Int
  deriving DecidableEq
def Ent.cells (e : Ent) : List Value := [.bool e.V, .bool e.L, .int .i64 e.R, .int .i64 e.F]
theorem Ent.cells_eq {e : Ent} : e.cells = [.bool e.V, .bool e.L, .int .i64 e.R, .int .i64 e.F] := rfl
attribute [go_sem] Ent.cells_eq
def zeroE : Ent := ⟨false, false, 0, 0⟩
def rightE (e : Ent) : Bool :=
  if e.V then decide (0 ≤ e.F) && decide (e.F < 1024) && (if e.L then decide (0 ≤ e.R) && decide (e.R ≤ 7) else decide (e.R = 0)) else decide (e = zeroE)
def bitI (b : Bool) (n : Int) : Int := if b then n else 0
def wordE (e : Ent) : Int := 64 * e.F + 4 * e.R + bitI e.V 1 + bitI e.L 2
def decE0 (w : Int) : Ent := ⟨decide (w % 2 = 1), decide (w / 2 % 2 = 1), w / 4 % 8, w / 64⟩
def decE (w : Int) : Ent × Int := if decide (w / 32 % 2 = 1) || !rightE (decE0 w) then (zeroE, 20) else (decE0 w, 0)
def idxE (page level : Int) : Int := if page < 0 ∨ 1024 ≤ page then 0 else if level = 0 then page / 32 else if level = 1 then page % 32 else 0
def accM (n : Nat) (addr size : Int) : Int := if size ≠ 1 ∧ size ≠ 2 ∧ size ≠ 4 then 1 else if addr.tmod size ≠ 0 then 11 else if addr < 0 ∨ 64 * n ≤ addr then 10 else 0
def putM (mem : Nat → Int) (addr : Int) (size : Int) (w : Int) : Nat → Int := fun j => if addr ≤ j ∧ (j : Int) < addr + size then w / 256 ^ (j - addr.toNat) % 256 else mem j
def loadM (mem : Nat → Int) (a : Nat) : Nat → Int
  | 0 => 0
  | k + 1 => loadM mem a k + 256 ^ k * mem (a + k)
def plE (n : Nat) (table i : Int) : Int := if i < 0 ∨ 32 ≤ i then 1 else if table < 0 ∨ n ≤ table then 10 else 0
def getE (n : Nat) (mem : Nat → Int) (table i : Int) : Ent × Int := if plE n table i ≠ 0 then (zeroE, plE n table i) else decE (loadM mem (table * 64 + 2 * i).toNat 2)
def putE (n : Nat) (mem : Nat → Int) (table i : Int) (x : Ent) : (Nat → Int) × Int :=
  if plE n table i ≠ 0 then (mem, plE n table i) else if rightE x then (putM mem (table * 64 + 2 * i) 2 (wordE x), 0) else (mem, 20)
/-- What a walk tells. -/
structure Flt where
  K : Int
  S : Int
  L : Int
  W : Bool
  P : Int
  deriving DecidableEq
def Flt.cells (f : Flt) : List Value := [.int .i64 f.K, .int .i64 f.S, .int .i64 f.L, .bool f.W, .int .i64 f.P]
theorem Flt.cells_eq {f : Flt} : f.cells = [.int .i64 f.K, .int .i64 f.S, .int .i64 f.L, .bool f.W, .int .i64 f.P] := rfl
attribute [go_sem] Flt.cells_eq
def okF : Flt := ⟨0, 0, 0, false, 0⟩
def andI (x y : Int) : Int := IntKind.i64.wrap ((BitVec.ofInt 64 x &&& BitVec.ofInt 64 y).toNat : Int)
def stepE (n : Nat) (mem : Nat → Int) (table page level : Int) : Ent × Int :=
  if table < 0 ∨ n ≤ table then (zeroE, 3)
  else if (getE n mem table (idxE page level)).2 = 0 ∧ (getE n mem table (idxE page level)).1.V = true ∧ (getE n mem table (idxE page level)).1.L = decide (level = 1) then ((getE n mem table (idxE page level)).1, 0) else (zeroE, 1)
structure Wlk where
  Fr : Int
  Ri : Int
  f : Flt
def sgW (n : Nat) (mem : Nat → Int) (root page : Int) : Wlk :=
  if page < 0 ∨ 1024 ≤ page then ⟨0, 0, ⟨3, 0, 0, false, 0⟩⟩
  else if (stepE n mem root page 0).2 ≠ 0 then ⟨0, 0, ⟨(stepE n mem root page 0).2, 2, 0, false, page⟩⟩
  else if (stepE n mem (stepE n mem root page 0).1.F page 1).2 ≠ 0 then ⟨0, 0, ⟨(stepE n mem (stepE n mem root page 0).1.F page 1).2, 2, 1, false, page⟩⟩
  else ⟨(stepE n mem (stepE n mem root page 0).1.F page 1).1.F, (stepE n mem (stepE n mem root page 0).1.F page 1).1.R, okF⟩
def seW (n : Nat) (mem : Nat → Int) (root page want : Int) : Wlk :=
  if (sgW n mem root page).f.K ≠ 0 then ⟨0, 0, (sgW n mem root page).f⟩
  else if andI (sgW n mem root page).Ri want = 0 then ⟨0, 0, ⟨2, 2, 1, false, page⟩⟩
  else ⟨(sgW n mem root page).Fr, (sgW n mem root page).Ri, okF⟩
structure Spc where
  Vmid : Int
  Asid : Int
  First : Int
  Second : Int
def Spc.cells (s : Spc) : List Value := [.int .i64 s.Vmid, .int .i64 s.Asid, .int .i64 s.First, .int .i64 s.Second]
theorem Spc.cells_eq {s : Spc} : s.cells = [.int .i64 s.Vmid, .int .i64 s.Asid, .int .i64 s.First, .int .i64 s.Second] := rfl
attribute [go_sem] Spc.cells_eq
/-- A level of the guest's own table. -/
def ownE (n : Nat) (mem : Nat → Int) (s : Spc) (g page level : Int) : Ent × Flt :=
  if (seW n mem s.Second g 1).f.K ≠ 0 then (zeroE, { (seW n mem s.Second g 1).f with W := true })
  else if (stepE n mem (seW n mem s.Second g 1).Fr page level).2 ≠ 0 then (zeroE, ⟨(stepE n mem (seW n mem s.Second g 1).Fr page level).2, 1, level, false, page⟩)
  else ((stepE n mem (seW n mem s.Second g 1).Fr page level).1, okF)
def own2 (n : Nat) (mem : Nat → Int) (s : Spc) (page : Int) : Ent × Flt :=
  if (ownE n mem s s.First page 0).2.K ≠ 0 then ownE n mem s s.First page 0 else ownE n mem s (ownE n mem s s.First page 0).1.F page 1
def neW (n : Nat) (mem : Nat → Int) (s : Spc) (page want : Int) : Wlk :=
  if page < 0 ∨ 1024 ≤ page then ⟨0, 0, ⟨3, 0, 0, false, 0⟩⟩
  else if s.First < 0 then seW n mem s.Second page want
  else if (own2 n mem s page).2.K ≠ 0 then ⟨0, 0, (own2 n mem s page).2⟩
  else if andI (own2 n mem s page).1.R want = 0 then ⟨0, 0, ⟨2, 1, 1, false, page⟩⟩
  else ⟨(seW n mem s.Second (own2 n mem s page).1.F want).Fr, andI (seW n mem s.Second (own2 n mem s page).1.F want).Ri (own2 n mem s page).1.R, (seW n mem s.Second (own2 n mem s page).1.F want).f⟩
/-- A line of the buffer. -/
structure Ln where
  Vmid : Int
  Asid : Int
  Page : Int
  Frame : Int
  Rights : Int
  deriving DecidableEq
def Ln.cells (l : Ln) : List Value := [.int .i64 l.Vmid, .int .i64 l.Asid, .int .i64 l.Page, .int .i64 l.Frame, .int .i64 l.Rights]
theorem Ln.cells_eq {l : Ln} : l.cells = [.int .i64 l.Vmid, .int .i64 l.Asid, .int .i64 l.Page, .int .i64 l.Frame, .int .i64 l.Rights] := rfl
attribute [go_sem] Ln.cells_eq
def zeroL : Ln := ⟨0, 0, 0, 0, 0⟩
def inR (n a b : Int) : Bool := decide (a ≤ n) && decide (n ≤ b)
def rightL (l : Ln) : Bool := inR l.Vmid 1 15 && inR l.Asid 0 15 && inR l.Page 0 1023 && inR l.Frame 0 1023 && inR l.Rights 0 7
def keyL (v a p : Int) (l : Ln) : Bool := !decide (l = zeroL) && decide (l.Vmid = v) && decide (l.Asid = a) && decide (l.Page = p)
def findT (T : List Ln) (v a p : Int) : Option Ln := T.find? (keyL v a p)
def flushT (T : List Ln) (p : Ln → Bool) : List Ln := T.map fun l => if !decide (l = zeroL) && p l then zeroL else l
def keyT (l x : Ln) : Bool := decide (x.Vmid = l.Vmid) && decide (x.Asid = l.Asid) && decide (x.Page = l.Page)
def fillT (T : List Ln) (at_ : Int) (l : Ln) : List Ln := if inR at_ 0 7 && rightL l then (flushT T (keyT l)).set at_.toNat l else T
structure Rch where
  Fr : Int
  f : Flt
  T : List Ln
def reachW (n : Nat) (mem : Nat → Int) (T : List Ln) (s : Spc) (page want at_ : Int) : Rch :=
  if (neW n mem s page want).f.K ≠ 0 then ⟨0, (neW n mem s page want).f, T⟩
  else ⟨(neW n mem s page want).Fr, okF, fillT T at_ ⟨s.Vmid, s.Asid, page, (neW n mem s page want).Fr, (neW n mem s page want).Ri⟩⟩
def reach (n : Nat) (mem : Nat → Int) (T : List Ln) (s : Spc) (page want at_ : Int) : Rch :=
  match findT T s.Vmid s.Asid page with
  | some l => if andI l.Rights want ≠ 0 then ⟨l.Frame, okF, T⟩ else reachW n mem T s page want at_
  | none => reachW n mem T s page want at_
/-- A thread's state; what a step tells. -/
structure Cp where
  Regs : List Int
  Pc : Int
  Sys : List Int
  deriving DecidableEq
def Cp.cells (c : Cp) : List Value := c.Regs.map (Value.int .u32) ++ .int .i64 c.Pc :: c.Sys.map (Value.int .u32)
structure Trp where
  C : Int
  N : Int
  A : Int
  f : Flt
  deriving DecidableEq
def Trp.cells (t : Trp) : List Value := [.int .i64 t.C, .int .i64 t.N, .int .i64 t.A, .int .i64 t.f.K, .int .i64 t.f.S, .int .i64 t.f.L, .bool t.f.W, .int .i64 t.f.P]
theorem Trp.cells_eq {t : Trp} : t.cells = [.int .i64 t.C, .int .i64 t.N, .int .i64 t.A, .int .i64 t.f.K, .int .i64 t.f.S, .int .i64 t.f.L, .bool t.f.W, .int .i64 t.f.P] := rfl
attribute [go_sem] Trp.cells_eq
def okT : Trp := ⟨0, 0, 0, okF⟩
def rg (c : Cp) (a : Int) : Int := c.Regs.getD a.toNat 0
def sy (c : Cp) (a : Int) : Int := c.Sys.getD a.toNat 0
def setR (c : Cp) (a v : Int) : Cp := { c with Regs := c.Regs.set a.toNat v }
def setS (c : Cp) (a v : Int) : Cp := { c with Sys := c.Sys.set a.toNat v }
/-- The machine: the bytes, the buffer, a guest's interrupts. -/
structure Mch where
  mem : Nat → Int
  T : List Ln
  V : Option Vg
def spaceP (g : Bool) (c : Cp) (vmid second_ : Int) : Spc := if g = true ∧ sy c 0 / 2147483648 = 1 then ⟨vmid, sy c 1 % 16, sy c 0 % 1024, second_⟩ else ⟨vmid, 0, -1, second_⟩
structure Rc2 where
  at_ : Int
  f : Flt
  T : List Ln
def reachC (n : Nat) (mem : Nat → Int) (T : List Ln) (s : Spc) (addr want at_ : Int) : Rc2 :=
  ⟨(reach n mem T s (addr / 64) want at_).Fr * 64 + addr % 64, if (reach n mem T s (addr / 64) want at_).f.K = 0 ∧ n ≤ (reach n mem T s (addr / 64) want at_).Fr then ⟨3, 0, 0, false, 0⟩ else (reach n mem T s (addr / 64) want at_).f, (reach n mem T s (addr / 64) want at_).T⟩
structure Out where
  M : Mch
  c : Cp
  t : Trp
def and32 (x y : Int) : Int := ((BitVec.ofInt 32 x &&& BitVec.ofInt 32 y).toNat : Int)
def xor32 (x y : Int) : Int := ((BitVec.ofInt 32 x ^^^ BitVec.ofInt 32 y).toNat : Int)
def reckon (op x y m : Int) : Int := if op = 1 then m else if op = 2 then (x + y) % 4294967296 else if op = 3 then (x - y) % 4294967296 else if op = 4 then and32 x y else if op = 5 then xor32 x y else x * 2 ^ (y % 32).toNat % 4294967296
def guestO (op : Int) : Bool := decide (op = 17) || decide (op = 19) || decide (op = 20) || decide (op = 22) || decide (op = 23) || decide (op = 24)
def go (M : Mch) (c : Cp) (pc : Int) : Out := ⟨M, { c with Pc := pc % 65536 }, okT⟩
def touch (n : Nat) (M : Mch) (c : Cp) (i : Ins) (s : Spc) (at_ size want cause : Int) : Out :=
  if (rg c i.B + i.I) % 65536 % size ≠ 0 then ⟨M, c, ⟨4, 0, (rg c i.B + i.I) % 65536, okF⟩⟩
  else if (reachC n M.mem M.T s ((rg c i.B + i.I) % 65536) want at_).f.K ≠ 0 then ⟨{ M with T := (reachC n M.mem M.T s ((rg c i.B + i.I) % 65536) want at_).T }, c, ⟨cause, 0, (rg c i.B + i.I) % 65536, (reachC n M.mem M.T s ((rg c i.B + i.I) % 65536) want at_).f⟩⟩
  else if want = 2 then go { M with mem := putM M.mem (reachC n M.mem M.T s ((rg c i.B + i.I) % 65536) want at_).at_ size (rg c i.A), T := (reachC n M.mem M.T s ((rg c i.B + i.I) % 65536) want at_).T } c (c.Pc + 4)
  else go { M with T := (reachC n M.mem M.T s ((rg c i.B + i.I) % 65536) want at_).T } (setR c i.A (loadM M.mem (reachC n M.mem M.T s ((rg c i.B + i.I) % 65536) want at_).at_.toNat size.toNat)) (c.Pc + 4)
def doP (n : Nat) (M : Mch) (c : Cp) (i : Ins) (s : Spc) (at_ : Int) : Out :=
  if i.Op ≤ 6 then go M (setR c i.A (reckon i.Op (rg c i.B) (rg c i.C) i.I)) (c.Pc + 4)
  else if i.Op = 7 then touch n M c i s at_ 4 1 2
  else if i.Op = 8 then touch n M c i s at_ 4 2 3
  else if i.Op = 9 then touch n M c i s at_ 1 1 2
  else if i.Op = 10 then touch n M c i s at_ 1 2 3
  else if i.Op = 11 then go M c (if rg c i.A = rg c i.B then i.I else c.Pc + 4)
  else if i.Op = 12 then go M c (if rg c i.A ≠ rg c i.B then i.I else c.Pc + 4)
  else if i.Op = 13 then go M c (if rg c i.A < rg c i.B then i.I else c.Pc + 4)
  else if i.Op = 14 then go M c i.I
  else if i.Op = 15 then go M (setR c i.A ((c.Pc + 4) % 65536)) i.I
  else if i.Op = 16 then go M c (rg c i.B)
  else if i.Op = 17 then ⟨M, c, ⟨5, i.I, c.Pc, okF⟩⟩
  else if i.Op = 18 then ⟨M, c, ⟨6, i.I, c.Pc, okF⟩⟩
  else if i.Op = 19 then (if 6 < i.I then ⟨M, c, ⟨7, i.I, c.Pc, okF⟩⟩ else go M (setR c i.A (sy c i.I)) (c.Pc + 4))
  else if i.Op = 20 then (if 6 ≤ i.I then ⟨M, c, ⟨7, i.I, c.Pc, okF⟩⟩ else go { M with V := if i.I = 2 then M.V.map fun v => { v with mask := min (rg c i.B) 256 } else M.V } (setS c i.I (rg c i.B)) (c.Pc + 4))
  else if i.Op = 21 then (if (M.V.bind nextV).isSome = true then go M c (c.Pc + 4) else ⟨M, c, ⟨9, 0, c.Pc, okF⟩⟩)
  else if i.Op = 22 then go { M with V := M.V.map fun v => (ackV v).1 } (setR c i.A ((M.V.map fun v => (ackV v).2).getD 0)) (c.Pc + 4)
  else if i.Op = 23 then
    ⟨{ M with V := M.V.map fun v => (endV v (min (rg c i.B) 64)).1 }, { c with Pc := (c.Pc + 4) % 65536 }, if ((M.V.map fun v => (endV v (min (rg c i.B) 64)).2).getD false) = true then ⟨10, rg c i.B, c.Pc, okF⟩ else okT⟩
  else if i.Op = 24 then go { M with T := flushT M.T fun l => decide (l.Vmid = s.Vmid) && decide (l.Asid = s.Asid) } c (c.Pc + 4)
  else go M c (c.Pc + 4)
def stepF (n : Nat) (M : Mch) (c : Cp) (s : Spc) (at_ : Int) : Out :=
  let r := reachC n M.mem M.T s c.Pc 4 at_
  if r.f.K ≠ 0 then ⟨{ M with T := r.T }, c, ⟨1, 0, c.Pc, r.f⟩⟩
  else if rightI (decI (loadM M.mem r.at_.toNat 4).toNat) = false ∨ guestO (decI (loadM M.mem r.at_.toNat 4).toNat).Op = true ∧ M.V = none then ⟨{ M with T := r.T }, c, ⟨8, loadM M.mem r.at_.toNat 4, c.Pc, okF⟩⟩
  else doP n { M with T := r.T } c (decI (loadM M.mem r.at_.toNat 4).toNat) s at_
def stepP (n : Nat) (M : Mch) (c : Cp) (vmid second_ at_ : Int) : Out :=
  if c.Pc % 4 ≠ 0 ∨ c.Pc < 0 ∨ 65536 ≤ c.Pc then ⟨M, c, ⟨4, 0, c.Pc, okF⟩⟩ else stepF n M c (spaceP M.V.isSome c vmid second_) at_
end Go.Eng
/-
  The bytes of a memory, as cells.
-/
namespace Go.Eng
open Go Go.Proofs
/-- The bytes of a memory. -/
def memL (n : Nat) (mem : Nat → Int) : List Value := (List.range n).map fun i => .int .u8 (mem i)
theorem memL_len {n : Nat} {mem : Nat → Int} : (memL n mem).length = n := by simp [memL]
theorem memL_get {n : Nat} {mem : Nat → Int} {i : Nat} (hi : i < n) : (memL n mem)[i]? = some (.int .u8 (mem i)) := by simp [memL, hi]
theorem memL_single {n : Nat} {mem : Nat → Int} : ∀ x ∈ memL n mem, single x = true := by
  intro x hx; obtain ⟨i, -, rfl⟩ := List.mem_map.1 hx; rfl
theorem memL_congr {n : Nat} {mem mem' : Nat → Int} (e : ∀ i, i < n → mem i = mem' i) : memL n mem = memL n mem' := by
  unfold memL
  apply List.map_congr_left
  intro i hi
  rw [e i (List.mem_range.1 hi)]
theorem memL_set {n : Nat} {mem : Nat → Int} {k : Nat} {x : Int} : (memL n mem).set k (.int .u8 x) = memL n (fun j => if j = k then x else mem j) := by
  apply List.ext_getElem?
  intro i
  rw [List.getElem?_set]
  by_cases e : k = i
  · subst e
    rw [memL_len]
    by_cases hk : k < n
    · simp [memL, hk]
    · simp [memL, hk]
  · rw [if_neg e]
    by_cases hi : i < n
    · rw [memL_get hi, memL_get hi, if_neg (fun q => e q.symm)]
    · rw [List.getElem?_eq_none (by rw [memL_len]; omega), List.getElem?_eq_none (by rw [memL_len]; omega)]

def bytesOk (n : Nat) (mem : Nat → Int) : Prop := ∀ i, i < n → 0 ≤ mem i ∧ mem i < 256

theorem loadM_cons (mem : Nat → Int) (a : Nat) : ∀ k, loadM mem a (k + 1) = mem a + 256 * loadM mem (a + 1) k
  | 0 => by simp [loadM]
  | k + 1 => by
    rw [loadM, loadM_cons mem a k, loadM, show a + 1 + k = a + (k + 1) by omega]
    have e : (256 : Int) ^ (k + 1) = 256 * 256 ^ k := by rw [Int.pow_succ, Int.mul_comm]
    rw [e, Int.mul_add, Int.mul_assoc]
    omega
theorem loadM_bd {n : Nat} {mem : Nat → Int} (hb : bytesOk n mem) (a : Nat) : ∀ k, a + k ≤ n → 0 ≤ loadM mem a k ∧ loadM mem a k < 256 ^ k
  | 0, _ => by simp [loadM]
  | k + 1, h => by
    obtain ⟨h1, h2⟩ := loadM_bd hb a k (by omega)
    obtain ⟨b1, b2⟩ := hb (a + k) (by omega)
    have hp : (0 : Int) < 256 ^ k := Int.pow_pos (by decide)
    rw [loadM, Int.pow_succ]
    have m1 : 0 ≤ 256 ^ k * mem (a + k) := Int.mul_nonneg (Int.le_of_lt hp) b1
    have m2 : 256 ^ k * mem (a + k) ≤ 256 ^ k * 255 := Int.mul_le_mul_of_nonneg_left (by omega) (Int.le_of_lt hp)
    constructor <;> omega
theorem accM_ok {n : Nat} {addr size : Int} (q : accM n addr size = 0) : (size = 1 ∨ size = 2 ∨ size = 4) ∧ addr.tmod size = 0 ∧ 0 ≤ addr ∧ addr < 64 * n ∧ addr + size ≤ 64 * n ∧ addr % 64 + size ≤ 64 := by
  unfold accM at q
  by_cases c1 : size ≠ 1 ∧ size ≠ 2 ∧ size ≠ 4
  · rw [if_pos c1] at q; cases q
  · rw [if_neg c1] at q
    by_cases c2 : addr.tmod size ≠ 0
    · rw [if_pos c2] at q; cases q
    · rw [if_neg c2] at q
      by_cases c3 : addr < 0 ∨ 64 * (n : Int) ≤ addr
      · rw [if_pos c3] at q; cases q
      · have ha : addr.tmod size = 0 := by omega
        have hz : size = 1 ∨ size = 2 ∨ size = 4 := by omega
        have h2 := ha
        rw [Int.tmod_eq_emod_of_nonneg (by omega)] at h2
        refine ⟨hz, ha, by omega, by omega, ?_, ?_⟩ <;> rcases hz with rfl | rfl | rfl <;> omega
theorem putM_byte {n : Nat} {mem : Nat → Int} {addr size w : Int} (hb : bytesOk n mem) : bytesOk n (putM mem addr size w) := by
  intro j hj
  unfold putM
  split
  · omega
  · exact hb j hj
end Go.Eng
/-
  package ram: New, Frames, place, Load, Store, there, Frame.
-/
namespace Go.Eng
open Go Go.Proofs
/-- The program's memory. -/
def ramS (rb n : Nat) (mem : Nat → Int) : SP := exS fun x : Value × TypeId => starL [pureS (bytesOk (64 * n) mem ∧ n ≤ 1024), cellAt rb (.cells [x.1].toArray x.2 (0, 0)), sliceS 64 n x.1 (memL (64 * n) mem)]
theorem ramS_iff {h : Heap} {F : List SP} {rb n : Nat} {mem : Nat → Int} : Sat h (ramS rb n mem :: F) ↔ (bytesOk (64 * n) mem ∧ n ≤ 1024) ∧ ∃ v ty, Sat h (cellAt rb (.cells [v].toArray ty (0, 0)) :: sliceS 64 n v (memL (64 * n) mem) :: F) := by
  unfold ramS
  rw [Sat.ex]
  constructor
  · rintro ⟨x, hx⟩
    have := Sat.star.1 hx
    obtain ⟨p, q⟩ := Sat.pure.1 this
    exact ⟨p, x.1, x.2, q⟩
  · rintro ⟨p, v, ty, hx⟩
    exact ⟨(v, ty), Sat.star.2 (Sat.pure.2 ⟨p, hx⟩)⟩
theorem hreadO_ext {c : Array Value} {e : TypeId} {fr : Nat × Nat} {o n : Nat} (hn : o + n ≤ c.size) : hreadO (some (.cells c e fr)) o n = some (c.extract o (o + n)) := by simp [hreadO, hn]
theorem runH_store_all {P : Program} {h : Heap} {t e : TypeId} {b : Nat} {a c : Array Value} {K : Unit → Heap → Prop} (hs : tszD P t = a.size) (ht : (tsz P t).isSome = true) (hb : h[b]? = some (.cells c e (0, 0))) (hc : c.size = a.size)
    (hv : ∀ v ∈ a.toList, single v = true) (hK : K () (h.setIfInBounds b (.cells a e (0, 0)))) : runH P (iStoreAt t (.pointer (some ⟨b, 0, none⟩)) (.agg a)) h K := by
  obtain ⟨n, hn⟩ := Option.isSome_iff_exists.1 ht
  have e0 : tszD P t = n := by simp [tszD, hn]
  show runH P (storeVar t _ _) h K
  rw [runH_storeVar (n := n) hn (by simp only [Value.cells]; omega)]
  refine storeCells_arr a.toList 0 h c hb hv (by simp; omega) fun c' hc' hg => ?_
  have : c' = a := by
    apply Array.ext_getElem?
    intro j
    rw [hg j]
    split
    · simp
    · rename_i q
      simp only [Nat.zero_add, Nat.zero_le, true_and, Array.length_toList, Nat.not_lt] at q
      rw [Array.getElem?_eq_none (by omega), Array.getElem?_eq_none (by omega)]
  rw [this]; exact hK

theorem or32 {x b : Int} (h0 : 0 ≤ x) (h1 : x < 16777216) (b0 : 0 ≤ b) (b1 : b < 256) : ((BitVec.ofInt 32 (IntKind.u32.wrap (x * 2 ^ min 8 32)) ||| BitVec.ofInt 32 b).toNat : Int) = b + 256 * x := by
  rw [show (2 : Int) ^ min 8 32 = 256 from rfl, w32_id (a := x * 256) (by omega) (by omega)]
  obtain ⟨x, rfl⟩ := Int.eq_ofNat_of_zero_le h0
  obtain ⟨b, rfl⟩ := Int.eq_ofNat_of_zero_le b0
  rw [show ((x : Int) * 256) = ((x * 256 : Nat) : Int) by omega, BitVec.toNat_or, BitVec.ofInt_natCast, BitVec.ofInt_natCast, BitVec.toNat_ofNat, BitVec.toNat_ofNat, Nat.mod_eq_of_lt (by omega), Nat.mod_eq_of_lt (by omega)]
  have := Nat.two_pow_add_eq_or_of_lt (i := 8) (b := b) (by omega) x
  rw [Nat.mul_comm] at this
  rw [show x * 2 ^ 8 = x * 256 from rfl] at this
  rw [← this]
  omega
theorem byte_at {w : Int} {t : Nat} (ht : t < 4) : IntKind.u8.wrap (w.fdiv (2 ^ min (8 * (t : Int)).toNat 32)) = w / 256 ^ t % 256 := by
  have e : ∀ x : Int, IntKind.u8.wrap x = x % 256 := fun x => by simp [IntKind.wrap, IntKind.bits, IntKind.signed]
  rw [e]
  match t, ht with
  | 0, _ => simp
  | 1, _ => rw [show min (8 * ((1 : Nat) : Int)).toNat 32 = 8 from rfl, Int.fdiv_eq_ediv_of_nonneg _ (by decide)]; rfl
  | 2, _ => rw [show min (8 * ((2 : Nat) : Int)).toNat 32 = 16 from rfl, Int.fdiv_eq_ediv_of_nonneg _ (by decide)]; rfl
  | 3, _ => rw [show min (8 * ((3 : Nat) : Int)).toNat 32 = 24 from rfl, Int.fdiv_eq_ediv_of_nonneg _ (by decide)]; rfl
section
variable {h : Heap} {F : List SP} {rb n : Nat} {mem : Nat → Int}
theorem ramNew_S (hs : Sat h F) (n : Nat) (h1 : 1 ≤ n) (h2 : n ≤ 1024) : HCalls Tryz.prog 27 #[.int .i64 n] h fun v h' => ∃ rb, v = .tuple #[.pointer (some ⟨rb, 0, none⟩), .int .i64 0] ∧ Sat h' (ramS rb n (fun _ => 0) :: F) := by
  refine HCalls.via fun R hR => ?_
  have c1 : ¬ ((n : Int) < 1) := by omega
  have c2 : ¬ (1024 < (n : Int)) := by omega
  refine HCalls.of_dev T27 Tryz.func27 rfl mixed (by kernel_rfl) ?_; rw [Tryz.results27]
  simp (maxSteps := 2000000) (disch := first | (simp only [go_sem, simprocAttr, c1, c2] <;> omega) | omega) only [go_sem, simprocAttr, c1, c2]
  have s1 := hs.push (.cells (zrow Tryz.prog 127 n) 126 (0, 0))
  have s2 : Sat _ (sliceS 64 n (.slice (some ⟨h.size, 0, none⟩) n n) (memL (64 * n) fun _ => 0) :: F) := s1.toSlice (by rw [memL_len]; omega) memL_single (Nat.le_refl _) (by rw [zrow_size, ssz_127]) fun k hk => by
    rw [memL_len] at hk
    have zrep : (tzeroD Tryz.prog 126).cells = Array.replicate 64 (.int .u8 0) := by kernel_rfl
    have hi' : k % 64 < 64 := Nat.mod_lt _ (by omega)
    rw [zrow_get (by rw [ssz_127]; omega), selem_127, zrep, memL_get hk]
    simp [hi']
  have s3 := s2.push (.cells [.slice (some ⟨h.size, 0, none⟩) n n].toArray 129 (0, 0))
  rw [size_push'] at s3
  exact hR _ _ ⟨_, rfl, ramS_iff.2 ⟨⟨fun i _ => by simp, h2⟩, _, _, s3⟩⟩
theorem frames_S (hs : Sat h (ramS rb n mem :: F)) : HCalls Tryz.prog 101 #[.pointer (some ⟨rb, 0, none⟩)] h fun v h' => v = .int .i64 n ∧ h' = h := by
  refine HCalls.via fun R hR => ?_
  obtain ⟨⟨hb, hn⟩, v, ty, s⟩ := ramS_iff.1 hs
  obtain ⟨_, _, rfl, -⟩ := (s.front 1).elems
  refine HCalls.of_dev T101 Tryz.func101 rfl mixed (by kernel_rfl) ?_; rw [Tryz.results101]
  simp (maxSteps := 2000000) (disch := first | (simp only [go_sem, simprocAttr, s.get] <;> omega) | omega) only [go_sem, simprocAttr, s.get]
  exact hR _ _ ⟨rfl, rfl⟩
theorem there_S (hs : Sat h (ramS rb n mem :: F)) (i : Int) : HCalls Tryz.prog 45 #[.pointer (some ⟨rb, 0, none⟩), .int .i64 i] h fun v h' => v = .bool (decide (0 ≤ i ∧ i < n)) ∧ h' = h := by
  refine HCalls.via fun R hR => ?_
  obtain ⟨⟨hb, hn⟩, v, ty, s⟩ := ramS_iff.1 hs
  obtain ⟨_, _, rfl, -⟩ := (s.front 1).elems
  refine HCalls.of_dev T45 Tryz.func45 rfl mixed (by kernel_rfl) ?_; rw [Tryz.results45]
  simp (maxSteps := 2000000) (disch := first | (simp only [go_sem, simprocAttr, s.get] <;> omega) | omega) only [go_sem, simprocAttr, s.get]
  exact hR _ _ ⟨by rw [Bool.decide_and], rfl⟩
set_option maxRecDepth 16000 in
theorem place_S (hs : Sat h (ramS rb n mem :: F)) (addr size : Int) (hz : size = 1 ∨ size = 2 ∨ size = 4) :
    HCalls Tryz.prog 68 #[.pointer (some ⟨rb, 0, none⟩), .int .i64 addr, .int .i64 size] h fun v h' => h' = h ∧
      ((accM n addr size = 0 ∧ ∃ db cap ty, v = .tuple #[.slice (some ⟨db, addr.toNat, none⟩) size.toNat (64 - addr.toNat % 64), .int .i64 0] ∧ Sat h (cellAt rb (.cells [.slice (some ⟨db, 0, none⟩) n cap].toArray ty (0, 0)) :: sliceS 64 n (.slice (some ⟨db, 0, none⟩) n cap) (memL (64 * n) mem) :: F)) ∨
       (accM n addr size ≠ 0 ∧ v = .tuple #[.slice none 0 0, .int .i64 (accM n addr size)])) := by
  refine HCalls.via fun R hR => ?_
  obtain ⟨⟨hb, hn⟩, v, ty, s⟩ := ramS_iff.1 hs
  obtain ⟨sl, cap, rfl, hc, -, el⟩ := (s.front 1).elems
  have no : accM n addr size ≠ 0 → R (.tuple #[.slice none 0 0, .int .i64 (accM n addr size)]) h := fun e => hR _ _ ⟨rfl, .inr ⟨e, rfl⟩⟩
  have hne : size ≠ 0 := by omega
  refine HCalls.of_dev T68 Tryz.func68 rfl mixed (by kernel_rfl) ?_; rw [Tryz.results68]
  simp (maxSteps := 2000000) (disch := first | (simp only [go_sem, simprocAttr, s.get, hne] <;> omega) | omega) only [go_sem, simprocAttr, s.get, hne]
  refine ⟨fun q => by simp at q; omega, fun _ => ⟨fun q => ?_, fun q => ⟨fun q2 => ?_, fun q2 => ?_⟩⟩⟩
  · have e : accM n addr size = 11 := by unfold accM; rw [if_neg (by omega), if_pos (by omega)]
    have := no (by omega)
    rwa [e] at this
  · simp only [Bool.or_eq_true, decide_eq_true_eq] at q2
    have e : accM n addr size = 10 := by unfold accM; rw [if_neg (by omega), if_neg (by omega), if_pos (by omega)]
    have := no (by omega)
    rwa [e] at this
  · simp only [Bool.or_eq_false_iff, decide_eq_false_iff_not] at q2
    have q := Classical.not_not.1 q
    have e : accM n addr size = 0 := by unfold accM; rw [if_neg (by omega), if_neg (by omega), if_neg (by omega)]
    obtain ⟨-, -, a0, a1, a2, a3⟩ := accM_ok e
    rcases el with z | ⟨db, rfl, -, -⟩
    · omega
    have e1 : addr.tdiv 64 = addr / 64 := Int.tdiv_eq_ediv_of_nonneg (by omega)
    have e2 : addr.tmod 64 = addr % 64 := Int.tmod_eq_emod_of_nonneg (by omega)
    have w1 : IntKind.i64.wrap (addr / 64) = addr / 64 := w64_id (by omega) (by omega)
    have w2 : IntKind.i64.wrap (addr % 64 + size) = addr % 64 + size := w64_id (by omega) (by omega)
    have c1 : (0 : Int) ≤ addr / 64 := by omega
    have c2 : addr / 64 < (n : Int) := by omega
    have c3 : (0 : Int) ≤ addr % 64 := by omega
    have c4 : addr % 64 ≤ addr % 64 + size := by omega
    have c5 : addr % 64 + size ≤ ((64 : Nat) : Int) := by omega
    have c6 : addr % 64 < ((64 : Nat) : Int) := by omega
    rw [e1, e2]
    simp (maxSteps := 2000000) (disch := first | (simp only [go_sem, simprocAttr, w1, w2, c1, c2, c3, c4, c5, c6] <;> omega) | omega) only [go_sem, simprocAttr, w1, w2, c1, c2, c3, c4, c5, c6]
    have e3 : (addr / 64).toNat * 64 + (addr % 64).toNat = addr.toNat := by omega
    have e4 : (addr % 64 + size).toNat - (addr % 64).toNat = size.toNat := by omega
    have e5 : 64 - (addr % 64).toNat = 64 - addr.toNat % 64 := by omega
    refine hR _ _ ⟨rfl, .inl ⟨e, db, cap, ty, ?_, s⟩⟩
    rw [e4, e5, ← e3]
theorem load_S (hs : Sat h (ramS rb n mem :: F)) (addr size : Int) (hz : size = 1 ∨ size = 2 ∨ size = 4) :
    HCalls Tryz.prog 73 #[.pointer (some ⟨rb, 0, none⟩), .int .i64 addr, .int .i64 size] h fun v h' => h' = h ∧ v = .tuple #[.int .u32 (if accM n addr size = 0 then loadM mem addr.toNat size.toNat else 0), .int .i64 (accM n addr size)] := by
  refine HCalls.via fun R hR => ?_
  refine HCalls.of_dev T73 Tryz.func73 rfl mixed (by kernel_rfl) ?_; rw [Tryz.results73]
  simp (maxSteps := 2000000) (disch := first | (simp only [go_sem, simprocAttr] <;> omega) | omega) only [go_sem, simprocAttr]
  refine (place_S hs addr size hz).mono ?_
  rintro v h' ⟨rfl, (⟨e, db, cap, ty, rfl, s⟩ | ⟨e, rfl⟩)⟩
  · obtain ⟨-, -, a0, a1, a2, a3⟩ := accM_ok e
    obtain ⟨⟨hb, hn⟩, -⟩ := ramS_iff.1 hs
    rw [e, if_pos rfl] at hR
    obtain ⟨a, rfl⟩ := Int.eq_ofNat_of_zero_le a0
    obtain ⟨k, rfl⟩ := Int.eq_ofNat_of_zero_le (show 0 ≤ size by omega)
    simp only [Int.toNat_natCast] at *
    obtain ⟨sl, cap2, ev, hc, -, el⟩ := (s.front 1).elems
    cases ev
    rcases el with z | ⟨db', ed, g, -⟩
    · omega
    cases ed
    simp (maxSteps := 2000000) (disch := first | (simp only [go_sem, simprocAttr] <;> omega) | omega) only [go_sem, simprocAttr]
    refine loopH.intro (fun t : Nat => (.cons 8 (.slice (some ⟨db, a, none⟩) k (64 - a % 64)) true (.cons 9 (.int .i64 0) true (.cons 10 (.int .u32 (loadM mem (a + t) (k - t))) true (.cons 11 (.int .i64 ((t : Int) - 1)) true .nil)))))
      (fun t h2 => h2 = h' ∧ t ≤ k) (fun t _ => t) k ?_ ⟨rfl, by omega⟩ ?_
    · simp (maxSteps := 2000000) (disch := first | (simp only [go_sem, simprocAttr] <;> omega) | omega) only [go_sem, simprocAttr]; simp [loadM]
    rintro t h2 ⟨rfl, ht⟩
    by_cases q : t = 0
    · subst q
      have h00 : ((0 : Nat) : Int) - 1 = -1 := rfl
      simp (maxSteps := 2000000) (disch := first | (simp only [go_sem, simprocAttr, h00] <;> omega) | omega) only [go_sem, simprocAttr, h00]
      exact hR _ _ ⟨rfl, rfl⟩
    · have q1 : 0 ≤ (t : Int) - 1 := by omega
      have q2 : (t : Int) - 1 < k := by omega
      have q3 : ((t : Int) - 1).toNat = t - 1 := by omega
      have g1 := g (a + (t - 1)) (by omega)
      rw [memL_get (by omega)] at g1
      obtain ⟨b1, b2⟩ := loadM_bd hb (a + t) (k - t) (by omega)
      obtain ⟨b3, b4⟩ := hb (a + (t - 1)) (by omega)
      simp (maxSteps := 2000000) (disch := first | (simp only [go_sem, simprocAttr, q1, q2, q3, g1] <;> omega) | omega) only [go_sem, simprocAttr, q1, q2, q3, g1]
      have b5 : loadM mem (a + t) (k - t) < 16777216 := by
        have : k - t = 0 ∨ k - t = 1 ∨ k - t = 2 ∨ k - t = 3 := by omega
        rcases this with q | q | q | q <;> rw [q] at b2 ⊢ <;> simp at b2 ⊢ <;> omega
      have e3 := loadM_cons mem (a + (t - 1)) (k - t)
      rw [show a + (t - 1) + 1 = a + t by omega, show k - t + 1 = k - (t - 1) by omega] at e3
      exact ⟨t - 1, by simp only; rw [show (t : Int) - 1 - 1 = ((t - 1 : Nat) : Int) - 1 by omega, e3, ← or32 b1 b5 b3 b4]; rfl, ⟨rfl, by omega⟩, by simp only; omega⟩
  · rw [if_neg e] at hR
    have h00 : ((0 : Nat) : Int) - 1 = -1 := rfl
    simp (maxSteps := 2000000) (disch := first | (simp only [go_sem, simprocAttr, h00] <;> omega) | omega) only [go_sem, simprocAttr, h00]
    refine loopH.intro (fun _ : Unit => (.cons 8 (.slice none 0 0) true (.cons 9 (.int .i64 (accM n addr size)) true (.cons 10 (.int .u32 0) true (.cons 11 (.int .i64 (-1)) true .nil))))) (fun _ h2 => h2 = h') (fun _ _ => 0) () ?_ rfl ?_
    · simp (maxSteps := 2000000) (disch := first | (simp only [go_sem, simprocAttr] <;> omega) | omega) only [go_sem, simprocAttr]
    rintro - h2 rfl
    simp (maxSteps := 2000000) (disch := first | (simp only [go_sem, simprocAttr] <;> omega) | omega) only [go_sem, simprocAttr]
    exact hR _ _ ⟨rfl, rfl⟩
theorem store_S (hs : Sat h (ramS rb n mem :: F)) (addr size w : Int) (hz : size = 1 ∨ size = 2 ∨ size = 4) (hw : 0 ≤ w ∧ w < 4294967296) :
    HCalls Tryz.prog 32 #[.pointer (some ⟨rb, 0, none⟩), .int .i64 addr, .int .i64 size, .int .u32 w] h fun v h' => v = .int .i64 (accM n addr size) ∧ Sat h' (ramS rb n (if accM n addr size = 0 then putM mem addr size w else mem) :: F) := by
  refine HCalls.via fun R hR => ?_
  refine HCalls.of_dev T32 Tryz.func32 rfl mixed (by kernel_rfl) ?_; rw [Tryz.results32]
  simp (maxSteps := 2000000) (disch := first | (simp only [go_sem, simprocAttr] <;> omega) | omega) only [go_sem, simprocAttr]
  refine (place_S hs addr size hz).mono ?_
  rintro v h' ⟨rfl, (⟨e, db, cap, ty, rfl, s⟩ | ⟨e, rfl⟩)⟩
  · obtain ⟨-, -, a0, a1, a2, a3⟩ := accM_ok e
    rw [e, if_pos rfl] at hR
    obtain ⟨⟨hb, hn⟩, -⟩ := ramS_iff.1 hs
    obtain ⟨a, rfl⟩ := Int.eq_ofNat_of_zero_le a0
    obtain ⟨k, rfl⟩ := Int.eq_ofNat_of_zero_le (show 0 ≤ size by omega)
    simp only [Int.toNat_natCast] at *
    simp (maxSteps := 2000000) (disch := first | (simp only [go_sem, simprocAttr] <;> omega) | omega) only [go_sem, simprocAttr]
    refine loopH.intro (fun t : Nat => (.cons 3 (.int .u32 w) true (.cons 9 (.slice (some ⟨db, a, none⟩) k (64 - a % 64)) true (.cons 10 (.int .i64 0) true (.cons 20 (.int .i64 k) true (.cons 21 (.int .i64 t) true .nil))))))
      (fun t h2 => t ≤ k ∧ Sat h2 (cellAt rb (.cells [.slice (some ⟨db, 0, none⟩) n cap].toArray ty (0, 0)) :: sliceS 64 n (.slice (some ⟨db, 0, none⟩) n cap) (memL (64 * n) (putM mem a t w)) :: F)) (fun t _ => k + 1 - t) 0 ?_ ⟨by omega, ?_⟩ ?_
    · simp (maxSteps := 2000000) (disch := first | (simp only [go_sem, simprocAttr] <;> omega) | omega) only [go_sem, simprocAttr]; try simp
    · have e0 : putM mem (a : Nat) ((0 : Nat) : Int) w = mem := by funext j; unfold putM; rw [if_neg (by omega)]
      rw [e0]; exact s
    rintro t h2 ⟨ht, s2⟩
    by_cases q : t = k
    · subst q
      have q2 : ¬ (t : Int) < t := by omega
      simp (maxSteps := 2000000) (disch := first | (simp only [go_sem, simprocAttr, q2] <;> omega) | omega) only [go_sem, simprocAttr, q2]
      exact hR _ _ ⟨rfl, ramS_iff.2 ⟨⟨putM_byte hb, hn⟩, _, _, s2⟩⟩
    · have q1 : (t : Int) < k := by omega
      obtain ⟨lb, cap2, cs, ty2, ev, hc, g0, gsz, gg, hset⟩ := (s2.front 1).sliceOpen (by omega)
      cases ev
      have l1 : a + t < cs.size := by rw [gsz]; omega
      have t8 : 0 ≤ 8 * (t : Int) := by omega
      simp (maxSteps := 2000000) (disch := first | (simp only [go_sem, simprocAttr, q1, g0, l1, t8] <;> omega) | omega) only [go_sem, simprocAttr, q1, g0, l1, t8]
      rw [byte_at (by omega)]
      have s6 := hset (a + t) (.int .u8 (w / 256 ^ t % 256)) (by rw [memL_len]; omega) rfl
      rw [memL_set] at s6
      refine ⟨t + 1, rfl, ⟨by omega, (s6.sliceEq (memL_congr fun j hj => ?_)).swap⟩, by simp only; omega⟩
      unfold putM
      by_cases e1 : j = a + t
      · rw [if_pos e1, if_pos (by omega), show j - (a : Int).toNat = t by omega]
      · rw [if_neg e1]
        by_cases e2 : (a : Int) ≤ j ∧ (j : Int) < a + (t : Nat)
        · rw [if_pos e2, if_pos (by omega)]
        · rw [if_neg e2, if_neg (by omega)]
  · rw [if_neg e] at hR
    have h00 : ((0 : Nat) : Int) = 0 := rfl
    simp (maxSteps := 2000000) (disch := first | (simp only [go_sem, simprocAttr, h00] <;> omega) | omega) only [go_sem, simprocAttr, h00]
    refine loopH.intro (fun _ : Unit => (.cons 3 (.int .u32 w) true (.cons 9 (.slice none 0 0) true (.cons 10 (.int .i64 (accM n addr size)) true (.cons 20 (.int .i64 0) true (.cons 21 (.int .i64 0) true .nil)))))) (fun _ h2 => h2 = h') (fun _ _ => 0) () ?_ rfl ?_
    · simp (maxSteps := 2000000) (disch := first | (simp only [go_sem, simprocAttr] <;> omega) | omega) only [go_sem, simprocAttr]
    rintro - h2 rfl
    simp (maxSteps := 2000000) (disch := first | (simp only [go_sem, simprocAttr] <;> omega) | omega) only [go_sem, simprocAttr]
    exact hR _ _ ⟨rfl, hs⟩
theorem frame_S (hs : Sat h (ramS rb n mem :: F)) (i : Int) : HCalls Tryz.prog 13 #[.pointer (some ⟨rb, 0, none⟩), .int .i64 i] h fun v h' =>
    (0 ≤ i ∧ i < n ∧ ∃ w, v = .tuple #[w, .int .i64 0] ∧ Sat h' (sliceS 1 64 w (memL 64 fun j => mem (64 * i.toNat + j)) :: ramS rb n mem :: F)) ∨ (¬ (0 ≤ i ∧ i < n) ∧ v = .tuple #[.slice none 0 0, .int .i64 10] ∧ Sat h' (ramS rb n mem :: F)) := by
  refine HCalls.via fun R hR => ?_
  refine HCalls.of_dev T13 Tryz.func13 rfl mixed (by kernel_rfl) ?_; rw [Tryz.results13]
  simp (maxSteps := 2000000) (disch := first | (simp only [go_sem, simprocAttr] <;> omega) | omega) only [go_sem, simprocAttr]
  refine (there_S hs i).mono ?_
  rintro v h1 ⟨rfl, rfl⟩
  obtain ⟨⟨hb, hn⟩, v, ty, s⟩ := ramS_iff.1 hs
  by_cases hi : 0 ≤ i ∧ i < n
  · obtain ⟨db, cap, cs, ty2, rfl, hc, g0, gsz, gg, -⟩ := (s.front 1).sliceOpen (by omega)
    simp (maxSteps := 2000000) (disch := first | (simp only [go_sem, simprocAttr, hi, s.get, hi.1, hi.2, g0] <;> omega) | omega) only [go_sem, simprocAttr, hi, s.get, hi.1, hi.2, g0]
    rw [memL_len] at gg
    have hin : i.toNat < n := by omega
    have er : hreadO (some (Obj.cells cs ty2 (0, 0))) (i.toNat * 64) 64 = some (cs.extract (i.toNat * 64) (i.toNat * 64 + 64)) := hreadO_arr (by omega)
    rw [er]
    simp only [Option.map_some]
    show runH _ _ _ _
    have zrep : (tzeroD Tryz.prog 126).cells = Array.replicate 64 (.int .u8 0) := by kernel_rfl
    have hx : ∀ j, j < 64 → (cs.extract (i.toNat * 64) (i.toNat * 64 + 64))[j]? = some (.int .u8 (mem (64 * i.toNat + j))) := fun j hj => by
      rw [Array.getElem?_extract, if_pos (by omega), gg _ (by omega), memL_get (by omega), show i.toNat * 64 + j = 64 * i.toNat + j by omega]
    refine runH_store_all (c := (tzeroD Tryz.prog 126).cells) (e := 126) (by rw [tszD_126]; simp; omega) (by rw [tsz_126]; rfl) ?_ (by rw [zrep]; simp; omega) ?_ ?_
    · rw [tzeroD_126]; exact get_push_new
    · intro v hv
      obtain ⟨j, hj, ev⟩ := List.getElem_of_mem hv
      have hj2 : j < 64 := by simp at hj; omega
      have e2 : (cs.extract (i.toNat * 64) (i.toNat * 64 + 64))[j]? = some v := by
        rw [← Array.getElem?_toList, List.getElem?_eq_getElem hj, ev]
      rw [hx j hj2] at e2
      cases e2; rfl
    · rw [set_push_new]
      have s5 := hs.push (.cells (cs.extract (i.toNat * 64) (i.toNat * 64 + 64)) 126 (0, 0))
      refine hR _ _ (.inl ⟨hi.1, hi.2, _, rfl, s5.toSlice (by rw [memL_len]) memL_single (Nat.le_refl _) (by simp; omega) fun j hj => ?_⟩)
      rw [memL_len] at hj
      rw [hx j hj, memL_get hj]
  · simp (maxSteps := 2000000) (disch := first | (simp only [go_sem, simprocAttr, hi] <;> omega) | omega) only [go_sem, simprocAttr, hi]
    exact hR _ _ (.inr ⟨hi, rfl, hs⟩)
end
end Go.Eng
