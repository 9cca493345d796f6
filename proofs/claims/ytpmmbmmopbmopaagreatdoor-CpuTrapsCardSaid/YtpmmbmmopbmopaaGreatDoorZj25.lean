/-
  A buffer that agrees with the tables is not seen: plain.
-/
import Derived.Test.YtpmmbmmopbmopaaGreatDoorZj17
namespace Go.Eng
set_option linter.unusedSimpArgs false
set_option linter.unusedVariables false
set_option maxRecDepth 16000
set_option maxHeartbeats 4000000
open Go Go.Proofs
theorem wrap_ofInt (x : BitVec 64) : BitVec.ofInt 64 (IntKind.i64.wrap (x.toNat : Int)) = x := by
  have h : IntKind.i64.wrap (x.toNat : Int) = x.toInt := by
    rw [BitVec.toInt_eq_toNat_bmod]
    simp only [IntKind.wrap, IntKind.bits, IntKind.signed, Int.bmod_def]
    have := x.isLt
    simp
    split <;> split <;> omega
  rw [h, BitVec.ofInt_toInt]
theorem andI_zero {x y : Int} : andI x y = 0 ↔ BitVec.ofInt 64 x &&& BitVec.ofInt 64 y = 0#64 := by
  unfold andI
  constructor
  · intro q
    have := wrap_ofInt (BitVec.ofInt 64 x &&& BitVec.ofInt 64 y)
    rw [q] at this
    rw [← this]; rfl
  · intro q
    rw [q]; rfl
theorem andI_bv (x y : Int) : BitVec.ofInt 64 (andI x y) = BitVec.ofInt 64 x &&& BitVec.ofInt 64 y := wrap_ofInt _
theorem andI_l {x y z : Int} (h : andI (andI x y) z ≠ 0) : andI x z ≠ 0 := by
  intro q
  rw [andI_zero] at q
  apply h
  rw [andI_zero, andI_bv, BitVec.and_assoc, BitVec.and_comm (BitVec.ofInt 64 y), ← BitVec.and_assoc, q]
  exact BitVec.zero_and
theorem andI_r {x y z : Int} (h : andI (andI x y) z ≠ 0) : andI y z ≠ 0 := by
  intro q
  rw [andI_zero] at q
  apply h
  rw [andI_zero, andI_bv, BitVec.and_assoc, q]
  exact BitVec.and_zero
theorem seW_want {n : Nat} {mem : Nat → Int} {root page a b : Int} (h : (seW n mem root page a).f.K = 0) (hb : andI (seW n mem root page a).Ri b ≠ 0) : seW n mem root page b = seW n mem root page a := by
  unfold seW at h hb ⊢
  by_cases k : (sgW n mem root page).f.K ≠ 0
  · rw [if_pos k, if_pos k]
  rw [if_neg k] at h hb ⊢
  rw [if_neg k]
  by_cases k2 : andI (sgW n mem root page).Ri a = 0
  · rw [if_pos k2] at h; cases h
  rw [if_neg k2] at hb ⊢
  rw [if_neg hb]
theorem seW_ok {n : Nat} {mem : Nat → Int} {root page a : Int} (h : (seW n mem root page a).f.K = 0) : (seW n mem root page a).f = okF ∧ andI (seW n mem root page a).Ri a ≠ 0 := by
  unfold seW at h ⊢
  by_cases k : (sgW n mem root page).f.K ≠ 0
  · rw [if_pos k] at h; exact absurd h k
  rw [if_neg k] at h ⊢
  by_cases k2 : andI (sgW n mem root page).Ri a = 0
  · rw [if_pos k2] at h; cases h
  rw [if_neg k2]
  exact ⟨rfl, k2⟩
/-- What is found with one right is found with each that it gives. -/
theorem neW_want {n : Nat} {mem : Nat → Int} {s : Spc} {page a b : Int} (h : (neW n mem s page a).f.K = 0) (hb : andI (neW n mem s page a).Ri b ≠ 0) : neW n mem s page b = neW n mem s page a := by
  unfold neW at h hb ⊢
  by_cases k : page < 0 ∨ 1024 ≤ page
  · rw [if_pos k, if_pos k]
  rw [if_neg k] at h hb ⊢
  rw [if_neg k]
  by_cases k1 : s.First < 0
  · rw [if_pos k1] at h hb ⊢
    rw [if_pos k1]
    exact seW_want h hb
  rw [if_neg k1] at h hb ⊢
  rw [if_neg k1]
  by_cases k2 : (own2 n mem s page).2.K ≠ 0
  · rw [if_pos k2, if_pos k2]
  rw [if_neg k2] at h hb ⊢
  rw [if_neg k2]
  by_cases k3 : andI (own2 n mem s page).1.R a = 0
  · rw [if_pos k3] at h; cases h
  rw [if_neg k3] at h hb ⊢
  have h1 := andI_l hb
  have h2 := andI_r hb
  rw [if_neg h2, seW_want h h1]
theorem neW_ok {n : Nat} {mem : Nat → Int} {s : Spc} {page a : Int} (h : (neW n mem s page a).f.K = 0) : (neW n mem s page a).f = okF := by
  unfold neW at h ⊢
  by_cases k : page < 0 ∨ 1024 ≤ page
  · rw [if_pos k] at h; cases h
  rw [if_neg k] at h ⊢
  by_cases k1 : s.First < 0
  · rw [if_pos k1] at h ⊢
    exact (seW_ok h).1
  rw [if_neg k1] at h ⊢
  by_cases k2 : (own2 n mem s page).2.K ≠ 0
  · rw [if_pos k2] at h; exact absurd h k2
  rw [if_neg k2] at h ⊢
  by_cases k3 : andI (own2 n mem s page).1.R a = 0
  · rw [if_pos k3] at h; cases h
  rw [if_neg k3] at h ⊢
  exact (seW_ok h).1
/-- The buffer agrees with the tables, for a space. -/
def conT (n : Nat) (mem : Nat → Int) (s : Spc) (T : List Ln) : Prop := ∀ l ∈ T, ∀ page, keyL s.Vmid s.Asid page l = true → ∀ want, andI l.Rights want ≠ 0 → neW n mem s page want = ⟨l.Frame, l.Rights, okF⟩
theorem conT_no {n : Nat} {mem : Nat → Int} {s : Spc} {T : List Ln} (h : ∀ l ∈ T, l = zeroL) : conT n mem s T := by
  intro l hl page k
  rw [h l hl] at k
  simp [keyL] at k
theorem conT_fill {n : Nat} {mem : Nat → Int} {s : Spc} {T : List Ln} (c : conT n mem s T) (at_ page want : Int) (h : (neW n mem s page want).f.K = 0) : conT n mem s (fillT T at_ ⟨s.Vmid, s.Asid, page, (neW n mem s page want).Fr, (neW n mem s page want).Ri⟩) := by
  unfold fillT
  split
  · intro l hl pg k w2 hw
    rcases List.mem_or_eq_of_mem_set hl with q | q
    · unfold flushT at q
      obtain ⟨x, hx, e⟩ := List.mem_map.1 q
      split at e
      · rw [← e] at k; simp [keyL] at k
      · rw [← e] at k hw ⊢
        exact c x hx pg k w2 hw
    · subst q
      simp only [keyL, Bool.and_eq_true, decide_eq_true_eq] at k
      obtain ⟨-, k⟩ := k
      subst k
      have hw' : andI (neW n mem s page want).Ri w2 ≠ 0 := hw
      rw [neW_want h hw']
      have := neW_ok h
      generalize neW n mem s page want = z at *
      obtain ⟨a, b, f⟩ := z
      simp only at this
      rw [this]
  · exact c
theorem findT_some {T : List Ln} {v a p : Int} {l : Ln} (h : findT T v a p = some l) : l ∈ T ∧ keyL v a p l = true := ⟨List.mem_of_find?_eq_some h, List.find?_some h⟩
/-- Where a page is, told by the tables alone. -/
theorem reach_con {n : Nat} {mem : Nat → Int} {s : Spc} {T : List Ln} (c : conT n mem s T) (page want at_ : Int) :
    (reach n mem T s page want at_).Fr = (if (neW n mem s page want).f.K ≠ 0 then 0 else (neW n mem s page want).Fr) ∧ (reach n mem T s page want at_).f = (neW n mem s page want).f ∧ conT n mem s (reach n mem T s page want at_).T := by
  have hw : (reachW n mem T s page want at_).Fr = (if (neW n mem s page want).f.K ≠ 0 then 0 else (neW n mem s page want).Fr) ∧ (reachW n mem T s page want at_).f = (neW n mem s page want).f ∧ conT n mem s (reachW n mem T s page want at_).T := by
    unfold reachW
    by_cases k : (neW n mem s page want).f.K ≠ 0
    · rw [if_pos k, if_pos k]; exact ⟨rfl, rfl, c⟩
    · rw [if_neg k, if_neg k]
      exact ⟨rfl, (neW_ok (by simpa using k)).symm, conT_fill c at_ page want (by simpa using k)⟩
  unfold reach
  split
  · rename_i l hl
    obtain ⟨h1, h2⟩ := findT_some hl
    by_cases q : andI l.Rights want ≠ 0
    · rw [if_pos q]
      have e := c l h1 page h2 want q
      rw [e]
      exact ⟨rfl, rfl, c⟩
    · rw [if_neg q]; exact hw
  · exact hw
theorem reachC_con {n : Nat} {mem : Nat → Int} {s : Spc} {T U : List Ln} (c : conT n mem s T) (d : conT n mem s U) (addr want at_ bt : Int) :
    (reachC n mem T s addr want at_).at_ = (reachC n mem U s addr want bt).at_ ∧ (reachC n mem T s addr want at_).f = (reachC n mem U s addr want bt).f ∧ conT n mem s (reachC n mem T s addr want at_).T := by
  obtain ⟨a1, a2, a3⟩ := reach_con c (addr / 64) want at_
  obtain ⟨b1, b2, -⟩ := reach_con d (addr / 64) want bt
  unfold reachC
  simp only [a1, a2, b1, b2]
  exact ⟨trivial, trivial, a3⟩
end Go.Eng
/-
  A step, whatever the buffer remembers that is right: plain. What traps did nothing: plain.
-/
namespace Go.Eng
set_option linter.unusedSimpArgs false
set_option linter.unusedVariables false
set_option maxRecDepth 16000
set_option maxHeartbeats 4000000
open Go Go.Proofs
structure Alike (a b : Out) : Prop where
  c : a.c = b.c
  t : a.t = b.t
  mem : a.M.mem = b.M.mem
  V : a.M.V = b.M.V
theorem conT_flush {n : Nat} {mem : Nat → Int} {s : Spc} {T : List Ln} (c : conT n mem s T) (p : Ln → Bool) : conT n mem s (flushT T p) := by
  intro l hl pg k w2 hw
  unfold flushT at hl
  obtain ⟨x, hx, e⟩ := List.mem_map.1 hl
  split at e
  · rw [← e] at k; simp [keyL] at k
  · rw [← e] at k hw ⊢
    exact c x hx pg k w2 hw
section
variable {n : Nat} {mem : Nat → Int} {s : Spc} {T U : List Ln} {V : Option Int}
theorem touch_con (k1 : conT n mem s T) (k2 : conT n mem s U) (c : Cp) (i : Ins) (at_ bt size want cause : Int) :
    Alike (touch n ⟨mem, T, V⟩ c i s at_ size want cause) (touch n ⟨mem, U, V⟩ c i s bt size want cause) ∧ conT n mem s (touch n ⟨mem, T, V⟩ c i s at_ size want cause).M.T := by
  unfold touch
  obtain ⟨e1, e2, e3⟩ := reachC_con k1 k2 ((rg c i.B + i.I) % 65536) want at_ bt
  by_cases q : (rg c i.B + i.I) % 65536 % size ≠ 0
  · simp only [if_pos q]; exact ⟨⟨rfl, rfl, rfl, rfl⟩, k1⟩
  simp only [if_neg q, e1, e2]
  by_cases q2 : (reachC n mem U s ((rg c i.B + i.I) % 65536) want bt).f.K ≠ 0
  · simp only [if_pos q2]; exact ⟨⟨rfl, rfl, rfl, rfl⟩, e3⟩
  simp only [if_neg q2]
  by_cases q3 : want = 2
  · simp only [if_pos q3]; exact ⟨⟨rfl, rfl, rfl, rfl⟩, e3⟩
  · simp only [if_neg q3]; exact ⟨⟨rfl, rfl, rfl, rfl⟩, e3⟩
def RelT (n : Nat) (mem : Nat → Int) (s : Spc) (a b : Out) : Prop := Alike a b ∧ conT n mem s a.M.T
theorem RelT.ite {p : Prop} [Decidable p] {a b a' b' : Out} (h1 : RelT n mem s a a') (h2 : RelT n mem s b b') : RelT n mem s (if p then a else b) (if p then a' else b') := by split; exact h1; exact h2
def Trapd (M : Mch) (c : Cp) (o : Out) : Prop := (o.t.C = 0 → o.t = okT) ∧ (o.t.C ≠ 0 → o.c = c ∧ o.M.mem = M.mem) ∧ (o.t.C ≠ 0 → o.M.V = M.V) ∧ o.t.C ≠ 10
theorem Trapd.ite {p : Prop} [Decidable p] {M : Mch} {c : Cp} {a b : Out} (h1 : Trapd M c a) (h2 : Trapd M c b) : Trapd M c (if p then a else b) := by split; exact h1; exact h2
theorem Trapd.ok {M : Mch} {c : Cp} {o : Out} (h : o.t = okT) : Trapd M c o := ⟨fun _ => h, fun q => absurd (by rw [h]; rfl) q, fun q => absurd (by rw [h]; rfl) q, by rw [h]; decide⟩
theorem Trapd.bad {M : Mch} {c : Cp} {o : Out} (h : o.t.C ≠ 0) (h2 : o.t.C ≠ 10) (h3 : o.c = c) (h4 : o.M.mem = M.mem) (h5 : o.M.V = M.V) : Trapd M c o := ⟨fun q => absurd q h, fun _ => ⟨h3, h4⟩, fun _ => h5, h2⟩
theorem touch_trap (M : Mch) (c : Cp) (i : Ins) (at_ size want : Int) {cause : Int} (hc : cause ≠ 0) (hd : cause ≠ 10) : Trapd M c (touch n M c i s at_ size want cause) := by
  unfold touch
  refine Trapd.ite (.bad (by simp) (by simp) rfl rfl rfl) (Trapd.ite (.bad hc hd rfl rfl rfl) (Trapd.ite (.ok rfl) (.ok rfl)))
theorem doP_con (k1 : conT n mem s T) (k2 : conT n mem s U) (c : Cp) (i : Ins) (at_ bt : Int) :
    RelT n mem s (doP n ⟨mem, T, V⟩ c i s at_) (doP n ⟨mem, U, V⟩ c i s bt) := by
  have tt := fun size want cause => touch_con (V := V) k1 k2 c i at_ bt size want cause
  unfold doP
  repeat' (with_reducible apply RelT.ite)
  all_goals first
    | exact tt _ _ _
    | exact ⟨⟨rfl, rfl, rfl, rfl⟩, k1⟩
    | exact ⟨⟨rfl, rfl, rfl, rfl⟩, conT_flush k1 _⟩
theorem doP_trap (M : Mch) (c : Cp) (i : Ins) (at_ : Int) : Trapd M c (doP n M c i s at_) := by
  unfold doP
  repeat' (with_reducible apply Trapd.ite)
  all_goals first
    | exact touch_trap M c i at_ _ _ (by decide) (by decide)
    | exact .ok rfl
    | exact .bad (by simp) (by simp) rfl rfl rfl
/-- A step, with one buffer or another that both agree with the tables. -/
theorem stepP_con (c : Cp) (vm se at_ bt : Int) (hs : spaceP V.isSome c vm se = s) (k1 : conT n mem s T) (k2 : conT n mem s U) :
    Alike (stepP n ⟨mem, T, V⟩ c vm se at_) (stepP n ⟨mem, U, V⟩ c vm se bt) ∧ conT n mem s (stepP n ⟨mem, T, V⟩ c vm se at_).M.T := by
  unfold stepP
  by_cases q : c.Pc % 4 ≠ 0 ∨ c.Pc < 0 ∨ 65536 ≤ c.Pc
  · simp only [if_pos q]; exact ⟨⟨rfl, rfl, rfl, rfl⟩, k1⟩
  simp only [if_neg q, hs]
  unfold stepF
  obtain ⟨e1, e2, e3⟩ := reachC_con k1 k2 c.Pc 4 at_ bt
  obtain ⟨-, -, e4⟩ := reachC_con k2 k1 c.Pc 4 bt at_
  simp only [e1, e2]
  by_cases q2 : (reachC n mem U s c.Pc 4 bt).f.K ≠ 0
  · simp only [if_pos q2]; exact ⟨⟨rfl, rfl, rfl, rfl⟩, e3⟩
  simp only [if_neg q2]
  split
  · exact ⟨⟨rfl, rfl, rfl, rfl⟩, e3⟩
  · exact doP_con e3 e4 c _ at_ bt
theorem stepP_trap (M : Mch) (c : Cp) (vm se at_ : Int) : Trapd M c (stepP n M c vm se at_) := by
  unfold stepP
  refine Trapd.ite (.bad (by simp) (by simp) rfl rfl rfl) ?_
  unfold stepF
  refine Trapd.ite (.bad (by simp) (by simp) rfl rfl rfl) (Trapd.ite (.bad (by simp) (by simp) rfl rfl rfl) ?_)
  exact doP_trap _ c _ at_
/-- What traps did nothing; the same step again traps the same. -/
theorem trap_again (c : Cp) (vm se at_ : Int) (hT : ∀ l ∈ T, l = zeroL) (ht : (stepP n ⟨mem, T, V⟩ c vm se at_).t.C ≠ 0) :
    (stepP n (stepP n ⟨mem, T, V⟩ c vm se at_).M c vm se at_).c = c ∧ (stepP n (stepP n ⟨mem, T, V⟩ c vm se at_).M c vm se at_).t = (stepP n ⟨mem, T, V⟩ c vm se at_).t := by
  obtain ⟨-, h1, h2, -⟩ := stepP_trap (n := n) ⟨mem, T, V⟩ c vm se at_
  obtain ⟨c1, m1⟩ := h1 ht
  have v1 := h2 ht
  have k0 : conT n mem (spaceP V.isSome c vm se) T := conT_no hT
  obtain ⟨-, k1⟩ := stepP_con (U := T) c vm se at_ at_ rfl k0 k0
  obtain ⟨⟨e1, e2, -, -⟩, -⟩ := stepP_con c vm se at_ at_ rfl k1 k0
  generalize stepP n ⟨mem, T, V⟩ c vm se at_ = o at *
  obtain ⟨⟨m, T2, V2⟩, c2, t2⟩ := o
  simp only at *
  subst c1 m1 v1
  exact ⟨e1, e2⟩
end
end Go.Eng
