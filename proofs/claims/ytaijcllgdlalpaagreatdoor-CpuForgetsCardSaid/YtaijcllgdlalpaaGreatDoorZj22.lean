/-
  A buffer that agrees with the tables is not seen: plain.
-/
import Derived.Test.YtaijcllgdlalpaaGreatDoorZj17
import Derived.Test.YtaijcllgdlalpaaGreatDoorZj8
namespace Go.Eng
set_option linter.unusedSimpArgs false
set_option linter.unusedVariables false
set_option maxRecDepth 16000
set_option maxHeartbeats 4000000
open Go Go.Proofs
theorem wrap_ofInt (x : BitVec 64) : BitVec.ofInt 64 (IntKind.i64.wrap (x.toNat : Int)) = x := by
  have h : IntKind.i64.wrap (x.toNat : Int) = x.toInt := by
    rw [BitVec.toInt_eq_toNat_bmod]
    simp only [IntKind.wrap, IntKind.bits, IntKind.signed, Int.bmod_def]
    have := x.isLt
    simp
    split <;> split <;> omega
  rw [h, BitVec.ofInt_toInt]
theorem andI_zero {x y : Int} : andI x y = 0 ↔ BitVec.ofInt 64 x &&& BitVec.ofInt 64 y = 0#64 := by
  unfold andI
  constructor
  · intro q
    have := wrap_ofInt (BitVec.ofInt 64 x &&& BitVec.ofInt 64 y)
    rw [q] at this
    rw [← this]; rfl
  · intro q
    rw [q]; rfl
theorem andI_bv (x y : Int) : BitVec.ofInt 64 (andI x y) = BitVec.ofInt 64 x &&& BitVec.ofInt 64 y := wrap_ofInt _
theorem andI_l {x y z : Int} (h : andI (andI x y) z ≠ 0) : andI x z ≠ 0 := by
  intro q
  rw [andI_zero] at q
  apply h
  rw [andI_zero, andI_bv, BitVec.and_assoc, BitVec.and_comm (BitVec.ofInt 64 y), ← BitVec.and_assoc, q]
  exact BitVec.zero_and
theorem andI_r {x y z : Int} (h : andI (andI x y) z ≠ 0) : andI y z ≠ 0 := by
  intro q
  rw [andI_zero] at q
  apply h
  rw [andI_zero, andI_bv, BitVec.and_assoc, q]
  exact BitVec.and_zero
theorem seW_want {n : Nat} {mem : Nat → Int} {root page a b : Int} (h : (seW n mem root page a).f.K = 0) (hb : andI (seW n mem root page a).Ri b ≠ 0) : seW n mem root page b = seW n mem root page a := by
  unfold seW at h hb ⊢
  by_cases k : (sgW n mem root page).f.K ≠ 0
  · rw [if_pos k, if_pos k]
  rw [if_neg k] at h hb ⊢
  rw [if_neg k]
  by_cases k2 : andI (sgW n mem root page).Ri a = 0
  · rw [if_pos k2] at h; cases h
  rw [if_neg k2] at hb ⊢
  rw [if_neg hb]
theorem seW_ok {n : Nat} {mem : Nat → Int} {root page a : Int} (h : (seW n mem root page a).f.K = 0) : (seW n mem root page a).f = okF ∧ andI (seW n mem root page a).Ri a ≠ 0 := by
  unfold seW at h ⊢
  by_cases k : (sgW n mem root page).f.K ≠ 0
  · rw [if_pos k] at h; exact absurd h k
  rw [if_neg k] at h ⊢
  by_cases k2 : andI (sgW n mem root page).Ri a = 0
  · rw [if_pos k2] at h; cases h
  rw [if_neg k2]
  exact ⟨rfl, k2⟩
/-- What is found with one right is found with each that it gives. -/
theorem neW_want {n : Nat} {mem : Nat → Int} {s : Spc} {page a b : Int} (h : (neW n mem s page a).f.K = 0) (hb : andI (neW n mem s page a).Ri b ≠ 0) : neW n mem s page b = neW n mem s page a := by
  unfold neW at h hb ⊢
  by_cases k : page < 0 ∨ 1024 ≤ page
  · rw [if_pos k, if_pos k]
  rw [if_neg k] at h hb ⊢
  rw [if_neg k]
  by_cases k1 : s.First < 0
  · rw [if_pos k1] at h hb ⊢
    rw [if_pos k1]
    exact seW_want h hb
  rw [if_neg k1] at h hb ⊢
  rw [if_neg k1]
  by_cases k2 : (own2 n mem s page).2.K ≠ 0
  · rw [if_pos k2, if_pos k2]
  rw [if_neg k2] at h hb ⊢
  rw [if_neg k2]
  by_cases k3 : andI (own2 n mem s page).1.R a = 0
  · rw [if_pos k3] at h; cases h
  rw [if_neg k3] at h hb ⊢
  have h1 := andI_l hb
  have h2 := andI_r hb
  rw [if_neg h2, seW_want h h1]
theorem neW_ok {n : Nat} {mem : Nat → Int} {s : Spc} {page a : Int} (h : (neW n mem s page a).f.K = 0) : (neW n mem s page a).f = okF := by
  unfold neW at h ⊢
  by_cases k : page < 0 ∨ 1024 ≤ page
  · rw [if_pos k] at h; cases h
  rw [if_neg k] at h ⊢
  by_cases k1 : s.First < 0
  · rw [if_pos k1] at h ⊢
    exact (seW_ok h).1
  rw [if_neg k1] at h ⊢
  by_cases k2 : (own2 n mem s page).2.K ≠ 0
  · rw [if_pos k2] at h; exact absurd h k2
  rw [if_neg k2] at h ⊢
  by_cases k3 : andI (own2 n mem s page).1.R a = 0
  · rw [if_pos k3] at h; cases h
  rw [if_neg k3] at h ⊢
  exact (seW_ok h).1
/-- The buffer agrees with the tables, for a space. -/
def conT (n : Nat) (mem : Nat → Int) (s : Spc) (T : List Ln) : Prop := ∀ l ∈ T, ∀ page, keyL s.Vmid s.Asid page l = true → ∀ want, andI l.Rights want ≠ 0 → neW n mem s page want = ⟨l.Frame, l.Rights, okF⟩
theorem conT_no {n : Nat} {mem : Nat → Int} {s : Spc} {T : List Ln} (h : ∀ l ∈ T, l = zeroL) : conT n mem s T := by
  intro l hl page k
  rw [h l hl] at k
  simp [keyL] at k
theorem conT_fill {n : Nat} {mem : Nat → Int} {s : Spc} {T : List Ln} (c : conT n mem s T) (at_ page want : Int) (h : (neW n mem s page want).f.K = 0) : conT n mem s (fillT T at_ ⟨s.Vmid, s.Asid, page, (neW n mem s page want).Fr, (neW n mem s page want).Ri⟩) := by
  unfold fillT
  split
  · intro l hl pg k w2 hw
    rcases List.mem_or_eq_of_mem_set hl with q | q
    · unfold flushT at q
      obtain ⟨x, hx, e⟩ := List.mem_map.1 q
      split at e
      · rw [← e] at k; simp [keyL] at k
      · rw [← e] at k hw ⊢
        exact c x hx pg k w2 hw
    · subst q
      simp only [keyL, Bool.and_eq_true, decide_eq_true_eq] at k
      obtain ⟨-, k⟩ := k
      subst k
      have hw' : andI (neW n mem s page want).Ri w2 ≠ 0 := hw
      rw [neW_want h hw']
      have := neW_ok h
      generalize neW n mem s page want = z at *
      obtain ⟨a, b, f⟩ := z
      simp only at this
      rw [this]
  · exact c
theorem findT_some {T : List Ln} {v a p : Int} {l : Ln} (h : findT T v a p = some l) : l ∈ T ∧ keyL v a p l = true := ⟨List.mem_of_find?_eq_some h, List.find?_some h⟩
/-- Where a page is, told by the tables alone. -/
theorem reach_con {n : Nat} {mem : Nat → Int} {s : Spc} {T : List Ln} (c : conT n mem s T) (page want at_ : Int) :
    (reach n mem T s page want at_).Fr = (if (neW n mem s page want).f.K ≠ 0 then 0 else (neW n mem s page want).Fr) ∧ (reach n mem T s page want at_).f = (neW n mem s page want).f ∧ conT n mem s (reach n mem T s page want at_).T := by
  have hw : (reachW n mem T s page want at_).Fr = (if (neW n mem s page want).f.K ≠ 0 then 0 else (neW n mem s page want).Fr) ∧ (reachW n mem T s page want at_).f = (neW n mem s page want).f ∧ conT n mem s (reachW n mem T s page want at_).T := by
    unfold reachW
    by_cases k : (neW n mem s page want).f.K ≠ 0
    · rw [if_pos k, if_pos k]; exact ⟨rfl, rfl, c⟩
    · rw [if_neg k, if_neg k]
      exact ⟨rfl, (neW_ok (by simpa using k)).symm, conT_fill c at_ page want (by simpa using k)⟩
  unfold reach
  split
  · rename_i l hl
    obtain ⟨h1, h2⟩ := findT_some hl
    by_cases q : andI l.Rights want ≠ 0
    · rw [if_pos q]
      have e := c l h1 page h2 want q
      rw [e]
      exact ⟨rfl, rfl, c⟩
    · rw [if_neg q]; exact hw
  · exact hw
theorem reachC_con {n : Nat} {mem : Nat → Int} {s : Spc} {T U : List Ln} (c : conT n mem s T) (d : conT n mem s U) (addr want at_ bt : Int) :
    (reachC n mem T s addr want at_).at_ = (reachC n mem U s addr want bt).at_ ∧ (reachC n mem T s addr want at_).f = (reachC n mem U s addr want bt).f ∧ conT n mem s (reachC n mem T s addr want at_).T := by
  obtain ⟨a1, a2, a3⟩ := reach_con c (addr / 64) want at_
  obtain ⟨b1, b2, -⟩ := reach_con d (addr / 64) want bt
  unfold reachC
  simp only [a1, a2, b1, b2]
  exact ⟨trivial, trivial, a3⟩
end Go.Eng
/-
  A step, whatever the buffer remembers that is right: plain. What traps did nothing: plain.
-/
namespace Go.Eng
set_option linter.unusedSimpArgs false
set_option linter.unusedVariables false
set_option maxRecDepth 16000
set_option maxHeartbeats 4000000
open Go Go.Proofs
structure Alike (a b : Out) : Prop where
  c : a.c = b.c
  t : a.t = b.t
  mem : a.M.mem = b.M.mem
  V : a.M.V = b.M.V
theorem conT_flush {n : Nat} {mem : Nat → Int} {s : Spc} {T : List Ln} (c : conT n mem s T) (p : Ln → Bool) : conT n mem s (flushT T p) := by
  intro l hl pg k w2 hw
  unfold flushT at hl
  obtain ⟨x, hx, e⟩ := List.mem_map.1 hl
  split at e
  · rw [← e] at k; simp [keyL] at k
  · rw [← e] at k hw ⊢
    exact c x hx pg k w2 hw
section
variable {n : Nat} {mem : Nat → Int} {s : Spc} {T U : List Ln} {V : Option Int}
theorem touch_con (k1 : conT n mem s T) (k2 : conT n mem s U) (c : Cp) (i : Ins) (at_ bt size want cause : Int) :
    Alike (touch n ⟨mem, T, V⟩ c i s at_ size want cause) (touch n ⟨mem, U, V⟩ c i s bt size want cause) ∧ conT n mem s (touch n ⟨mem, T, V⟩ c i s at_ size want cause).M.T := by
  unfold touch
  obtain ⟨e1, e2, e3⟩ := reachC_con k1 k2 ((rg c i.B + i.I) % 65536) want at_ bt
  by_cases q : (rg c i.B + i.I) % 65536 % size ≠ 0
  · simp only [if_pos q]; exact ⟨⟨rfl, rfl, rfl, rfl⟩, k1⟩
  simp only [if_neg q, e1, e2]
  by_cases q2 : (reachC n mem U s ((rg c i.B + i.I) % 65536) want bt).f.K ≠ 0
  · simp only [if_pos q2]; exact ⟨⟨rfl, rfl, rfl, rfl⟩, e3⟩
  simp only [if_neg q2]
  by_cases q3 : want = 2
  · simp only [if_pos q3]; exact ⟨⟨rfl, rfl, rfl, rfl⟩, e3⟩
  · simp only [if_neg q3]; exact ⟨⟨rfl, rfl, rfl, rfl⟩, e3⟩
def RelT (n : Nat) (mem : Nat → Int) (s : Spc) (a b : Out) : Prop := Alike a b ∧ conT n mem s a.M.T
theorem RelT.ite {p : Prop} [Decidable p] {a b a' b' : Out} (h1 : RelT n mem s a a') (h2 : RelT n mem s b b') : RelT n mem s (if p then a else b) (if p then a' else b') := by split; exact h1; exact h2
def Trapd (M : Mch) (c : Cp) (o : Out) : Prop := (o.t.C = 0 → o.t = okT) ∧ (o.t.C ≠ 0 → o.c = c ∧ o.M.mem = M.mem) ∧ (o.t.C ≠ 0 → o.M.V = M.V) ∧ o.t.C ≠ 10
theorem Trapd.ite {p : Prop} [Decidable p] {M : Mch} {c : Cp} {a b : Out} (h1 : Trapd M c a) (h2 : Trapd M c b) : Trapd M c (if p then a else b) := by split; exact h1; exact h2
theorem Trapd.ok {M : Mch} {c : Cp} {o : Out} (h : o.t = okT) : Trapd M c o := ⟨fun _ => h, fun q => absurd (by rw [h]; rfl) q, fun q => absurd (by rw [h]; rfl) q, by rw [h]; decide⟩
theorem Trapd.bad {M : Mch} {c : Cp} {o : Out} (h : o.t.C ≠ 0) (h2 : o.t.C ≠ 10) (h3 : o.c = c) (h4 : o.M.mem = M.mem) (h5 : o.M.V = M.V) : Trapd M c o := ⟨fun q => absurd q h, fun _ => ⟨h3, h4⟩, fun _ => h5, h2⟩
theorem touch_trap (M : Mch) (c : Cp) (i : Ins) (at_ size want : Int) {cause : Int} (hc : cause ≠ 0) (hd : cause ≠ 10) : Trapd M c (touch n M c i s at_ size want cause) := by
  unfold touch
  refine Trapd.ite (.bad (by simp) (by simp) rfl rfl rfl) (Trapd.ite (.bad hc hd rfl rfl rfl) (Trapd.ite (.ok rfl) (.ok rfl)))
theorem doP_con (k1 : conT n mem s T) (k2 : conT n mem s U) (c : Cp) (i : Ins) (at_ bt : Int) :
    RelT n mem s (doP n ⟨mem, T, V⟩ c i s at_) (doP n ⟨mem, U, V⟩ c i s bt) := by
  have tt := fun size want cause => touch_con (V := V) k1 k2 c i at_ bt size want cause
  unfold doP
  repeat' (with_reducible apply RelT.ite)
  all_goals first
    | exact tt _ _ _
    | exact ⟨⟨rfl, rfl, rfl, rfl⟩, k1⟩
    | exact ⟨⟨rfl, rfl, rfl, rfl⟩, conT_flush k1 _⟩
theorem doP_trap (M : Mch) (c : Cp) (i : Ins) (at_ : Int) : Trapd M c (doP n M c i s at_) := by
  unfold doP
  repeat' (with_reducible apply Trapd.ite)
  all_goals first
    | exact touch_trap M c i at_ _ _ (by decide) (by decide)
    | exact .ok rfl
    | exact .bad (by simp) (by simp) rfl rfl rfl
/-- A step, with one buffer or another that both agree with the tables. -/
theorem stepP_con (c : Cp) (vm se at_ bt : Int) (hs : spaceP V.isSome c vm se = s) (k1 : conT n mem s T) (k2 : conT n mem s U) :
    Alike (stepP n ⟨mem, T, V⟩ c vm se at_) (stepP n ⟨mem, U, V⟩ c vm se bt) ∧ conT n mem s (stepP n ⟨mem, T, V⟩ c vm se at_).M.T := by
  unfold stepP
  by_cases q : c.Pc % 4 ≠ 0 ∨ c.Pc < 0 ∨ 65536 ≤ c.Pc
  · simp only [if_pos q]; exact ⟨⟨rfl, rfl, rfl, rfl⟩, k1⟩
  simp only [if_neg q, hs]
  unfold stepF
  obtain ⟨e1, e2, e3⟩ := reachC_con k1 k2 c.Pc 4 at_ bt
  obtain ⟨-, -, e4⟩ := reachC_con k2 k1 c.Pc 4 bt at_
  simp only [e1, e2]
  by_cases q2 : (reachC n mem U s c.Pc 4 bt).f.K ≠ 0
  · simp only [if_pos q2]; exact ⟨⟨rfl, rfl, rfl, rfl⟩, e3⟩
  simp only [if_neg q2]
  split
  · exact ⟨⟨rfl, rfl, rfl, rfl⟩, e3⟩
  · exact doP_con e3 e4 c _ at_ bt
theorem stepP_trap (M : Mch) (c : Cp) (vm se at_ : Int) : Trapd M c (stepP n M c vm se at_) := by
  unfold stepP
  refine Trapd.ite (.bad (by simp) (by simp) rfl rfl rfl) ?_
  unfold stepF
  refine Trapd.ite (.bad (by simp) (by simp) rfl rfl rfl) (Trapd.ite (.bad (by simp) (by simp) rfl rfl rfl) ?_)
  exact doP_trap _ c _ at_
/-- What traps did nothing; the same step again traps the same. -/
theorem trap_again (c : Cp) (vm se at_ : Int) (hT : ∀ l ∈ T, l = zeroL) (ht : (stepP n ⟨mem, T, V⟩ c vm se at_).t.C ≠ 0) :
    (stepP n (stepP n ⟨mem, T, V⟩ c vm se at_).M c vm se at_).c = c ∧ (stepP n (stepP n ⟨mem, T, V⟩ c vm se at_).M c vm se at_).t = (stepP n ⟨mem, T, V⟩ c vm se at_).t := by
  obtain ⟨-, h1, h2, -⟩ := stepP_trap (n := n) ⟨mem, T, V⟩ c vm se at_
  obtain ⟨c1, m1⟩ := h1 ht
  have v1 := h2 ht
  have k0 : conT n mem (spaceP V.isSome c vm se) T := conT_no hT
  obtain ⟨-, k1⟩ := stepP_con (U := T) c vm se at_ at_ rfl k0 k0
  obtain ⟨⟨e1, e2, -, -⟩, -⟩ := stepP_con c vm se at_ at_ rfl k1 k0
  generalize stepP n ⟨mem, T, V⟩ c vm se at_ = o at *
  obtain ⟨⟨m, T2, V2⟩, c2, t2⟩ := o
  simp only at *
  subst c1 m1 v1
  exact ⟨e1, e2⟩
end
end Go.Eng
/-
  A guest writes only what it was given to write: plain.
-/
namespace Go.Eng
set_option linter.unusedSimpArgs false
set_option linter.unusedVariables false
set_option maxRecDepth 16000
set_option maxHeartbeats 4000000
open Go Go.Proofs
def frameEq (m m' : Nat → Int) (F : Nat) : Prop := ∀ j, j < 64 → m' (64 * F + j) = m (64 * F + j)
theorem frameEq.rfl {m : Nat → Int} {F : Nat} : frameEq m m F := fun _ _ => Eq.refl _
theorem getE_congr {n : Nat} {m m' : Nat → Int} {t i : Int} (h : 0 ≤ t → t < n → frameEq m m' t.toNat) : getE n m' t i = getE n m t i := by
  unfold getE plE
  by_cases h1 : i < 0 ∨ 32 ≤ i
  · simp only [if_pos h1]; rfl
  simp only [if_neg h1]
  by_cases h2 : t < 0 ∨ (n : Int) ≤ t
  · simp only [if_pos h2]; rfl
  simp only [if_neg h2]
  have f := h (by omega) (by omega)
  have e0 := f (2 * i.toNat) (by omega)
  have e1 := f (2 * i.toNat + 1) (by omega)
  have ea : (t * 64 + 2 * i).toNat = 64 * t.toNat + 2 * i.toNat := by omega
  simp only [loadM, ea, Nat.add_zero, Nat.add_assoc, e0, e1]
theorem stepE_congr {n : Nat} {m m' : Nat → Int} {t p l : Int} (h : 0 ≤ t → t < n → frameEq m m' t.toNat) : stepE n m' t p l = stepE n m t p l := by
  unfold stepE
  rw [getE_congr h]
theorem sgW_congr {n : Nat} {m m' : Nat → Int} {root : Int} (h0 : 0 ≤ root → root < n → frameEq m m' root.toNat)
    (h1 : ∀ page, (stepE n m root page 0).2 = 0 → 0 ≤ (stepE n m root page 0).1.F → (stepE n m root page 0).1.F < n → frameEq m m' (stepE n m root page 0).1.F.toNat) (page : Int) : sgW n m' root page = sgW n m root page := by
  unfold sgW
  rw [stepE_congr (p := page) (l := 0) h0]
  by_cases k : page < 0 ∨ 1024 ≤ page
  · rw [if_pos k, if_pos k]
  rw [if_neg k, if_neg k]
  by_cases k2 : (stepE n m root page 0).2 ≠ 0
  · rw [if_pos k2, if_pos k2]
  rw [if_neg k2, if_neg k2, stepE_congr (p := page) (l := 1) (h1 page (by simpa using k2))]
theorem seW_sg {n : Nat} {m : Nat → Int} {root page want : Int} (h : (seW n m root page want).f.K = 0) :
    (sgW n m root page).f.K = 0 ∧ (seW n m root page want).Fr = (sgW n m root page).Fr ∧ (seW n m root page want).Ri = (sgW n m root page).Ri ∧ andI (sgW n m root page).Ri want ≠ 0 := by
  unfold seW at h ⊢
  by_cases k : (sgW n m root page).f.K ≠ 0
  · rw [if_pos k] at h; exact absurd h k
  rw [if_neg k] at h ⊢
  by_cases k2 : andI (sgW n m root page).Ri want = 0
  · rw [if_pos k2] at h; cases h
  rw [if_neg k2]
  exact ⟨by simpa using k, rfl, rfl, k2⟩
/-- What is found was given by the other table. -/
theorem neW_sg {n : Nat} {m : Nat → Int} {s : Spc} {page want : Int} (h : (neW n m s page want).f.K = 0) :
    ∃ p, (sgW n m s.Second p).f.K = 0 ∧ (neW n m s page want).Fr = (sgW n m s.Second p).Fr ∧ (∀ b, andI (neW n m s page want).Ri b ≠ 0 → andI (sgW n m s.Second p).Ri b ≠ 0) ∧ andI (sgW n m s.Second p).Ri want ≠ 0 := by
  unfold neW at h ⊢
  by_cases k : page < 0 ∨ 1024 ≤ page
  · rw [if_pos k] at h; cases h
  rw [if_neg k] at h ⊢
  by_cases k1 : s.First < 0
  · rw [if_pos k1] at h ⊢
    obtain ⟨a, b, c, d⟩ := seW_sg h
    exact ⟨page, a, b, fun x hx => by rw [← c]; exact hx, d⟩
  rw [if_neg k1] at h ⊢
  by_cases k2 : (own2 n m s page).2.K ≠ 0
  · rw [if_pos k2] at h; exact absurd h k2
  rw [if_neg k2] at h ⊢
  by_cases k3 : andI (own2 n m s page).1.R want = 0
  · rw [if_pos k3] at h; cases h
  rw [if_neg k3] at h ⊢
  obtain ⟨a, b, c, d⟩ := seW_sg h
  exact ⟨(own2 n m s page).1.F, a, b, fun x hx => by rw [← c]; exact andI_l hx, d⟩
theorem sgW_page {n : Nat} {m : Nat → Int} {root p : Int} (h : (sgW n m root p).f.K = 0) : 0 ≤ p ∧ p < 1024 := by
  unfold sgW at h
  by_cases k : p < 0 ∨ 1024 ≤ p
  · rw [if_pos k] at h; cases h
  · omega
/-- A frame that a table gives with Write. -/
def mayF (n : Nat) (m : Nat → Int) (root : Int) (F : Int) : Prop := ∃ p, (sgW n m root p).f.K = 0 ∧ andI (sgW n m root p).Ri 2 ≠ 0 ∧ (sgW n m root p).Fr = F
section
variable {n : Nat} {m0 : Nat → Int} {root : Int}
/-- The tables lie in frames that are not given. -/
structure shutT (n : Nat) (m0 : Nat → Int) (root : Int) : Prop where
  r : ¬ mayF n m0 root root
  t : ∀ page, (stepE n m0 root page 0).2 = 0 → (stepE n m0 root page 0).1.F < n → ¬ mayF n m0 root (stepE n m0 root page 0).1.F
structure keepM (n : Nat) (m0 : Nat → Int) (root : Int) (m : Nat → Int) (T : List Ln) : Prop where
  mem : ∀ F : Nat, F < n → ¬ mayF n m0 root F → frameEq m0 m F
  T : ∀ l ∈ T, andI l.Rights 2 ≠ 0 → mayF n m0 root l.Frame
theorem keepM.sg (hs : shutT n m0 root) {m : Nat → Int} {T : List Ln} (k : keepM n m0 root m T) (page : Int) : sgW n m root page = sgW n m0 root page := by
  refine sgW_congr (fun h0 h1 => k.mem _ (by omega) ?_) (fun p e h0 h1 => k.mem _ (by omega) ?_) page
  · rw [Int.toNat_of_nonneg h0]; exact hs.r
  · rw [Int.toNat_of_nonneg h0]; exact hs.t p e h1
theorem keepM.fill (hs : shutT n m0 root) {m : Nat → Int} {T : List Ln} (k : keepM n m0 root m T) {s : Spc} (hr : s.Second = root) (page want at_ v a : Int) (h : (neW n m s page want).f.K = 0) :
    keepM n m0 root m (fillT T at_ ⟨v, a, page, (neW n m s page want).Fr, (neW n m s page want).Ri⟩) := by
  refine ⟨k.mem, ?_⟩
  unfold fillT
  split
  · intro l hl hw
    rcases List.mem_or_eq_of_mem_set hl with q | q
    · unfold flushT at q
      obtain ⟨x, hx, e⟩ := List.mem_map.1 q
      split at e
      · rw [← e] at hw; exact absurd (by rfl) hw
      · rw [← e] at hw ⊢; exact k.T x hx hw
    · subst q
      obtain ⟨p, a1, a2, a3, -⟩ := neW_sg h
      rw [hr, k.sg hs] at a1 a2
      refine ⟨p, a1, ?_, a2.symm⟩
      have := a3 2 hw
      rwa [hr, k.sg hs] at this
  · exact k.T
theorem keepM.reach (hs : shutT n m0 root) {m : Nat → Int} {T : List Ln} (k : keepM n m0 root m T) {s : Spc} (hr : s.Second = root) (page want at_ : Int) :
    keepM n m0 root m (reach n m T s page want at_).T ∧ ((reach n m T s page want at_).f.K = 0 → want = 2 → mayF n m0 root (reach n m T s page want at_).Fr) := by
  have hw : keepM n m0 root m (reachW n m T s page want at_).T ∧ ((reachW n m T s page want at_).f.K = 0 → want = 2 → mayF n m0 root (reachW n m T s page want at_).Fr) := by
    unfold reachW
    by_cases q : (neW n m s page want).f.K ≠ 0
    · rw [if_pos q]; exact ⟨k, fun e => absurd e q⟩
    · rw [if_neg q]
      have q : (neW n m s page want).f.K = 0 := by simpa using q
      refine ⟨k.fill hs hr page want at_ _ _ q, fun _ w2 => ?_⟩
      subst w2
      obtain ⟨p, a1, a2, -, a4⟩ := neW_sg q
      rw [hr, k.sg hs] at a1 a2 a4
      exact ⟨p, a1, a4, a2.symm⟩
  unfold Go.Eng.reach
  split
  · rename_i l hl
    obtain ⟨h1, -⟩ := findT_some hl
    by_cases q : andI l.Rights want ≠ 0
    · rw [if_pos q]
      exact ⟨k, fun _ w2 => k.T l h1 (by rw [← w2]; exact q)⟩
    · rw [if_neg q]; exact hw
  · exact hw
theorem keepM.reachC (hs : shutT n m0 root) {m : Nat → Int} {T : List Ln} (k : keepM n m0 root m T) {s : Spc} (hr : s.Second = root) (addr want at_ : Int) :
    keepM n m0 root m (reachC n m T s addr want at_).T ∧ ((reachC n m T s addr want at_).f.K = 0 → want = 2 → mayF n m0 root ((reachC n m T s addr want at_).at_ / 64)) := by
  obtain ⟨a, b⟩ := k.reach hs hr (addr / 64) want at_
  refine ⟨a, fun e w2 => ?_⟩
  unfold Go.Eng.reachC at e ⊢
  simp only at e ⊢
  split at e
  · cases e
  · have := b e w2
    rwa [show ((Go.Eng.reach n m T s (addr / 64) want at_).Fr * 64 + addr % 64) / 64 = (Go.Eng.reach n m T s (addr / 64) want at_).Fr by omega]
theorem keepM.put {m : Nat → Int} {T : List Ln} (k : keepM n m0 root m T) {at_ size w : Int} (hz : size = 1 ∨ size = 4) (ha : at_ % size = 0) (h : mayF n m0 root (at_ / 64)) : keepM n m0 root (putM m at_ size w) T := by
  refine ⟨fun F hF hn j hj => ?_, k.T⟩
  have hne : (F : Int) ≠ at_ / 64 := fun e => hn (by rw [e]; exact h)
  rw [← k.mem F hF hn j hj]
  unfold putM
  rw [if_neg]
  rcases hz with rfl | rfl <;> omega
/-- The machine keeps what it must. -/
def keepO (n : Nat) (m0 : Nat → Int) (root : Int) (o : Out) : Prop := keepM n m0 root o.M.mem o.M.T
theorem keepO.ite {p : Prop} [Decidable p] {a b : Out} (h1 : keepO n m0 root a) (h2 : keepO n m0 root b) : keepO n m0 root (if p then a else b) := by split; exact h1; exact h2
theorem touch_keep (hs : shutT n m0 root) {M : Mch} (k : keepM n m0 root M.mem M.T) {s : Spc} (hr : s.Second = root) (c : Cp) (i : Ins) (at_ size want cause : Int) (hz : size = 1 ∨ size = 4) : keepO n m0 root (touch n M c i s at_ size want cause) := by
  unfold touch
  obtain ⟨a, b⟩ := k.reachC hs hr ((rg c i.B + i.I) % 65536) want at_
  by_cases q : (rg c i.B + i.I) % 65536 % size ≠ 0
  · rw [if_pos q]; exact k
  rw [if_neg q]
  by_cases q2 : (Go.Eng.reachC n M.mem M.T s ((rg c i.B + i.I) % 65536) want at_).f.K ≠ 0
  · rw [if_pos q2]; exact a
  rw [if_neg q2]
  by_cases q3 : want = 2
  · rw [if_pos q3]
    refine a.put hz ?_ (b (by simpa using q2) q3)
    unfold Go.Eng.reachC
    try simp only
    rcases hz with rfl | rfl <;> omega
  · rw [if_neg q3]; exact a
theorem doP_keep (hs : shutT n m0 root) {M : Mch} (k : keepM n m0 root M.mem M.T) {s : Spc} (hr : s.Second = root) (c : Cp) (i : Ins) (at_ : Int) : keepO n m0 root (doP n M c i s at_) := by
  unfold doP
  repeat' (with_reducible apply keepO.ite)
  all_goals first
    | exact touch_keep hs k hr c i at_ _ _ _ (by omega)
    | exact k
    | (refine ⟨k.mem, fun l hl hw => ?_⟩
       simp only [go, flushT] at hl
       obtain ⟨x, hx, e⟩ := List.mem_map.1 hl
       split at e
       · rw [← e] at hw; exact absurd (by rfl) hw
       · rw [← e] at hw ⊢; exact k.T x hx hw)
theorem stepP_keep (hs : shutT n m0 root) {M : Mch} (k : keepM n m0 root M.mem M.T) (c : Cp) (vm at_ : Int) : keepO n m0 root (stepP n M c vm root at_) := by
  unfold stepP
  refine keepO.ite k ?_
  have hr : (spaceP M.V.isSome c vm root).Second = root := by unfold spaceP; split <;> rfl
  unfold stepF
  obtain ⟨a, -⟩ := k.reachC hs hr c.Pc 4 at_
  refine keepO.ite a (keepO.ite a ?_)
  exact doP_keep hs a hr c _ at_
end
end Go.Eng
/-
  The buffer is not seen, plain; running is stepping, plain.
-/
namespace Go.Eng
set_option linter.unusedSimpArgs false
set_option linter.unusedVariables false
set_option maxRecDepth 16000
set_option maxHeartbeats 4000000
open Go Go.Proofs
theorem conT_congr {n : Nat} {m m' : Nat → Int} {s : Spc} {T : List Ln} (h1 : s.First < 0) (e : ∀ p, sgW n m' s.Second p = sgW n m s.Second p) (c : conT n m s T) : conT n m' s T := by
  intro l hl page k want hw
  rw [← c l hl page k want hw]
  unfold neW seW
  simp only [if_pos h1, e]
/-- Two machines, the one with an emptied buffer. -/
structure pairF (n : Nat) (m0 : Nat → Int) (root : Int) (s : Spc) (m : Nat → Int) (T : List Ln) : Prop where
  k : keepM n m0 root m T
  c : conT n m s T
theorem pairF.step {n : Nat} {m0 : Nat → Int} {root : Int} {m : Nat → Int} {T U : List Ln} (hs : shutT n m0 root) {vm : Int} (p : pairF n m0 root ⟨vm, 0, -1, root⟩ m T) (hU : ∀ l ∈ U, l = zeroL) (c : Cp) (at_ bt : Int) :
    Alike (stepP n ⟨m, T, none⟩ c vm root at_) (stepP n ⟨m, U, none⟩ c vm root bt) ∧ pairF n m0 root ⟨vm, 0, -1, root⟩ (stepP n ⟨m, T, none⟩ c vm root at_).M.mem (stepP n ⟨m, T, none⟩ c vm root at_).M.T := by
  obtain ⟨a, b⟩ := stepP_con (V := none) c vm root at_ bt (by simp [spaceP]) p.c (conT_no (n := n) (mem := m) (s := ⟨vm, 0, -1, root⟩) hU)
  have k2 := stepP_keep hs (M := ⟨m, T, none⟩) p.k c vm at_
  exact ⟨a, k2, conT_congr (show (-1 : Int) < 0 by decide) (fun q => (k2.sg hs q).trans (p.k.sg hs q).symm) b⟩
theorem stepP_V {n : Nat} {M : Mch} {c : Cp} {vm se at_ : Int} (h : M.V = none) : (stepP n M c vm se at_).M.V = none := by
  have ht : ∀ (M : Mch) (i : Ins) (s : Spc) (size want cause : Int), M.V = none → (touch n M c i s at_ size want cause).M.V = none := by
    intro M i s size want cause hM
    unfold touch
    repeat' split
    all_goals exact hM
  have hd : ∀ (M : Mch) (i : Ins) (s : Spc), M.V = none → guestO i.Op = false → (doP n M c i s at_).M.V = none := by
    intro M i s hM hg
    unfold doP
    have h20 : i.Op ≠ 20 := by intro e; rw [e] at hg; exact absurd hg (by decide)
    simp only [if_neg h20]
    have P : ∀ {p : Prop} [Decidable p] {a b : Out}, a.M.V = none → b.M.V = none → (if p then a else b).M.V = none := by
      intro p _ a b h1 h2; split; exact h1; exact h2
    repeat' (with_reducible apply P)
    all_goals first
      | exact ht M i s _ _ _ hM
      | exact hM
  unfold stepP
  split
  · exact h
  unfold stepF
  try simp only
  split
  · exact h
  split
  · exact h
  · rename_i q
    refine hd _ _ _ h ?_
    have q2 := not_or.1 q
    have q3 := q2.2
    cases e : guestO (decI (loadM M.mem (reachC n M.mem M.T (spaceP M.V.isSome c vm se) c.Pc 4 at_).at_.toNat 4).toNat).Op with
    | false => rfl
    | true => exact absurd ⟨e, h⟩ q3
/-- Where a line is filled. -/
def atP (pc : Int) : Int := (pc.tdiv 4) % 8
structure Run4 where
  M : Mch
  c : Cp
  t : Trp
  k : Nat
def runP (n : Nat) (vm se : Int) : Nat → Mch → Cp → Nat → Run4
  | 0, M, c, k => ⟨M, c, okT, k⟩
  | f + 1, M, c, k => if (stepP n M c vm se (atP c.Pc)).t.C ≠ 0 then ⟨(stepP n M c vm se (atP c.Pc)).M, (stepP n M c vm se (atP c.Pc)).c, (stepP n M c vm se (atP c.Pc)).t, k⟩ else runP n vm se f (stepP n M c vm se (atP c.Pc)).M (stepP n M c vm se (atP c.Pc)).c (k + 1)
theorem runP_keep {n : Nat} {m0 : Nat → Int} {root : Int} (hs : shutT n m0 root) (vm : Int) : ∀ (f : Nat) {M : Mch} (c : Cp) (k : Nat), keepM n m0 root M.mem M.T → keepM n m0 root (runP n vm root f M c k).M.mem (runP n vm root f M c k).M.T
  | 0, M, c, k, h => h
  | f + 1, M, c, k, h => by
    unfold runP
    have h2 := stepP_keep hs h c vm (atP c.Pc)
    split
    · exact h2
    · exact runP_keep hs vm f _ _ h2
theorem runP_k {n : Nat} {vm se : Int} : ∀ (f : Nat) (M : Mch) (c : Cp) (k : Nat), (runP n vm se f M c k).k ≤ k + f
  | 0, _, _, _ => Nat.le_refl _
  | f + 1, M, c, k => by
    unfold runP
    split
    · simp only; omega
    · have := runP_k (n := n) (vm := vm) (se := se) f (stepP n M c vm se (atP c.Pc)).M (stepP n M c vm se (atP c.Pc)).c (k + 1)
      omega
end Go.Eng
/-
  Where a line is filled: plain.
-/
namespace Go.Eng
set_option linter.unusedSimpArgs false
set_option linter.unusedVariables false
set_option maxRecDepth 16000
set_option maxHeartbeats 4000000
open Go Go.Proofs
theorem low7 (x : Int) : ((BitVec.ofInt 64 x &&& BitVec.ofInt 64 7).toNat : Int) = x % 8 := by
  rw [show (BitVec.ofInt 64 7) = BitVec.ofNat 64 7 from rfl, BitVec.toNat_and, BitVec.toNat_ofInt, BitVec.toNat_ofNat]
  have : (x % ((2 ^ 64 : Nat) : Int)).toNat &&& 7 = (x % ((2 ^ 64 : Nat) : Int)).toNat % 8 := Nat.and_two_pow_sub_one_eq_mod _ 3
  rw [show (7 % 2 ^ 64) = 7 from rfl, this]
  omega
theorem tdiv4_bd {x : Int} (h1 : -9223372036854775808 ≤ x) (h2 : x ≤ 9223372036854775807) : -9223372036854775808 ≤ x.tdiv 4 ∧ x.tdiv 4 ≤ 9223372036854775807 := by
  rw [Int.tdiv_eq_ediv, show (4 : Int).sign = 1 from rfl]
  split <;> omega
theorem at_low (pc : Int) : IntKind.i64.wrap ((BitVec.ofInt 64 (pc.tdiv 4) &&& BitVec.ofInt 64 7).toNat : Int) = atP pc := by
  rw [low7]
  unfold atP
  exact w64_id (by omega) (by omega)
theorem at_mod (pc : Int) : (if (pc.tdiv 4).tmod 8 < 0 then (pc.tdiv 4).tmod 8 + 8 else (pc.tdiv 4).tmod 8) = atP pc := by
  unfold atP
  generalize pc.tdiv 4 = y
  rw [Int.tmod_eq_emod]
  split <;> split <;> omega
theorem atP_bd (pc : Int) : 0 ≤ atP pc ∧ atP pc < 8 := by
  unfold atP
  omega
/-- A run, one step further. -/
theorem runP_go {n : Nat} {vm se : Int} {f : Nat} {M : Mch} {c : Cp} {k : Nat} (h : (stepP n M c vm se (atP c.Pc)).t.C = 0) : runP n vm se (f + 1) M c k = runP n vm se f (stepP n M c vm se (atP c.Pc)).M (stepP n M c vm se (atP c.Pc)).c (k + 1) := by
  rw [runP, if_neg (by simpa using h)]
theorem runP_stop {n : Nat} {vm se : Int} {f : Nat} {M : Mch} {c : Cp} {k : Nat} (h : (stepP n M c vm se (atP c.Pc)).t.C ≠ 0) : runP n vm se (f + 1) M c k = ⟨(stepP n M c vm se (atP c.Pc)).M, (stepP n M c vm se (atP c.Pc)).c, (stepP n M c vm se (atP c.Pc)).t, k⟩ := by
  rw [runP, if_pos h]
end Go.Eng
/-
  When the tables lie in frames that are not given: plain; lists of truths.
-/
namespace Go.Eng
set_option linter.unusedSimpArgs false
set_option linter.unusedVariables false
set_option maxRecDepth 16000
set_option maxHeartbeats 4000000
open Go Go.Proofs
theorem stepE_get {n : Nat} {m : Nat → Int} {root page : Int} (h : (stepE n m root page 0).2 = 0) :
    ∃ i : Int, 0 ≤ i ∧ i < 32 ∧ (getE n m root i).2 = 0 ∧ (getE n m root i).1.V = true ∧ (getE n m root i).1.L = false ∧ (stepE n m root page 0).1 = (getE n m root i).1 := by
  unfold stepE at h ⊢
  by_cases k : root < 0 ∨ (n : Int) ≤ root
  · rw [if_pos k] at h; cases h
  rw [if_neg k] at h ⊢
  by_cases k2 : (getE n m root (idxE page 0)).2 = 0 ∧ (getE n m root (idxE page 0)).1.V = true ∧ (getE n m root (idxE page 0)).1.L = decide ((0 : Int) = 1)
  · rw [if_pos k2]
    obtain ⟨a, b, c⟩ := k2
    refine ⟨idxE page 0, ?_, ?_, a, b, by simpa using c, rfl⟩
    · unfold idxE; split <;> simp <;> omega
    · unfold idxE; split <;> simp <;> omega
  · rw [if_neg k2] at h; cases h
theorem shutT_of {n : Nat} {m : Nat → Int} {root : Int} (hr : ¬ mayF n m root root)
    (ht : ∀ i : Int, 0 ≤ i → i < 32 → (getE n m root i).2 = 0 → (getE n m root i).1.V = true → (getE n m root i).1.L = false → (getE n m root i).1.F < n → ¬ mayF n m root (getE n m root i).1.F) : shutT n m root :=
  ⟨hr, fun page h hF => by
    obtain ⟨i, a, b, c, d, e, g⟩ := stepE_get h
    rw [g] at hF ⊢
    exact ht i a b c d e hF⟩
/-- A list of truths. -/
def boolL (n : Nat) (g : Nat → Bool) : List Value := (List.range n).map fun i => .bool (g i)
theorem boolL_len {n : Nat} {g : Nat → Bool} : (boolL n g).length = n := by simp [boolL]
theorem boolL_get {n : Nat} {g : Nat → Bool} {i : Nat} (hi : i < n) : (boolL n g)[i]? = some (.bool (g i)) := by simp [boolL, hi]
theorem boolL_set {n : Nat} {g : Nat → Bool} {k : Nat} {x : Bool} : (boolL n g).set k (.bool x) = boolL n (fun j => if j = k then x else g j) := by
  apply List.ext_getElem?
  intro i
  rw [List.getElem?_set]
  by_cases e : k = i
  · subst e
    rw [boolL_len]
    by_cases hk : k < n
    · simp [boolL, hk]
    · simp [boolL, hk]
  · rw [if_neg e]
    by_cases hi : i < n
    · rw [boolL_get hi, boolL_get hi, if_neg (fun q => e q.symm)]
    · rw [List.getElem?_eq_none (by rw [boolL_len]; omega), List.getElem?_eq_none (by rw [boolL_len]; omega)]
/-- What was seen of the given frames, up to a page. -/
def seenF (n : Nat) (m : Nat → Int) (root : Int) (k : Nat) (F : Int) : Prop := ∃ p : Int, 0 ≤ p ∧ p < k ∧ (sgW n m root p).f.K = 0 ∧ andI (sgW n m root p).Ri 2 ≠ 0 ∧ (sgW n m root p).Fr = F
theorem seenF_all {n : Nat} {m : Nat → Int} {root F : Int} : seenF n m root 1024 F ↔ mayF n m root F :=
  ⟨fun ⟨p, _, _, a, b, c⟩ => ⟨p, a, b, c⟩, fun ⟨p, a, b, c⟩ => ⟨p, (sgW_page a).1, (sgW_page a).2, a, b, c⟩⟩
theorem seenF_succ {n : Nat} {m : Nat → Int} {root F : Int} {k : Nat} : seenF n m root (k + 1) F ↔ seenF n m root k F ∨ ((sgW n m root k).f.K = 0 ∧ andI (sgW n m root k).Ri 2 ≠ 0 ∧ (sgW n m root k).Fr = F) := by
  constructor
  · rintro ⟨p, a, b, c⟩
    by_cases e : p = k
    · subst e; exact .inr c
    · exact .inl ⟨p, a, by omega, c⟩
  · rintro (⟨p, a, b, c⟩ | c)
    · exact ⟨p, a, by omega, c⟩
    · exact ⟨k, by omega, by omega, c⟩
end Go.Eng
