/-
  package untyped, ram: contracts over parts of memory.
-/
import Derived.Test.YtadabopmgphelaaUnt9
import Derived.Test.YtadabopmgphelaaRam3
import Derived.Test.YtadabopmgphelaaEng12
import Derived.Test.YtadabopmgphelaaEng14
namespace Go.Eng
set_option linter.unusedSimpArgs false
set_option linter.unusedVariables false
set_option maxRecDepth 16000
set_option maxHeartbeats 4000000
open Go Go.Proofs

def poolO (pb : Nat) (m : Int → Option Reg) : Heap → (Nat → Prop) → Prop := fun h X => PoolR h pb X m
def poolS (pb : Nat) (m : Int → Option Reg) : SP := own (poolO pb m)
def ramO (rb n : Nat) (mem : Nat → Int) : Heap → (Nat → Prop) → Prop := fun h X => RamR h rb X n mem
def ramS (rb n : Nat) (mem : Nat → Int) : SP := own (ramO rb n mem)
theorem poolO_local {pb : Nat} {m : Int → Option Reg} : Local (poolO pb m) := fun _ _ _ p e => p.frame fun b hb hX => e b hX hb
theorem ramO_local {rb n : Nat} {mem : Nat → Int} : Local (ramO rb n mem) := fun _ _ _ p e => p.frame fun b hb hX => e b hX hb
theorem RamR.sub {h : Heap} {rb n : Nat} {X Y : Nat → Prop} {mem : Nat → Int} (r : RamR h rb X n mem) (hXY : ∀ b, b < h.size → X b → Y b) : RamR h rb Y n mem := by
  obtain ⟨db, r, f1, f2⟩ := r
  obtain ⟨_, e1⟩ := r.head
  obtain ⟨_, _, e2, _⟩ := r.data
  exact ⟨db, r, hXY _ (lt_of_get e1) f1, hXY _ (lt_of_get e2) f2⟩

section
variable {h : Heap} {F : List SP} {pb rb n : Nat} {m : Int → Option Reg} {mem : Nat → Int}

theorem new_S (hs : Sat h F) : HCalls Try.prog 12 #[] h fun v h' => ∃ pb, v = .pointer (some ⟨pb, 0, none⟩) ∧ Sat h' (poolS pb (fun _ => none) :: F) := by
  refine (new_spec h).mono ?_
  rintro v h' ⟨pb, rfl, -, p, e⟩
  exact ⟨pb, rfl, hs.made (Φ := poolO pb _) p (fun b hb => hb) e⟩
theorem ramNew_S (hs : Sat h F) (n : Nat) (h1 : 1 ≤ n) (h2 : n ≤ 1024) : HCalls Try.prog 16 #[.int .i64 n] h fun v h' => ∃ rb, v = .tuple #[.pointer (some ⟨rb, 0, none⟩), .int .i64 0] ∧ Sat h' (ramS rb n (fun _ => 0) :: F) := by
  refine (ramNew_spec h n h1 h2).mono ?_
  rintro v h' ⟨rb, rfl, -, p, e⟩
  exact ⟨rb, rfl, hs.made (Φ := ramO rb n _) p (fun b hb => hb) e⟩
theorem room_S (hs : Sat h (poolS pb m :: F)) (first kind frames count : Int) :
    HCalls Try.prog 22 #[.pointer (some ⟨pb, 0, none⟩), .int .i64 first, .int .i64 kind, .int .i64 frames, .int .i64 count] h fun v h' => v = pairI (roomM m first kind frames count) ∧ h' = h := by
  obtain ⟨X, p, -, -⟩ := hs.open_ poolO_local
  exact room_spec h pb X m p first kind frames count
theorem get_S (hs : Sat h (poolS pb m :: F)) (first : Int) :
    HCalls Try.prog 15 #[.pointer (some ⟨pb, 0, none⟩), .int .i64 first] h fun v h' => v = regI (getM m first) ∧ Sat h' (poolS pb m :: F) := by
  obtain ⟨X, p, -, -⟩ := hs.open_ poolO_local
  refine (get_spec h pb X m p first).mono ?_
  rintro v h' ⟨rfl, e⟩
  exact ⟨rfl, hs.grow e⟩
theorem add_S (hs : Sat h (poolS pb m :: F)) (x : Reg) :
    HCalls Try.prog 13 #[.pointer (some ⟨pb, 0, none⟩), .agg x.cells.toArray] h fun v h' => v = .int .i64 (addM m x).2 ∧ Sat h' (poolS pb (addM m x).1 :: F) := by
  obtain ⟨X, p, hX, back⟩ := hs.open_ poolO_local
  refine (add_spec h pb X m p x).mono ?_
  rintro v h' ⟨rfl, p', d⟩
  refine ⟨rfl, back (poolO pb _) h' _ p' (fun b hb => ?_) d fun b hb => ?_⟩
  · rcases hb with hb | hb
    · have := hX b hb; have := d.size; omega
    · exact hb.2
  · rcases hb with hb | hb
    · exact .inl hb
    · exact .inr hb.1
theorem carve_S (hs : Sat h (poolS pb m :: F)) (first kind frames count : Int) :
    HCalls Try.prog 14 #[.pointer (some ⟨pb, 0, none⟩), .int .i64 first, .int .i64 kind, .int .i64 frames, .int .i64 count] h fun v h' => v = pairI (carveM m first kind frames count).2 ∧ Sat h' (poolS pb (carveM m first kind frames count).1 :: F) := by
  obtain ⟨X, p, hX, back⟩ := hs.open_ poolO_local
  refine (carve_spec h pb X m p first kind frames count).mono ?_
  rintro v h' ⟨rfl, p', d⟩
  exact ⟨rfl, back (poolO pb _) h' X p' (fun b hb => Nat.lt_of_lt_of_le (hX b hb) d.size) d fun b hb => .inl hb⟩
theorem store1_S (hs : Sat h (ramS rb n mem :: F)) (addr w : Int) :
    HCalls Try.prog 17 #[.pointer (some ⟨rb, 0, none⟩), .int .i64 addr, .int .i64 1, .int .u32 w] h fun v h' =>
      (0 ≤ addr ∧ addr < 64 * n ∧ v = .int .i64 0 ∧ Sat h' (ramS rb n (putB mem addr (IntKind.u8.wrap w)) :: F)) ∨ (¬ (0 ≤ addr ∧ addr < 64 * n) ∧ v = .int .i64 10 ∧ Sat h' (ramS rb n mem :: F)) := by
  obtain ⟨X, p, hX, back⟩ := hs.open_ ramO_local
  refine (store1_spec h rb X n mem p addr w).mono ?_
  rintro v h' ⟨⟨a1, a2, rfl, p'⟩ | ⟨a1, rfl, p'⟩, d⟩
  · exact .inl ⟨a1, a2, rfl, back (ramO rb n _) h' X p' (fun b hb => Nat.lt_of_lt_of_le (hX b hb) d.size) d fun b hb => .inl hb⟩
  · exact .inr ⟨a1, rfl, back (ramO rb n _) h' X p' (fun b hb => Nat.lt_of_lt_of_le (hX b hb) d.size) d fun b hb => .inl hb⟩
/-- A frame's bytes, copied. -/
def frameC (mem : Nat → Int) (i : Nat) (cs : Array Value) : Prop := cs.size = 64 ∧ ∀ j, j < 64 → cs[j]? = some (.int .u8 (mem (64 * i + j)))
theorem frame_S (hs : Sat h (ramS rb n mem :: F)) (i : Int) :
    HCalls Try.prog 18 #[.pointer (some ⟨rb, 0, none⟩), .int .i64 i] h fun v h' =>
      (0 ≤ i ∧ i < n ∧ ∃ fb ty cs, v = .tuple #[.slice (some ⟨fb, 0, none⟩) 64 64, .int .i64 0] ∧ frameC mem i.toNat cs ∧ Sat h' (ramS rb n mem :: cellAt fb (.cells cs ty (0, 0)) :: F)) ∨ (¬ (0 ≤ i ∧ i < n) ∧ v = .tuple #[.slice none 0 0, .int .i64 10] ∧ Sat h' (ramS rb n mem :: F)) := by
  obtain ⟨X, p, hX, back⟩ := hs.open_ ramO_local
  refine (frame_spec h rb X n mem p i).mono ?_
  rintro v h' ⟨⟨a1, a2, fb, ty, cs, rfl, f0, f1, f2, f3⟩ | ⟨a1, rfl⟩, d⟩
  · refine .inl ⟨a1, a2, fb, ty, cs, rfl, ⟨f2, f3⟩, ?_⟩
    have := hs.made (Φ := cellO fb (.cells cs ty (0, 0))) (h' := h') (X := (· = fb)) ⟨f1, rfl⟩ (fun b hb => by subst hb; exact ⟨f0, lt_of_get f1⟩) d
    exact this.ofOwn.swap
  · exact .inr ⟨a1, rfl, hs.grow d⟩
theorem reset_S {ub : Nat} {u : Int} {ty : TypeId} (hs : Sat h (poolS pb m :: ramS rb n mem :: cellAt ub (.cells [.int .i64 u].toArray ty (0, 0)) :: F)) (hu : -9223372036854775808 ≤ u ∧ u ≤ 9223372036854775807) (first : Int) (r : Reg) (hm : m first = some r) :
    HCalls Try.prog 19 #[.pointer (some ⟨pb, 0, none⟩), .pointer (some ⟨rb, 0, none⟩), .int .i64 first, .pointer (some ⟨ub, 0, none⟩)] h fun v h' =>
      v = .int .i64 (if unitsM r.M u < r.M then 3 else 0) ∧
      ∃ mem' ty', Sat h' (poolS pb (setMark m first (r.M - unitsM r.M u)) :: ramS rb n mem' :: cellAt ub (.cells [.int .i64 (u - unitsM r.M u)].toArray ty' (0, 0)) :: F) ∧ (r.D = true → mem' = mem) ∧ (r.D = false → mem' = wipe mem (r.F + r.M - unitsM r.M u) (r.F + r.M)) := by
  have hs1 := ((hs.front 2).toOwn.front 2).swap
  have hs2 : Sat h (own (pairO (poolO pb m) (pairO (ramO rb n mem) (cellO ub (.cells [.int .i64 u].toArray ty (0, 0))))) :: F) := by
    have a : Sat h (ramS rb n mem :: own (cellO ub (.cells [.int .i64 u].toArray ty (0, 0))) :: poolS pb m :: F) := ((hs.front 2).toOwn.front 2)
    have b := Sat.pair ramO_local cellO_local a
    exact Sat.pair poolO_local (pairO_local ramO_local cellO_local) b.swap
  obtain ⟨X, ⟨Y, Z, p1, ⟨Z1, Z2, p2, ⟨p3, p3'⟩, d1, d2⟩, d3, d4⟩, hX, back⟩ := hs2.open_ (pairO_local poolO_local (pairO_local ramO_local cellO_local))
  have lu := lt_of_get p3
  refine (reset_spec h pb rb ub n Y Z1 m mem u ⟨p1, p2, ⟨_, p3⟩, fun b hy hz => d3 b hy ((d2 b).2 (.inl hz)), fun hy => d3 ub hy ((d2 ub).2 (.inr p3')), fun hz => d1 ub hz p3'⟩ hu first r hm).mono ?_
  rintro v h' ⟨rfl, ⟨mem', ok, e1, e2⟩, d⟩
  obtain ⟨ty', hu'⟩ := ok.unit
  refine ⟨rfl, mem', ty', ?_, e1, e2⟩
  have hd : Mod X h h' := d.mono fun b _ hb => by
    rcases hb with hb | hb | hb
    · exact (d4 b).2 (.inl hb)
    · exact (d4 b).2 (.inr ((d2 b).2 (.inl hb)))
    · exact (d4 b).2 (.inr ((d2 b).2 (.inr (hb ▸ p3'))))
  have hX' := fun b hb => Nat.lt_of_lt_of_le (hX b hb) d.size
  have res := back (pairO (poolO pb (setMark m first (r.M - unitsM r.M u))) (pairO (ramO rb n mem') (cellO ub (.cells [.int .i64 (u - unitsM r.M u)].toArray ty' (0, 0))))) h' X ⟨Y, Z, ok.pool, ⟨Z1, Z2, ok.ram, ⟨hu', p3'⟩, d1, d2⟩, d3, d4⟩ hX' hd fun b hb => .inl hb
  have r1 : Sat h' (poolS pb _ :: own (pairO _ _) :: F) := res.unpair
  have r2 := r1.swap.unpair
  have r3 : Sat h' (cellAt ub _ :: ramS rb n mem' :: poolS pb _ :: F) := r2.swap.ofOwn
  exact (r3.front 1).front 2
end
end Go.Eng
