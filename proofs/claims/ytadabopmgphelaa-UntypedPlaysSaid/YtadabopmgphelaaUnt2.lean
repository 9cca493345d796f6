/-
  package untyped: a pool as it lies in memory; New, Room, Get.
-/
import Derived.Test.YtadabopmgphelaaUnt1
namespace Go.Eng
set_option linter.unusedSimpArgs false
set_option linter.unusedVariables false
set_option maxRecDepth 16000
set_option maxHeartbeats 4000000
open Go Go.Proofs

structure Reg where
  F : Int
  N : Int
  M : Int
  D : Bool

def Reg.cells (r : Reg) : List Value := [.int .i64 r.F, .int .i64 r.N, .int .i64 r.M, .bool r.D]
theorem Reg.cells_eq {r : Reg} : r.cells = [.int .i64 r.F, .int .i64 r.N, .int .i64 r.M, .bool r.D] := rfl
attribute [go_sem] Reg.cells_eq

structure RegOk (k : Int) (r : Reg) : Prop where
  key : r.F = k
  lo : 0 ≤ r.F
  hi : r.F < 1024
  one : 1 ≤ r.N
  fit : r.F + r.N ≤ 1024
  mlo : 0 ≤ r.M
  mhi : r.M ≤ r.N

/-- What is new. -/
def grow (F : Nat → Prop) (h h' : Heap) (b : Nat) : Prop := F b ∨ (h.size ≤ b ∧ b < h'.size)

structure PoolAt (h : Heap) (pb mb : Nat) (es : Array MapEntry) (clk : Nat) (β : Int → Nat) (m : Int → Option Reg) : Prop where
  head : ∃ ty, h[pb]? = some (.cells [.map (some mb)].toArray ty (0, 0))
  map : MapIs h mb es clk
  val : ∀ k, mapOf es k = (m k).map fun _ => .pointer (some ⟨β k, 0, none⟩)
  reg : ∀ k r, m k = some r → ∃ ty, h[β k]? = some (.cells r.cells.toArray ty (0, 0))
  ok : ∀ k r, m k = some r → RegOk k r
  inj : ∀ j k r s, m j = some r → m k = some s → β j = β k → j = k
  sep : ∀ k r, m k = some r → β k ≠ pb

def poolFoot (pb mb : Nat) (β : Int → Nat) (m : Int → Option Reg) (b : Nat) : Prop := b = pb ∨ b = mb ∨ ∃ k r, m k = some r ∧ b = β k

/-- The pool at block pb is m; its blocks are among F. -/
def PoolR (h : Heap) (pb : Nat) (F : Nat → Prop) (m : Int → Option Reg) : Prop :=
  ∃ mb es clk β, PoolAt h pb mb es clk β m ∧ (∀ b, poolFoot pb mb β m b → F b)

theorem PoolAt.lt {h : Heap} {pb mb : Nat} {es : Array MapEntry} {clk : Nat} {β : Int → Nat} {m : Int → Option Reg} (p : PoolAt h pb mb es clk β m) {b : Nat} (hb : poolFoot pb mb β m b) : b < h.size := by
  rcases hb with rfl | rfl | ⟨k, r, hk, rfl⟩
  · obtain ⟨ty, e⟩ := p.head; exact lt_of_get e
  · exact lt_of_get p.map.at_
  · obtain ⟨ty, e⟩ := p.reg k r hk; exact lt_of_get e

theorem PoolAt.frame {h h' : Heap} {pb mb : Nat} {es : Array MapEntry} {clk : Nat} {β : Int → Nat} {m : Int → Option Reg} (p : PoolAt h pb mb es clk β m) (hf : ∀ b, poolFoot pb mb β m b → h'[b]? = h[b]?) : PoolAt h' pb mb es clk β m where
  head := by obtain ⟨ty, e⟩ := p.head; exact ⟨ty, (hf _ (.inl rfl)).trans e⟩
  map := p.map.other (hf _ (.inr (.inl rfl)))
  val := p.val
  reg := fun k r hk => by obtain ⟨ty, e⟩ := p.reg k r hk; exact ⟨ty, (hf _ (.inr (.inr ⟨k, r, hk, rfl⟩))).trans e⟩
  ok := p.ok
  inj := p.inj
  sep := p.sep

theorem PoolR.frame {h h' : Heap} {pb : Nat} {F : Nat → Prop} {m : Int → Option Reg} (p : PoolR h pb F m) (hf : ∀ b, b < h.size → F b → h'[b]? = h[b]?) : PoolR h' pb F m := by
  obtain ⟨mb, es, clk, β, p, hF⟩ := p
  exact ⟨mb, es, clk, β, p.frame fun b hb => hf b (p.lt hb) (hF b hb), hF⟩
theorem PoolR.ext {h h' : Heap} {pb : Nat} {F : Nat → Prop} {m : Int → Option Reg} (p : PoolR h pb F m) (e : Ext h h') : PoolR h' pb F m := p.frame fun b hb _ => e.get b hb
theorem PoolR.mod {h h' : Heap} {pb : Nat} {F G : Nat → Prop} {m : Int → Option Reg} (p : PoolR h pb F m) (e : Mod G h h') (hFG : ∀ b, b < h.size → F b → ¬ G b) : PoolR h' pb F m := p.frame fun b hb hF => e.get b hb (hFG b hb hF)
theorem PoolR.mono {h : Heap} {pb : Nat} {F G : Nat → Prop} {m : Int → Option Reg} (p : PoolR h pb F m) (hFG : ∀ b, b < h.size → F b → G b) : PoolR h pb G m := by
  obtain ⟨mb, es, clk, β, p, hF⟩ := p
  exact ⟨mb, es, clk, β, p, fun b hb => hFG b (p.lt hb) (hF b hb)⟩

theorem new_spec (h : Heap) : HCalls Try.prog 12 #[] h fun v h' => ∃ pb, v = .pointer (some ⟨pb, 0, none⟩) ∧ h.size ≤ pb ∧ PoolR h' pb (fun b => h.size ≤ b ∧ b < h'.size) (fun _ => none) ∧ Ext h h' := by
  refine HCalls.of_dev T12 Try.func12 rfl mixed (by kernel_rfl) ?_; rw [Try.results12]
  simp (maxSteps := 2000000) only [↓condK_decide, go_sem, Nat.reduceBEq, Nat.reduceAdd, Nat.reduceMul, Nat.reduceSub, Nat.reduceEqDiff, Nat.reduceLeDiff, Nat.reduceLT, Int.reduceEq, Int.reduceAdd, Int.reduceSub, Int.reduceMul, Int.reduceNeg, Int.reduceLT, Int.reduceLE, Int.reduceToNat, Int.reduceBEq, Int.reduceNe]
  refine ⟨h.size + 1, rfl, by omega, ⟨h.size, #[], 0, fun _ => 0, ⟨⟨66, by rw [← size_push' (o := .map #[] 0)]; exact get_push_new⟩, MapIs.made.other (get_push_lt (by simp)), fun k => rfl, fun k r hk => (by cases hk), fun k r hk => (by cases hk), fun j k r s hj => (by cases hj), fun k r hk => (by cases hk)⟩, ?_⟩, (Ext.push _ _).trans (Ext.push _ _)⟩
  rintro b (rfl | rfl | ⟨k, r, hk, -⟩)
  · omega
  · omega
  · cases hk

/-! ### rooms -/
def roomM (m : Int → Option Reg) (first kind frames count : Int) : Int × Int :=
  match m first with
  | none => (0, 131)
  | some r =>
    if (sizeM kind frames).2 ≠ 0 then (0, (sizeM kind frames).2)
    else if count < 1 ∨ 8 < count then (0, 1)
    else if r.D = true ∧ kind ≠ 1 ∧ kind ≠ 6 then (0, 141)
    else
      let many := (sizeM kind frames).1
      let at_ := (r.F + r.M + many - 1) / many * many
      if r.F + r.N < at_ + count * many then (0, 140) else (at_, 0)

theorem sizeM_bd {kind frames : Int} (h : (sizeM kind frames).2 = 0) : 1 ≤ (sizeM kind frames).1 ∧ (sizeM kind frames).1 ≤ 512 := by
  unfold sizeM at h ⊢
  split at h
  · split at h
    · rename_i hk hp
      simp only [hk, hp, if_true]
      unfold isPow at hp
      simp only [Bool.or_eq_true, beq_iff_eq] at hp
      omega
    · simp at h
  · split at h
    · split at h
      · rename_i h1 h2 h3; simp [h1, h2, h3]
      · simp at h
    · simp at h

theorem pairI_eq {x : Int × Int} : pairI x = .tuple #[.int .i64 x.1, .int .i64 x.2] := (rfl)
attribute [go_sem] pairI_eq

theorem round_up {x many : Int} (hx : 0 ≤ x) (hm : 1 ≤ many) : 0 ≤ (x + many - 1) / many * many ∧ (x + many - 1) / many * many ≤ x + many - 1 ∧ x ≤ (x + many - 1) / many * many := by
  have h1 := Int.ediv_mul_le (x + many - 1) (show many ≠ 0 by omega)
  have h2 := Int.lt_ediv_add_one_mul_self (x + many - 1) (show 0 < many by omega)
  rw [Int.add_mul, Int.one_mul] at h2
  have h3 : 0 ≤ (x + many - 1) / many * many := Int.mul_nonneg (Int.ediv_nonneg (by omega) (by omega)) (by omega)
  omega

theorem mul_bd {count many : Int} (h1 : 1 ≤ count) (h2 : count ≤ 8) (h3 : 1 ≤ many) (h4 : many ≤ 512) : 1 ≤ count * many ∧ count * many ≤ 4096 := by
  have a := Int.mul_le_mul h2 h4 (by omega) (by omega)
  have b := Int.mul_le_mul h1 h3 (by omega) (by omega)
  omega

set_option maxRecDepth 8000 in
theorem room_spec (h : Heap) (pb : Nat) (F : Nat → Prop) (m : Int → Option Reg) (hp : PoolR h pb F m) (first kind frames count : Int) :
    HCalls Try.prog 22 #[.pointer (some ⟨pb, 0, none⟩), .int .i64 first, .int .i64 kind, .int .i64 frames, .int .i64 count] h fun v h' => v = pairI (roomM m first kind frames count) ∧ h' = h := by
  obtain ⟨mb, es, clk, β, p, hF⟩ := hp
  obtain ⟨ty, hhead⟩ := p.head
  refine HCalls.of_dev T22 Try.func22 rfl mixed (by kernel_rfl) ?_; rw [Try.results22]
  simp (maxSteps := 2000000) only [↓condK_decide, go_sem, Nat.reduceBEq, Nat.reduceAdd, Nat.reduceMul, Nat.reduceSub, Nat.reduceEqDiff, Nat.reduceLeDiff, Nat.reduceLT, Int.reduceEq, Int.reduceAdd, Int.reduceSub, Int.reduceMul, Int.reduceNeg, Int.reduceLT, Int.reduceLE, Int.reduceToNat, Int.reduceBEq, Int.reduceNe, hhead, p.map.at_, p.map.isInt, p.val]
  cases hm : m first with
  | none =>
    simp (maxSteps := 2000000) only [↓condK_decide, go_sem, Nat.reduceBEq, Nat.reduceAdd, Nat.reduceMul, Nat.reduceSub, Nat.reduceEqDiff, Nat.reduceLeDiff, Nat.reduceLT, Int.reduceEq, Int.reduceAdd, Int.reduceSub, Int.reduceMul, Int.reduceNeg, Int.reduceLT, Int.reduceLE, Int.reduceToNat, Int.reduceBEq, Int.reduceNe]
    simp [roomM, hm]
  | some r =>
    obtain ⟨tr, hr⟩ := p.reg first r hm
    have ok := p.ok first r hm
    simp (maxSteps := 2000000) only [↓condK_decide, go_sem, Nat.reduceBEq, Nat.reduceAdd, Nat.reduceMul, Nat.reduceSub, Nat.reduceEqDiff, Nat.reduceLeDiff, Nat.reduceLT, Int.reduceEq, Int.reduceAdd, Int.reduceSub, Int.reduceMul, Int.reduceNeg, Int.reduceLT, Int.reduceLE, Int.reduceToNat, Int.reduceBEq, Int.reduceNe]
    refine (size_spec _ _ _).mono ?_
    rintro v h' ⟨rfl, rfl⟩
    have hsz := @sizeM_bd kind frames
    simp (maxSteps := 2000000) only [↓condK_decide, go_sem, Nat.reduceBEq, Nat.reduceAdd, Nat.reduceMul, Nat.reduceSub, Nat.reduceEqDiff, Nat.reduceLeDiff, Nat.reduceLT, Int.reduceEq, Int.reduceAdd, Int.reduceSub, Int.reduceMul, Int.reduceNeg, Int.reduceLT, Int.reduceLE, Int.reduceToNat, Int.reduceBEq, Int.reduceNe, hr]
    refine ⟨fun he => ?_, fun he => ?_⟩
    · simp [roomM, hm, he]
    · have he : (sizeM kind frames).2 = 0 := Decidable.not_not.1 he
      obtain ⟨b1, b2⟩ := hsz he
      have hne : (sizeM kind frames).1 ≠ 0 := by omega
      obtain ⟨r1, r2, r3⟩ := round_up (x := r.F + r.M) (many := (sizeM kind frames).1) (by have := ok.lo; have := ok.mlo; omega) b1
      have k1 := ok.lo; have k2 := ok.hi; have k3 := ok.one; have k4 := ok.fit; have k5 := ok.mlo; have k6 := ok.mhi
      generalize hs : (sizeM kind frames).1 = many at *
      simp (maxSteps := 2000000) only [↓condK_decide, go_sem, Nat.reduceBEq, Nat.reduceAdd, Nat.reduceMul, Nat.reduceSub, Nat.reduceEqDiff, Nat.reduceLeDiff, Nat.reduceLT, Int.reduceEq, Int.reduceAdd, Int.reduceSub, Int.reduceMul, Int.reduceNeg, Int.reduceLT, Int.reduceLE, Int.reduceToNat, Int.reduceBEq, Int.reduceNe, hr, hne]
      refine ⟨fun hc => ?_, fun hc => ?_⟩
      · simp only [Bool.or_eq_true, decide_eq_true_eq] at hc
        simp [roomM, hm, he, hc]
      · simp only [Bool.or_eq_false_iff, decide_eq_false_iff_not] at hc
        have hc' : ¬ (count < 1 ∨ 8 < count) := by omega
        obtain ⟨m1, m2⟩ := mul_bd (count := count) (many := many) (by omega) (by omega) b1 b2
        have e1 : IntKind.i64.wrap (r.F + r.M) = r.F + r.M := w64_id (by omega) (by omega)
        have e2 : IntKind.i64.wrap (r.F + r.M + many) = r.F + r.M + many := w64_id (by omega) (by omega)
        have e3 : IntKind.i64.wrap (r.F + r.M + many - 1) = r.F + r.M + many - 1 := w64_id (by omega) (by omega)
        have e4 : (r.F + r.M + many - 1).tdiv many = (r.F + r.M + many - 1) / many := Int.tdiv_eq_ediv_of_nonneg (by omega)
        have q1 : 0 ≤ (r.F + r.M + many - 1) / many := Int.ediv_nonneg (by omega) (by omega)
        have q2 : (r.F + r.M + many - 1) / many ≤ r.F + r.M + many - 1 := Int.ediv_le_self _ (by omega)
        have e5 : IntKind.i64.wrap ((r.F + r.M + many - 1) / many) = (r.F + r.M + many - 1) / many := w64_id (by omega) (by omega)
        have e6 : IntKind.i64.wrap ((r.F + r.M + many - 1) / many * many) = (r.F + r.M + many - 1) / many * many := w64_id (by omega) (by omega)
        have e7 : IntKind.i64.wrap (count * many) = count * many := w64_id (by omega) (by omega)
        have e8 : IntKind.i64.wrap ((r.F + r.M + many - 1) / many * many + count * many) = (r.F + r.M + many - 1) / many * many + count * many := w64_id (by omega) (by omega)
        have e9 : IntKind.i64.wrap (r.F + r.N) = r.F + r.N := w64_id (by omega) (by omega)
        simp (maxSteps := 2000000) only [↓condK_decide, go_sem, Nat.reduceBEq, Nat.reduceAdd, Nat.reduceMul, Nat.reduceSub, Nat.reduceEqDiff, Nat.reduceLeDiff, Nat.reduceLT, Int.reduceEq, Int.reduceAdd, Int.reduceSub, Int.reduceMul, Int.reduceNeg, Int.reduceLT, Int.reduceLE, Int.reduceToNat, Int.reduceBEq, Int.reduceNe, e1, e2, e3, e4, e5, e6, e7, e8, e9]
        have hd' : (r.D && decide (¬ kind = 1) && decide (¬ kind = 6)) = decide (r.D = true ∧ kind ≠ 1 ∧ kind ≠ 6) := by
          cases r.D <;> simp
        rw [hd']
        simp only [decide_eq_true_eq, decide_eq_false_iff_not]
        refine ⟨fun hd => ?_, fun hd => ⟨fun hl => ?_, fun hl => ?_⟩⟩
        · simp only [roomM, hm, he, hc', hs, hd, ne_eq, not_true_eq_false, not_false_eq_true, and_self, if_false, if_true]
        · simp only [roomM, hm, he, hc', hs, hd, hl, ne_eq, not_true_eq_false, if_false, if_true]
        · simp only [roomM, hm, he, hc', hs, hd, hl, ne_eq, not_true_eq_false, if_false]
end Go.Eng
