/-
  viceroyref01: New, Store, Load, Frame, Clear, Same.
-/
import Derived.Test.YtaijcllgdlalpaaGreatDoorZj8
import Derived.Test.YtaijcllgdlalpaaGreatDoorZj9
set_option linter.unusedSimpArgs false
set_option linter.unusedVariables false
set_option maxRecDepth 16000
set_option maxHeartbeats 4000000
namespace Go.Eng
open Go Go.Proofs
/-- The document's memory. -/
def refRamS (rb n : Nat) (mem : Nat → Int) : SP := exS fun x : Value × TypeId => starL [pureS (bytesOk (64 * n) mem ∧ n ≤ 1024), cellAt rb (.cells [x.1].toArray x.2 (0, 0)), sliceS 1 (64 * n) x.1 (memL (64 * n) mem)]
theorem refRamS_iff {h : Heap} {F : List SP} {rb n : Nat} {mem : Nat → Int} : Sat h (refRamS rb n mem :: F) ↔ (bytesOk (64 * n) mem ∧ n ≤ 1024) ∧ ∃ v ty, Sat h (cellAt rb (.cells [v].toArray ty (0, 0)) :: sliceS 1 (64 * n) v (memL (64 * n) mem) :: F) := by
  unfold refRamS
  rw [Sat.ex]
  constructor
  · rintro ⟨x, hx⟩
    have := Sat.star.1 hx
    obtain ⟨p, q⟩ := Sat.pure.1 this
    exact ⟨p, x.1, x.2, q⟩
  · rintro ⟨p, v, ty, hx⟩
    exact ⟨(v, ty), Sat.star.2 (Sat.pure.2 ⟨p, hx⟩)⟩

section
variable {h : Heap} {F : List SP} {rb n : Nat} {mem : Nat → Int}

theorem refNew_S (hs : Sat h F) (n : Nat) (h1 : 1 ≤ n) (h2 : n ≤ 1024) : HCalls Tryz.prog 28 #[.int .i64 n] h fun v h' => ∃ rb, v = .tuple #[.pointer (some ⟨rb, 0, none⟩), .int .i64 0] ∧ Sat h' (refRamS rb n (fun _ => 0) :: F) := by
  refine HCalls.via fun R hR => ?_
  have c1 : ¬ ((n : Int) < 1) := by omega
  have c2 : ¬ (1024 < (n : Int)) := by omega
  have e : ((n : Int) * 64) = ((n * 64 : Nat) : Int) := by omega
  refine HCalls.of_dev T28 Tryz.func28 rfl mixed (by kernel_rfl) ?_; rw [Tryz.results28]
  simp (maxSteps := 2000000) (disch := first | (simp only [go_sem, simprocAttr, c1, c2, e] <;> omega) | omega) only [go_sem, simprocAttr, c1, c2, e]
  have s1 := hs.push (.cells (zrow Tryz.prog 60 (n * 64)) 5 (0, 0))
  have s2 : Sat _ (sliceS 1 (64 * n) (.slice (some ⟨h.size, 0, none⟩) (64 * n) (64 * n)) (memL (64 * n) fun _ => 0) :: F) := s1.toSlice (by rw [memL_len, Nat.mul_one]) memL_single (Nat.le_refl _) (by rw [zrow_size, ssz_60]; omega) fun k hk => by
    rw [memL_len] at hk
    have z : (tzeroD Tryz.prog 5).cells = #[.int .u8 0] := by kernel_rfl
    rw [zrow_get (by rw [ssz_60]; omega), selem_60, z, memL_get hk]
    simp [Nat.mod_one]
  have s3 := s2.push (.cells [.slice (some ⟨h.size, 0, none⟩) (64 * n) (64 * n)].toArray 167 (0, 0))
  rw [size_push'] at s3
  rw [Nat.mul_comm n 64] at s3 ⊢
  exact hR _ _ ⟨_, rfl, refRamS_iff.2 ⟨⟨fun i _ => by simp, h2⟩, _, _, s3⟩⟩

theorem refThere_S (hs : Sat h (refRamS rb n mem :: F)) (i : Int) : HCalls Tryz.prog 113 #[.pointer (some ⟨rb, 0, none⟩), .int .i64 i] h fun v h' => v = .bool (decide (0 ≤ i ∧ i < n)) ∧ h' = h := by
  refine HCalls.via fun R hR => ?_
  obtain ⟨⟨hb, hn⟩, v, ty, s⟩ := refRamS_iff.1 hs
  obtain ⟨_, _, rfl, -⟩ := (s.front 1).elems
  refine HCalls.of_dev T113 Tryz.func113 rfl mixed (by kernel_rfl) ?_; rw [Tryz.results113]
  simp (maxSteps := 2000000) (disch := first | (simp only [go_sem, simprocAttr, s.get] <;> omega) | omega) only [go_sem, simprocAttr, s.get]
  refine hR _ _ ⟨?_, rfl⟩
  rw [show ((64 * n : Nat) : Int) / 64 = n by omega, ← Bool.decide_and]

theorem wrong_S (hs : Sat h (refRamS rb n mem :: F)) (addr size : Int) : HCalls Tryz.prog 69 #[.pointer (some ⟨rb, 0, none⟩), .int .i64 addr, .int .i64 size] h fun v h' => v = .int .i64 (accM n addr size) ∧ h' = h := by
  refine HCalls.via fun R hR => ?_
  obtain ⟨⟨hb, hn⟩, v, ty, s⟩ := refRamS_iff.1 hs
  obtain ⟨_, _, rfl, -⟩ := (s.front 1).elems
  have acc : ∀ e, e = accM n addr size → R (.int .i64 e) h := fun e he => hR _ _ ⟨by rw [he], rfl⟩
  by_cases hz : size = 1 ∨ size = 2 ∨ size = 4
  · have hne : size ≠ 0 := by omega
    refine HCalls.of_dev T69 Tryz.func69 rfl mixed (by kernel_rfl) ?_; rw [Tryz.results69]
    simp (maxSteps := 2000000) (disch := first | (simp only [go_sem, simprocAttr, s.get, hne] <;> omega) | omega) only [go_sem, simprocAttr, s.get, hne]
    refine ⟨fun q => absurd q (by simp; omega), fun _ => ⟨fun q => acc _ ?_, fun q => ⟨fun q2 => acc _ ?_, fun q2 => acc _ ?_⟩⟩⟩
    · unfold accM; rw [if_neg (by omega), if_pos q]
    · simp only [Bool.or_eq_true, decide_eq_true_eq] at q2
      unfold accM; rw [if_neg (by omega), if_neg (by simpa using q), if_pos (by omega)]
    · simp only [Bool.or_eq_false_iff, decide_eq_false_iff_not] at q2
      unfold accM; rw [if_neg (by omega), if_neg (by simpa using q), if_neg (by omega)]
  · have c1 : ¬ size = 1 := by omega
    have c2 : ¬ size = 2 := by omega
    have c4 : ¬ size = 4 := by omega
    refine HCalls.of_dev T69 Tryz.func69 rfl mixed (by kernel_rfl) ?_; rw [Tryz.results69]
    simp (maxSteps := 2000000) (disch := first | (simp only [go_sem, simprocAttr, c1, c2, c4] <;> omega) | omega) only [go_sem, simprocAttr, c1, c2, c4]
    exact acc _ (by unfold accM; rw [if_pos (by omega)])

theorem refStore_S (hs : Sat h (refRamS rb n mem :: F)) (addr size w : Int) (hw : 0 ≤ w ∧ w < 4294967296) : HCalls Tryz.prog 33 #[.pointer (some ⟨rb, 0, none⟩), .int .i64 addr, .int .i64 size, .int .u32 w] h fun v h' =>
    v = .int .i64 (accM n addr size) ∧ Sat h' (refRamS rb n (if accM n addr size = 0 then putM mem addr size w else mem) :: F) := by
  refine HCalls.via fun R hR => ?_
  refine HCalls.of_dev T33 Tryz.func33 rfl mixed (by kernel_rfl) ?_; rw [Tryz.results33]
  simp (maxSteps := 2000000) (disch := first | (simp only [go_sem, simprocAttr] <;> omega) | omega) only [go_sem, simprocAttr]
  refine (wrong_S hs addr size).mono ?_
  rintro v h1 ⟨rfl, rfl⟩
  obtain ⟨⟨hb, hn⟩, v, ty, s⟩ := refRamS_iff.1 hs
  obtain ⟨_, _, rfl, -⟩ := (s.front 1).elems
  simp (maxSteps := 2000000) (disch := first | (simp only [go_sem, simprocAttr] <;> omega) | omega) only [go_sem, simprocAttr]
  refine ⟨fun q => hR _ _ ⟨rfl, by rw [if_neg q]; exact hs⟩, fun q => ?_⟩
  have q := Classical.not_not.1 q
  have hacc : (size = 1 ∨ size = 2 ∨ size = 4) ∧ addr.tmod size = 0 ∧ 0 ≤ addr ∧ addr < 64 * n := by
    unfold accM at q
    by_cases c1 : size ≠ 1 ∧ size ≠ 2 ∧ size ≠ 4
    · rw [if_pos c1] at q; cases q
    · rw [if_neg c1] at q
      by_cases c2 : addr.tmod size ≠ 0
      · rw [if_pos c2] at q; cases q
      · rw [if_neg c2] at q
        by_cases c3 : addr < 0 ∨ 64 * (n : Int) ≤ addr
        · rw [if_pos c3] at q; cases q
        · exact ⟨by omega, by omega, by omega, by omega⟩
  rw [q] at hR
  simp only [if_true] at hR
  obtain ⟨hz, ha, a0, a1⟩ := hacc
  have hfit : addr + size ≤ 64 * n := by
    rw [Int.tmod_eq_emod_of_nonneg a0] at ha
    rcases hz with rfl | rfl | rfl <;> omega
  refine loopH.intro (fun k : Nat => (.cons 0 (.pointer (some ⟨rb, 0, none⟩)) true (.cons 1 (.int .i64 addr) true (.cons 2 (.int .i64 size) true (.cons 3 (.int .u32 (w / 256 ^ k)) true (.cons 10 (.int .i64 k) true .nil))))))
    (fun k h' => (k : Int) ≤ size ∧ Sat h' (refRamS rb n (putM mem addr k w) :: F)) (fun k _ => (size - k).toNat + 1) 0 ?_ ⟨by omega, ?_⟩ ?_
  · simp (maxSteps := 2000000) (disch := first | (simp only [go_sem, simprocAttr] <;> omega) | omega) only [go_sem, simprocAttr]; try simp
  · have e : putM mem addr ((0 : Nat) : Int) w = mem := by funext j; unfold putM; rw [if_neg (by omega)]
    rw [e]; exact hs
  rintro k h' ⟨hk, s'⟩
  have hp : (0 : Int) < 256 ^ k := Int.pow_pos (by decide)
  have hw0 : 0 ≤ w / 256 ^ k := Int.ediv_nonneg hw.1 (Int.le_of_lt hp)
  have hw1 : w / 256 ^ k ≤ w := Int.ediv_le_self _ hw.1
  obtain ⟨⟨hb', -⟩, v, ty', s'⟩ := refRamS_iff.1 s'
  obtain ⟨lb, cap, cs, ty2, rfl, hcap, hlb, hsz, hcs, hset⟩ := (s'.front 1).sliceOpen (by omega)
  have fin : (k : Int) = size → R (.int .i64 0) h' := fun e => hR _ _ ⟨rfl, refRamS_iff.2 ⟨⟨by rw [← e]; exact hb', hn⟩, _, _, by rw [← e]; exact s'⟩⟩
  by_cases hlt : (k : Int) < size
  · have i0 : 0 ≤ addr + k := by omega
    have i1 : addr + (k : Int) < ((64 * n : Nat) : Int) := by omega
    have l1 : (addr + (k : Int)).toNat < cs.size := by rw [hsz]; omega
    simp (maxSteps := 2000000) (disch := first | (simp only [go_sem, simprocAttr, hlt, s'.get, hlb, i0, i1, l1] <;> omega) | omega) only [go_sem, simprocAttr, hlt, s'.get, hlb, i0, i1, l1]
    have s6 := hset (addr + (k : Int)).toNat (.int .u8 (w / 256 ^ k % 256)) (by rw [memL_len]; omega) rfl
    rw [memL_set] at s6
    refine ⟨k + 1, ?_, ⟨by omega, refRamS_iff.2 ⟨⟨fun j hj => ?_, hn⟩, _, _, (s6.sliceEq (memL_congr fun j hj => ?_)).swap⟩⟩, by simp only; omega⟩
    · simp only
      rw [Int.pow_succ, ← Int.ediv_ediv_of_nonneg (by omega)]; rfl
    · unfold putM
      split
      · omega
      · exact hb j hj
    · unfold putM
      by_cases e1 : j = (addr + (k : Int)).toNat
      · rw [if_pos e1, if_pos (by omega), show j - addr.toNat = k by omega]
      · rw [if_neg e1]
        by_cases e2 : addr ≤ j ∧ (j : Int) < addr + k
        · rw [if_pos e2, if_pos (by omega)]
        · rw [if_neg e2, if_neg (by omega)]
  · simp (maxSteps := 2000000) (disch := first | (simp only [go_sem, simprocAttr, hlt] <;> omega) | omega) only [go_sem, simprocAttr, hlt]
    exact fin (by omega)

theorem refFrame_S (hs : Sat h (refRamS rb n mem :: F)) (i : Int) : HCalls Tryz.prog 59 #[.pointer (some ⟨rb, 0, none⟩), .int .i64 i] h fun v h' =>
    (0 ≤ i ∧ i < n ∧ ∃ w, v = .tuple #[w, .int .i64 0] ∧ Sat h' (sliceS 1 64 w (memL 64 fun j => mem (64 * i.toNat + j)) :: refRamS rb n mem :: F)) ∨ (¬ (0 ≤ i ∧ i < n) ∧ v = .tuple #[.slice none 0 0, .int .i64 10] ∧ Sat h' (refRamS rb n mem :: F)) := by
  refine HCalls.via fun R hR => ?_
  refine HCalls.of_dev T59 Tryz.func59 rfl mixed (by kernel_rfl) ?_; rw [Tryz.results59]
  simp (maxSteps := 2000000) (disch := first | (simp only [go_sem, simprocAttr] <;> omega) | omega) only [go_sem, simprocAttr]
  refine (refThere_S hs i).mono ?_
  rintro v h1 ⟨rfl, rfl⟩
  obtain ⟨⟨hb, hn⟩, v, ty, s⟩ := refRamS_iff.1 hs
  obtain ⟨_, _, rfl, -⟩ := (s.front 1).elems
  by_cases hi : 0 ≤ i ∧ i < n
  · have s4 := (s.push (.cells #[] 5 (0, 0))).emptyS (sz := 1)
    have b0 : (64 * i).toNat ≤ (64 * i + 64).toNat := by omega
    have b1 : (64 * i + 64).toNat ≤ 64 * n := by omega
    obtain ⟨w, ew, sw⟩ := (s4.front 2).part (t := 60) (k := (64 * i).toNat) (m := (64 * i + 64).toNat) (lo := some (.int .i64 (64 * i))) (hi := some (.int .i64 (64 * i + 64))) isSlice_60 ssz_60 b0 b1 (fun cap h' hc => by
      have := sliceBounds_both (P := Tryz.prog) (h := h') (n := 64 * n) (cap := cap) (k := (64 * i).toNat) (m := (64 * i + 64).toNat) (q := .i64) (q' := .i64) (b := true) b0 (by omega)
      rwa [show (((64 * i).toNat : Nat) : Int) = 64 * i by omega, show (((64 * i + 64).toNat : Nat) : Int) = 64 * i + 64 by omega] at this)
    simp (maxSteps := 2000000) (disch := first | (simp only [go_sem, simprocAttr, hi, (s4.front 1).get, ew] <;> omega) | omega) only [go_sem, simprocAttr, hi, (s4.front 1).get, ew]
    have e64 : (64 * i + 64).toNat - (64 * i).toNat = 64 := by omega
    rw [e64] at sw
    refine Sat.append s4 sw isSlice_60 ssz_60 (by kernel_rfl) (by kernel_rfl) (by rw [selem_60, tbytes_5]; simp) (by omega) ?_
    intro v5 h5 s5
    simp (maxSteps := 2000000) (disch := first | (simp only [go_sem, simprocAttr] <;> omega) | omega) only [go_sem, simprocAttr]
    refine hR _ _ (.inl ⟨hi.1, hi.2, _, rfl, ?_⟩)
    have e : ([] : List Value) ++ ((memL (64 * n) mem).drop ((64 * i).toNat * 1)).take (64 * 1) = memL 64 fun j => mem (64 * i.toNat + j) := by
      apply List.ext_getElem?
      intro k
      rw [List.nil_append, List.getElem?_take, List.getElem?_drop]
      by_cases hk : k < 64
      · rw [if_pos (by omega), memL_get (by omega), memL_get hk]
        congr 3; omega
      · rw [if_neg (by omega), List.getElem?_eq_none (by rw [memL_len]; omega)]
    rw [e] at s5
    exact (refRamS_iff.2 ⟨⟨hb, hn⟩, _, _, ((s5.front 1).front 2).swap⟩).swap
  · simp (maxSteps := 2000000) (disch := first | (simp only [go_sem, simprocAttr, hi] <;> omega) | omega) only [go_sem, simprocAttr, hi]
    exact hR _ _ (.inr ⟨hi, rfl, hs⟩)
end
end Go.Eng
/-
  viceroyref02: Right, Encode, wrong, Put.
-/
namespace Go.Eng
open Go Go.Proofs
section
variable {h : Heap} {F : List SP} {rb n : Nat} {mem : Nat → Int}
theorem rptRight_S (e : Ent) : HCalls Tryz.prog 119 #[.agg e.cells.toArray] h fun v h' => v = .bool (rightE e) ∧ Ext h h' := by
  refine HCalls.via fun R hR => ?_
  obtain ⟨V, L, r, f⟩ := e
  refine HCalls.of_dev T119 Tryz.func119 rfl mixed (by kernel_rfl) ?_; rw [Tryz.results119]
  simp (maxSteps := 2000000) (disch := first | (simp only [go_sem, simprocAttr] <;> omega) | omega) only [go_sem, simprocAttr]
  have s1 := ((Sat.init h).push (.cells #[.bool V, .bool L, .int .i64 r, .int .i64 f] 51 (0, 0)))
  have fin : ∀ b, b = rightE ⟨V, L, r, f⟩ → R (.bool b) _ := fun b e => hR _ _ ⟨by rw [e], (s1.front 1).ext⟩
  cases V with
  | false =>
    simp (maxSteps := 2000000) (disch := first | (simp only [go_sem, simprocAttr, eqls_51] <;> omega) | omega) only [go_sem, simprocAttr, eqls_51]
    first
      | exact fin _ (by cases L <;> simp [rightE, zeroE])
      | (cases L
         all_goals simp (maxSteps := 2000000) (disch := first | (simp only [go_sem, simprocAttr, eqls_51] <;> omega) | omega) only [go_sem, simprocAttr, eqls_51]
         all_goals exact fin _ (by simp [rightE, zeroE]))
  | true =>
    by_cases c1 : 0 ≤ f ∧ f < 1024
    · have c2 : ¬ f < 0 := by omega
      have c3 : ¬ 1023 < f := by omega
      cases L with
      | false =>
        simp (maxSteps := 2000000) (disch := first | (simp only [go_sem, simprocAttr, c2, c3] <;> omega) | omega) only [go_sem, simprocAttr, c2, c3]
        exact fin _ (by simp [rightE, c1])
      | true =>
        by_cases c4 : 0 ≤ r
        · simp (maxSteps := 2000000) (disch := first | (simp only [go_sem, simprocAttr, c2, c3, c4] <;> omega) | omega) only [go_sem, simprocAttr, c2, c3, c4]
          exact fin _ (by simp [rightE, c1, c4])
        · simp (maxSteps := 2000000) (disch := first | (simp only [go_sem, simprocAttr, c2, c3, c4] <;> omega) | omega) only [go_sem, simprocAttr, c2, c3, c4]
          exact fin _ (by simp [rightE, c4])
    · simp (maxSteps := 2000000) (disch := first | (simp only [go_sem, simprocAttr] <;> omega) | omega) only [go_sem, simprocAttr]
      refine ⟨fun _ => fin _ ?_, fun q => absurd q ?_⟩
      · unfold rightE
        rw [if_pos rfl]
        symm
        simp only [Bool.and_eq_false_iff, decide_eq_false_iff_not]
        by_cases q : 0 ≤ f
        · exact .inl (.inr fun q2 => c1 ⟨q, q2⟩)
        · exact .inl (.inl q)
      · simp; omega
theorem rptEncode_S (e : Ent) : HCalls Tryz.prog 67 #[.agg e.cells.toArray] h fun v h' => v = (if rightE e then .tuple #[.int .u16 (wordE e), .int .i64 0] else .tuple #[.int .u16 0, .int .i64 20]) ∧ Ext h h' := by
  refine HCalls.via fun R hR => ?_
  have s1 := ((Sat.init h).push (.cells e.cells.toArray 51 (0, 0)))
  simp only [Ent.cells_eq] at s1
  refine HCalls.of_dev T67 Tryz.func67 rfl mixed (by kernel_rfl) ?_; rw [Tryz.results67]
  simp (maxSteps := 2000000) (disch := first | (simp only [go_sem, simprocAttr] <;> omega) | omega) only [go_sem, simprocAttr]
  refine (rptRight_S e).mono ?_
  rintro v h1 ⟨rfl, x1⟩
  have s2 := s1.grow x1
  cases r : rightE e with
  | false =>
    rw [r] at hR
    simp (maxSteps := 2000000) (disch := first | (simp only [go_sem, simprocAttr, s2.get] <;> omega) | omega) only [go_sem, simprocAttr, s2.get]
    exact hR _ _ ⟨rfl, (s2.front 1).ext⟩
  | true =>
    rw [r] at hR
    obtain ⟨f0, f1, r0, r1, vz, -⟩ := rightE_B r
    obtain ⟨V, L, ri, f⟩ := e
    simp only at f0 f1 r0 r1 vz
    have fin : ∀ x, x = wordE ⟨V, L, ri, f⟩ → R (.tuple #[.int .u16 x, .int .i64 0]) h1 := fun x e => hR _ _ ⟨by rw [e, if_pos rfl], (s2.front 1).ext⟩
    cases V <;> cases L
    all_goals simp (maxSteps := 2000000) (disch := first | (simp only [go_sem, simprocAttr, s2.get] <;> omega) | omega) only [go_sem, simprocAttr, s2.get]
    all_goals exact fin _ (by simp [wordE, bitI]; try omega)
theorem rptWrong_S (hs : Sat h (refRamS rb n mem :: F)) (t i : Int) : HCalls Tryz.prog 37 #[.pointer (some ⟨rb, 0, none⟩), .int .i64 t, .int .i64 i] h fun v h' => h' = h ∧ v = .int .i64 (plE n t i) := by
  refine HCalls.via fun R hR => ?_
  obtain ⟨⟨hb, hn⟩, v, ty, s⟩ := refRamS_iff.1 hs
  obtain ⟨_, _, rfl, -⟩ := (s.front 1).elems
  have fr : ∀ K : Value → Heap → Prop, K (.int .i64 n) h → HCalls Tryz.prog 70 #[.pointer (some ⟨rb, 0, none⟩)] h K := fun K hK => by
    refine HCalls.via fun R hR => ?_
    refine HCalls.of_dev T70 Tryz.func70 rfl mixed (by kernel_rfl) ?_; rw [Tryz.results70]
    simp (maxSteps := 2000000) (disch := first | (simp only [go_sem, simprocAttr, s.get] <;> omega) | omega) only [go_sem, simprocAttr, s.get]
    rw [show ((64 * n : Nat) : Int) / 64 = n by omega]
    exact hR _ _ hK
  refine HCalls.of_dev T37 Tryz.func37 rfl mixed (by kernel_rfl) ?_; rw [Tryz.results37]
  by_cases c1 : i < 0 ∨ 32 ≤ i
  · have e : plE n t i = 1 := by unfold plE; rw [if_pos c1]
    rw [e] at hR
    by_cases c0 : i < 0
    · simp (maxSteps := 2000000) (disch := first | (simp only [go_sem, simprocAttr, c0] <;> omega) | omega) only [go_sem, simprocAttr, c0]
      exact hR _ _ ⟨rfl, rfl⟩
    · have c2 : 32 ≤ i := by omega
      simp (maxSteps := 2000000) (disch := first | (simp only [go_sem, simprocAttr, c0, c2] <;> omega) | omega) only [go_sem, simprocAttr, c0, c2]
      exact hR _ _ ⟨rfl, rfl⟩
  have c0 : ¬ i < 0 := by omega
  have c2 : ¬ 32 ≤ i := by omega
  by_cases c3 : t < 0
  · have e : plE n t i = 10 := by unfold plE; rw [if_neg c1, if_pos (.inl c3)]
    rw [e] at hR
    simp (maxSteps := 2000000) (disch := first | (simp only [go_sem, simprocAttr, c0, c2, c3] <;> omega) | omega) only [go_sem, simprocAttr, c0, c2, c3]
    exact rdK_any fun _ => hR _ _ ⟨rfl, rfl⟩
  · simp (maxSteps := 2000000) (disch := first | (simp only [go_sem, simprocAttr, c0, c2, c3] <;> omega) | omega) only [go_sem, simprocAttr, c0, c2, c3]
    refine fr _ ?_
    by_cases c4 : (n : Int) ≤ t
    · have e : plE n t i = 10 := by unfold plE; rw [if_neg c1, if_pos (.inr c4)]
      rw [e] at hR
      simp (maxSteps := 2000000) (disch := first | (simp only [go_sem, simprocAttr, c4] <;> omega) | omega) only [go_sem, simprocAttr, c4]
      exact hR _ _ ⟨rfl, rfl⟩
    · have e : plE n t i = 0 := by unfold plE; rw [if_neg c1, if_neg (by omega)]
      rw [e] at hR
      simp (maxSteps := 2000000) (disch := first | (simp only [go_sem, simprocAttr, c4] <;> omega) | omega) only [go_sem, simprocAttr, c4]
      exact hR _ _ ⟨rfl, rfl⟩
theorem rptPut_S (hs : Sat h (refRamS rb n mem :: F)) (t i : Int) (x : Ent) : HCalls Tryz.prog 31 #[.pointer (some ⟨rb, 0, none⟩), .int .i64 t, .int .i64 i, .agg x.cells.toArray] h fun v h' => v = .int .i64 (putE n mem t i x).2 ∧ Sat h' (refRamS rb n (putE n mem t i x).1 :: F) := by
  refine HCalls.via fun R hR => ?_
  obtain ⟨⟨hb, hn⟩, -⟩ := refRamS_iff.1 hs
  have s1 := (hs.push (.cells x.cells.toArray 51 (0, 0))).swap
  simp only [Ent.cells_eq] at s1
  refine HCalls.of_dev T31 Tryz.func31 rfl mixed (by kernel_rfl) ?_; rw [Tryz.results31]
  simp (maxSteps := 2000000) (disch := first | (simp only [go_sem, simprocAttr] <;> omega) | omega) only [go_sem, simprocAttr]
  refine (rptWrong_S s1 t i).mono ?_
  rintro v h' ⟨rfl, rfl⟩
  by_cases q : plE n t i = 0
  · obtain ⟨i0, i1, t0, t1⟩ := plE_ok q
    simp (maxSteps := 2000000) (disch := first | (simp only [go_sem, simprocAttr, q] <;> omega) | omega) only [go_sem, simprocAttr, q]
    refine (rptEncode_S x).mono ?_
    rintro v h2 ⟨rfl, x2⟩
    have s2 := s1.grow x2
    cases r : rightE x with
    | false =>
      have hg : putE n mem t i x = (mem, 20) := by unfold putE; rw [if_neg (by omega), r]; rfl
      rw [hg] at hR
      simp (maxSteps := 2000000) (disch := first | (simp only [go_sem, simprocAttr] <;> omega) | omega) only [go_sem, simprocAttr]
      exact hR _ _ ⟨rfl, s2.drop1⟩
    | true =>
      have hg : putE n mem t i x = (putM mem (t * 64 + 2 * i) 2 (wordE x), 0) := by unfold putE; rw [if_neg (by omega), r]; rfl
      rw [hg] at hR
      obtain ⟨f0, f1, r0, r1, -, -⟩ := rightE_B r
      have b0 : 0 ≤ bitI x.V 1 ∧ bitI x.V 1 ≤ 1 := by unfold bitI; split <;> omega
      have b1 : 0 ≤ bitI x.L 2 ∧ bitI x.L 2 ≤ 2 := by unfold bitI; split <;> omega
      have w0 : 0 ≤ wordE x ∧ wordE x < 65536 := by unfold wordE; omega
      have ec : 64 * t + 2 * i = t * 64 + 2 * i := by omega
      simp (maxSteps := 2000000) (disch := first | (simp only [go_sem, simprocAttr, ec] <;> omega) | omega) only [go_sem, simprocAttr, ec]
      refine (refStore_S s2 (t * 64 + 2 * i) 2 (wordE x) ⟨w0.1, by omega⟩).mono ?_
      rintro v h3 ⟨rfl, s3⟩
      rw [acc2 i0 i1 t0 t1, if_pos rfl] at s3
      rw [acc2 i0 i1 t0 t1]
      simp (maxSteps := 2000000) (disch := first | (simp only [go_sem, simprocAttr] <;> omega) | omega) only [go_sem, simprocAttr]
      exact hR _ _ ⟨rfl, s3.drop1⟩
  · have hg : putE n mem t i x = (mem, plE n t i) := by unfold putE; rw [if_pos q]
    rw [hg] at hR
    simp (maxSteps := 2000000) (disch := first | (simp only [go_sem, simprocAttr, q] <;> omega) | omega) only [go_sem, simprocAttr, q]
    exact hR _ _ ⟨rfl, s1.drop1⟩
end
end Go.Eng
