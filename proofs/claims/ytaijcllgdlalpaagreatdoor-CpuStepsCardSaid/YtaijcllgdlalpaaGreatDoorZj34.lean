/-
  viceroyref09: Space, goes, guests.
-/
import Derived.Test.YtaijcllgdlalpaaGreatDoorZj33
import Derived.Test.YtaijcllgdlalpaaGreatDoorZj23
import Derived.Test.YtaijcllgdlalpaaGreatDoorZj29
set_option linter.unusedSimpArgs false
set_option linter.unusedVariables false
set_option maxRecDepth 16000
set_option maxHeartbeats 4000000
namespace Go.Eng
open Go Go.Proofs
section
variable {h : Heap} {F : List SP}
theorem rspace_S (c : Cp) (f : c.fit) (vr vt vv : Value) (g : Bool) (hv : vvOk vv g) (vm se : Int) :
    HCalls Tryz.prog 24 #[.agg #[vr, vt, vv], .agg c.cells.toArray, .int .i64 vm, .int .i64 se] h fun v h' => v = .agg (spaceP g c vm se).cells.toArray ∧ Ext h h' := by
  refine HCalls.via fun R hR => ?_
  have z0 := ((((Sat.init h).push (.cells #[vr, vt, vv] 41 (0, 0))).push (.cells c.cells.toArray 30 (0, 0))).push (.cells #[.int .i64 0, .int .i64 0, .int .i64 0, .int .i64 0] 78 (0, 0))).push (.cells #[.int .i64 0, .int .i64 0, .int .i64 0, .int .i64 0] 78 (0, 0))
  simp only [size_push'] at z0
  have e0 := z0.set (.cells #[.int .i64 vm, .int .i64 0, .int .i64 (-1), .int .i64 se] 78 (0, 0))
  have n17 : nthL c.cells 17 = some (.int .u32 (sy c 0)) := by rw [nthL_eq]; exact Cp.sys f (i := 0) (by omega)
  have n18 : nthL c.cells 18 = some (.int .u32 (sy c 1)) := by rw [nthL_eq]; exact Cp.sys f (i := 1) (by omega)
  obtain ⟨b1, b2⟩ := sy_bd f (i := 0) (by omega) (by omega)
  obtain ⟨b3, b4⟩ := sy_bd f (i := 1) (by omega) (by omega)
  unfold spaceP at hR
  generalize sy c 0 = x at *
  generalize sy c 1 = y at *
  refine HCalls.of_dev T24 Tryz.func24 rfl mixed (by kernel_rfl) ?_; rw [Tryz.results24]
  rcases hv with ⟨rfl, rfl⟩ | ⟨rfl, a, rfl⟩
  · rw [if_neg (by simp)] at hR
    have e1 := (e0.front 1).set (.cells #[.int .i64 vm, .int .i64 0, .int .i64 (-1), .int .i64 se] 78 (0, 0))
    simp (maxSteps := 2000000) (disch := first | (simp only [go_sem, simprocAttr, z0.get, (e0.front 3).get, e0.get, (e0.front 1).get, e1.get] <;> omega) | omega) only [go_sem, simprocAttr, z0.get, (e0.front 3).get, e0.get, (e0.front 1).get, e1.get]
    exact rdK_any fun _ => rdK_any fun _ => hR _ _ ⟨rfl, (e1.front 4).ext⟩
  · by_cases q : x / 2147483648 = 1
    · rw [if_pos ⟨rfl, q⟩] at hR
      have q1 : 2147483648 ≤ x := by omega
      have e1 := e0.set (.cells #[.int .i64 vm, .int .i64 0, .int .i64 (x % 1024), .int .i64 se] 78 (0, 0))
      have e2 := e1.set (.cells #[.int .i64 vm, .int .i64 (y % 16), .int .i64 (x % 1024), .int .i64 se] 78 (0, 0))
      have e3 := (e2.front 1).set (.cells #[.int .i64 vm, .int .i64 (y % 16), .int .i64 (x % 1024), .int .i64 se] 78 (0, 0))
      simp (maxSteps := 2000000) (disch := first | (simp only [go_sem, simprocAttr, z0.get, (e0.front 3).get, e0.get, (e0.front 2).get, q1, n17, n18, e1.get, (e1.front 2).get, e2.get, (e2.front 1).get, e3.get] <;> omega) | omega) only [go_sem, simprocAttr, z0.get, (e0.front 3).get, e0.get, (e0.front 2).get, q1, n17, n18, e1.get, (e1.front 2).get, e2.get, (e2.front 1).get, e3.get]
      exact hR _ _ ⟨rfl, (e3.front 4).ext⟩
    · rw [if_neg (by rintro ⟨-, z⟩; exact q z)] at hR
      have q1 : ¬ 2147483648 ≤ x := by omega
      have e1 := (e0.front 1).set (.cells #[.int .i64 vm, .int .i64 0, .int .i64 (-1), .int .i64 se] 78 (0, 0))
      simp (maxSteps := 2000000) (disch := first | (simp only [go_sem, simprocAttr, z0.get, (e0.front 3).get, e0.get, (e0.front 2).get, q1, n17, (e0.front 1).get, e1.get] <;> omega) | omega) only [go_sem, simprocAttr, z0.get, (e0.front 3).get, e0.get, (e0.front 2).get, q1, n17, (e0.front 1).get, e1.get]
      exact hR _ _ ⟨rfl, (e1.front 4).ext⟩
theorem rguests_S (op : Int) : HCalls Tryz.prog 50 #[.int .i64 op] h fun v h' => v = .bool (guestO op) ∧ h' = h := by
  refine HCalls.via fun R hR => ?_
  refine HCalls.of_dev T50 Tryz.func50 rfl mixed (by kernel_rfl) ?_; rw [Tryz.results50]
  simp (maxSteps := 2000000) (disch := first | (simp only [go_sem, simprocAttr] <;> omega) | omega) only [go_sem, simprocAttr]
  exact hR _ _ ⟨rfl, rfl⟩
theorem rgoes_S {c : Cp} (f : c.fit) (pc : Int) : HCalls Tryz.prog 52 #[.agg c.cells.toArray, .int .i64 pc] h fun v h' => v = .agg ({ c with Pc := pc.tmod 65536 } : Cp).cells.toArray ∧ Ext h h' := by
  refine HCalls.via fun R hR => ?_
  have tk := take_cpu f
  have b := Int.tmod_lt_of_pos pc (show (0 : Int) < 65536 by decide)
  have b2 : -65536 < pc.tmod 65536 := by rw [Int.tmod_eq_emod]; split <;> omega
  have f2 : ({ c with Pc := pc.tmod 65536 } : Cp).fit := setPc_fit f (by omega) (by omega)
  have l1 : 16 < c.cells.length := by rw [Cp.len f]; decide
  have sp := setPc_cells f (v := pc.tmod 65536)
  have tk2 := take_cpu f2
  obtain ⟨d, hd⟩ : ∃ d : Cp, ({ c with Pc := pc.tmod 65536 } : Cp) = d := ⟨_, rfl⟩
  rw [hd] at f2 sp tk2 hR
  have z0 := ((Sat.init h).push (.cells d.cells.toArray 30 (0, 0))).push (.cells (tzeroD Tryz.prog 30).cells 30 (0, 0))
  simp only [tzeroD_30, size_push'] at z0
  refine HCalls.of_dev T52 Tryz.func52 rfl mixed (by kernel_rfl) ?_; rw [Tryz.results52]
  simp (maxSteps := 2000000) (disch := first | (simp only [go_sem, simprocAttr, tk, l1, sp, tk2] <;> omega) | omega) only [go_sem, simprocAttr, tk, l1, sp, tk2]
  refine store_cpu f2 z0.get (by rfl) ?_
  have z1 := ((Sat.init h).push (.cells d.cells.toArray 30 (0, 0))).push (.cells d.cells.toArray 30 (0, 0))
  simp only [size_push'] at z1
  simp (maxSteps := 2000000) (disch := first | (simp only [go_sem, simprocAttr, z1.get, tk2] <;> omega) | omega) only [go_sem, simprocAttr, z1.get, tk2]
  exact hR _ _ ⟨rfl, (z1.front 2).ext⟩
end
end Go.Eng
/-
  viceroyref09: reach, reckoned.
-/
namespace Go.Eng
open Go Go.Proofs
section
variable {h : Heap} {F : List SP} {rb n tb : Nat} {mem : Nat → Int} {T : List Ln} {vv : Value}
theorem rreachC_S (hs : Sat h (refRamS rb n mem :: tlbS tb T :: F)) (u : uniqT T) (s : Spc) (addr w at_ : Int) (h0 : 0 ≤ addr) (h1 : addr < 65536) (hw : w = 1 ∨ w = 2 ∨ w = 4) : HCalls Tryz.prog 48 #[.agg #[.pointer (some ⟨rb, 0, none⟩), .pointer (some ⟨tb, 0, none⟩), vv], .agg s.cells.toArray, .int .i64 addr, .int .i64 w, .int .i64 at_] h fun v h' =>
    v = .tuple #[.int .i64 (if (reachC n mem T s addr w at_).f.K = 0 then (reachC n mem T s addr w at_).at_ else 0), .agg (reachC n mem T s addr w at_).f.cells.toArray] ∧ Sat h' (refRamS rb n mem :: tlbS tb (reachC n mem T s addr w at_).T :: F) := by
  refine HCalls.via fun R hR => ?_
  refine HCalls.of_dev T48 Tryz.func48 rfl mixed (by kernel_rfl) ?_; rw [Tryz.results48]
  have s1 := ((hs.push (.cells #[.pointer (some ⟨rb, 0, none⟩), .pointer (some ⟨tb, 0, none⟩), vv] 41 (0, 0))).push (.cells s.cells.toArray 78 (0, 0))).push (.cells okF.cells.toArray 47 (0, 0))
  simp only [Flt.cells_eq, okF, Spc.cells_eq, size_push'] at s1
  have wd : IntKind.i64.wrap (addr / 64) = addr / 64 := w64_id (by omega) (by omega)
  simp (maxSteps := 2000000) (disch := first | (simp only [go_sem, simprocAttr, wd] <;> omega) | omega) only [go_sem, simprocAttr, wd]
  refine (rreach_S ((s1.front 4).front 4) u s (addr / 64) w at_ hw).mono ?_
  rintro v h2 ⟨rfl, s2⟩
  unfold reachC at hR
  obtain ⟨⟨hT, hok⟩, -⟩ := tlbS_iff.1 (hs.front 1)
  have hbd := reach_bd n mem hok s (addr / 64) w at_
  generalize reach n mem T s (addr / 64) w at_ = r at *
  obtain ⟨fr, f, T2⟩ := r
  simp only at hR hbd s2 ⊢
  have s3 := s2.push (.cells f.cells.toArray 47 (0, 0))
  simp only [Flt.cells_eq] at s3
  have g1 := s3.get
  have g2 := (s3.front 3).get
  have g3 := (s3.front 5).get
  by_cases k : f.K = 0
  · obtain ⟨fK, fS, fL, fW, fP⟩ := f
    simp only at k s3 g1 g2 g3 hR
    subst k
    simp (maxSteps := 2000000) (disch := first | (simp only [go_sem, simprocAttr, g1, g3] <;> omega) | omega) only [go_sem, simprocAttr, g1, g3]
    refine (refFrames_S (s3.front 1)).mono ?_
    rintro v h3 ⟨rfl, rfl⟩
    by_cases q : (n : Int) ≤ fr
    · rw [show (if (0 : Int) = 0 ∧ (n : Int) ≤ fr then (⟨3, 0, 0, false, 0⟩ : Flt) else ⟨0, fS, fL, fW, fP⟩) = ⟨3, 0, 0, false, 0⟩ from if_pos ⟨rfl, q⟩] at hR
      have s4 := (s3.front 3).set (.cells (⟨3, 0, 0, false, 0⟩ : Flt).cells.toArray 47 (0, 0))
      simp only [Flt.cells_eq] at s4
      simp (maxSteps := 2000000) (disch := first | (simp only [go_sem, simprocAttr, q, g2, s4.get] <;> omega) | omega) only [go_sem, simprocAttr, q, g2, s4.get]
      exact hR _ _ ⟨rfl, (Sat.drop2 (Sat.drop2 (s4.tail.tail)))⟩
    · rw [show (if (0 : Int) = 0 ∧ (n : Int) ≤ fr then (⟨3, 0, 0, false, 0⟩ : Flt) else ⟨0, fS, fL, fW, fP⟩) = ⟨0, fS, fL, fW, fP⟩ from if_neg (fun z => q z.2)] at hR
      have s4 := (s3.front 3).set (.cells (⟨0, fS, fL, fW, fP⟩ : Flt).cells.toArray 47 (0, 0))
      simp only [Flt.cells_eq] at s4
      simp (maxSteps := 2000000) (disch := first | (simp only [go_sem, simprocAttr, q, g1, g2, s4.get, (s4.front 1).get] <;> omega) | omega) only [go_sem, simprocAttr, q, g1, g2, s4.get, (s4.front 1).get]
      refine hR _ _ ⟨?_, (Sat.drop2 (Sat.drop2 (s4.tail.tail)))⟩
      simp [Int.mul_comm, Flt.cells_eq]
  · rw [show (if f.K = 0 ∧ (n : Int) ≤ fr then (⟨3, 0, 0, false, 0⟩ : Flt) else f) = f from if_neg (fun z => k z.1), if_neg k] at hR
    have s4 := (s3.front 3).set (.cells f.cells.toArray 47 (0, 0))
    simp only [Flt.cells_eq] at s4
    simp (maxSteps := 2000000) (disch := first | (simp only [go_sem, simprocAttr, g1, k, g2, s4.get] <;> omega) | omega) only [go_sem, simprocAttr, g1, k, g2, s4.get]
    exact hR _ _ ⟨rfl, (Sat.drop2 (Sat.drop2 (s4.tail.tail)))⟩
end
end Go.Eng
/-
  viceroyref09: reckoned.
-/
namespace Go.Eng
open Go Go.Proofs
section
variable {h : Heap}
theorem rreckoned_S (op A B C I : Nat) (ho1 : 1 ≤ op) (ho2 : op ≤ 6) (hI : I < 65536) (x y : Int) (x0 : 0 ≤ x) (x1 : x < 4294967296) (y0 : 0 ≤ y) (y1 : y < 4294967296) : HCalls Tryz.prog 51 #[.agg (⟨op, A, B, C, I⟩ : Ins).cells.toArray, .int .u32 x, .int .u32 y] h fun v h' => v = .int .u32 (reckon op x y I) ∧ Ext h h' := by
  refine HCalls.via fun R hR => ?_
  have e1 := (Sat.init h).push (.cells (⟨op, A, B, C, I⟩ : Ins).cells.toArray 84 (0, 0))
  simp only [Ins.cells_eq] at e1
  have g1 := e1.get
  have fin : ∀ z, z = reckon op x y I → R (.int .u32 z) _ := fun z e => hR _ _ ⟨by rw [e], (e1.front 1).ext⟩
  refine HCalls.of_dev T51 Tryz.func51 rfl mixed (by kernel_rfl) ?_; rw [Tryz.results51]
  have hop : op = 1 ∨ op = 2 ∨ op = 3 ∨ op = 4 ∨ op = 5 ∨ op = 6 := by omega
  rcases hop with rfl | rfl | rfl | rfl | rfl | rfl
  · have n2 : ((1 : Nat) : Int) = 1 := rfl
    simp (maxSteps := 2000000) (disch := first | (simp only [go_sem, simprocAttr, g1, n2] <;> omega) | omega) only [go_sem, simprocAttr, g1, n2]
    exact fin _ rfl
  · have n2 : ((2 : Nat) : Int) = 2 := rfl
    simp (maxSteps := 2000000) (disch := first | (simp only [go_sem, simprocAttr, g1, n2] <;> omega) | omega) only [go_sem, simprocAttr, g1, n2]
    exact fin _ (by rw [wu32]; rfl)
  · have n2 : ((3 : Nat) : Int) = 3 := rfl
    simp (maxSteps := 2000000) (disch := first | (simp only [go_sem, simprocAttr, g1, n2] <;> omega) | omega) only [go_sem, simprocAttr, g1, n2]
    exact fin _ (by rw [wu32]; rfl)
  · have n2 : ((4 : Nat) : Int) = 4 := rfl
    simp (maxSteps := 2000000) (disch := first | (simp only [go_sem, simprocAttr, g1, n2] <;> omega) | omega) only [go_sem, simprocAttr, g1, n2]
    exact fin _ rfl
  · have n2 : ((5 : Nat) : Int) = 5 := rfl
    simp (maxSteps := 2000000) (disch := first | (simp only [go_sem, simprocAttr, g1, n2] <;> omega) | omega) only [go_sem, simprocAttr, g1, n2]
    exact fin _ rfl
  · have n2 : ((6 : Nat) : Int) = 6 := rfl
    simp (maxSteps := 2000000) (disch := first | (simp only [go_sem, simprocAttr, g1, n2] <;> omega) | omega) only [go_sem, simprocAttr, g1, n2]
    refine loopH.intro (fun k : Nat => (.cons 1 (.int .u32 (x * 2 ^ k % 4294967296)) true (.cons 2 (.int .u32 y) true (.cons 7 (.int .u32 k) true .nil)))) (fun k h' => (k : Int) ≤ y % 32 ∧ h' = h.push (.cells #[.int .i64 6, .int .i64 A, .int .i64 B, .int .i64 C, .int .i64 I] 84 (0, 0))) (fun k _ => (y % 32).toNat + 1 - k) 0 ?_ ⟨by omega, rfl⟩ ?_
    · have e0 : x * 2 ^ 0 % 4294967296 = x := by rw [Int.pow_zero, Int.mul_one]; exact Int.emod_eq_of_lt x0 x1
      simp only [e0]
      rfl
    rintro k h2 ⟨hk, rfl⟩
    by_cases q : (k : Int) < y % 32
    · have w1 : IntKind.u32.wrap (2 * (x * 2 ^ k % 4294967296)) = x * 2 ^ (k + 1) % 4294967296 := by
        rw [wu32, Int.pow_succ, ← Int.mul_assoc]
        generalize x * 2 ^ k = z
        omega
      have w2 : IntKind.u32.wrap ((k : Int) + 1) = (k : Int) + 1 := by rw [wu32]; omega
      simp (maxSteps := 2000000) (disch := first | (simp only [go_sem, simprocAttr, q, w1, w2] <;> omega) | omega) only [go_sem, simprocAttr, q, w1, w2]
      exact ⟨k + 1, rfl, ⟨by omega, rfl⟩, by simp only; omega⟩
    · simp (maxSteps := 2000000) (disch := first | (simp only [go_sem, simprocAttr, q] <;> omega) | omega) only [go_sem, simprocAttr, q]
      refine fin _ ?_
      have : (k : Int) = y % 32 := by omega
      show _ = x * 2 ^ (y % 32).toNat % 4294967296
      rw [← this, Int.toNat_natCast]
end
end Go.Eng
/-
  viceroyref03: Flush.
-/
namespace Go.Eng
open Go Go.Proofs
section
variable {h : Heap} {F : List SP} {tb : Nat} {T : List Ln}
theorem linesL_read {T : List Ln} {tl : List Value} {ty : TypeId} {i : Nat} (hi : i < T.length) : hreadO (some (Obj.cells (linesL T ++ tl).toArray ty (0, 0))) (i * 5) 5 = some (T[i]).cells.toArray := by
  have h2 : (i + 1) * 5 ≤ T.length * 5 := Nat.mul_le_mul_right _ hi
  have hl := linesL_len T
  rw [hreadO_arr (by rw [List.size_toArray, List.length_append]; omega)]
  congr 1
  apply Array.ext_getElem?
  intro j
  rw [Array.getElem?_extract, List.getElem?_toArray, List.size_toArray, List.length_append, List.getElem?_toArray]
  by_cases hj : j < 5
  · rw [if_pos (by omega)]
    have := linesL_get (tl := tl) hi hj
    rw [nthL_eq] at this
    exact this
  · rw [if_neg (by omega), List.getElem?_eq_none (by rw [Ln.cells_len]; omega)]
theorem rflush_S (hs : Sat h (tlbS tb T :: F)) (v a : Int) (ha : 0 ≤ a) (hv : v < 0 → ∀ l ∈ T, l = zeroL) : HCalls Tryz.prog 112 #[.pointer (some ⟨tb, 0, none⟩), .int .i64 v, .int .i64 a, .int .i64 (-1)] h fun r h' => (∃ n, r = .int .i64 n) ∧ Sat h' (tlbS tb (flushT T fun l => decide (l.Vmid = v) && decide (l.Asid = a)) :: F) := by
  refine HCalls.via fun R hR => ?_
  obtain ⟨⟨hT, hok⟩, f, m, ty, s⟩ := tlbS_iff.1 hs
  obtain ⟨p, hp⟩ : ∃ p : Ln → Bool, p = fun l => decide (l.Vmid = v) && decide (l.Asid = a) := ⟨_, rfl⟩
  rw [← hp] at hR
  have na : ¬ a < 0 := by omega
  refine HCalls.of_dev T112 Tryz.func112 rfl mixed (by kernel_rfl) ?_; rw [Tryz.results112]
  simp (maxSteps := 2000000) (disch := first | (simp only [go_sem, simprocAttr] <;> omega) | omega) only [go_sem, simprocAttr]
  refine loopH.intro (fun k : Nat × Int => (.cons 0 (.pointer (some ⟨tb, 0, none⟩)) true (.cons 1 (.int .i64 v) true (.cons 2 (.int .i64 a) true (.cons 3 (.int .i64 (-1)) true (.cons 9 (.int .i64 k.2) true (.cons 10 (.int .i64 k.1) true .nil)))))))
    (fun k h' => k.1 ≤ 8 ∧ Sat h' (cellAt tb (.cells (linesL (part T p k.1) ++ [Value.int .i64 f, Value.int .i64 m]).toArray ty (0, 0)) :: F)) (fun k _ => 9 - k.1) (0, 0) ?_ ⟨by simp only; omega, s⟩ ?_
  · simp (maxSteps := 2000000) (disch := first | (simp only [go_sem, simprocAttr] <;> omega) | omega) only [go_sem, simprocAttr]
    try rfl
  clear s
  rintro ⟨k, c⟩ h' ⟨hk, s⟩
  simp only at hk s
  by_cases q : k < 8
  case neg =>
    have q2 : ¬ (k : Int) < 8 := by omega
    obtain rfl : k = 8 := by omega
    simp (maxSteps := 2000000) (disch := first | (simp only [go_sem, simprocAttr, q2] <;> omega) | omega) only [go_sem, simprocAttr, q2]
    have e : part T p 8 = flushT T p := by rw [← hT]; exact part_all
    rw [e] at s
    exact hR _ _ ⟨⟨_, rfl⟩, tlbS_iff.2 ⟨⟨by rw [flush_len, hT], by rw [← e]; exact part_ok hok⟩, _, _, _, s⟩⟩
  have q2 : (k : Int) < 8 := by omega
  have hkT : k < T.length := by omega
  have ps := part_succ (p := p) hkT
  have pm := set_same (p := p) hkT
  have rd : hreadO h'[tb]? (k * 5) 5 = some (T[k]).cells.toArray := by
    rw [s.get, linesL_read (by rw [part_len]; exact hkT), part_get hkT]
  have hmem : T[k] ∈ T := List.getElem_mem _
  generalize hl : T[k] = l at *
  have s1 := s.push (.cells #[.int .i64 0, .int .i64 0, .int .i64 0, .int .i64 0, .int .i64 0] 98 (0, 0))
  have s2 := s.push (.cells l.cells.toArray 98 (0, 0))
  simp only [Ln.cells_eq] at s2
  have ov := okL_v (hok l hmem)
  by_cases z : l.Vmid = 0
  · have e := pm (fl_same (by rw [decide_eq_true (ov.1 z)]; rfl))
    simp (maxSteps := 2000000) (disch := first | (simp only [go_sem, simprocAttr, q2, rd, s1.get, s2.get, eq_true z, na] <;> omega) | omega) only [go_sem, simprocAttr, q2, rd, s1.get, s2.get, eq_true z, na]
    exact ⟨(k + 1, c), rfl, ⟨by simp only; omega, by simp only; rw [e]; exact s2.tail⟩, by simp only; omega⟩
  · have v0 : ¬ v < 0 := fun w => z (ov.2 (hv w l hmem))
    have nz : l ≠ zeroL := fun w => z (ov.2 w)
    have hz3 : (!decide (l = zeroL) && p l) = p l := by rw [decide_eq_false nz]; rfl
    by_cases d1 : l.Vmid = v
    · by_cases d2 : l.Asid = a
      · have e : fl p l = zeroL := by unfold fl; rw [hz3, hp]; simp only [d1, d2, decide_true, Bool.and_self, if_true]
        simp (maxSteps := 2000000) (disch := first | (simp only [go_sem, simprocAttr, q2, rd, s1.get, s2.get, z, na, v0, eq_true d1, eq_true d2] <;> omega) | omega) only [go_sem, simprocAttr, q2, rd, s1.get, s2.get, z, na, v0, eq_true d1, eq_true d2]
        refine store_line (l := zeroL) (s2.front 1).get (by rw [part_len]; exact hkT) ?_
        have s3 := (s2.front 1).set (.cells (linesL ((part T p k).set k zeroL) ++ [Value.int .i64 f, Value.int .i64 m]).toArray ty (0, 0))
        exact ⟨(k + 1, _), rfl, ⟨by simp only; omega, by simp only; rw [ps, e]; exact s3.drop1⟩, by simp only; omega⟩
      · have e := pm (fl_same (by rw [hz3, hp]; simp only [d2, decide_false, Bool.and_false]))
        simp (maxSteps := 2000000) (disch := first | (simp only [go_sem, simprocAttr, q2, rd, s1.get, s2.get, z, na, v0, eq_true d1, d2] <;> omega) | omega) only [go_sem, simprocAttr, q2, rd, s1.get, s2.get, z, na, v0, eq_true d1, d2]
        exact ⟨(k + 1, c), rfl, ⟨by simp only; omega, by simp only; rw [e]; exact s2.tail⟩, by simp only; omega⟩
    · have e := pm (fl_same (by rw [hz3, hp]; simp only [d1, decide_false, Bool.false_and]))
      simp (maxSteps := 2000000) (disch := first | (simp only [go_sem, simprocAttr, q2, rd, s1.get, s2.get, z, na, v0, d1] <;> omega) | omega) only [go_sem, simprocAttr, q2, rd, s1.get, s2.get, z, na, v0, d1]
      exact ⟨(k + 1, c), rfl, ⟨by simp only; omega, by simp only; rw [e]; exact s2.tail⟩, by simp only; omega⟩
end
end Go.Eng
