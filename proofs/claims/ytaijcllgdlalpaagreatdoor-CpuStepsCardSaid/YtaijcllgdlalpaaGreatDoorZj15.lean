/-
  package cpu: undefined, fetch.
-/
import Derived.Test.YtaijcllgdlalpaaGreatDoorZj14
set_option linter.unusedSimpArgs false
set_option linter.unusedVariables false
set_option maxRecDepth 16000
set_option maxHeartbeats 4000000
namespace Go.Eng
open Go Go.Proofs
structure Fe where
  t : Trp
  T : List Ln
  w : Int
def fetchP (n : Nat) (mem : Nat → Int) (T : List Ln) (s : Spc) (pc at_ : Int) : Fe :=
  if pc % 4 ≠ 0 ∨ pc < 0 ∨ 65536 ≤ pc then ⟨⟨4, 0, pc, okF⟩, T, 0⟩
  else if (reachC n mem T s pc 4 at_).f.K ≠ 0 then ⟨⟨1, 0, pc, (reachC n mem T s pc 4 at_).f⟩, (reachC n mem T s pc 4 at_).T, 0⟩
  else if rightI (decI (loadM mem (reachC n mem T s pc 4 at_).at_.toNat 4).toNat) = false then ⟨⟨8, loadM mem (reachC n mem T s pc 4 at_).at_.toNat 4, pc, okF⟩, (reachC n mem T s pc 4 at_).T, loadM mem (reachC n mem T s pc 4 at_).at_.toNat 4⟩
  else ⟨okT, (reachC n mem T s pc 4 at_).T, loadM mem (reachC n mem T s pc 4 at_).at_.toNat 4⟩
theorem reachC_bd {n : Nat} (mem : Nat → Int) {T : List Ln} (hT : ∀ l ∈ T, okL l) (hn : n ≤ 1024) (s : Spc) (a w at_ : Int) (h0 : 0 ≤ a) (q : (reachC n mem T s a w at_).f.K = 0) : 0 ≤ (reachC n mem T s a w at_).at_ ∧ (reachC n mem T s a w at_).at_ / 64 < n ∧ (reachC n mem T s a w at_).at_ % 64 = a % 64 := by
  obtain ⟨b1, b2⟩ := reach_bd n mem hT s (a / 64) w at_
  unfold reachC at q ⊢
  simp only at q ⊢
  by_cases c : (reach n mem T s (a / 64) w at_).f.K = 0 ∧ (n : Int) ≤ (reach n mem T s (a / 64) w at_).Fr
  · rw [if_pos c] at q; cases q
  · rw [if_neg c] at q
    have : ¬ (n : Int) ≤ (reach n mem T s (a / 64) w at_).Fr := fun z => c ⟨q, z⟩
    generalize (reach n mem T s (a / 64) w at_).Fr = fr at *
    omega
section
variable {h : Heap} {F : List SP} {rb n tb xb cb : Nat} {mem : Nat → Int} {T : List Ln} {vv : Value} {i : Ins} {w : Int} {s : Spc} {at_ next : Int} {g : Bool} {ty ty2 : TypeId} {c : Cp}
theorem undef_S (f : c.fit) (hw : 0 ≤ w ∧ w < 4294967296) (vr vt : Value) (hs : Sat h (cellAt xb (.cells (turnL vr vt vv cb i w s at_ next g).toArray ty (0, 0)) :: cellAt cb (.cells c.cells.toArray ty2 (0, 0)) :: F)) :
    HCalls Tryz.prog 42 #[.pointer (some ⟨xb, 0, none⟩)] h fun v h' => v = .agg (⟨8, w, c.Pc, okF⟩ : Trp).cells.toArray ∧ Ext h h' := by
  refine HCalls.via fun R hR => ?_
  have e0 := (Sat.init h).push (.cells (okT).cells.toArray 56 (0, 0))
  have s1 := hs.push (.cells (okT).cells.toArray 56 (0, 0))
  have e1 := (Sat.init h).push (.cells (⟨8, w, c.Pc, okF⟩ : Trp).cells.toArray 56 (0, 0))
  have g0 := (s1.front 1).get
  have g1 := (s1.front 2).get
  have n16 : nthL c.cells 16 = some (.int .i64 c.Pc) := by rw [nthL_eq]; exact Cp.pc f
  simp only [Trp.cells_eq, okT, okF] at e0 s1 g0 g1 e1
  simp only [turnL] at g0
  refine HCalls.of_dev T42 Tryz.func42 rfl mixed (by kernel_rfl) ?_; rw [Tryz.results42]
  simp (maxSteps := 2000000) (disch := first | (simp only [go_sem, simprocAttr, g0, g1, n16] <;> omega) | omega) only [go_sem, simprocAttr, g0, g1, n16]
  exact hR _ _ ⟨rfl, (e1.front 1).ext⟩
theorem fetch_S (f : c.fit) (hs : Sat h (cellAt xb (.cells (turnL (.pointer (some ⟨rb, 0, none⟩)) (.pointer (some ⟨tb, 0, none⟩)) vv cb i w s at_ next g).toArray ty (0, 0)) :: ramS rb n mem :: tlbS tb T :: cellAt cb (.cells c.cells.toArray ty2 (0, 0)) :: F)) :
    HCalls Tryz.prog 40 #[.pointer (some ⟨xb, 0, none⟩)] h fun v h' => v = .agg (fetchP n mem T s c.Pc at_).t.cells.toArray ∧
      ∃ i' w' nx', Sat h' (cellAt xb (.cells (turnL (.pointer (some ⟨rb, 0, none⟩)) (.pointer (some ⟨tb, 0, none⟩)) vv cb i' w' s at_ nx' g).toArray ty (0, 0)) :: ramS rb n mem :: tlbS tb (fetchP n mem T s c.Pc at_).T :: cellAt cb (.cells c.cells.toArray ty2 (0, 0)) :: F) ∧
        ((fetchP n mem T s c.Pc at_).t.C = 0 → i' = decI (fetchP n mem T s c.Pc at_).w.toNat ∧ rightI i' = true ∧ w' = (fetchP n mem T s c.Pc at_).w ∧ 0 ≤ w' ∧ w' < 4294967296 ∧ nx' = (c.Pc + 4) % 65536) := by
  refine HCalls.via fun R hR => ?_
  have s1 := hs.push (.cells (okT).cells.toArray 56 (0, 0))
  have g0 := (s1.front 1).get
  have g1 := (s1.front 4).get
  have n16 : nthL c.cells 16 = some (.int .i64 c.Pc) := by rw [nthL_eq]; exact Cp.pc f
  simp only [Trp.cells_eq, okT, okF] at s1 g0 g1
  simp only [turnL] at g0
  unfold fetchP at hR
  refine HCalls.of_dev T40 Tryz.func40 rfl mixed (by kernel_rfl) ?_; rw [Tryz.results40]
  by_cases c0 : c.Pc % 4 ≠ 0 ∨ c.Pc < 0 ∨ 65536 ≤ c.Pc
  · rw [if_pos c0] at hR
    simp (maxSteps := 2000000) (disch := first | (simp only [go_sem, simprocAttr, g0, g1, n16] <;> omega) | omega) only [go_sem, simprocAttr, g0, g1, n16]
    refine ⟨fun _ => ?_, fun q => absurd q ?_⟩
    · have s2 := hs.push (.cells (⟨4, 0, c.Pc, okF⟩ : Trp).cells.toArray 56 (0, 0))
      exact hR _ _ ⟨rfl, i, w, next, s2.tail, fun z => by cases z⟩
    · intro z
      simp only [Bool.or_eq_false_iff, decide_eq_false_iff_not] at z
      obtain ⟨⟨z1, z2⟩, z3⟩ := z
      have := Int.tmod_eq_emod_of_nonneg (a := c.Pc) (b := 4) (by omega)
      omega
  rw [if_neg c0] at hR
  obtain ⟨pc, hpc⟩ := Int.eq_ofNat_of_zero_le (show 0 ≤ c.Pc by omega)
  rw [hpc] at hR n16 c0
  have e4 : (pc : Int) % 4 = 0 := by omega
  have p0 : ¬ (pc : Int) < 0 := by omega
  have p1 : ¬ 65536 ≤ (pc : Int) := by omega
  simp (maxSteps := 2000000) (disch := first | (simp only [go_sem, simprocAttr, g0, g1, n16, e4, p0, p1] <;> omega) | omega) only [go_sem, simprocAttr, g0, g1, n16, e4, p0, p1]
  obtain ⟨⟨-, hTok⟩, -⟩ := tlbS_iff.1 (hs.front 2)
  obtain ⟨⟨hb, hn⟩, -⟩ := ramS_iff.1 (hs.front 1)
  refine (reachC_S (s1.back 3) pc (by omega) 4 (by omega)).mono ?_
  rintro v h2 ⟨⟨r, rfl, hr⟩, s2⟩
  have bd := reachC_bd mem hTok hn s (pc : Int) 4 at_ (by omega)
  generalize reachC n mem T s (pc : Int) 4 at_ = rc at *
  obtain ⟨ra, f2, T2⟩ := rc
  simp only at hR hr bd s2
  have s3 := (s2.front 3).push (.cells f2.cells.toArray 47 (0, 0))
  simp only [Flt.cells_eq] at s3
  by_cases q : f2.K = 0
  · rw [if_neg (by omega)] at hR
    obtain ⟨b1, b2, b3⟩ := bd q
    have er := hr q
    subst er
    have hacc : accM n r 4 = 0 := by
      unfold accM
      rw [if_neg (by omega), if_neg (by rw [Int.tmod_eq_emod_of_nonneg (by omega)]; omega), if_neg (by omega)]
    obtain ⟨w1, w2⟩ := loadM_bd hb r.toNat 4 (by omega)
    have g2 := (s3.front 2).get
    simp only [turnL] at g2
    rw [q] at s3 g2
    simp (maxSteps := 2000000) (disch := first | (simp only [go_sem, simprocAttr, q, s3.get, g2] <;> omega) | omega) only [go_sem, simprocAttr, q, s3.get, g2]
    refine (load_S (s3.front 3) r 4 (by omega)).mono ?_
    rintro v h4 ⟨rfl, rfl⟩
    rw [hacc, if_pos rfl, show (4 : Int).toNat = 4 from rfl]
    generalize loadM mem r.toNat 4 = wd at *
    obtain ⟨wd, rfl⟩ := Int.eq_ofNat_of_zero_le w1
    have wlt : wd < 4294967296 := by simp at w2; omega
    have s4 := (s3.front 2).set (.cells (turnL (.pointer (some ⟨rb, 0, none⟩)) (.pointer (some ⟨tb, 0, none⟩)) vv cb i wd s at_ next g).toArray ty (0, 0))
    have g4 := s4.get
    simp only [turnL] at g4
    simp (maxSteps := 2000000) (disch := first | (simp only [go_sem, simprocAttr, g2, g4] <;> omega) | omega) only [go_sem, simprocAttr, g2, g4]
    refine (decode_S wd wlt).mono ?_
    rintro v h5 ⟨rfl, x5⟩
    have s5 := s4.grow x5
    cases rr : rightI (decI wd) with
    | false =>
      simp only [Int.toNat_natCast, rr, if_true] at hR
      have e : decV wd = .tuple #[.agg zeroI.cells.toArray, .int .i64 50] := by unfold decV; rw [if_neg (by rw [rr]; exact Bool.false_ne_true)]
      rw [e]
      have s6 := s5.push (.cells zeroI.cells.toArray 84 (0, 0))
      simp only [Ins.cells_eq, zeroI] at s6
      simp (maxSteps := 2000000) (disch := first | (simp only [go_sem, simprocAttr, s6.get] <;> omega) | omega) only [go_sem, simprocAttr, s6.get]
      refine (undef_S f ⟨w1, by omega⟩ _ _ ((s6.front 6).front 2)).mono ?_
      rintro v h6 ⟨rfl, x6⟩
      rw [hpc]
      have s7 := s6.grow x6
      have s8 := (s7.front 3).set (.cells (⟨8, wd, (pc : Int), okF⟩ : Trp).cells.toArray 56 (0, 0))
      simp only [Trp.cells_eq] at s8
      simp (maxSteps := 2000000) (disch := first | (simp only [go_sem, simprocAttr, (s7.front 3).get, s8.get] <;> omega) | omega) only [go_sem, simprocAttr, (s7.front 3).get, s8.get]
      exact hR _ _ ⟨rfl, _, _, _, s8.tail.tail.drop1, fun z => by cases z⟩
    | true =>
      simp only [Int.toNat_natCast, rr, Bool.true_eq_false, if_false] at hR
      have e : decV wd = .tuple #[.agg (decI wd).cells.toArray, .int .i64 0] := by unfold decV; rw [if_pos rr]
      rw [e]
      generalize decI wd = i1 at *
      have s6 := s5.push (.cells i1.cells.toArray 84 (0, 0))
      have g6 := (s6.front 1).get
      have g6c := (s6.front 6).get
      simp only [Ins.cells_eq] at s6 g6 g6c
      simp only [turnL] at g6
      have nx : (((pc + 4 : Nat)) : Int) = (pc : Int) + 4 := by omega
      have lw := fun h => low_S (h := h) (pc + 4) (by omega)
      rw [nx, show ((pc + 4) % 65536 : Nat) = (((pc : Int) + 4) % 65536) from by omega] at lw
      have s7 := (s6.front 1).set (.cells (turnL (.pointer (some ⟨rb, 0, none⟩)) (.pointer (some ⟨tb, 0, none⟩)) vv cb i1 wd s at_ next g).toArray ty (0, 0))
      have s8 := s7.set (.cells (turnL (.pointer (some ⟨rb, 0, none⟩)) (.pointer (some ⟨tb, 0, none⟩)) vv cb i1 wd s at_ (((pc : Int) + 4) % 65536) g).toArray ty (0, 0))
      have s9 := (s8.front 3).set (.cells okT.cells.toArray 56 (0, 0))
      have g7 := s7.get
      have g8 := s8.get
      have g8c := (s8.front 3).get
      have g9 := s9.get
      simp only [turnL] at g7 g8
      simp only [Trp.cells_eq, okT, okF, turnL] at g9 g8c
      simp (maxSteps := 2000000) (disch := first | (simp only [go_sem, simprocAttr, s6.get, g6, g6c, n16] <;> omega) | omega) only [go_sem, simprocAttr, s6.get, g6, g6c, n16]
      refine (lw _).mono ?_
      rintro v h6 ⟨rfl, rfl⟩
      simp (maxSteps := 2000000) (disch := first | (simp only [go_sem, simprocAttr, g6, g7, g8, g8c, g9] <;> omega) | omega) only [go_sem, simprocAttr, g6, g7, g8, g8c, g9]
      exact hR _ _ ⟨rfl, _, _, _, s9.tail.drop1.drop1, fun _ => ⟨rfl, rr, rfl, by omega, by omega, rfl⟩⟩
  · rw [if_pos q] at hR
    have s4 := (s3.front 1).set (.cells (⟨1, 0, (pc : Int), f2⟩ : Trp).cells.toArray 56 (0, 0))
    have g2 := (s3.front 5).get
    simp only [Trp.cells_eq] at s4
    simp (maxSteps := 2000000) (disch := first | (simp only [go_sem, simprocAttr, q, s3.get, (s3.front 1).get, s4.get, n16] <;> omega) | omega) only [go_sem, simprocAttr, q, s3.get, (s3.front 1).get, s4.get, n16]
    exact hR _ _ ⟨rfl, i, w, next, s4.tail.tail, fun z => by cases z⟩
end
end Go.Eng
/-
  package cpu: regs, what operations do.
-/
namespace Go.Eng
open Go Go.Proofs
theorem setR_fit {c : Cp} (f : c.fit) {a v : Int} (hv : 0 ≤ v ∧ v < 4294967296) : (setR c a v).fit := by
  refine ⟨by simpa [setR] using f.lr, f.ls, fun x hx => ?_, f.bs, f.p1, f.p2⟩
  rcases List.mem_or_eq_of_mem_set hx with q | q
  · exact f.br x q
  · rw [q]; exact hv
theorem setR_cells {c : Cp} (f : c.fit) {a : Nat} (ha : a < 16) {v : Int} : c.cells.set a (.int .u32 v) = (setR c a v).cells := by
  unfold Cp.cells setR
  rw [List.set_append_left _ _ (by simpa [f.lr] using ha), List.map_set, Int.toNat_natCast]
theorem setS_fit {c : Cp} (f : c.fit) {a v : Int} (hv : 0 ≤ v ∧ v < 4294967296) : (setS c a v).fit := by
  refine ⟨f.lr, by simpa [setS] using f.ls, f.br, fun x hx => ?_, f.p1, f.p2⟩
  rcases List.mem_or_eq_of_mem_set hx with q | q
  · exact f.bs x q
  · rw [q]; exact hv
theorem setS_cells {c : Cp} (f : c.fit) {a : Nat} {v : Int} : c.cells.set (17 + a) (.int .u32 v) = (setS c a v).cells := by
  unfold Cp.cells setS
  rw [List.set_append_right _ _ (by simp [f.lr]; omega), List.length_map, f.lr, show 17 + a - 16 = a + 1 by omega, List.set_cons_succ, List.map_set, Int.toNat_natCast]
section
variable {h : Heap} {F : List SP} {rb n tb xb cb : Nat} {mem : Nat → Int} {T : List Ln} {vr vt vv : Value} {w : Int} {s : Spc} {at_ next : Int} {g : Bool} {ty ty2 : TypeId} {c : Cp} {o : Int} {A B C I : Nat}
theorem regs_S (f : c.fit) (hA : A < 16) (hB : B < 16) (hC : C < 16) (hs : Sat h (cellAt xb (.cells (turnL vr vt vv cb ⟨o, A, B, C, I⟩ w s at_ next g).toArray ty (0, 0)) :: cellAt cb (.cells c.cells.toArray ty2 (0, 0)) :: F)) :
    HCalls Tryz.prog 124 #[.pointer (some ⟨xb, 0, none⟩)] h fun v h' => v = .tuple #[.pointer (some ⟨cb, A, none⟩), .int .u32 (rg c B), .int .u32 (rg c C)] ∧ h' = h := by
  refine HCalls.via fun R hR => ?_
  have g0 := hs.get
  have g1 := (hs.front 1).get
  simp only [turnL] at g0
  have nB : nthL c.cells B = some (.int .u32 (rg c B)) := by rw [nthL_eq]; exact Cp.reg f hB
  have nC : nthL c.cells C = some (.int .u32 (rg c C)) := by rw [nthL_eq]; exact Cp.reg f hC
  have a0 : (0 : Int) ≤ A := by omega
  have a1 : (A : Int) < 16 := by omega
  have b0 : (0 : Int) ≤ B := by omega
  have b1 : (B : Int) < 16 := by omega
  have c0 : (0 : Int) ≤ C := by omega
  have c1 : (C : Int) < 16 := by omega
  refine HCalls.of_dev T124 Tryz.func124 rfl mixed (by kernel_rfl) ?_; rw [Tryz.results124]
  simp (maxSteps := 2000000) (disch := first | (simp only [go_sem, simprocAttr, g0, g1, nB, nC, a0, a1, b0, b1, c0, c1] <;> omega) | omega) only [go_sem, simprocAttr, g0, g1, nB, nC, a0, a1, b0, b1, c0, c1]
  exact hR _ _ ⟨rfl, rfl⟩
theorem movi_S (f : c.fit) (hA : A < 16) (hI : I < 65536) (hs : Sat h (cellAt xb (.cells (turnL vr vt vv cb ⟨o, A, B, C, I⟩ w s at_ next g).toArray ty (0, 0)) :: cellAt cb (.cells c.cells.toArray ty2 (0, 0)) :: F)) :
    HCalls Tryz.prog 76 #[.pointer (some ⟨xb, 0, none⟩)] h fun v h' => v = .agg okT.cells.toArray ∧ Sat h' (cellAt xb (.cells (turnL vr vt vv cb ⟨o, A, B, C, I⟩ w s at_ next g).toArray ty (0, 0)) :: cellAt cb (.cells (setR c A I).cells.toArray ty2 (0, 0)) :: F) := by
  refine HCalls.via fun R hR => ?_
  have s1 := hs.push (.cells okT.cells.toArray 56 (0, 0))
  have s2 := (s1.front 2).set (.cells (setR c A I).cells.toArray ty2 (0, 0))
  have s3 := (s2.front 1).set (.cells okT.cells.toArray 56 (0, 0))
  have g0 := (s1.front 1).get
  have g1 := (s1.front 2).get
  have g2 := (s2.front 1).get
  have g3 := s3.get
  simp only [turnL, Trp.cells_eq, okT, okF] at g0 g1 g2 g3
  have a0 : (0 : Int) ≤ A := by omega
  have a1 : (A : Int) < 16 := by omega
  have l := Cp.len f
  have l1 : A < c.cells.length := by omega
  have sc := setR_cells f hA (v := I)
  refine HCalls.of_dev T76 Tryz.func76 rfl mixed (by kernel_rfl) ?_; rw [Tryz.results76]
  simp (maxSteps := 2000000) (disch := first | (simp only [go_sem, simprocAttr, g0, g1, a0, a1, l1, sc, g2, g3] <;> omega) | omega) only [go_sem, simprocAttr, g0, g1, a0, a1, l1, sc, g2, g3]
  exact hR _ _ ⟨rfl, s3.tail.swap⟩
/-- A number of two. -/
def doS (fid : FuncId) (k : Int → Int → Int) : Prop := okFn Tryz.prog fid = true ∧ ∀ (h : Heap) (x y : Int), 0 ≤ x → x < 4294967296 → 0 ≤ y → y < 4294967296 → HCalls Tryz.prog fid #[.int .u32 x, .int .u32 y] h fun v h' => v = .int .u32 (k x y) ∧ h' = h
theorem wu32 (a : Int) : IntKind.u32.wrap a = a % 4294967296 := by simp [IntKind.wrap, IntKind.bits, IntKind.signed]
theorem add_do : doS 78 fun x y => (x + y) % 4294967296 := by
  refine ⟨by kernel_rfl, fun h x y x0 x1 y0 y1 => ?_⟩
  refine HCalls.via fun R hR => ?_
  refine HCalls.of_dev T78 Tryz.func78 rfl mixed (by kernel_rfl) ?_; rw [Tryz.results78]
  simp (maxSteps := 2000000) (disch := first | (simp only [go_sem, simprocAttr] <;> omega) | omega) only [go_sem, simprocAttr]
  exact hR _ _ ⟨by simp only [wu32], rfl⟩
theorem sub_do : doS 79 fun x y => (x - y) % 4294967296 := by
  refine ⟨by kernel_rfl, fun h x y x0 x1 y0 y1 => ?_⟩
  refine HCalls.via fun R hR => ?_
  refine HCalls.of_dev T79 Tryz.func79 rfl mixed (by kernel_rfl) ?_; rw [Tryz.results79]
  simp (maxSteps := 2000000) (disch := first | (simp only [go_sem, simprocAttr] <;> omega) | omega) only [go_sem, simprocAttr]
  exact hR _ _ ⟨by simp only [wu32], rfl⟩
theorem and_do : doS 80 and32 := by
  refine ⟨by kernel_rfl, fun h x y x0 x1 y0 y1 => ?_⟩
  refine HCalls.via fun R hR => ?_
  refine HCalls.of_dev T80 Tryz.func80 rfl mixed (by kernel_rfl) ?_; rw [Tryz.results80]
  simp (maxSteps := 2000000) (disch := first | (simp only [go_sem, simprocAttr] <;> omega) | omega) only [go_sem, simprocAttr]
  exact hR _ _ ⟨rfl, rfl⟩
theorem xor_do : doS 81 xor32 := by
  refine ⟨by kernel_rfl, fun h x y x0 x1 y0 y1 => ?_⟩
  refine HCalls.via fun R hR => ?_
  refine HCalls.of_dev T81 Tryz.func81 rfl mixed (by kernel_rfl) ?_; rw [Tryz.results81]
  simp (maxSteps := 2000000) (disch := first | (simp only [go_sem, simprocAttr] <;> omega) | omega) only [go_sem, simprocAttr]
  exact hR _ _ ⟨rfl, rfl⟩
theorem shl_do : doS 82 fun x y => x * 2 ^ (y % 32).toNat % 4294967296 := by
  refine ⟨by kernel_rfl, fun h x y x0 x1 y0 y1 => ?_⟩
  refine HCalls.via fun R hR => ?_
  have y2 : 0 ≤ y % 32 := by omega
  refine HCalls.of_dev T82 Tryz.func82 rfl mixed (by kernel_rfl) ?_; rw [Tryz.results82]
  simp (maxSteps := 2000000) (disch := first | (simp only [go_sem, simprocAttr, y2] <;> omega) | omega) only [go_sem, simprocAttr, y2]
  have e : min (y % 32).toNat 32 = (y % 32).toNat := by omega
  exact hR _ _ ⟨by simp only [wu32]; exact congrArg (fun z => Value.int .u32 (x * 2 ^ z % 4294967296)) e, rfl⟩
theorem reck_S (f : c.fit) (hA : A < 16) (hB : B < 16) (hC : C < 16) {fid : FuncId} {k : Int → Int → Int} (hk : doS fid k) (kb : ∀ x y, 0 ≤ k x y ∧ k x y < 4294967296) {bb : Nat} {ty3 : TypeId}
    (hs : Sat h (cellAt bb (.cells #[.func (.func fid) #[] #[]] ty3 (0, 0)) :: cellAt xb (.cells (turnL vr vt vv cb ⟨o, A, B, C, I⟩ w s at_ next g).toArray ty (0, 0)) :: cellAt cb (.cells c.cells.toArray ty2 (0, 0)) :: F)) :
    HCalls Tryz.prog 123 (#[] ++ #[.pointer (some ⟨xb, 0, none⟩)] ++ #[.pointer (some ⟨bb, 0, none⟩)]) h fun v h' => v = .agg okT.cells.toArray ∧
      Sat h' (cellAt xb (.cells (turnL vr vt vv cb ⟨o, A, B, C, I⟩ w s at_ next g).toArray ty (0, 0)) :: cellAt cb (.cells (setR c A (k (rg c B) (rg c C))).cells.toArray ty2 (0, 0)) :: F) := by
  rw [show (#[] ++ #[.pointer (some ⟨xb, 0, none⟩)] ++ #[.pointer (some ⟨bb, 0, none⟩)] : Array Value) = #[.pointer (some ⟨xb, 0, none⟩), .pointer (some ⟨bb, 0, none⟩)] by simp]
  refine HCalls.via fun R hR => ?_
  obtain ⟨ok, hk⟩ := hk
  have s1 := hs.push (.cells okT.cells.toArray 56 (0, 0))
  simp only [Trp.cells_eq, okT, okF] at s1
  have s2 := (s1.front 3).set (.cells (setR c A (k (rg c B) (rg c C))).cells.toArray ty2 (0, 0))
  have s3 := (s2.front 1).set (.cells okT.cells.toArray 56 (0, 0))
  have gb := (s1.front 1).get
  have g1 := (s1.front 3).get
  have g2 := (s2.front 1).get
  have g3 := s3.get
  simp only [Trp.cells_eq, okT, okF] at gb g1 g2 g3
  obtain ⟨x0, x1⟩ := rg_bd f (i := B) (by omega) (by omega)
  obtain ⟨y0, y1⟩ := rg_bd f (i := C) (by omega) (by omega)
  have l := Cp.len f
  have l1 : A < c.cells.length := by omega
  have sc := setR_cells f hA (v := k (rg c B) (rg c C))
  refine HCalls.of_dev T123 Tryz.func123 rfl mixed (by kernel_rfl) ?_; rw [Tryz.results123]
  simp (maxSteps := 2000000) (disch := first | (simp only [go_sem, simprocAttr] <;> omega) | omega) only [go_sem, simprocAttr]
  refine (regs_S f hA hB hC (s1.front 2 |>.front 3 |>.front 1)).mono ?_
  rintro v h2 ⟨rfl, rfl⟩
  simp (maxSteps := 2000000) (disch := first | (simp only [go_sem, simprocAttr, gb, ok] <;> omega) | omega) only [go_sem, simprocAttr, gb, ok]
  refine (hk _ _ _ x0 x1 y0 y1).mono ?_
  rintro v h3 ⟨rfl, rfl⟩
  simp (maxSteps := 2000000) (disch := first | (simp only [go_sem, simprocAttr, g1, l1, sc, g2, g3] <;> omega) | omega) only [go_sem, simprocAttr, g1, l1, sc, g2, g3]
  exact hR _ _ ⟨rfl, s3.tail.drop1.swap⟩
end
end Go.Eng
/-
  package cpu: what traps, what reads system registers; loads and stores.
-/
namespace Go.Eng
open Go Go.Proofs
section
variable {h : Heap} {F : List SP} {rb n tb xb cb : Nat} {mem : Nat → Int} {T : List Ln} {vr vt vv : Value} {w : Int} {s : Spc} {at_ next : Int} {g : Bool} {ty ty2 : TypeId} {c : Cp} {o : Int} {A B C I : Nat}
theorem trapsC_S (f : c.fit) {cs : Int} {bb : Nat} {ty3 : TypeId}
    (hs : Sat h (cellAt bb (.cells #[.int .i64 cs] ty3 (0, 0)) :: cellAt xb (.cells (turnL vr vt vv cb ⟨o, A, B, C, I⟩ w s at_ next g).toArray ty (0, 0)) :: cellAt cb (.cells c.cells.toArray ty2 (0, 0)) :: F)) :
    HCalls Tryz.prog 127 (#[] ++ #[.pointer (some ⟨xb, 0, none⟩)] ++ #[.pointer (some ⟨bb, 0, none⟩)]) h fun v h' => v = .agg (⟨cs, I, c.Pc, okF⟩ : Trp).cells.toArray ∧
      Sat h' (cellAt xb (.cells (turnL vr vt vv cb ⟨o, A, B, C, I⟩ w s at_ next g).toArray ty (0, 0)) :: cellAt cb (.cells c.cells.toArray ty2 (0, 0)) :: F) := by
  rw [show (#[] ++ #[.pointer (some ⟨xb, 0, none⟩)] ++ #[.pointer (some ⟨bb, 0, none⟩)] : Array Value) = #[.pointer (some ⟨xb, 0, none⟩), .pointer (some ⟨bb, 0, none⟩)] by simp]
  refine HCalls.via fun R hR => ?_
  have s1 := hs.push (.cells okT.cells.toArray 56 (0, 0))
  simp only [Trp.cells_eq, okT, okF] at s1
  have gb := (s1.front 1).get
  have g0 := (s1.front 2).get
  have g1 := (s1.front 3).get
  simp only [turnL] at g0
  have n16 : nthL c.cells 16 = some (.int .i64 c.Pc) := by rw [nthL_eq]; exact Cp.pc f
  have s3 := hs.push (.cells (⟨cs, I, c.Pc, okF⟩ : Trp).cells.toArray 56 (0, 0))
  refine HCalls.of_dev T127 Tryz.func127 rfl mixed (by kernel_rfl) ?_; rw [Tryz.results127]
  simp (maxSteps := 2000000) (disch := first | (simp only [go_sem, simprocAttr, gb, g0, g1, n16, s1.get] <;> omega) | omega) only [go_sem, simprocAttr, gb, g0, g1, n16, s1.get]
  exact hR _ _ ⟨rfl, s3.tail.tail⟩
theorem mrs_S (f : c.fit) (hA : A < 16) (hs : Sat h (cellAt xb (.cells (turnL vr vt vv cb ⟨o, A, B, C, I⟩ w s at_ next g).toArray ty (0, 0)) :: cellAt cb (.cells c.cells.toArray ty2 (0, 0)) :: F)) :
    HCalls Tryz.prog 92 #[.pointer (some ⟨xb, 0, none⟩)] h fun v h' =>
      if 6 < I then v = .agg (⟨7, I, c.Pc, okF⟩ : Trp).cells.toArray ∧ Sat h' (cellAt xb (.cells (turnL vr vt vv cb ⟨o, A, B, C, I⟩ w s at_ next g).toArray ty (0, 0)) :: cellAt cb (.cells c.cells.toArray ty2 (0, 0)) :: F)
      else v = .agg okT.cells.toArray ∧ Sat h' (cellAt xb (.cells (turnL vr vt vv cb ⟨o, A, B, C, I⟩ w s at_ next g).toArray ty (0, 0)) :: cellAt cb (.cells (setR c A (sy c I)).cells.toArray ty2 (0, 0)) :: F) := by
  refine HCalls.via fun R hR => ?_
  have s1 := hs.push (.cells okT.cells.toArray 56 (0, 0))
  simp only [Trp.cells_eq, okT, okF] at s1
  have g0 := (s1.front 1).get
  have g1 := (s1.front 2).get
  simp only [turnL] at g0
  have n16 : nthL c.cells 16 = some (.int .i64 c.Pc) := by rw [nthL_eq]; exact Cp.pc f
  refine HCalls.of_dev T92 Tryz.func92 rfl mixed (by kernel_rfl) ?_; rw [Tryz.results92]
  by_cases q : 6 < I
  · simp only [if_pos q] at hR
    have q1 : (6 : Int) < I := by omega
    have s3 := hs.push (.cells (⟨7, I, c.Pc, okF⟩ : Trp).cells.toArray 56 (0, 0))
    simp (maxSteps := 2000000) (disch := first | (simp only [go_sem, simprocAttr, g0, g1, n16, s1.get, q1] <;> omega) | omega) only [go_sem, simprocAttr, g0, g1, n16, s1.get, q1]
    exact hR _ _ ⟨rfl, s3.tail⟩
  · simp only [if_neg q] at hR
    have q1 : ¬ (6 : Int) < I := by omega
    have nS : nthL c.cells (17 + I) = some (.int .u32 (sy c I)) := by rw [nthL_eq]; exact Cp.sys f (by omega)
    have i0 : (0 : Int) ≤ I := by omega
    have i1 : (I : Int) < 8 := by omega
    have a0 : (0 : Int) ≤ A := by omega
    have a1 : (A : Int) < 16 := by omega
    have l := Cp.len f
    have l1 : A < c.cells.length := by omega
    have sc := setR_cells f hA (v := sy c I)
    have s2 := (s1.front 2).set (.cells (setR c A (sy c I)).cells.toArray ty2 (0, 0))
    have s3 := (s2.front 1).set (.cells okT.cells.toArray 56 (0, 0))
    have g2 := (s2.front 1).get
    have g3 := s3.get
    simp only [Trp.cells_eq, okT, okF] at g3
    simp (maxSteps := 2000000) (disch := first | (simp only [go_sem, simprocAttr, g0, g1, nS, q1, i0, i1, a0, a1, l1, sc, g2, g3] <;> omega) | omega) only [go_sem, simprocAttr, g0, g1, nS, q1, i0, i1, a0, a1, l1, sc, g2, g3]
    exact hR _ _ ⟨rfl, s3.tail.swap⟩
end
end Go.Eng
/-
  package cpu: loads and stores.
-/
namespace Go.Eng
open Go Go.Proofs
structure Tch where
  t : Trp
  mem : Nat → Int
  T : List Ln
  c : Cp
def touchP (n : Nat) (mem : Nat → Int) (T : List Ln) (c : Cp) (A ad : Int) (s : Spc) (at_ size want cause : Int) : Tch :=
  if ad % size ≠ 0 then ⟨⟨4, 0, ad, okF⟩, mem, T, c⟩
  else if (reachC n mem T s ad want at_).f.K ≠ 0 then ⟨⟨cause, 0, ad, (reachC n mem T s ad want at_).f⟩, mem, (reachC n mem T s ad want at_).T, c⟩
  else if want = 2 then ⟨okT, putM mem (reachC n mem T s ad want at_).at_ size (rg c A), (reachC n mem T s ad want at_).T, c⟩
  else ⟨okT, mem, (reachC n mem T s ad want at_).T, setR c A (loadM mem (reachC n mem T s ad want at_).at_.toNat size.toNat)⟩
section
variable {h : Heap} {F : List SP} {rb n tb xb cb : Nat} {mem : Nat → Int} {T : List Ln} {vv : Value} {w : Int} {s : Spc} {at_ next : Int} {g : Bool} {ty ty2 : TypeId} {c : Cp} {o : Int} {A B C I : Nat}
theorem touchC_S (f : c.fit) (hA : A < 16) (hB : B < 16) (hC : C < 16) (hI : I < 65536) {size want cause : Int} (hz : size = 4 ∨ size = 1) (hw : want = 1 ∨ want = 2) {zb wb kb : Nat} {t1 t2 t3 : TypeId}
    (hs : Sat h (cellAt zb (.cells #[.int .i64 size] t1 (0, 0)) :: cellAt wb (.cells #[.int .i64 want] t2 (0, 0)) :: cellAt kb (.cells #[.int .i64 cause] t3 (0, 0)) ::
      cellAt xb (.cells (turnL (.pointer (some ⟨rb, 0, none⟩)) (.pointer (some ⟨tb, 0, none⟩)) vv cb ⟨o, A, B, C, I⟩ w s at_ next g).toArray ty (0, 0)) :: ramS rb n mem :: tlbS tb T :: cellAt cb (.cells c.cells.toArray ty2 (0, 0)) :: F)) :
    HCalls Tryz.prog 125 (#[] ++ #[.pointer (some ⟨xb, 0, none⟩)] ++ #[.pointer (some ⟨zb, 0, none⟩), .pointer (some ⟨wb, 0, none⟩), .pointer (some ⟨kb, 0, none⟩)]) h fun v h' => v = .agg (touchP n mem T c A ((rg c B + I) % 65536) s at_ size want cause).t.cells.toArray ∧
      Sat h' (cellAt xb (.cells (turnL (.pointer (some ⟨rb, 0, none⟩)) (.pointer (some ⟨tb, 0, none⟩)) vv cb ⟨o, A, B, C, I⟩ w s at_ next g).toArray ty (0, 0)) :: ramS rb n (touchP n mem T c A ((rg c B + I) % 65536) s at_ size want cause).mem ::
        tlbS tb (touchP n mem T c A ((rg c B + I) % 65536) s at_ size want cause).T :: cellAt cb (.cells (touchP n mem T c A ((rg c B + I) % 65536) s at_ size want cause).c.cells.toArray ty2 (0, 0)) :: F) := by
  rw [show (#[] ++ #[.pointer (some ⟨xb, 0, none⟩)] ++ #[.pointer (some ⟨zb, 0, none⟩), .pointer (some ⟨wb, 0, none⟩), .pointer (some ⟨kb, 0, none⟩)] : Array Value) = #[.pointer (some ⟨xb, 0, none⟩), .pointer (some ⟨zb, 0, none⟩), .pointer (some ⟨wb, 0, none⟩), .pointer (some ⟨kb, 0, none⟩)] by simp]
  refine HCalls.via fun R hR => ?_
  obtain ⟨x0, x1⟩ := rg_bd f (i := B) (by omega) (by omega)
  obtain ⟨⟨-, hTok⟩, -⟩ := tlbS_iff.1 (hs.front 5)
  obtain ⟨⟨hb, hn⟩, -⟩ := ramS_iff.1 (hs.front 4)
  have s1 := hs.push (.cells okT.cells.toArray 56 (0, 0))
  simp only [Trp.cells_eq, okT, okF] at s1
  have gz := (s1.front 1).get
  have gw := (s1.front 2).get
  have g0 := (s1.front 4).get
  simp only [turnL] at g0
  have sreg := (s1.front 7).front 5
  have fin : ∀ (h' : Heap) (mem' : Nat → Int) (T' : List Ln) (c' : Cp) (t' : Trp) (X : List SP), touchP n mem T c A ((rg c B + I) % 65536) s at_ size want cause = ⟨t', mem', T', c'⟩ →
      Sat h' (cellAt xb (.cells (turnL (.pointer (some ⟨rb, 0, none⟩)) (.pointer (some ⟨tb, 0, none⟩)) vv cb ⟨o, A, B, C, I⟩ w s at_ next g).toArray ty (0, 0)) :: ramS rb n mem' :: tlbS tb T' :: cellAt cb (.cells c'.cells.toArray ty2 (0, 0)) :: F) → R (.agg t'.cells.toArray) h' := fun h' mem' T' c' t' X e q => hR _ _ ⟨by rw [e], by rw [e]; exact q⟩
  clear hR
  unfold touchP at fin
  generalize hb1 : rg c (B : Int) = x at *
  obtain ⟨x, rfl⟩ := Int.eq_ofNat_of_zero_le x0
  have lo := fun h => low_S (h := h) ((x + I) % 4294967296) (by omega)
  have e1 : ((((x + I) % 4294967296 : Nat)) : Int) = ((x : Int) + (I : Int)) % 4294967296 := by omega
  have e2 : (((x + I) % 4294967296 % 65536 : Nat) : Int) = ((x : Int) + (I : Int)) % 65536 := by omega
  rw [e1, e2] at lo
  obtain ⟨ad, had⟩ : ∃ ad : Nat, ((x : Int) + (I : Int)) % 65536 = ad := ⟨(((x : Int) + (I : Int)) % 65536).toNat, by omega⟩
  rw [had] at lo fin
  have adl : ad < 65536 := by omega
  refine HCalls.of_dev T125 Tryz.func125 rfl mixed (by kernel_rfl) ?_; rw [Tryz.results125]
  simp (maxSteps := 2000000) (disch := first | (simp only [go_sem, Nat.reduceBEq, Nat.reduceAdd, Nat.reduceMul, Nat.reduceSub, Nat.reduceEqDiff, Nat.reduceLeDiff, Nat.reduceLT, Int.reduceEq, Int.reduceAdd, Int.reduceSub, Int.reduceMul, Int.reduceNeg, Int.reduceLT, Int.reduceLE, Int.reduceToNat, Int.reduceBEq, Int.reduceNe, reduceCtorEq] <;> omega) | omega) only [go_sem, Nat.reduceBEq, Nat.reduceAdd, Nat.reduceMul, Nat.reduceSub, Nat.reduceEqDiff, Nat.reduceLeDiff, Nat.reduceLT, Int.reduceEq, Int.reduceAdd, Int.reduceSub, Int.reduceMul, Int.reduceNeg, Int.reduceLT, Int.reduceLE, Int.reduceToNat, Int.reduceBEq, Int.reduceNe, reduceCtorEq, w64_id, w8_id, w16_id, w32_id, tmod_pos, tdiv_pos, Bool.or_true, Bool.true_or, Bool.or_false, Bool.false_or, Bool.and_false, Bool.false_and, condK_decide]
  refine (regs_S f hA hB hC sreg).mono ?_
  rintro v h2 ⟨rfl, rfl⟩
  rw [hb1]
  simp (maxSteps := 2000000) (disch := first | (simp only [go_sem, Nat.reduceBEq, Nat.reduceAdd, Nat.reduceMul, Nat.reduceSub, Nat.reduceEqDiff, Nat.reduceLeDiff, Nat.reduceLT, Int.reduceEq, Int.reduceAdd, Int.reduceSub, Int.reduceMul, Int.reduceNeg, Int.reduceLT, Int.reduceLE, Int.reduceToNat, Int.reduceBEq, Int.reduceNe, reduceCtorEq, g0, wu32] <;> omega) | omega) only [go_sem, Nat.reduceBEq, Nat.reduceAdd, Nat.reduceMul, Nat.reduceSub, Nat.reduceEqDiff, Nat.reduceLeDiff, Nat.reduceLT, Int.reduceEq, Int.reduceAdd, Int.reduceSub, Int.reduceMul, Int.reduceNeg, Int.reduceLT, Int.reduceLE, Int.reduceToNat, Int.reduceBEq, Int.reduceNe, reduceCtorEq, w64_id, w8_id, w16_id, w32_id, tmod_pos, tdiv_pos, Bool.or_true, Bool.true_or, Bool.or_false, Bool.false_or, Bool.and_false, Bool.false_and, condK_decide, g0, wu32]
  refine (lo _).mono ?_
  rintro v h2 ⟨rfl, rfl⟩
  have hzne : size ≠ 0 := by omega
  by_cases q : (ad : Int) % size = 0
  · rw [if_neg (by omega)] at fin
    simp (maxSteps := 2000000) (disch := first | (simp only [go_sem, Nat.reduceBEq, Nat.reduceAdd, Nat.reduceMul, Nat.reduceSub, Nat.reduceEqDiff, Nat.reduceLeDiff, Nat.reduceLT, Int.reduceEq, Int.reduceAdd, Int.reduceSub, Int.reduceMul, Int.reduceNeg, Int.reduceLT, Int.reduceLE, Int.reduceToNat, Int.reduceBEq, Int.reduceNe, reduceCtorEq, gz, hzne, q, gw] <;> omega) | omega) only [go_sem, Nat.reduceBEq, Nat.reduceAdd, Nat.reduceMul, Nat.reduceSub, Nat.reduceEqDiff, Nat.reduceLeDiff, Nat.reduceLT, Int.reduceEq, Int.reduceAdd, Int.reduceSub, Int.reduceMul, Int.reduceNeg, Int.reduceLT, Int.reduceLE, Int.reduceToNat, Int.reduceBEq, Int.reduceNe, reduceCtorEq, w64_id, w8_id, w16_id, w32_id, tmod_pos, tdiv_pos, Bool.or_true, Bool.true_or, Bool.or_false, Bool.false_or, Bool.and_false, Bool.false_and, condK_decide, gz, hzne, q, gw]
    have bd := reachC_bd mem hTok hn s (ad : Int) want at_ (by omega)
    refine (reachC_S (((s1.front 6).front 6).front 6) ad adl want (by omega)).mono ?_
    rintro v h2 ⟨⟨r, rfl, hr⟩, s2⟩
    generalize reachC n mem T s (ad : Int) want at_ = rc at *
    obtain ⟨ra, f2, T2⟩ := rc
    simp only at fin hr bd s2
    have s3 := s2.push (.cells f2.cells.toArray 47 (0, 0))
    simp only [Flt.cells_eq] at s3
    by_cases k : f2.K = 0
    · rw [if_neg (by omega)] at fin
      obtain ⟨b1, b2, b3⟩ := bd k
      have er := hr k
      subst er
      rw [k] at s3
      have hz3 : size = 1 ∨ size = 2 ∨ size = 4 := by omega
      have hacc : accM n r size = 0 := by
        unfold accM
        rw [if_neg (by omega), if_neg, if_neg (by omega)]
        rw [Int.tmod_eq_emod_of_nonneg (by omega)]
        rcases hz with rfl | rfl <;> omega
      have gz3 := (s3.front 5).get
      have gw3 := (s3.front 6).get
      have g03 := (s3.front 1).get
      have gc3 := (s3.front 8).get
      simp only [turnL] at g03
      have nA : nthL c.cells A = some (.int .u32 (rg c A)) := by rw [nthL_eq]; exact Cp.reg f hA
      obtain ⟨y0, y1⟩ := rg_bd f (i := A) (by omega) (by omega)
      by_cases w2 : want = 2
      · rw [if_pos w2] at fin
        simp (maxSteps := 2000000) (disch := first | (simp only [go_sem, Nat.reduceBEq, Nat.reduceAdd, Nat.reduceMul, Nat.reduceSub, Nat.reduceEqDiff, Nat.reduceLeDiff, Nat.reduceLT, Int.reduceEq, Int.reduceAdd, Int.reduceSub, Int.reduceMul, Int.reduceNeg, Int.reduceLT, Int.reduceLE, Int.reduceToNat, Int.reduceBEq, Int.reduceNe, reduceCtorEq, k, s3.get, gz3, gw3, w2, g03, gc3, nA] <;> omega) | omega) only [go_sem, Nat.reduceBEq, Nat.reduceAdd, Nat.reduceMul, Nat.reduceSub, Nat.reduceEqDiff, Nat.reduceLeDiff, Nat.reduceLT, Int.reduceEq, Int.reduceAdd, Int.reduceSub, Int.reduceMul, Int.reduceNeg, Int.reduceLT, Int.reduceLE, Int.reduceToNat, Int.reduceBEq, Int.reduceNe, reduceCtorEq, w64_id, w8_id, w16_id, w32_id, tmod_pos, tdiv_pos, Bool.or_true, Bool.true_or, Bool.or_false, Bool.false_or, Bool.and_false, Bool.false_and, condK_decide, k, s3.get, gz3, gw3, w2, g03, gc3, nA]
        refine (store_S (s3.front 2) r size (rg c A) hz3 ⟨y0, y1⟩).mono ?_
        rintro v h4 ⟨rfl, s4⟩
        rw [hacc, if_pos rfl] at s4
        have s5 := (s4.front 4).set (.cells okT.cells.toArray 56 (0, 0))
        simp only [Trp.cells_eq, okT, okF] at s5
        simp (maxSteps := 2000000) (disch := first | (simp only [go_sem, Nat.reduceBEq, Nat.reduceAdd, Nat.reduceMul, Nat.reduceSub, Nat.reduceEqDiff, Nat.reduceLeDiff, Nat.reduceLT, Int.reduceEq, Int.reduceAdd, Int.reduceSub, Int.reduceMul, Int.reduceNeg, Int.reduceLT, Int.reduceLE, Int.reduceToNat, Int.reduceBEq, Int.reduceNe, reduceCtorEq, (s4.front 4).get, s5.get] <;> omega) | omega) only [go_sem, Nat.reduceBEq, Nat.reduceAdd, Nat.reduceMul, Nat.reduceSub, Nat.reduceEqDiff, Nat.reduceLeDiff, Nat.reduceLT, Int.reduceEq, Int.reduceAdd, Int.reduceSub, Int.reduceMul, Int.reduceNeg, Int.reduceLT, Int.reduceLE, Int.reduceToNat, Int.reduceBEq, Int.reduceNe, reduceCtorEq, w64_id, w8_id, w16_id, w32_id, tmod_pos, tdiv_pos, Bool.or_true, Bool.true_or, Bool.or_false, Bool.false_or, Bool.and_false, Bool.false_and, condK_decide, (s4.front 4).get, s5.get]
        have y := s5.tail.drop1.swap
        exact fin _ _ _ _ _ [] rfl (((y.front 3).tail.front 3).tail.front 3).tail
      · rw [if_neg w2] at fin
        simp (maxSteps := 2000000) (disch := first | (simp only [go_sem, Nat.reduceBEq, Nat.reduceAdd, Nat.reduceMul, Nat.reduceSub, Nat.reduceEqDiff, Nat.reduceLeDiff, Nat.reduceLT, Int.reduceEq, Int.reduceAdd, Int.reduceSub, Int.reduceMul, Int.reduceNeg, Int.reduceLT, Int.reduceLE, Int.reduceToNat, Int.reduceBEq, Int.reduceNe, reduceCtorEq, k, s3.get, gz3, gw3, w2, g03, gc3] <;> omega) | omega) only [go_sem, Nat.reduceBEq, Nat.reduceAdd, Nat.reduceMul, Nat.reduceSub, Nat.reduceEqDiff, Nat.reduceLeDiff, Nat.reduceLT, Int.reduceEq, Int.reduceAdd, Int.reduceSub, Int.reduceMul, Int.reduceNeg, Int.reduceLT, Int.reduceLE, Int.reduceToNat, Int.reduceBEq, Int.reduceNe, reduceCtorEq, w64_id, w8_id, w16_id, w32_id, tmod_pos, tdiv_pos, Bool.or_true, Bool.true_or, Bool.or_false, Bool.false_or, Bool.and_false, Bool.false_and, condK_decide, k, s3.get, gz3, gw3, w2, g03, gc3]
        refine (load_S (s3.front 2) r size hz3).mono ?_
        rintro v h4 ⟨rfl, rfl⟩
        rw [hacc, if_pos rfl]
        obtain ⟨l1, l2⟩ := loadM_bd hb r.toNat size.toNat (by rcases hz with rfl | rfl <;> simp <;> omega)
        generalize loadM mem r.toNat size.toNat = ld at *
        have l := Cp.len f
        have l1 : A < c.cells.length := by omega
        have sc := setR_cells f hA (v := ld)
        have s4 := (s3.front 8).set (.cells (setR c A ld).cells.toArray ty2 (0, 0))
        have s5 := (s4.front 5).set (.cells okT.cells.toArray 56 (0, 0))
        have g4 := (s4.front 5).get
        simp only [Trp.cells_eq, okT, okF] at s5
        simp (maxSteps := 2000000) (disch := first | (simp only [go_sem, Nat.reduceBEq, Nat.reduceAdd, Nat.reduceMul, Nat.reduceSub, Nat.reduceEqDiff, Nat.reduceLeDiff, Nat.reduceLT, Int.reduceEq, Int.reduceAdd, Int.reduceSub, Int.reduceMul, Int.reduceNeg, Int.reduceLT, Int.reduceLE, Int.reduceToNat, Int.reduceBEq, Int.reduceNe, reduceCtorEq, gc3, l1, sc, g4, s5.get] <;> omega) | omega) only [go_sem, Nat.reduceBEq, Nat.reduceAdd, Nat.reduceMul, Nat.reduceSub, Nat.reduceEqDiff, Nat.reduceLeDiff, Nat.reduceLT, Int.reduceEq, Int.reduceAdd, Int.reduceSub, Int.reduceMul, Int.reduceNeg, Int.reduceLT, Int.reduceLE, Int.reduceToNat, Int.reduceBEq, Int.reduceNe, reduceCtorEq, w64_id, w8_id, w16_id, w32_id, tmod_pos, tdiv_pos, Bool.or_true, Bool.true_or, Bool.or_false, Bool.false_or, Bool.and_false, Bool.false_and, condK_decide, gc3, l1, sc, g4, s5.get]
        have y := s5.tail.drop1.back 3
        exact fin _ _ _ _ _ [] rfl (((y.front 4).tail.front 4).tail.front 4).tail
    · rw [if_pos k] at fin
      have gk3 := (s3.front 7).get
      have s5 := (s3.front 4).set (.cells (⟨cause, 0, (ad : Int), f2⟩ : Trp).cells.toArray 56 (0, 0))
      simp only [Trp.cells_eq] at s5
      simp (maxSteps := 2000000) (disch := first | (simp only [go_sem, Nat.reduceBEq, Nat.reduceAdd, Nat.reduceMul, Nat.reduceSub, Nat.reduceEqDiff, Nat.reduceLeDiff, Nat.reduceLT, Int.reduceEq, Int.reduceAdd, Int.reduceSub, Int.reduceMul, Int.reduceNeg, Int.reduceLT, Int.reduceLE, Int.reduceToNat, Int.reduceBEq, Int.reduceNe, reduceCtorEq, k, s3.get, gk3, (s3.front 4).get, s5.get] <;> omega) | omega) only [go_sem, Nat.reduceBEq, Nat.reduceAdd, Nat.reduceMul, Nat.reduceSub, Nat.reduceEqDiff, Nat.reduceLeDiff, Nat.reduceLT, Int.reduceEq, Int.reduceAdd, Int.reduceSub, Int.reduceMul, Int.reduceNeg, Int.reduceLT, Int.reduceLE, Int.reduceToNat, Int.reduceBEq, Int.reduceNe, reduceCtorEq, w64_id, w8_id, w16_id, w32_id, tmod_pos, tdiv_pos, Bool.or_true, Bool.true_or, Bool.or_false, Bool.false_or, Bool.and_false, Bool.false_and, condK_decide, k, s3.get, gk3, (s3.front 4).get, s5.get]
      have y := s5.tail.tail
      exact fin _ _ _ _ _ [] rfl (((y.front 3).tail.front 3).tail.front 3).tail
  · rw [if_pos q] at fin
    have s3 := hs.push (.cells (⟨4, 0, (ad : Int), okF⟩ : Trp).cells.toArray 56 (0, 0))
    simp (maxSteps := 2000000) (disch := first | (simp only [go_sem, Nat.reduceBEq, Nat.reduceAdd, Nat.reduceMul, Nat.reduceSub, Nat.reduceEqDiff, Nat.reduceLeDiff, Nat.reduceLT, Int.reduceEq, Int.reduceAdd, Int.reduceSub, Int.reduceMul, Int.reduceNeg, Int.reduceLT, Int.reduceLE, Int.reduceToNat, Int.reduceBEq, Int.reduceNe, reduceCtorEq, gz, hzne, q, s1.get] <;> omega) | omega) only [go_sem, Nat.reduceBEq, Nat.reduceAdd, Nat.reduceMul, Nat.reduceSub, Nat.reduceEqDiff, Nat.reduceLeDiff, Nat.reduceLT, Int.reduceEq, Int.reduceAdd, Int.reduceSub, Int.reduceMul, Int.reduceNeg, Int.reduceLT, Int.reduceLE, Int.reduceToNat, Int.reduceBEq, Int.reduceNe, reduceCtorEq, w64_id, w8_id, w16_id, w32_id, tmod_pos, tdiv_pos, Bool.or_true, Bool.true_or, Bool.or_false, Bool.false_or, Bool.and_false, Bool.false_and, condK_decide, gz, hzne, q, s1.get]
    exact fin _ _ _ _ _ [] rfl (s3.tail.tail.tail.tail)
end
end Go.Eng
