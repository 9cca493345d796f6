/-
  viceroyref09: Step.
-/
import Derived.Test.YtaijcllgdlalpaaGreatDoorZj37
import Derived.Test.YtaijcllgdlalpaaGreatDoorZj29
set_option linter.unusedSimpArgs false
set_option linter.unusedVariables false
set_option maxRecDepth 16000
set_option maxHeartbeats 4000000
namespace Go.Eng
open Go Go.Proofs
theorem gdV_undef {c w : Bool} : gdV c w undef = false := rfl
theorem pickK_undef {c : Bool} {F : Bool → Prop} {K : Value → Prop} : pickK c undef F K = (c = false ∧ K undef) := rfl
theorem reckon_bd5 (op x y : Int) {I : Int} (h0 : 0 ≤ I) (h1 : I < 65536) : 0 ≤ reckon op x y I ∧ reckon op x y I < 4294967296 := by
  unfold reckon
  split
  · omega
  split
  · exact add_do_bd _ _
  split
  · exact sub_do_bd _ _
  split
  · exact and_do_bd _ _
  split
  · exact xor_do_bd _ _
  · exact shl_do_bd _ _
theorem touchP_c {n : Nat} {mem : Nat → Int} {T : List Ln} {c : Cp} {A ad : Int} {s : Spc} {at_ size want cause : Int} (h : (touchP n mem T c A ad s at_ size want cause).t.C ≠ 0) : (touchP n mem T c A ad s at_ size want cause).c = c := by
  unfold touchP at h ⊢
  split
  · rfl
  · rename_i q
    rw [if_neg q] at h
    split
    · rfl
    · rename_i k
      rw [if_neg k] at h
      split
      · rfl
      · rename_i w
        rw [if_neg w] at h
        exact absurd rfl h
section
variable {h : Heap} {F : List SP} {rb n tb : Nat} {mem : Nat → Int} {T : List Ln} {wv : Value} {s : Spc} {at_ : Int} {c : Cp} {op A B C I : Nat}
theorem rtouched_S (f : c.fit) (hpc : 0 ≤ c.Pc ∧ c.Pc < 65536) (hA : A < 16) (hB : B < 16) (hI : I < 65536) (ho1 : 7 ≤ op) (ho2 : op ≤ 10) (u : uniqT T) (hs : Sat h (refRamS rb n mem :: tlbS tb T :: F)) :
    HCalls Tryz.prog 53 #[.agg #[.pointer (some ⟨rb, 0, none⟩), .pointer (some ⟨tb, 0, none⟩), wv], .agg c.cells.toArray, .agg (⟨op, A, B, C, I⟩ : Ins).cells.toArray, .agg s.cells.toArray, .int .i64 at_] h fun v h' =>
      ∃ (c' : Cp) (t' : Trp) (mem' : Nat → Int) (T' : List Ln), v = .tuple #[.agg c'.cells.toArray, .agg t'.cells.toArray] ∧ c'.fit ∧ (∀ V, doP n ⟨mem, T, V⟩ c ⟨op, A, B, C, I⟩ s at_ = ⟨⟨mem', T', V⟩, c', t'⟩) ∧ Sat h' (refRamS rb n mem' :: tlbS tb T' :: F) := by
  obtain ⟨⟨-, hTok⟩, -⟩ := tlbS_iff.1 (hs.front 1)
  obtain ⟨⟨hb, hn⟩, -⟩ := refRamS_iff.1 hs
  have key : ∀ (size want cause : Int) (v : Value) (h' : Heap), cause ≠ 0 → (size = 4 ∨ size = 1) → (∀ V, doP n ⟨mem, T, V⟩ c ⟨op, A, B, C, I⟩ s at_ = touch n ⟨mem, T, V⟩ c ⟨op, A, B, C, I⟩ s at_ size want cause) →
      v = tchV (touchP n mem T c A ((rg c B + I) % 65536) s at_ size want cause) c.Pc ∧ Sat h' (refRamS rb n (touchP n mem T c A ((rg c B + I) % 65536) s at_ size want cause).mem :: tlbS tb (touchP n mem T c A ((rg c B + I) % 65536) s at_ size want cause).T :: F) →
      ∃ (c' : Cp) (t' : Trp) (mem' : Nat → Int) (T' : List Ln), v = .tuple #[.agg c'.cells.toArray, .agg t'.cells.toArray] ∧ c'.fit ∧ (∀ V, doP n ⟨mem, T, V⟩ c ⟨op, A, B, C, I⟩ s at_ = ⟨⟨mem', T', V⟩, c', t'⟩) ∧ Sat h' (refRamS rb n mem' :: tlbS tb T' :: F) := by
    rintro size want cause v h' hc hz hd ⟨rfl, q⟩
    have te := fun V => touch_eq n ⟨mem, T, V⟩ c ⟨op, A, B, C, I⟩ s at_ size want cause hc
    have ft := touch_fit f hb hn hTok A ((rg c B + I) % 65536) (s := s) (at_ := at_) (size := size) (want := want) (cause := cause) hz (by omega)
    have tc := touchP_c (n := n) (mem := mem) (T := T) (c := c) (A := A) (ad := (rg c B + I) % 65536) (s := s) (at_ := at_) (size := size) (want := want) (cause := cause)
    simp only at te
    generalize touchP n mem T c A ((rg c B + I) % 65536) s at_ size want cause = t at *
    by_cases z : t.t.C = 0
    · refine ⟨{ t.c with Pc := (c.Pc + 4) % 65536 }, t.t, t.mem, t.T, by unfold tchV; rw [if_pos z], setPc_fit ft (by omega) (by omega), fun V => ?_, q⟩
      rw [hd, te, if_neg (fun w => w z)]
    · refine ⟨t.c, t.t, t.mem, t.T, by unfold tchV; rw [if_neg z], ft, fun V => ?_, q⟩
      rw [hd, te, if_pos z, tc z]
  have hop : op = 7 ∨ op = 8 ∨ op = 9 ∨ op = 10 := by omega
  rcases hop with rfl | rfl | rfl | rfl
  · exact (rtouchL_S f hpc hA hB hI (.inl ⟨rfl, rfl⟩) u hs).mono fun v h' q => key 4 1 2 v h' (by decide) (.inl rfl) (fun V => rfl) q
  · exact (rtouchS_S f hpc hA hB hI (.inl ⟨rfl, rfl⟩) u hs).mono fun v h' q => key 4 2 3 v h' (by decide) (.inl rfl) (fun V => rfl) q
  · exact (rtouchL_S f hpc hA hB hI (.inr ⟨rfl, rfl⟩) u hs).mono fun v h' q => key 1 1 2 v h' (by decide) (.inr rfl) (fun V => rfl) q
  · exact (rtouchS_S f hpc hA hB hI (.inr ⟨rfl, rfl⟩) u hs).mono fun v h' q => key 1 2 3 v h' (by decide) (.inr rfl) (fun V => rfl) q
end
section
variable {h : Heap} {F : List SP} {rb n tb : Nat} {wv : Value} {c : Cp} {M : Mch}
theorem rstep_S (f : c.fit) (u : uniqT M.T) (vm se at_ : Int) (hvm : vmT vm M.T) (hs : Sat h (refRamS rb n M.mem :: tlbS tb M.T :: rvS wv M.V :: F)) :
    HCalls Tryz.prog 17 #[.agg #[.pointer (some ⟨rb, 0, none⟩), .pointer (some ⟨tb, 0, none⟩), wv], .agg c.cells.toArray, .int .i64 vm, .int .i64 se, .int .i64 at_] h fun v h' =>
      v = .tuple #[.agg (stepP n M c vm se at_).c.cells.toArray, .agg (stepP n M c vm se at_).t.cells.toArray] ∧ (stepP n M c vm se at_).c.fit ∧ Sat h' (refRamS rb n (stepP n M c vm se at_).M.mem :: tlbS tb (stepP n M c vm se at_).M.T :: rvS wv (stepP n M c vm se at_).M.V :: F) := by
  refine HCalls.via fun R hR => ?_
  have tk := take_cpu f
  have n16 : nthL c.cells 16 = some (.int .i64 c.Pc) := by rw [nthL_eq]; exact Cp.pc f
  obtain ⟨⟨hT8, hTok⟩, -⟩ := tlbS_iff.1 (hs.front 1)
  obtain ⟨⟨hb, hn⟩, -⟩ := refRamS_iff.1 hs
  have hvv : vvOk wv M.V.isSome := by
    have := hs.front 2
    cases hV : M.V with
    | none => rw [hV] at this; exact .inl ⟨rfl, (rvS_none.1 this).1⟩
    | some m => rw [hV] at this; obtain ⟨wb, x, e, -⟩ := rvS_some.1 this; exact .inr ⟨rfl, _, e⟩
  have fin : ∀ (h' : Heap) (o : Out), stepP n M c vm se at_ = o → o.c.fit → Sat h' (refRamS rb n o.M.mem :: tlbS tb o.M.T :: rvS wv o.M.V :: F) → R (.tuple #[.agg o.c.cells.toArray, .agg o.t.cells.toArray]) h' := fun h' o e q q2 => hR _ _ ⟨by rw [e], by rw [e]; exact q, by rw [e]; exact q2⟩
  clear hR
  have z := (((hs.push (.cells #[.pointer (some ⟨rb, 0, none⟩), .pointer (some ⟨tb, 0, none⟩), wv] 41 (0, 0))).push (.cells c.cells.toArray 30 (0, 0))).push (.cells (tzeroD Tryz.prog 30).cells 30 (0, 0))).push (.cells okT.cells.toArray 56 (0, 0))
  simp only [tzeroD_30, Value.cells, Trp.cells_eq, okT, okF, size_push'] at z
  unfold stepP at fin
  refine HCalls.of_dev T17 Tryz.func17 rfl mixed (by kernel_rfl) ?_; rw [Tryz.results17]
  by_cases q : c.Pc % 4 ≠ 0 ∨ c.Pc < 0 ∨ 65536 ≤ c.Pc
  · simp only [if_pos q] at fin
    have w1 := (z.front 1).set (.cells c.cells.toArray 30 (0, 0))
    have w2 := (w1.front 1).set (.cells (⟨4, 0, c.Pc, okF⟩ : Trp).cells.toArray 56 (0, 0))
    simp only [Trp.cells_eq, okF] at w2
    have wm : IntKind.i64.wrap (c.Pc.tmod 4) = c.Pc.tmod 4 := by
      have h1 := Int.tmod_lt_of_pos c.Pc (show (0 : Int) < 4 by decide)
      have h2 : -4 < c.Pc.tmod 4 := by rw [Int.tmod_eq_emod]; split <;> omega
      exact w64_id (by omega) (by omega)
    have tm : c.Pc.tmod 4 = 0 ↔ c.Pc % 4 = 0 := by
      rw [Int.tmod_eq_emod]
      split <;> omega
    by_cases t0 : c.Pc.tmod 4 = 0
    · by_cases t1 : c.Pc < 0
      · simp (maxSteps := 2000000) (disch := first | (simp only [go_sem, simprocAttr, n16, tk, wm, t0, t1] <;> omega) | omega) only [go_sem, simprocAttr, n16, tk, wm, t0, t1]
        refine store_cpu f (z.front 1).get (by rfl) ?_
        simp (maxSteps := 2000000) (disch := first | (simp only [go_sem, simprocAttr, (w1.front 1).get, (w1.front 2).get, n16, w2.get, (w2.front 1).get, tk] <;> omega) | omega) only [go_sem, simprocAttr, (w1.front 1).get, (w1.front 2).get, n16, w2.get, (w2.front 1).get, tk]
        exact fin _ _ rfl f w2.tail.tail.tail.tail
      · have t2 : 65535 < c.Pc := by have := tm.1 t0; omega
        have t3 := tm.1 t0
        simp (maxSteps := 2000000) (disch := first | (simp only [go_sem, simprocAttr, n16, tk, wm, t0, t3, t1, t2] <;> omega) | omega) only [go_sem, simprocAttr, n16, tk, wm, t0, t3, t1, t2]
        refine store_cpu f (z.front 1).get (by rfl) ?_
        simp (maxSteps := 2000000) (disch := first | (simp only [go_sem, simprocAttr, (w1.front 1).get, (w1.front 2).get, n16, w2.get, (w2.front 1).get, tk] <;> omega) | omega) only [go_sem, simprocAttr, (w1.front 1).get, (w1.front 2).get, n16, w2.get, (w2.front 1).get, tk]
        exact fin _ _ rfl f w2.tail.tail.tail.tail
    · have t3 : ¬ c.Pc % 4 = 0 := fun w => t0 (tm.2 w)
      simp (maxSteps := 2000000) (disch := first | (simp only [go_sem, simprocAttr, n16, tk, wm, t0, t3] <;> omega) | omega) only [go_sem, simprocAttr, n16, tk, wm, t0, t3]
      refine store_cpu f (z.front 1).get (by rfl) ?_
      simp (maxSteps := 2000000) (disch := first | (simp only [go_sem, simprocAttr, (w1.front 1).get, (w1.front 2).get, n16, w2.get, (w2.front 1).get, tk] <;> omega) | omega) only [go_sem, simprocAttr, (w1.front 1).get, (w1.front 2).get, n16, w2.get, (w2.front 1).get, tk]
      exact fin _ _ rfl f w2.tail.tail.tail.tail
  simp only [if_neg q] at fin
  have t0 : c.Pc % 4 = 0 := by omega
  have t1 : ¬ c.Pc < 0 := by omega
  have t2 : ¬ 65535 < c.Pc := by omega
  have hpc : 0 ≤ c.Pc ∧ c.Pc < 65536 := by omega
  simp (maxSteps := 2000000) (disch := first | (simp only [go_sem, simprocAttr, n16, tk, t0, t1, t2] <;> omega) | omega) only [go_sem, simprocAttr, n16, tk, t0, t1, t2]
  refine (rspace_S c f (.pointer (some ⟨rb, 0, none⟩)) (.pointer (some ⟨tb, 0, none⟩)) wv M.V.isSome hvv vm se).mono ?_
  rintro v h1 ⟨rfl, e1⟩
  have hsv : (spaceP M.V.isSome c vm se).Vmid = vm := by unfold spaceP; split <;> rfl
  have hsa : 0 ≤ (spaceP M.V.isSome c vm se).Asid := by unfold spaceP; split <;> simp only <;> omega
  unfold stepF at fin
  generalize spaceP M.V.isSome c vm se = sp at *
  have z1 := (z.grow e1).push (.cells sp.cells.toArray 78 (0, 0))
  simp only [Spc.cells_eq] at z1
  simp (maxSteps := 2000000) (disch := first | (simp only [go_sem, simprocAttr, z1.get, (z1.front 3).get, (z1.front 4).get, tk, n16] <;> omega) | omega) only [go_sem, simprocAttr, z1.get, (z1.front 3).get, (z1.front 4).get, tk, n16]
  refine (rreachC_S (((z1.front 6).front 6)) u sp c.Pc 4 at_ hpc.1 hpc.2 (.inr (.inr rfl))).mono ?_
  rintro v h2 ⟨rfl, s2⟩
  have bd := reachC_bd M.mem hTok hn sp c.Pc 4 at_ hpc.1
  have u2 := uniqT_reachC (n := n) (mem := M.mem) u sp c.Pc 4 at_
  have hvm2 := vmT_reachC (n := n) (mem := M.mem) hvm hsv c.Pc 4 at_
  obtain ⟨⟨-, hTok2⟩, -⟩ := tlbS_iff.1 (s2.front 1)
  generalize reachC n M.mem M.T sp c.Pc 4 at_ = rc at *
  obtain ⟨r, f2, T2⟩ := rc
  simp only at fin bd s2 u2 hvm2 hTok2 ⊢
  have s3 := s2.push (.cells f2.cells.toArray 47 (0, 0))
  simp only [Flt.cells_eq] at s3
  by_cases k : f2.K = 0
  case neg =>
    rw [if_pos k] at fin
    rw [if_neg k]
    have w1 := (s3.front 5).set (.cells c.cells.toArray 30 (0, 0))
    have w2 := (w1.front 5).set (.cells (⟨1, 0, c.Pc, f2⟩ : Trp).cells.toArray 56 (0, 0))
    simp only [Trp.cells_eq] at w2
    simp (maxSteps := 2000000) (disch := first | (simp only [go_sem, simprocAttr, s3.get, k, (s3.front 6).get, n16, tk] <;> omega) | omega) only [go_sem, simprocAttr, s3.get, k, (s3.front 6).get, n16, tk]
    refine store_cpu f (s3.front 5).get (by rfl) ?_
    simp (maxSteps := 2000000) (disch := first | (simp only [go_sem, simprocAttr, (w1.front 1).get, (w1.front 5).get, (w1.front 6).get, n16, w2.get, (w2.front 1).get, tk] <;> omega) | omega) only [go_sem, simprocAttr, (w1.front 1).get, (w1.front 5).get, (w1.front 6).get, n16, w2.get, (w2.front 1).get, tk]
    exact fin _ _ rfl f (Sat.drop2 (Sat.drop2 (Sat.drop2 w2.tail.tail.tail)))
  rw [if_neg (by omega)] at fin
  rw [if_pos k]
  obtain ⟨r0, r1, r2⟩ := bd k
  have hacc : accM n r 4 = 0 := by
    unfold accM
    rw [if_neg (by omega), if_neg, if_neg (by omega)]
    rw [Int.tmod_eq_emod_of_nonneg (by omega)]
    omega
  obtain ⟨l1, l2⟩ := loadM_bd hb r.toNat 4 (by omega)
  rw [k] at s3
  simp (maxSteps := 2000000) (disch := first | (simp only [go_sem, simprocAttr, s3.get, k, (s3.front 7).get] <;> omega) | omega) only [go_sem, simprocAttr, s3.get, k, (s3.front 7).get]
  refine (refLoad_S (s3.front 1) r 4).mono ?_
  rintro v h3 ⟨rfl, rfl⟩
  rw [hacc, if_pos rfl]
  rw [show (4 : Int).toNat = 4 from rfl]
  obtain ⟨w, hw⟩ : ∃ w : Nat, loadM M.mem r.toNat 4 = w := ⟨(loadM M.mem r.toNat 4).toNat, by omega⟩
  rw [hw] at l1 l2 fin ⊢
  have hw2 : w < 4294967296 := by have : (256 : Int) ^ 4 = 4294967296 := by decide
                                  omega
  rw [Int.toNat_natCast] at fin
  simp (maxSteps := 2000000) (disch := first | (simp only [go_sem, simprocAttr] <;> omega) | omega) only [go_sem, simprocAttr]
  refine (refDecode_S w hw2).mono ?_
  rintro v h4 ⟨rfl, e4⟩
  have s4 := s3.grow e4
  unfold decV
  have UND : (rightI (decI w) = false ∨ guestO (decI w).Op = true ∧ M.V = none) → ∀ (h' : Heap) (G : List SP), Sat h' (refRamS rb n M.mem :: tlbS tb T2 :: rvS wv M.V :: F) → R (.tuple #[.agg c.cells.toArray, .agg (⟨8, w, c.Pc, okF⟩ : Trp).cells.toArray]) h' := by
    intro hu h' G q
    rw [if_pos hu] at fin
    exact fin _ _ rfl f q
  cases rr : rightI (decI w) with
  | false =>
    simp only [Bool.false_eq_true, if_false]
    have s5 := s4.push (.cells zeroI.cells.toArray 84 (0, 0))
    simp only [Ins.cells_eq] at s5
    have w1 := (s5.front 6).set (.cells c.cells.toArray 30 (0, 0))
    have w2 := (w1.front 6).set (.cells (⟨8, w, c.Pc, okF⟩ : Trp).cells.toArray 56 (0, 0))
    simp only [Trp.cells_eq, okF] at w2
    simp (maxSteps := 2000000) (disch := first | (simp only [go_sem, simprocAttr, (s5.front 7).get, n16, tk, gdV_undef, pickK_undef] <;> omega) | omega) only [go_sem, simprocAttr, (s5.front 7).get, n16, tk, gdV_undef, pickK_undef]
    refine rdK_any fun _ => rdK_any fun _ => ?_
    refine store_cpu f (s5.front 6).get (by rfl) ?_
    simp (maxSteps := 2000000) (disch := first | (simp only [go_sem, simprocAttr, (w1.front 6).get, (w1.front 7).get, n16, w2.get, (w2.front 1).get, tk] <;> omega) | omega) only [go_sem, simprocAttr, (w1.front 6).get, (w1.front 7).get, n16, w2.get, (w2.front 1).get, tk]
    exact UND (.inl rr) _ [] (Sat.drop2 (Sat.drop2 (Sat.drop2 w2.tail.tail.tail.tail)))
  | true =>
    simp only [if_true]
    have ib := rightI_B rr
    obtain ⟨o1, o2, ia1, ia2, ib1, ib2, ic1, ic2, im1, im2, -⟩ := ib
    rw [rr] at fin UND
    generalize decI w = i at *
    obtain ⟨op, A, B, C, I⟩ := i
    simp only at o1 o2 ia1 ia2 ib1 ib2 ic1 ic2 im1 im2
    obtain ⟨op, rfl⟩ := Int.eq_ofNat_of_zero_le (show 0 ≤ op by omega)
    obtain ⟨A, rfl⟩ := Int.eq_ofNat_of_zero_le ia1
    obtain ⟨B, rfl⟩ := Int.eq_ofNat_of_zero_le ib1
    obtain ⟨C, rfl⟩ := Int.eq_ofNat_of_zero_le ic1
    obtain ⟨I, rfl⟩ := Int.eq_ofNat_of_zero_le im1
    have op1 : 1 ≤ op := by omega
    have op2 : op ≤ 25 := by omega
    have hA : A < 16 := by omega
    have hB : B < 16 := by omega
    have hC : C < 16 := by omega
    have hI : I < 65536 := by omega
    have s5 := s4.push (.cells (⟨op, A, B, C, I⟩ : Ins).cells.toArray 84 (0, 0))
    simp only [Ins.cells_eq] at s5
    have nB : nthL c.cells B = some (.int .u32 (rg c B)) := by rw [nthL_eq]; exact Cp.reg f hB
    have nC : nthL c.cells C = some (.int .u32 (rg c C)) := by rw [nthL_eq]; exact Cp.reg f hC
    obtain ⟨y0, y1⟩ := rg_bd f (i := B) (by omega) (by omega)
    obtain ⟨x0, x1⟩ := rg_bd f (i := C) (by omega) (by omega)
    have a0 : (0 : Int) ≤ A := by omega
    have a1 : (A : Int) < 16 := by omega
    have b0 : (0 : Int) ≤ B := by omega
    have b1 : (B : Int) < 16 := by omega
    have c0 : (0 : Int) ≤ C := by omega
    have c1 : (C : Int) < 16 := by omega
    have ep : (c.Pc + 4).tmod 65536 = (c.Pc + 4) % 65536 := Int.tmod_eq_emod_of_nonneg (by omega)
    by_cases hu : guestO (op : Nat) = true ∧ M.V = none
    · have hwv : wv = .pointer none := by
        have := s5.front 9
        rw [hu.2] at this
        exact (rvS_none.1 this).1
      subst hwv
      have w1 := (s5.front 6).set (.cells c.cells.toArray 30 (0, 0))
      have w2 := (w1.front 6).set (.cells (⟨8, w, c.Pc, okF⟩ : Trp).cells.toArray 56 (0, 0))
      simp only [Trp.cells_eq, okF] at w2
      simp (maxSteps := 2000000) (disch := first | (simp only [go_sem, simprocAttr, s5.get] <;> omega) | omega) only [go_sem, simprocAttr, s5.get]
      refine (rguests_S (op : Nat)).mono ?_
      rintro v h5 ⟨rfl, rfl⟩
      rw [hu.1]
      simp (maxSteps := 2000000) (disch := first | (simp only [go_sem, simprocAttr, (s5.front 8).get, (s5.front 7).get, n16, tk] <;> omega) | omega) only [go_sem, simprocAttr, (s5.front 8).get, (s5.front 7).get, n16, tk]
      refine store_cpu f (s5.front 6).get (by rfl) ?_
      simp (maxSteps := 2000000) (disch := first | (simp only [go_sem, simprocAttr, (w1.front 6).get, (w1.front 7).get, n16, w2.get, (w2.front 1).get, tk] <;> omega) | omega) only [go_sem, simprocAttr, (w1.front 6).get, (w1.front 7).get, n16, w2.get, (w2.front 1).get, tk]
      exact UND (.inr hu) _ [] (Sat.drop2 (Sat.drop2 (Sat.drop2 w2.tail.tail.tail.tail)))
    rw [if_neg (by rintro (z | z); exact absurd z (by simp); exact hu z)] at fin
    have hgF : op ≤ 16 → guestO (op : Nat) = false := by
      intro hle
      unfold guestO
      simp only [Bool.or_eq_false_iff, decide_eq_false_iff_not]
      omega
    by_cases r1 : op ≤ 6
    · have q1 : (op : Int) ≤ 6 := by omega
      rw [doP, if_pos q1] at fin
      simp (maxSteps := 2000000) (disch := first | (simp only [go_sem, simprocAttr, s5.get] <;> omega) | omega) only [go_sem, simprocAttr, s5.get]
      refine (rguests_S (op : Nat)).mono ?_
      rintro v h5 ⟨rfl, rfl⟩
      rw [hgF (by omega)]
      simp (maxSteps := 2000000) (disch := first | (simp only [go_sem, simprocAttr, q1, (s5.front 4).get, (s5.front 7).get, (s5.front 8).get, nB, nC, a0, a1, b0, b1, c0, c1, n16, tk] <;> omega) | omega) only [go_sem, simprocAttr, q1, (s5.front 4).get, (s5.front 7).get, (s5.front 8).get, nB, nC, a0, a1, b0, b1, c0, c1, n16, tk]
      refine rdK_any fun _ => ?_
      refine (rreckoned_S op A B C I op1 r1 hI _ _ y0 y1 x0 x1).mono ?_
      rintro v h6 ⟨rfl, e6⟩
      have rb := reckon_bd5 (op : Nat) (rg c B) (rg c C) (I := I) (by omega) (by omega)
      generalize reckon (op : Nat) (rg c B) (rg c C) I = zz at *
      have fR := setR_fit f (a := A) (v := zz) rb
      have tkR := take_cpu fR
      have l := Cp.len f
      have lA : A < c.cells.length := by omega
      have sc := setR_cells f hA (v := zz)
      have nR : nthL (setR c A zz).cells 16 = some (.int .i64 c.Pc) := by rw [nthL_eq]; exact Cp.pc fR
      have s6 := s5.grow e6
      have s7 := (s6.front 7).set (.cells (setR c A zz).cells.toArray 30 (0, 0))
      simp (maxSteps := 2000000) (disch := first | (simp only [go_sem, simprocAttr, s6.get, (s6.front 7).get, a0, a1, lA, sc, s7.get, tkR, nR] <;> omega) | omega) only [go_sem, simprocAttr, s6.get, (s6.front 7).get, a0, a1, lA, sc, s7.get, tkR, nR]
      refine (rgoes_S fR _).mono ?_
      rintro v h7 ⟨rfl, e7⟩
      rw [ep]
      have fP := setPc_fit fR (v := (c.Pc + 4) % 65536) (by omega) (by omega)
      have tkP := take_cpu fP
      have s8 := s7.grow e7
      have w1 := (s8.front 7).set (.cells ({ setR c A zz with Pc := (c.Pc + 4) % 65536 } : Cp).cells.toArray 30 (0, 0))
      have w2 := (w1.front 7).set (.cells okT.cells.toArray 56 (0, 0))
      simp only [Trp.cells_eq, okT, okF] at w2
      simp (maxSteps := 2000000) (disch := first | (simp only [go_sem, simprocAttr] <;> omega) | omega) only [go_sem, simprocAttr]
      refine store_cpu fP (s8.front 7).get (by rfl) ?_
      simp (maxSteps := 2000000) (disch := first | (simp only [go_sem, simprocAttr, (w1.front 7).get, w2.get, (w2.front 1).get, tkP] <;> omega) | omega) only [go_sem, simprocAttr, (w1.front 7).get, w2.get, (w2.front 1).get, tkP]
      exact fin _ _ rfl fP (Sat.drop2 (Sat.drop2 w2.tail.tail.tail.tail.tail))
    by_cases r2 : op ≤ 10
    · have q1 : ¬ (op : Int) ≤ 6 := by omega
      have q2 : (op : Int) ≤ 10 := by omega
      simp (maxSteps := 2000000) (disch := first | (simp only [go_sem, simprocAttr, s5.get] <;> omega) | omega) only [go_sem, simprocAttr, s5.get]
      refine (rguests_S (op : Nat)).mono ?_
      rintro v h5 ⟨rfl, rfl⟩
      rw [hgF (by omega)]
      simp (maxSteps := 2000000) (disch := first | (simp only [go_sem, simprocAttr, q1, q2, (s5.front 4).get, (s5.front 7).get, (s5.front 8).get, nB, nC, a0, a1, b0, b1, c0, c1, n16, tk, s5.get] <;> omega) | omega) only [go_sem, simprocAttr, q1, q2, (s5.front 4).get, (s5.front 7).get, (s5.front 8).get, nB, nC, a0, a1, b0, b1, c0, c1, n16, tk, s5.get]
      refine rdK_any fun _ => ?_
      refine (rtouched_S f hpc hA hB hI (by omega) r2 u2 ((s5.front 3).front 3)).mono ?_
      rintro v h6 ⟨c', t', mem', T', rfl, f', hd, s6⟩
      have w1 := (s6.front 6).set (.cells c'.cells.toArray 30 (0, 0))
      have w2 := (w1.front 6).set (.cells t'.cells.toArray 56 (0, 0))
      simp only [Trp.cells_eq, okT, okF] at w2
      simp (maxSteps := 2000000) (disch := first | (simp only [go_sem, simprocAttr] <;> omega) | omega) only [go_sem, simprocAttr]
      refine store_cpu f' (s6.front 6).get (by rfl) ?_
      simp (maxSteps := 2000000) (disch := first | (simp only [go_sem, simprocAttr, (w1.front 6).get, w2.get, (w2.front 1).get, (take_cpu f')] <;> omega) | omega) only [go_sem, simprocAttr, (w1.front 6).get, w2.get, (w2.front 1).get, (take_cpu f')]
      exact fin _ _ (hd M.V) f' (Sat.drop2 (Sat.drop2 (Sat.drop2 (Sat.drop2 (Sat.drop2 w2.tail.tail)))))
    by_cases r3 : op ≤ 16
    · have q1 : ¬ (op : Int) ≤ 6 := by omega
      have q2 : ¬ (op : Int) ≤ 10 := by omega
      have q3 : (op : Int) ≤ 16 := by omega
      simp (maxSteps := 2000000) (disch := first | (simp only [go_sem, simprocAttr, s5.get] <;> omega) | omega) only [go_sem, simprocAttr, s5.get]
      refine (rguests_S (op : Nat)).mono ?_
      rintro v h5 ⟨rfl, rfl⟩
      rw [hgF (by omega)]
      simp (maxSteps := 2000000) (disch := first | (simp only [go_sem, simprocAttr, q1, q2, q3, (s5.front 4).get, (s5.front 7).get, (s5.front 8).get, nB, nC, a0, a1, b0, b1, c0, c1, n16, tk, s5.get] <;> omega) | omega) only [go_sem, simprocAttr, q1, q2, q3, (s5.front 4).get, (s5.front 7).get, (s5.front 8).get, nB, nC, a0, a1, b0, b1, c0, c1, n16, tk, s5.get]
      refine rdK_any fun _ => ?_
      refine (rjumped_S f hpc hA hB hI (by omega) r3).mono ?_
      rintro v h6 ⟨c', rfl, f', hd, e6⟩
      have s6 := s5.grow e6
      have w1 := (s6.front 6).set (.cells c'.cells.toArray 30 (0, 0))
      have w2 := (w1.front 6).set (.cells okT.cells.toArray 56 (0, 0))
      simp only [Trp.cells_eq, okT, okF] at w2
      simp (maxSteps := 2000000) (disch := first | (simp only [go_sem, simprocAttr] <;> omega) | omega) only [go_sem, simprocAttr]
      refine store_cpu f' (s6.front 6).get (by rfl) ?_
      simp (maxSteps := 2000000) (disch := first | (simp only [go_sem, simprocAttr, (w1.front 6).get, w2.get, (w2.front 1).get, (take_cpu f')] <;> omega) | omega) only [go_sem, simprocAttr, (w1.front 6).get, w2.get, (w2.front 1).get, (take_cpu f')]
      exact fin _ _ (hd n _ _ _) f' (Sat.drop2 (Sat.drop2 (Sat.drop2 w2.tail.tail.tail.tail)))
    have q1 : ¬ (op : Int) ≤ 6 := by omega
    have q2 : ¬ (op : Int) ≤ 10 := by omega
    have q3 : ¬ (op : Int) ≤ 16 := by omega
    have hgm : guestO (op : Nat) = true → ∃ m, M.V = some m := by
      intro hgt
      cases hV : M.V with
      | none => exact absurd ⟨hgt, hV⟩ hu
      | some m => exact ⟨m, rfl⟩
    simp (maxSteps := 2000000) (disch := first | (simp only [go_sem, simprocAttr, s5.get] <;> omega) | omega) only [go_sem, simprocAttr, s5.get]
    refine (rguests_S (op : Nat)).mono ?_
    rintro v h5 ⟨rfl, rfl⟩
    cases hgo : guestO (op : Nat) with
    | true =>
      obtain ⟨m, hm⟩ := hgm hgo
      have hwv : ∃ a, wv = .pointer (some a) := by
        have := s5.front 9
        rw [hm] at this
        obtain ⟨wb, x, e, -⟩ := rvS_some.1 this
        exact ⟨_, e⟩
      obtain ⟨wa, rfl⟩ := hwv
      simp (maxSteps := 2000000) (disch := first | (simp only [go_sem, simprocAttr, q1, q2, q3, (s5.front 4).get, (s5.front 7).get, (s5.front 8).get, nB, nC, a0, a1, b0, b1, c0, c1, n16, tk, s5.get] <;> omega) | omega) only [go_sem, simprocAttr, q1, q2, q3, (s5.front 4).get, (s5.front 7).get, (s5.front 8).get, nB, nC, a0, a1, b0, b1, c0, c1, n16, tk, s5.get]
      refine (rother_S (at_ := at_) (M := ⟨M.mem, T2, M.V⟩) f hpc hA hB hI (by omega) op2 hgm hsa (fun z => vmT_neg hvm2 hTok2 (by omega)) (((s5.front 9).front 4).front 4)).mono ?_
      rintro v h6 ⟨c', t', M', rfl, f', hd, s6⟩
      have w1 := (s6.front 7).set (.cells c'.cells.toArray 30 (0, 0))
      have w2 := (w1.front 7).set (.cells t'.cells.toArray 56 (0, 0))
      simp only [Trp.cells_eq, okT, okF] at w2
      simp (maxSteps := 2000000) (disch := first | (simp only [go_sem, simprocAttr] <;> omega) | omega) only [go_sem, simprocAttr]
      refine store_cpu f' (s6.front 7).get (by rfl) ?_
      simp (maxSteps := 2000000) (disch := first | (simp only [go_sem, simprocAttr, (w1.front 7).get, w2.get, (w2.front 1).get, (take_cpu f')] <;> omega) | omega) only [go_sem, simprocAttr, (w1.front 7).get, w2.get, (w2.front 1).get, (take_cpu f')]
      exact fin _ _ hd f' (drop3 (drop3 (drop3 (drop3 (drop3 w2.tail.tail)))))
    | false =>
      simp (maxSteps := 2000000) (disch := first | (simp only [go_sem, simprocAttr, q1, q2, q3, (s5.front 4).get, (s5.front 7).get, (s5.front 8).get, nB, nC, a0, a1, b0, b1, c0, c1, n16, tk, s5.get] <;> omega) | omega) only [go_sem, simprocAttr, q1, q2, q3, (s5.front 4).get, (s5.front 7).get, (s5.front 8).get, nB, nC, a0, a1, b0, b1, c0, c1, n16, tk, s5.get]
      refine rdK_any fun _ => ?_
      refine (rother_S (at_ := at_) (M := ⟨M.mem, T2, M.V⟩) f hpc hA hB hI (by omega) op2 hgm hsa (fun z => vmT_neg hvm2 hTok2 (by omega)) (((s5.front 9).front 4).front 4)).mono ?_
      rintro v h6 ⟨c', t', M', rfl, f', hd, s6⟩
      have w1 := (s6.front 7).set (.cells c'.cells.toArray 30 (0, 0))
      have w2 := (w1.front 7).set (.cells t'.cells.toArray 56 (0, 0))
      simp only [Trp.cells_eq, okT, okF] at w2
      simp (maxSteps := 2000000) (disch := first | (simp only [go_sem, simprocAttr] <;> omega) | omega) only [go_sem, simprocAttr]
      refine store_cpu f' (s6.front 7).get (by rfl) ?_
      simp (maxSteps := 2000000) (disch := first | (simp only [go_sem, simprocAttr, (w1.front 7).get, w2.get, (w2.front 1).get, (take_cpu f')] <;> omega) | omega) only [go_sem, simprocAttr, (w1.front 7).get, w2.get, (w2.front 1).get, (take_cpu f')]
      exact fin _ _ hd f' (drop3 (drop3 (drop3 (drop3 (drop3 w2.tail.tail)))))
end
end Go.Eng
