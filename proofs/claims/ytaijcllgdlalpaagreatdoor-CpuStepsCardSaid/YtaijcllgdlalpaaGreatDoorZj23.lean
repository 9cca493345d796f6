/-
  package cpu: Step.
-/
import Derived.Test.YtaijcllgdlalpaaGreatDoorZj22
set_option linter.unusedSimpArgs false
set_option linter.unusedVariables false
set_option maxRecDepth 16000
set_option maxHeartbeats 4000000
namespace Go.Eng
open Go Go.Proofs
theorem take_cpu {c : Cp} (f : c.fit) : takeN c.cells 25 = some c.cells := by
  rw [takeN_eq, Cp.len f, if_pos (Nat.le_refl _), List.take_of_length_le (by rw [Cp.len f]; decide)]
theorem store_cpu {h : Heap} {b : Nat} {c : Cp} {c0 : Array Value} {ty : TypeId} {K : Unit → Heap → Prop} (f : c.fit) (g : h[b]? = some (.cells c0 ty (0, 0))) (l : c0.size = 25) (hK : K () (h.setIfInBounds b (.cells c.cells.toArray ty (0, 0)))) :
    runH Tryz.prog (iStoreAt 30 (.pointer (some ⟨b, 0, none⟩)) (.agg c.cells.toArray)) h K :=
  runH_store_all (by rw [tszD_30]; simp [Cp.len f]) (by rw [tsz_30]; rfl) g (by simp [Cp.len f, l]) (fun v hv => Cp.single v (by simpa using hv)) hK
theorem bdturn {a b v : Value} {x1 x2 x3 x4 y : Int} {p : Option Addr} {h : Heap} : runD Tryz.prog (iBuild 116 #[(0, .agg #[a, b, v]), (1, .pointer p), (4, .agg #[.int .i64 x1, .int .i64 x2, .int .i64 x3, .int .i64 x4]), (5, .int .i64 y)]) h =
    some (.agg #[a, b, v, .pointer p, .int .i64 0, .int .i64 0, .int .i64 0, .int .i64 0, .int .i64 0, .int .u32 0, .int .i64 x1, .int .i64 x2, .int .i64 x3, .int .i64 x4, .int .i64 y, .int .i64 0, .bool false]) := by kernel_rfl
theorem vS_ok {h : Heap} {F : List SP} {vv : Value} {V : Option Vg} (hs : Sat h (vS vv V :: F)) : vvOk vv V.isSome := by
  cases V with
  | none => exact .inl ⟨rfl, (vS_none.1 hs).1⟩
  | some m =>
    obtain ⟨vb, x, e, -⟩ := vS_some.1 hs
    exact .inr ⟨rfl, _, e⟩
theorem setPc_cells {c : Cp} (f : c.fit) {v : Int} : c.cells.set 16 (.int .i64 v) = ({ c with Pc := v } : Cp).cells := by
  unfold Cp.cells
  rw [List.set_append_right _ _ (by simp [f.lr]), List.length_map, f.lr]
  rfl
theorem setPc_fit {c : Cp} (f : c.fit) {v : Int} (h1 : -9223372036854775808 ≤ v) (h2 : v ≤ 9223372036854775807) : ({ c with Pc := v } : Cp).fit := ⟨f.lr, f.ls, f.br, f.bs, h1, h2⟩
theorem drop3 {h : Heap} {A B C D : SP} {F : List SP} (x : Sat h (A :: B :: C :: D :: F)) : Sat h (A :: B :: C :: F) := (x.front 3).tail
section
variable {h : Heap} {F : List SP} {rb n tb : Nat} {vv : Value} {c : Cp} {M : Mch}
theorem step_S2 (f : c.fit) (hs : Sat h (ramS rb n M.mem :: tlbS tb M.T :: vS vv M.V :: F)) (vm se at_ : Int)
    (hoi0 : ∀ op A B C I : Nat, (fetchP n M.mem M.T (spaceP M.V.isSome c vm se) c.Pc at_).t.C = 0 → decI (fetchP n M.mem M.T (spaceP M.V.isSome c vm se) c.Pc at_).w.toNat = ⟨op, A, B, C, I⟩ → opIn op) :
    HCalls Tryz.prog 11 #[.agg #[.pointer (some ⟨rb, 0, none⟩), .pointer (some ⟨tb, 0, none⟩), vv], .agg c.cells.toArray, .int .i64 vm, .int .i64 se, .int .i64 at_] h fun v h' =>
      v = .tuple #[.agg (stepP n M c vm se at_).c.cells.toArray, .agg (stepP n M c vm se at_).t.cells.toArray] ∧ (stepP n M c vm se at_).c.fit ∧ Sat h' (ramS rb n (stepP n M c vm se at_).M.mem :: tlbS tb (stepP n M c vm se at_).M.T :: vS vv (stepP n M c vm se at_).M.V :: F) := by
  refine HCalls.via fun R hR => ?_
  have z0 := (((hs.push (.cells #[.pointer (some ⟨rb, 0, none⟩), .pointer (some ⟨tb, 0, none⟩), vv] 36 (0, 0))).push (.cells c.cells.toArray 30 (0, 0))).push (.cells (tzeroD Tryz.prog 30).cells 30 (0, 0))).push (.cells okT.cells.toArray 56 (0, 0))
  simp only [tzeroD_30, Trp.cells_eq, okT, okF, size_push'] at z0
  refine HCalls.of_dev T11 Tryz.func11 rfl mixed (by kernel_rfl) ?_; rw [Tryz.results11]
  have z1 := z0.push (.cells (tzeroD Tryz.prog 30).cells 30 (0, 0))
  simp only [tzeroD_30, size_push'] at z1
  have z2 := z1.set (.cells c.cells.toArray 30 (0, 0))
  have tk := take_cpu f
  simp (maxSteps := 2000000) (disch := first | (simp only [go_sem, simprocAttr, tk] <;> omega) | omega) only [go_sem, simprocAttr, tk]
  refine store_cpu f z1.get rfl ?_
  have gm := (z2.front 4).get
  have gc2 := (z2.front 3).get
  simp (maxSteps := 2000000) (disch := first | (simp only [go_sem, simprocAttr, gm, gc2, tk] <;> omega) | omega) only [go_sem, simprocAttr, gm, gc2, tk]
  have hvv := vS_ok (hs.front 2)
  refine (space_S c f _ _ vv M.V.isSome hvv vm se).mono ?_
  rintro v h1 ⟨rfl, x1⟩
  have z3 := z2.grow x1
  generalize hsp : spaceP M.V.isSome c vm se = s at *
  clear z0 z1 z2 gm gc2
  have gm3 := (z3.front 4).get
  have z4 := z3.push (.cells (turnL (.pointer (some ⟨rb, 0, none⟩)) (.pointer (some ⟨tb, 0, none⟩)) vv (h.size + 1) ⟨0, 0, 0, 0, 0⟩ 0 s at_ 0 false).toArray 116 (0, 0))
  simp (maxSteps := 2000000) (disch := first | (simp only [go_sem, simprocAttr, bdturn, gm3] <;> omega) | omega) only [go_sem, simprocAttr, bdturn, gm3]
  refine (fetch_S f ((((z4.front 4).front 7).front 7).front 3)).mono ?_
  rintro v h2 ⟨rfl, i, w, nx, s5, hfe⟩
  generalize hfp : fetchP n M.mem M.T s c.Pc at_ = fe at *
  have s6 := s5.push (.cells fe.t.cells.toArray 56 (0, 0))
  simp only [Trp.cells_eq] at s6
  by_cases q : fe.t.C = 0
  · obtain ⟨rfl, rr, rfl, w0, w1, rfl⟩ := hfe q
    have hst := stepP_eq n M c vm se at_
    rw [hsp, hfp, if_neg (by omega)] at hst
    have hoi := fun op A B C I => hoi0 op A B C I q
    generalize hdi : decI fe.w.toNat = i at *
    have ib := rightI_B rr
    obtain ⟨o1, o2, ia1, ia2, ib1, ib2, ic1, ic2, im1, im2, -⟩ := ib
    obtain ⟨op, A, B, C, I⟩ := i
    simp only at o1 o2 ia1 ia2 ib1 ib2 ic1 ic2 im1 im2
    obtain ⟨op, rfl⟩ := Int.eq_ofNat_of_zero_le (show 0 ≤ op by omega)
    obtain ⟨A, rfl⟩ := Int.eq_ofNat_of_zero_le ia1
    obtain ⟨B, rfl⟩ := Int.eq_ofNat_of_zero_le ib1
    obtain ⟨C, rfl⟩ := Int.eq_ofNat_of_zero_le ic1
    obtain ⟨I, rfl⟩ := Int.eq_ofNat_of_zero_le im1
    have op1 : 1 ≤ op := by omega
    have op2 : op ≤ 25 := by omega
    have hA : A < 16 := by omega
    have hB : B < 16 := by omega
    have hC : C < 16 := by omega
    have hI : I < 65536 := by omega
    rw [q] at s6
    have g6 := (s6.front 1).get
    simp only [turnL] at g6
    have hix : ∀ (D : Nat → Value) (h : Heap), runD Tryz.prog (iIndex 121 (.agg (opsL D).toArray) (.int .i64 op)) h = some (.agg #[.bool (guestO (op : Nat)), D op]) := fun D h => by
      rw [runD_index_agg Tryz.underlying121 (by kernel_rfl) (tsz_120) (show op < 26 by omega), ops_get D (by omega)]
    simp (maxSteps := 2000000) (disch := first | (simp only [go_sem, simprocAttr, q, s6.get, g6] <;> omega) | omega) only [go_sem, simprocAttr, q, s6.get, g6]
    refine ⟨?_, ?_⟩
    · refine (operations_S s6).mono ?_
      rintro v h3 ⟨D, rfl, hD⟩
      have s7 := hD op op1 op2
      obtain ⟨fd, fa, fb, hdv⟩ := opB_func s7
      have g7 := (s7.front 2).get
      simp only [turnL] at g7
      have s8 := s7.push (.cells #[.bool (guestO (op : Nat)), D op] 120 (0, 0))
      rw [hdv] at s8 s7
      have s7z := s7.push (.cells #[.bool false, .nilFunc] 120 (0, 0))
      have g7z := (s7z.front 3).get
      simp only [turnL] at g7z
      simp (maxSteps := 2000000) (disch := first | (simp only [go_sem, simprocAttr, g7, g7z, hix, hdv] <;> omega) | omega) only [go_sem, simprocAttr, g7, g7z, hix, hdv]
      have gmz := (s8.front 10).get
      have gw := (s8.front 7).get
      have key : (guestO (op : Nat) = true → ∃ m, M.V = some m) → _ := fun hgv => opDo_S (n := n) (rb := rb) (tb := tb) (xb := h1.size) (cb := h.size + 1) (vv := vv) (w := fe.w) (s := s) (at_ := at_) (M := { M with T := fe.T }) f op1 op2 (hoi op A B C I rfl) hA hB hC hI hgv ((((((s8.front 11).front 7).front 7).front 7).front 7).front 6)
      cases hg : guestO (op : Nat) with
      | true =>
        rw [hg] at key s8 gmz gw
        cases hV : M.V with
        | none =>
          have hvv0 : vv = .pointer none := by
            have := s8.front 11
            rw [hV] at this
            exact (vS_none.1 this).1
          rw [if_pos ⟨hg, hV⟩] at hst
          subst hvv0
          clear key
          simp (maxSteps := 2000000) (disch := first | (simp only [go_sem, simprocAttr, hg, gmz, gw, tk, s8.get] <;> omega) | omega) only [go_sem, simprocAttr, hg, gmz, gw, tk, s8.get]
          refine (undef_S f ⟨w0, w1⟩ _ _ ((s8.front 6).front 4)).mono ?_
          rintro v h4 ⟨rfl, x4⟩
          have s9 := s8.grow x4
          have g9w := (s9.front 7).get
          have s10 := (s9.front 9).set (.cells c.cells.toArray 30 (0, 0))
          have s11 := (s10.front 9).set (.cells (⟨8, fe.w, c.Pc, okF⟩ : Trp).cells.toArray 56 (0, 0))
          simp only [Trp.cells_eq] at s11
          simp (maxSteps := 2000000) (disch := first | (simp only [go_sem, simprocAttr, g9w, tk] <;> omega) | omega) only [go_sem, simprocAttr, g9w, tk]
          refine store_cpu f (s9.front 9).get (by rfl) ?_
          simp (maxSteps := 2000000) (disch := first | (simp only [go_sem, simprocAttr, (s10.front 9).get, (s11.front 1).get, s11.get, tk] <;> omega) | omega) only [go_sem, simprocAttr, (s10.front 9).get, (s11.front 1).get, s11.get, tk]
          refine hR _ _ ?_
          rw [hst]
          exact ⟨rfl, f, drop3 (drop3 (drop3 (drop3 (drop3 (drop3 (drop3 (drop3 (drop3 (((s11.front 11).front 8).front 8)))))))))⟩
        | some m =>
          have hvv0 : ∃ vb, vv = .pointer (some ⟨vb, 0, none⟩) := by
            have := s8.front 11
            rw [hV] at this
            obtain ⟨vb, x, e, -⟩ := vS_some.1 this
            exact ⟨vb, e⟩
          rw [if_neg (by rw [hV]; rintro ⟨-, z⟩; cases z)] at hst
          obtain ⟨vb, rfl⟩ := hvv0
          simp (maxSteps := 2000000) (disch := first | (simp only [go_sem, simprocAttr, hg, gmz, s8.get] <;> omega) | omega) only [go_sem, simprocAttr, hg, gmz, s8.get]
          refine callV_mono (key fun _ => ⟨m, hV⟩) ?_
          rintro v h4 ⟨tr, M', c', nx', gn, rfl, f', n0, n1, s9, hdo⟩
          rw [hdo] at hst
          have s10 := s9.push (.cells tr.cells.toArray 56 (0, 0))
          simp only [Trp.cells_eq] at s10
          by_cases q2 : tr.C = 0
          · rw [if_neg (fun z => z.1 q2)] at hst
            rw [q2] at s10
            have g10 := (s10.front 1).get
            simp only [turnL] at g10
            have g10c := (s10.front 4).get
            have l := Cp.len f'
            have l16 : 16 < c'.cells.length := by omega
            have sp := setPc_cells f' (v := nx')
            have f2 := setPc_fit f' (v := nx') (by omega) (by omega)
            have tk2 := take_cpu f2
            have s11 := (s10.front 4).set (.cells ({ c' with Pc := nx' } : Cp).cells.toArray 30 (0, 0))
            have s12 := (s11.front 10).set (.cells ({ c' with Pc := nx' } : Cp).cells.toArray 30 (0, 0))
            have s13 := (s12.front 10).set (.cells tr.cells.toArray 56 (0, 0))
            simp only [Trp.cells_eq] at s13
            rw [q2] at s13
            simp (maxSteps := 2000000) (disch := first | (simp only [go_sem, simprocAttr, q2, s10.get, g10, g10c, l16, sp, s11.get, (s11.front 1).get, tk2] <;> omega) | omega) only [go_sem, simprocAttr, q2, s10.get, g10, g10c, l16, sp, s11.get, (s11.front 1).get, tk2]
            refine store_cpu f2 (s11.front 10).get (by rfl) ?_
            simp (maxSteps := 2000000) (disch := first | (simp only [go_sem, simprocAttr, (s12.front 10).get, (s12.front 2).get, (s13.front 1).get, s13.get, tk2] <;> omega) | omega) only [go_sem, simprocAttr, (s12.front 10).get, (s12.front 2).get, (s13.front 1).get, s13.get, tk2]
            refine hR _ _ ?_
            rw [hst]
            exact ⟨by rw [← q2]; rfl, f2, drop3 (drop3 (drop3 (drop3 (drop3 (drop3 (drop3 (drop3 (drop3 (((s13.front 7).front 7).front 7)))))))))⟩
          · cases gn with
            | false =>
              rw [if_pos ⟨q2, rfl⟩] at hst
              have g10 := (s10.front 1).get
              simp only [turnL] at g10
              have s12 := (s10.front 10).set (.cells c.cells.toArray 30 (0, 0))
              have s13 := (s12.front 10).set (.cells tr.cells.toArray 56 (0, 0))
              simp only [Trp.cells_eq] at s13
              simp (maxSteps := 2000000) (disch := first | (simp only [go_sem, simprocAttr, q2, s10.get, g10, (s10.front 8).get, tk] <;> omega) | omega) only [go_sem, simprocAttr, q2, s10.get, g10, (s10.front 8).get, tk]
              refine store_cpu f (s10.front 10).get (by rfl) ?_
              simp (maxSteps := 2000000) (disch := first | (simp only [go_sem, simprocAttr, (s12.front 10).get, (s12.front 1).get, (s13.front 1).get, s13.get, tk] <;> omega) | omega) only [go_sem, simprocAttr, (s12.front 10).get, (s12.front 1).get, (s13.front 1).get, s13.get, tk]
              refine hR _ _ ?_
              rw [hst]
              exact ⟨rfl, f, drop3 (drop3 (drop3 (drop3 (drop3 (drop3 (drop3 (drop3 (drop3 (((s13.front 7).front 6).front 6)))))))))⟩
            | true =>
              rw [if_neg (fun z => by cases z.2)] at hst
              have g10 := (s10.front 1).get
              simp only [turnL] at g10
              have g10c := (s10.front 4).get
              have l := Cp.len f'
              have l16 : 16 < c'.cells.length := by omega
              have sp := setPc_cells f' (v := nx')
              have f2 := setPc_fit f' (v := nx') (by omega) (by omega)
              have tk2 := take_cpu f2
              have s11 := (s10.front 4).set (.cells ({ c' with Pc := nx' } : Cp).cells.toArray 30 (0, 0))
              have s12 := (s11.front 10).set (.cells ({ c' with Pc := nx' } : Cp).cells.toArray 30 (0, 0))
              have s13 := (s12.front 10).set (.cells tr.cells.toArray 56 (0, 0))
              simp only [Trp.cells_eq] at s13
              simp (maxSteps := 2000000) (disch := first | (simp only [go_sem, simprocAttr, q2, s10.get, g10, g10c, l16, sp, s11.get, (s11.front 1).get, tk2] <;> omega) | omega) only [go_sem, simprocAttr, q2, s10.get, g10, g10c, l16, sp, s11.get, (s11.front 1).get, tk2]
              refine store_cpu f2 (s11.front 10).get (by rfl) ?_
              simp (maxSteps := 2000000) (disch := first | (simp only [go_sem, simprocAttr, (s12.front 10).get, (s12.front 2).get, (s13.front 1).get, s13.get, tk2] <;> omega) | omega) only [go_sem, simprocAttr, (s12.front 10).get, (s12.front 2).get, (s13.front 1).get, s13.get, tk2]
              refine hR _ _ ?_
              rw [hst]
              exact ⟨rfl, f2, drop3 (drop3 (drop3 (drop3 (drop3 (drop3 (drop3 (drop3 (drop3 (((s13.front 7).front 7).front 7)))))))))⟩
      | false =>
        rw [hg] at key s8 gmz gw
        rw [if_neg (by rw [hg]; rintro ⟨z, -⟩; cases z)] at hst
        simp (maxSteps := 2000000) (disch := first | (simp only [go_sem, simprocAttr, hg, gmz, s8.get] <;> omega) | omega) only [go_sem, simprocAttr, hg, gmz, s8.get]
        refine rdK_any fun _ => ?_
        refine callV_mono (key fun z => by cases z) ?_
        rintro v h4 ⟨tr, M', c', nx', gn, rfl, f', n0, n1, s9, hdo⟩
        rw [hdo] at hst
        have s10 := s9.push (.cells tr.cells.toArray 56 (0, 0))
        simp only [Trp.cells_eq] at s10
        by_cases q2 : tr.C = 0
        · rw [if_neg (fun z => z.1 q2)] at hst
          rw [q2] at s10
          have g10 := (s10.front 1).get
          simp only [turnL] at g10
          have g10c := (s10.front 4).get
          have l := Cp.len f'
          have l16 : 16 < c'.cells.length := by omega
          have sp := setPc_cells f' (v := nx')
          have f2 := setPc_fit f' (v := nx') (by omega) (by omega)
          have tk2 := take_cpu f2
          have s11 := (s10.front 4).set (.cells ({ c' with Pc := nx' } : Cp).cells.toArray 30 (0, 0))
          have s12 := (s11.front 10).set (.cells ({ c' with Pc := nx' } : Cp).cells.toArray 30 (0, 0))
          have s13 := (s12.front 10).set (.cells tr.cells.toArray 56 (0, 0))
          simp only [Trp.cells_eq] at s13
          rw [q2] at s13
          simp (maxSteps := 2000000) (disch := first | (simp only [go_sem, simprocAttr, q2, s10.get, g10, g10c, l16, sp, s11.get, (s11.front 1).get, tk2] <;> omega) | omega) only [go_sem, simprocAttr, q2, s10.get, g10, g10c, l16, sp, s11.get, (s11.front 1).get, tk2]
          refine store_cpu f2 (s11.front 10).get (by rfl) ?_
          simp (maxSteps := 2000000) (disch := first | (simp only [go_sem, simprocAttr, (s12.front 10).get, (s12.front 2).get, (s13.front 1).get, s13.get, tk2] <;> omega) | omega) only [go_sem, simprocAttr, (s12.front 10).get, (s12.front 2).get, (s13.front 1).get, s13.get, tk2]
          refine hR _ _ ?_
          rw [hst]
          exact ⟨by rw [← q2]; rfl, f2, drop3 (drop3 (drop3 (drop3 (drop3 (drop3 (drop3 (drop3 (drop3 (((s13.front 7).front 7).front 7)))))))))⟩
        · cases gn with
          | false =>
            rw [if_pos ⟨q2, rfl⟩] at hst
            have g10 := (s10.front 1).get
            simp only [turnL] at g10
            have s12 := (s10.front 10).set (.cells c.cells.toArray 30 (0, 0))
            have s13 := (s12.front 10).set (.cells tr.cells.toArray 56 (0, 0))
            simp only [Trp.cells_eq] at s13
            simp (maxSteps := 2000000) (disch := first | (simp only [go_sem, simprocAttr, q2, s10.get, g10, (s10.front 8).get, tk] <;> omega) | omega) only [go_sem, simprocAttr, q2, s10.get, g10, (s10.front 8).get, tk]
            refine store_cpu f (s10.front 10).get (by rfl) ?_
            simp (maxSteps := 2000000) (disch := first | (simp only [go_sem, simprocAttr, (s12.front 10).get, (s12.front 1).get, (s13.front 1).get, s13.get, tk] <;> omega) | omega) only [go_sem, simprocAttr, (s12.front 10).get, (s12.front 1).get, (s13.front 1).get, s13.get, tk]
            refine hR _ _ ?_
            rw [hst]
            exact ⟨rfl, f, drop3 (drop3 (drop3 (drop3 (drop3 (drop3 (drop3 (drop3 (drop3 (((s13.front 7).front 6).front 6)))))))))⟩
          | true =>
            rw [if_neg (fun z => by cases z.2)] at hst
            have g10 := (s10.front 1).get
            simp only [turnL] at g10
            have g10c := (s10.front 4).get
            have l := Cp.len f'
            have l16 : 16 < c'.cells.length := by omega
            have sp := setPc_cells f' (v := nx')
            have f2 := setPc_fit f' (v := nx') (by omega) (by omega)
            have tk2 := take_cpu f2
            have s11 := (s10.front 4).set (.cells ({ c' with Pc := nx' } : Cp).cells.toArray 30 (0, 0))
            have s12 := (s11.front 10).set (.cells ({ c' with Pc := nx' } : Cp).cells.toArray 30 (0, 0))
            have s13 := (s12.front 10).set (.cells tr.cells.toArray 56 (0, 0))
            simp only [Trp.cells_eq] at s13
            simp (maxSteps := 2000000) (disch := first | (simp only [go_sem, simprocAttr, q2, s10.get, g10, g10c, l16, sp, s11.get, (s11.front 1).get, tk2] <;> omega) | omega) only [go_sem, simprocAttr, q2, s10.get, g10, g10c, l16, sp, s11.get, (s11.front 1).get, tk2]
            refine store_cpu f2 (s11.front 10).get (by rfl) ?_
            simp (maxSteps := 2000000) (disch := first | (simp only [go_sem, simprocAttr, (s12.front 10).get, (s12.front 2).get, (s13.front 1).get, s13.get, tk2] <;> omega) | omega) only [go_sem, simprocAttr, (s12.front 10).get, (s12.front 2).get, (s13.front 1).get, s13.get, tk2]
            refine hR _ _ ?_
            rw [hst]
            exact ⟨rfl, f2, drop3 (drop3 (drop3 (drop3 (drop3 (drop3 (drop3 (drop3 (drop3 (((s13.front 7).front 7).front 7)))))))))⟩
    · have s6b := s6.push (.cells #[.bool false, .nilFunc] 120 (0, 0))
      simp only [size_push'] at s6b
      have g6b := (s6b.front 2).get
      simp only [turnL] at g6b
      simp (maxSteps := 2000000) (disch := first | (simp only [go_sem, simprocAttr, g6b] <;> omega) | omega) only [go_sem, simprocAttr, g6b]
      refine (operations_S s6b).mono ?_
      rintro v h3 ⟨D, rfl, hD⟩
      have s7 := hD op op1 op2
      obtain ⟨fd, fa, fb, hdv⟩ := opB_func s7
      have g7 := (s7.front 3).get
      have g7o := (s7.front 1).get
      simp only [turnL] at g7
      rw [hdv] at s7
      have s8 := (s7.front 1).set (.cells #[.bool (guestO (op : Nat)), .func fd fa fb] 120 (0, 0))
      simp (maxSteps := 2000000) (disch := first | (simp only [go_sem, simprocAttr, g7, g7o, hix, hdv] <;> omega) | omega) only [go_sem, simprocAttr, g7, g7o, hix, hdv]
      have gmz := (s8.front 10).get
      have gw := (s8.front 7).get
      have key : (guestO (op : Nat) = true → ∃ m, M.V = some m) → _ := fun hgv => opDo_S (n := n) (rb := rb) (tb := tb) (xb := h1.size) (cb := h.size + 1) (vv := vv) (w := fe.w) (s := s) (at_ := at_) (M := { M with T := fe.T }) f op1 op2 (hoi op A B C I rfl) hA hB hC hI hgv ((((((s8.front 11).front 7).front 7).front 7).front 7).front 6)
      cases hg : guestO (op : Nat) with
      | true =>
        rw [hg] at key s8 gmz gw
        cases hV : M.V with
        | none =>
          have hvv0 : vv = .pointer none := by
            have := s8.front 11
            rw [hV] at this
            exact (vS_none.1 this).1
          rw [if_pos ⟨hg, hV⟩] at hst
          subst hvv0
          clear key
          simp (maxSteps := 2000000) (disch := first | (simp only [go_sem, simprocAttr, hg, gmz, gw, tk, s8.get] <;> omega) | omega) only [go_sem, simprocAttr, hg, gmz, gw, tk, s8.get]
          refine (undef_S f ⟨w0, w1⟩ _ _ ((s8.front 6).front 4)).mono ?_
          rintro v h4 ⟨rfl, x4⟩
          have s9 := s8.grow x4
          have g9w := (s9.front 7).get
          have s10 := (s9.front 9).set (.cells c.cells.toArray 30 (0, 0))
          have s11 := (s10.front 9).set (.cells (⟨8, fe.w, c.Pc, okF⟩ : Trp).cells.toArray 56 (0, 0))
          simp only [Trp.cells_eq] at s11
          simp (maxSteps := 2000000) (disch := first | (simp only [go_sem, simprocAttr, g9w, tk] <;> omega) | omega) only [go_sem, simprocAttr, g9w, tk]
          refine store_cpu f (s9.front 9).get (by rfl) ?_
          simp (maxSteps := 2000000) (disch := first | (simp only [go_sem, simprocAttr, (s10.front 9).get, (s11.front 1).get, s11.get, tk] <;> omega) | omega) only [go_sem, simprocAttr, (s10.front 9).get, (s11.front 1).get, s11.get, tk]
          refine hR _ _ ?_
          rw [hst]
          exact ⟨rfl, f, drop3 (drop3 (drop3 (drop3 (drop3 (drop3 (drop3 (drop3 (drop3 (((s11.front 11).front 8).front 8)))))))))⟩
        | some m =>
          have hvv0 : ∃ vb, vv = .pointer (some ⟨vb, 0, none⟩) := by
            have := s8.front 11
            rw [hV] at this
            obtain ⟨vb, x, e, -⟩ := vS_some.1 this
            exact ⟨vb, e⟩
          rw [if_neg (by rw [hV]; rintro ⟨-, z⟩; cases z)] at hst
          obtain ⟨vb, rfl⟩ := hvv0
          simp (maxSteps := 2000000) (disch := first | (simp only [go_sem, simprocAttr, hg, gmz, s8.get] <;> omega) | omega) only [go_sem, simprocAttr, hg, gmz, s8.get]
          refine callV_mono (key fun _ => ⟨m, hV⟩) ?_
          rintro v h4 ⟨tr, M', c', nx', gn, rfl, f', n0, n1, s9, hdo⟩
          rw [hdo] at hst
          have s10 := s9.push (.cells tr.cells.toArray 56 (0, 0))
          simp only [Trp.cells_eq] at s10
          by_cases q2 : tr.C = 0
          · rw [if_neg (fun z => z.1 q2)] at hst
            rw [q2] at s10
            have g10 := (s10.front 1).get
            simp only [turnL] at g10
            have g10c := (s10.front 4).get
            have l := Cp.len f'
            have l16 : 16 < c'.cells.length := by omega
            have sp := setPc_cells f' (v := nx')
            have f2 := setPc_fit f' (v := nx') (by omega) (by omega)
            have tk2 := take_cpu f2
            have s11 := (s10.front 4).set (.cells ({ c' with Pc := nx' } : Cp).cells.toArray 30 (0, 0))
            have s12 := (s11.front 10).set (.cells ({ c' with Pc := nx' } : Cp).cells.toArray 30 (0, 0))
            have s13 := (s12.front 10).set (.cells tr.cells.toArray 56 (0, 0))
            simp only [Trp.cells_eq] at s13
            rw [q2] at s13
            simp (maxSteps := 2000000) (disch := first | (simp only [go_sem, simprocAttr, q2, s10.get, g10, g10c, l16, sp, s11.get, (s11.front 1).get, tk2] <;> omega) | omega) only [go_sem, simprocAttr, q2, s10.get, g10, g10c, l16, sp, s11.get, (s11.front 1).get, tk2]
            refine store_cpu f2 (s11.front 10).get (by rfl) ?_
            simp (maxSteps := 2000000) (disch := first | (simp only [go_sem, simprocAttr, (s12.front 10).get, (s12.front 2).get, (s13.front 1).get, s13.get, tk2] <;> omega) | omega) only [go_sem, simprocAttr, (s12.front 10).get, (s12.front 2).get, (s13.front 1).get, s13.get, tk2]
            refine hR _ _ ?_
            rw [hst]
            exact ⟨by rw [← q2]; rfl, f2, drop3 (drop3 (drop3 (drop3 (drop3 (drop3 (drop3 (drop3 (drop3 (((s13.front 7).front 7).front 7)))))))))⟩
          · cases gn with
            | false =>
              rw [if_pos ⟨q2, rfl⟩] at hst
              have g10 := (s10.front 1).get
              simp only [turnL] at g10
              have s12 := (s10.front 10).set (.cells c.cells.toArray 30 (0, 0))
              have s13 := (s12.front 10).set (.cells tr.cells.toArray 56 (0, 0))
              simp only [Trp.cells_eq] at s13
              simp (maxSteps := 2000000) (disch := first | (simp only [go_sem, simprocAttr, q2, s10.get, g10, (s10.front 8).get, tk] <;> omega) | omega) only [go_sem, simprocAttr, q2, s10.get, g10, (s10.front 8).get, tk]
              refine store_cpu f (s10.front 10).get (by rfl) ?_
              simp (maxSteps := 2000000) (disch := first | (simp only [go_sem, simprocAttr, (s12.front 10).get, (s12.front 1).get, (s13.front 1).get, s13.get, tk] <;> omega) | omega) only [go_sem, simprocAttr, (s12.front 10).get, (s12.front 1).get, (s13.front 1).get, s13.get, tk]
              refine hR _ _ ?_
              rw [hst]
              exact ⟨rfl, f, drop3 (drop3 (drop3 (drop3 (drop3 (drop3 (drop3 (drop3 (drop3 (((s13.front 7).front 6).front 6)))))))))⟩
            | true =>
              rw [if_neg (fun z => by cases z.2)] at hst
              have g10 := (s10.front 1).get
              simp only [turnL] at g10
              have g10c := (s10.front 4).get
              have l := Cp.len f'
              have l16 : 16 < c'.cells.length := by omega
              have sp := setPc_cells f' (v := nx')
              have f2 := setPc_fit f' (v := nx') (by omega) (by omega)
              have tk2 := take_cpu f2
              have s11 := (s10.front 4).set (.cells ({ c' with Pc := nx' } : Cp).cells.toArray 30 (0, 0))
              have s12 := (s11.front 10).set (.cells ({ c' with Pc := nx' } : Cp).cells.toArray 30 (0, 0))
              have s13 := (s12.front 10).set (.cells tr.cells.toArray 56 (0, 0))
              simp only [Trp.cells_eq] at s13
              simp (maxSteps := 2000000) (disch := first | (simp only [go_sem, simprocAttr, q2, s10.get, g10, g10c, l16, sp, s11.get, (s11.front 1).get, tk2] <;> omega) | omega) only [go_sem, simprocAttr, q2, s10.get, g10, g10c, l16, sp, s11.get, (s11.front 1).get, tk2]
              refine store_cpu f2 (s11.front 10).get (by rfl) ?_
              simp (maxSteps := 2000000) (disch := first | (simp only [go_sem, simprocAttr, (s12.front 10).get, (s12.front 2).get, (s13.front 1).get, s13.get, tk2] <;> omega) | omega) only [go_sem, simprocAttr, (s12.front 10).get, (s12.front 2).get, (s13.front 1).get, s13.get, tk2]
              refine hR _ _ ?_
              rw [hst]
              exact ⟨rfl, f2, drop3 (drop3 (drop3 (drop3 (drop3 (drop3 (drop3 (drop3 (drop3 (((s13.front 7).front 7).front 7)))))))))⟩
      | false =>
        rw [hg] at key s8 gmz gw
        rw [if_neg (by rw [hg]; rintro ⟨z, -⟩; cases z)] at hst
        simp (maxSteps := 2000000) (disch := first | (simp only [go_sem, simprocAttr, hg, gmz, s8.get] <;> omega) | omega) only [go_sem, simprocAttr, hg, gmz, s8.get]
        refine rdK_any fun _ => ?_
        refine callV_mono (key fun z => by cases z) ?_
        rintro v h4 ⟨tr, M', c', nx', gn, rfl, f', n0, n1, s9, hdo⟩
        rw [hdo] at hst
        have s10 := s9.push (.cells tr.cells.toArray 56 (0, 0))
        simp only [Trp.cells_eq] at s10
        by_cases q2 : tr.C = 0
        · rw [if_neg (fun z => z.1 q2)] at hst
          rw [q2] at s10
          have g10 := (s10.front 1).get
          simp only [turnL] at g10
          have g10c := (s10.front 4).get
          have l := Cp.len f'
          have l16 : 16 < c'.cells.length := by omega
          have sp := setPc_cells f' (v := nx')
          have f2 := setPc_fit f' (v := nx') (by omega) (by omega)
          have tk2 := take_cpu f2
          have s11 := (s10.front 4).set (.cells ({ c' with Pc := nx' } : Cp).cells.toArray 30 (0, 0))
          have s12 := (s11.front 10).set (.cells ({ c' with Pc := nx' } : Cp).cells.toArray 30 (0, 0))
          have s13 := (s12.front 10).set (.cells tr.cells.toArray 56 (0, 0))
          simp only [Trp.cells_eq] at s13
          rw [q2] at s13
          simp (maxSteps := 2000000) (disch := first | (simp only [go_sem, simprocAttr, q2, s10.get, g10, g10c, l16, sp, s11.get, (s11.front 1).get, tk2] <;> omega) | omega) only [go_sem, simprocAttr, q2, s10.get, g10, g10c, l16, sp, s11.get, (s11.front 1).get, tk2]
          refine store_cpu f2 (s11.front 10).get (by rfl) ?_
          simp (maxSteps := 2000000) (disch := first | (simp only [go_sem, simprocAttr, (s12.front 10).get, (s12.front 2).get, (s13.front 1).get, s13.get, tk2] <;> omega) | omega) only [go_sem, simprocAttr, (s12.front 10).get, (s12.front 2).get, (s13.front 1).get, s13.get, tk2]
          refine hR _ _ ?_
          rw [hst]
          exact ⟨by rw [← q2]; rfl, f2, drop3 (drop3 (drop3 (drop3 (drop3 (drop3 (drop3 (drop3 (drop3 (((s13.front 7).front 7).front 7)))))))))⟩
        · cases gn with
          | false =>
            rw [if_pos ⟨q2, rfl⟩] at hst
            have g10 := (s10.front 1).get
            simp only [turnL] at g10
            have s12 := (s10.front 10).set (.cells c.cells.toArray 30 (0, 0))
            have s13 := (s12.front 10).set (.cells tr.cells.toArray 56 (0, 0))
            simp only [Trp.cells_eq] at s13
            simp (maxSteps := 2000000) (disch := first | (simp only [go_sem, simprocAttr, q2, s10.get, g10, (s10.front 8).get, tk] <;> omega) | omega) only [go_sem, simprocAttr, q2, s10.get, g10, (s10.front 8).get, tk]
            refine store_cpu f (s10.front 10).get (by rfl) ?_
            simp (maxSteps := 2000000) (disch := first | (simp only [go_sem, simprocAttr, (s12.front 10).get, (s12.front 1).get, (s13.front 1).get, s13.get, tk] <;> omega) | omega) only [go_sem, simprocAttr, (s12.front 10).get, (s12.front 1).get, (s13.front 1).get, s13.get, tk]
            refine hR _ _ ?_
            rw [hst]
            exact ⟨rfl, f, drop3 (drop3 (drop3 (drop3 (drop3 (drop3 (drop3 (drop3 (drop3 (((s13.front 7).front 6).front 6)))))))))⟩
          | true =>
            rw [if_neg (fun z => by cases z.2)] at hst
            have g10 := (s10.front 1).get
            simp only [turnL] at g10
            have g10c := (s10.front 4).get
            have l := Cp.len f'
            have l16 : 16 < c'.cells.length := by omega
            have sp := setPc_cells f' (v := nx')
            have f2 := setPc_fit f' (v := nx') (by omega) (by omega)
            have tk2 := take_cpu f2
            have s11 := (s10.front 4).set (.cells ({ c' with Pc := nx' } : Cp).cells.toArray 30 (0, 0))
            have s12 := (s11.front 10).set (.cells ({ c' with Pc := nx' } : Cp).cells.toArray 30 (0, 0))
            have s13 := (s12.front 10).set (.cells tr.cells.toArray 56 (0, 0))
            simp only [Trp.cells_eq] at s13
            simp (maxSteps := 2000000) (disch := first | (simp only [go_sem, simprocAttr, q2, s10.get, g10, g10c, l16, sp, s11.get, (s11.front 1).get, tk2] <;> omega) | omega) only [go_sem, simprocAttr, q2, s10.get, g10, g10c, l16, sp, s11.get, (s11.front 1).get, tk2]
            refine store_cpu f2 (s11.front 10).get (by rfl) ?_
            simp (maxSteps := 2000000) (disch := first | (simp only [go_sem, simprocAttr, (s12.front 10).get, (s12.front 2).get, (s13.front 1).get, s13.get, tk2] <;> omega) | omega) only [go_sem, simprocAttr, (s12.front 10).get, (s12.front 2).get, (s13.front 1).get, s13.get, tk2]
            refine hR _ _ ?_
            rw [hst]
            exact ⟨rfl, f2, drop3 (drop3 (drop3 (drop3 (drop3 (drop3 (drop3 (drop3 (drop3 (((s13.front 7).front 7).front 7)))))))))⟩
  · have gw := (s6.front 5).get
    have s7 := (s6.front 7).set (.cells c.cells.toArray 30 (0, 0))
    have s8 := (s7.front 7).set (.cells fe.t.cells.toArray 56 (0, 0))
    simp only [Trp.cells_eq] at s8
    simp (maxSteps := 2000000) (disch := first | (simp only [go_sem, simprocAttr, q, s6.get, gw, tk] <;> omega) | omega) only [go_sem, simprocAttr, q, s6.get, gw, tk]
    refine store_cpu f (s6.front 7).get (by rfl) ?_
    simp (maxSteps := 2000000) (disch := first | (simp only [go_sem, simprocAttr, (s7.front 7).get, (s7.front 1).get, (s8.front 1).get, s8.get, tk] <;> omega) | omega) only [go_sem, simprocAttr, (s7.front 7).get, (s7.front 1).get, (s8.front 1).get, s8.get, tk]
    have hst := stepP_eq n M c vm se at_
    rw [hsp, hfp, if_pos q] at hst
    refine hR _ _ ?_
    rw [hst]
    exact ⟨rfl, f, drop3 (drop3 (drop3 (drop3 (drop3 (drop3 (drop3 (((s8.front 9).front 6).front 6)))))))⟩
end
end Go.Eng
