/-
  viceroyref09: Run.
-/
import Derived.Test.YtaijcllgdlalpaaGreatDoorZj38
set_option linter.unusedSimpArgs false
set_option linter.unusedVariables false
set_option maxRecDepth 16000
set_option maxHeartbeats 4000000
namespace Go.Eng
open Go Go.Proofs
def mchR (n rb tb : Nat) (wv : Value) (M : Mch) : SP := starL [refRamS rb n M.mem, tlbS tb M.T, rvS wv M.V]
section
variable {h : Heap} {F : List SP} {n rb tb : Nat} {wv : Value} {M : Mch} {c : Cp}
theorem rstepM_S (f : c.fit) (u : uniqT M.T) (vm se at_ : Int) (hvm : vmT vm M.T) (hs : Sat h (mchR n rb tb wv M :: F)) :
    HCalls Tryz.prog 17 #[.agg #[.pointer (some ⟨rb, 0, none⟩), .pointer (some ⟨tb, 0, none⟩), wv], .agg c.cells.toArray, .int .i64 vm, .int .i64 se, .int .i64 at_] h fun v h' =>
      v = .tuple #[.agg (stepP n M c vm se at_).c.cells.toArray, .agg (stepP n M c vm se at_).t.cells.toArray] ∧ (stepP n M c vm se at_).c.fit ∧ Sat h' (mchR n rb tb wv (stepP n M c vm se at_).M :: F) := by
  refine (rstep_S f u vm se at_ hvm (Sat.star.1 hs)).mono ?_
  rintro v h' ⟨e, f2, q⟩
  exact ⟨e, f2, Sat.star.2 q⟩
theorem rrun_S (f : c.fit) (vm se many : Int) (u : uniqT M.T) (hvm : vmT vm M.T) (hs : Sat h (mchR n rb tb wv M :: F)) :
    HCalls Tryz.prog 18 #[.agg #[.pointer (some ⟨rb, 0, none⟩), .pointer (some ⟨tb, 0, none⟩), wv], .agg c.cells.toArray, .int .i64 vm, .int .i64 se, .int .i64 many] h fun v h' =>
      v = .tuple #[.agg (runP n vm se (min many 1000).toNat M c 0).c.cells.toArray, .agg (runP n vm se (min many 1000).toNat M c 0).t.cells.toArray, .int .i64 (runP n vm se (min many 1000).toNat M c 0).k] ∧
      (runP n vm se (min many 1000).toNat M c 0).c.fit ∧ Sat h' (mchR n rb tb wv (runP n vm se (min many 1000).toNat M c 0).M :: F) := by
  refine HCalls.via fun R hR => ?_
  obtain ⟨r, hr⟩ : ∃ r, runP n vm se (min many 1000).toNat M c 0 = r := ⟨_, rfl⟩
  rw [hr] at hR
  have z1 := (((hs.push (.cells #[.pointer (some ⟨rb, 0, none⟩), .pointer (some ⟨tb, 0, none⟩), wv] 41 (0, 0))).push (.cells c.cells.toArray 30 (0, 0))).push (.cells (tzeroD Tryz.prog 30).cells 30 (0, 0))).push (.cells okT.cells.toArray 56 (0, 0))
  simp only [tzeroD_30, size_push', Trp.cells_eq, okT, okF] at z1
  have tk := take_cpu f
  refine HCalls.of_dev T18 Tryz.func18 rfl mixed (by kernel_rfl) ?_; rw [Tryz.results18]
  simp (maxSteps := 2000000) (disch := first | (simp only [go_sem, simprocAttr, tk] <;> omega) | omega) only [go_sem, simprocAttr, tk]
  refine loopH.intro (fun t : Nat × Mch × Cp => (.cons 2 (.int .i64 vm) true (.cons 3 (.int .i64 se) true (.cons 4 (.int .i64 many) true (.cons 5 (.pointer (some ⟨h.size, 0, none⟩)) true (.cons 6 (.pointer (some ⟨h.size + 1, 0, none⟩)) true (.cons 10 (.pointer (some ⟨h.size + 1 + 1, 0, none⟩)) true (.cons 11 (.pointer (some ⟨h.size + 1 + 1 + 1, 0, none⟩)) true (.cons 13 (.int .i64 t.1) true .nil)))))))))
    (fun t h' => t.1 ≤ (min many 1000).toNat ∧ t.2.2.fit ∧ uniqT t.2.1.T ∧ vmT vm t.2.1.T ∧ runP n vm se ((min many 1000).toNat - t.1) t.2.1 t.2.2 t.1 = r ∧ Sat h' (cellAt (h.size + 1 + 1 + 1) (.cells #[.int .i64 0, .int .i64 0, .int .i64 0, .int .i64 0, .int .i64 0, .int .i64 0, .bool false, .int .i64 0] 56 (0, 0)) ::
      cellAt (h.size + 1 + 1) (.cells #[.int .u32 0, .int .u32 0, .int .u32 0, .int .u32 0, .int .u32 0, .int .u32 0, .int .u32 0, .int .u32 0, .int .u32 0, .int .u32 0, .int .u32 0, .int .u32 0, .int .u32 0, .int .u32 0, .int .u32 0, .int .u32 0, .int .i64 0, .int .u32 0, .int .u32 0, .int .u32 0, .int .u32 0, .int .u32 0, .int .u32 0, .int .u32 0, .int .u32 0] 30 (0, 0)) ::
      cellAt (h.size + 1) (.cells t.2.2.cells.toArray 30 (0, 0)) :: cellAt h.size (.cells #[.pointer (some ⟨rb, 0, none⟩), .pointer (some ⟨tb, 0, none⟩), wv] 41 (0, 0)) :: mchR n rb tb wv t.2.1 :: F)) (fun t _ => (min many 1000).toNat + 1 - t.1) (0, M, c) ?_ ⟨by simp, f, u, hvm, hr, z1⟩ ?_
  · rfl
  clear z1 hr f tk hs u hvm
  rintro ⟨k, M, c⟩ h2 ⟨hk, f, u, hvm, hr, s⟩
  simp only at hk f u hvm hr s
  have tk := take_cpu f
  have gc := (s.front 2).get
  have gm := (s.front 3).get
  have n16 : nthL c.cells 16 = some (.int .i64 c.Pc) := by rw [nthL_eq]; exact Cp.pc f
  by_cases q : (k : Int) < min many 1000
  · obtain ⟨j, hj⟩ : ∃ j, (min many 1000).toNat - k = j + 1 := ⟨(min many 1000).toNat - k - 1, by omega⟩
    rw [hj] at hr
    have wq : IntKind.i64.wrap (c.Pc.tdiv 4) = c.Pc.tdiv 4 := w64_id (tdiv4_bd f.p1 f.p2).1 (tdiv4_bd f.p1 f.p2).2
    have wa : IntKind.i64.wrap (atP c.Pc) = atP c.Pc := w64_id (by have := atP_bd c.Pc; omega) (by have := atP_bd c.Pc; omega)
    have ha := at_mod c.Pc
    have k1 : (k : Int) < many := by omega
    have k2 : (k : Int) < 1000 := by omega
    have u3 := stepP_fine n M c vm se (atP c.Pc) u
    have v3 := stepP_vt n M c se (atP c.Pc) hvm
    by_cases neg : (c.Pc.tdiv 4).tmod 8 < 0
    · rw [if_pos neg] at ha
      simp (maxSteps := 2000000) (disch := first | (simp only [go_sem, simprocAttr, k1, k2, gc, gm, tk, n16, wq, neg, ha, wa] <;> omega) | omega) only [go_sem, simprocAttr, k1, k2, gc, gm, tk, n16, wq, neg, ha, wa]
      refine (rstepM_S f u vm se (atP c.Pc) hvm (s.front 4)).mono ?_
      rintro v h3 ⟨rfl, f1, t1⟩
      by_cases z : (stepP n M c vm se (atP c.Pc)).t.C = 0
      · rw [runP_go z] at hr
        have htr := stepP_okT (n := n) (M := M) (c := c) (vm := vm) (se := se) (at_ := atP c.Pc) z
        obtain ⟨st, hst⟩ : ∃ st, stepP n M c vm se (atP c.Pc) = st := ⟨_, rfl⟩
        rw [hst] at f1 t1 z hr htr u3 v3 ⊢
        clear hst
        obtain ⟨M1, c1, tr⟩ := st
        simp only at f1 t1 z hr htr ⊢
        subst htr
        simp (maxSteps := 2000000) (disch := first | (simp only [go_sem, simprocAttr] <;> omega) | omega) only [go_sem, simprocAttr]
        have q0 := (t1.push (.cells (tzeroD Tryz.prog 30).cells 30 (0, 0))).push (.cells okT.cells.toArray 56 (0, 0))
        simp only [tzeroD_30, Trp.cells_eq, okT, okF, size_push'] at q0
        refine store_cpu f1 (q0.front 1).get (by rfl) ?_
        have q1 := (t1.push (.cells c1.cells.toArray 30 (0, 0))).push (.cells okT.cells.toArray 56 (0, 0))
        simp only [Trp.cells_eq, okT, okF, size_push'] at q1
        have tk1 := take_cpu f1
        have y1 := q1.get
        have y2 := (q1.front 1).get
        simp (maxSteps := 2000000) (disch := first | (simp only [go_sem, simprocAttr, y1, y2, tk1, okT, okF] <;> omega) | omega) only [go_sem, simprocAttr, y1, y2, tk1, okT, okF]
        refine store_cpu f1 (q1.front 5).get (by simp [Cp.len f]) ?_
        have q3 := (q1.front 5).set (.cells c1.cells.toArray 30 (0, 0))
        refine ⟨(k + 1, M1, c1), rfl, ⟨by simp only; omega, f1, u3.u, v3, ?_, (q3.drop1.drop1.back 3).back 4⟩, by simp only; omega⟩
        try simp only
        rw [show (min many 1000).toNat - (k + 1) = j by omega]
        exact hr
      · rw [runP_stop z] at hr
        subst hr
        simp only at hR
        obtain ⟨st, hst⟩ : ∃ st, stepP n M c vm se (atP c.Pc) = st := ⟨_, rfl⟩
        rw [hst] at f1 t1 z hR u3 v3 ⊢
        clear hst
        obtain ⟨M1, c1, tr⟩ := st
        simp only at f1 t1 z hR ⊢
        simp (maxSteps := 2000000) (disch := first | (simp only [go_sem, simprocAttr] <;> omega) | omega) only [go_sem, simprocAttr]
        have q0 := (t1.push (.cells (tzeroD Tryz.prog 30).cells 30 (0, 0))).push (.cells okT.cells.toArray 56 (0, 0))
        simp only [tzeroD_30, Trp.cells_eq, okT, okF, size_push'] at q0
        refine store_cpu f1 (q0.front 1).get (by rfl) ?_
        have q1 := (t1.push (.cells c1.cells.toArray 30 (0, 0))).push (.cells okT.cells.toArray 56 (0, 0))
        have q2 := (t1.push (.cells c1.cells.toArray 30 (0, 0))).push (.cells tr.cells.toArray 56 (0, 0))
        simp only [Trp.cells_eq, okT, okF, size_push'] at q1 q2
        have tk1 := take_cpu f1
        have y1 := q1.get
        have y2 := q2.get
        have y3 := (q2.front 1).get
        simp (maxSteps := 2000000) (disch := first | (simp only [go_sem, simprocAttr, y1, y2, y3, tk1, z] <;> omega) | omega) only [go_sem, simprocAttr, y1, y2, y3, tk1, z]
        refine store_cpu f1 (q2.front 4).get (by rfl) ?_
        have u1 := (q2.front 4).set (.cells c1.cells.toArray 30 (0, 0))
        have u2 := (u1.front 4).set (.cells tr.cells.toArray 56 (0, 0))
        simp only [Trp.cells_eq] at u2
        simp (maxSteps := 2000000) (disch := first | (simp only [go_sem, simprocAttr, (u1.front 1).get, (u1.front 4).get, u2.get, (u2.front 1).get, tk1] <;> omega) | omega) only [go_sem, simprocAttr, (u1.front 1).get, (u1.front 4).get, u2.get, (u2.front 1).get, tk1]
        exact hR _ _ ⟨rfl, f1, u2.tail.tail.tail.tail.drop1.drop1⟩
    · rw [if_neg neg] at ha
      have nn : ¬ atP c.Pc < 0 := by have := atP_bd c.Pc; omega
      simp (maxSteps := 2000000) (disch := first | (simp only [go_sem, simprocAttr, k1, k2, gc, gm, tk, n16, wq, ha, nn, wa] <;> omega) | omega) only [go_sem, simprocAttr, k1, k2, gc, gm, tk, n16, wq, ha, nn, wa]
      refine (rstepM_S f u vm se (atP c.Pc) hvm (s.front 4)).mono ?_
      rintro v h3 ⟨rfl, f1, t1⟩
      by_cases z : (stepP n M c vm se (atP c.Pc)).t.C = 0
      · rw [runP_go z] at hr
        have htr := stepP_okT (n := n) (M := M) (c := c) (vm := vm) (se := se) (at_ := atP c.Pc) z
        obtain ⟨st, hst⟩ : ∃ st, stepP n M c vm se (atP c.Pc) = st := ⟨_, rfl⟩
        rw [hst] at f1 t1 z hr htr u3 v3 ⊢
        clear hst
        obtain ⟨M1, c1, tr⟩ := st
        simp only at f1 t1 z hr htr ⊢
        subst htr
        simp (maxSteps := 2000000) (disch := first | (simp only [go_sem, simprocAttr] <;> omega) | omega) only [go_sem, simprocAttr]
        have q0 := (t1.push (.cells (tzeroD Tryz.prog 30).cells 30 (0, 0))).push (.cells okT.cells.toArray 56 (0, 0))
        simp only [tzeroD_30, Trp.cells_eq, okT, okF, size_push'] at q0
        refine store_cpu f1 (q0.front 1).get (by rfl) ?_
        have q1 := (t1.push (.cells c1.cells.toArray 30 (0, 0))).push (.cells okT.cells.toArray 56 (0, 0))
        simp only [Trp.cells_eq, okT, okF, size_push'] at q1
        have tk1 := take_cpu f1
        have y1 := q1.get
        have y2 := (q1.front 1).get
        simp (maxSteps := 2000000) (disch := first | (simp only [go_sem, simprocAttr, y1, y2, tk1, okT, okF] <;> omega) | omega) only [go_sem, simprocAttr, y1, y2, tk1, okT, okF]
        refine store_cpu f1 (q1.front 5).get (by simp [Cp.len f]) ?_
        have q3 := (q1.front 5).set (.cells c1.cells.toArray 30 (0, 0))
        refine ⟨(k + 1, M1, c1), rfl, ⟨by simp only; omega, f1, u3.u, v3, ?_, (q3.drop1.drop1.back 3).back 4⟩, by simp only; omega⟩
        try simp only
        rw [show (min many 1000).toNat - (k + 1) = j by omega]
        exact hr
      · rw [runP_stop z] at hr
        subst hr
        simp only at hR
        obtain ⟨st, hst⟩ : ∃ st, stepP n M c vm se (atP c.Pc) = st := ⟨_, rfl⟩
        rw [hst] at f1 t1 z hR u3 v3 ⊢
        clear hst
        obtain ⟨M1, c1, tr⟩ := st
        simp only at f1 t1 z hR ⊢
        simp (maxSteps := 2000000) (disch := first | (simp only [go_sem, simprocAttr] <;> omega) | omega) only [go_sem, simprocAttr]
        have q0 := (t1.push (.cells (tzeroD Tryz.prog 30).cells 30 (0, 0))).push (.cells okT.cells.toArray 56 (0, 0))
        simp only [tzeroD_30, Trp.cells_eq, okT, okF, size_push'] at q0
        refine store_cpu f1 (q0.front 1).get (by rfl) ?_
        have q1 := (t1.push (.cells c1.cells.toArray 30 (0, 0))).push (.cells okT.cells.toArray 56 (0, 0))
        have q2 := (t1.push (.cells c1.cells.toArray 30 (0, 0))).push (.cells tr.cells.toArray 56 (0, 0))
        simp only [Trp.cells_eq, okT, okF, size_push'] at q1 q2
        have tk1 := take_cpu f1
        have y1 := q1.get
        have y2 := q2.get
        have y3 := (q2.front 1).get
        simp (maxSteps := 2000000) (disch := first | (simp only [go_sem, simprocAttr, y1, y2, y3, tk1, z] <;> omega) | omega) only [go_sem, simprocAttr, y1, y2, y3, tk1, z]
        refine store_cpu f1 (q2.front 4).get (by rfl) ?_
        have u1 := (q2.front 4).set (.cells c1.cells.toArray 30 (0, 0))
        have u2 := (u1.front 4).set (.cells tr.cells.toArray 56 (0, 0))
        simp only [Trp.cells_eq] at u2
        simp (maxSteps := 2000000) (disch := first | (simp only [go_sem, simprocAttr, (u1.front 1).get, (u1.front 4).get, u2.get, (u2.front 1).get, tk1] <;> omega) | omega) only [go_sem, simprocAttr, (u1.front 1).get, (u1.front 4).get, u2.get, (u2.front 1).get, tk1]
        exact hR _ _ ⟨rfl, f1, u2.tail.tail.tail.tail.drop1.drop1⟩
  · rw [show (min many 1000).toNat - k = 0 by omega] at hr
    subst hr
    simp only [runP] at hR
    by_cases k1 : (k : Int) < many
    · have k2 : ¬ (k : Int) < 1000 := by omega
      simp (maxSteps := 2000000) (disch := first | (simp only [go_sem, simprocAttr, k1, k2, s.get, gc, gm, tk, (s.front 1).get] <;> omega) | omega) only [go_sem, simprocAttr, k1, k2, s.get, gc, gm, tk, (s.front 1).get]
      refine store_cpu f (s.front 1).get (by rfl) ?_
      have u1 := (s.front 1).set (.cells c.cells.toArray 30 (0, 0))
      have u2 := (u1.front 1).set (.cells okT.cells.toArray 56 (0, 0))
      simp only [Trp.cells_eq, okT, okF] at u2
      have y1 := (u1.front 1).get
      have y2 := u2.get
      have y3 := (u2.front 1).get
      simp (maxSteps := 2000000) (disch := first | (simp only [go_sem, simprocAttr, y1, y2, y3, tk] <;> omega) | omega) only [go_sem, simprocAttr, y1, y2, y3, tk]
      exact hR _ _ ⟨rfl, f, u2.tail.tail.tail.tail⟩
    · simp (maxSteps := 2000000) (disch := first | (simp only [go_sem, simprocAttr, k1, s.get, gc, gm, tk, (s.front 1).get] <;> omega) | omega) only [go_sem, simprocAttr, k1, s.get, gc, gm, tk, (s.front 1).get]
      refine store_cpu f (s.front 1).get (by rfl) ?_
      have u1 := (s.front 1).set (.cells c.cells.toArray 30 (0, 0))
      have u2 := (u1.front 1).set (.cells okT.cells.toArray 56 (0, 0))
      simp only [Trp.cells_eq, okT, okF] at u2
      have y1 := (u1.front 1).get
      have y2 := u2.get
      have y3 := (u2.front 1).get
      simp (maxSteps := 2000000) (disch := first | (simp only [go_sem, simprocAttr, y1, y2, y3, tk] <;> omega) | omega) only [go_sem, simprocAttr, y1, y2, y3, tk]
      exact hR _ _ ⟨rfl, f, u2.tail.tail.tail.tail⟩
end
end Go.Eng
