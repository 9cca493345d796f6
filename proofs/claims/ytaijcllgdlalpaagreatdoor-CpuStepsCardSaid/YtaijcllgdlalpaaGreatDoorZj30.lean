/-
  package cpu: Run.
-/
import Derived.Test.YtaijcllgdlalpaaGreatDoorZj27
import Derived.Test.YtaijcllgdlalpaaGreatDoorZj29
set_option linter.unusedSimpArgs false
set_option linter.unusedVariables false
set_option maxRecDepth 16000
set_option maxHeartbeats 4000000
namespace Go.Eng
open Go Go.Proofs
section
variable {h : Heap} {F : List SP} {n rb tb : Nat} {vv : Value} {M : Mch} {c : Cp}
theorem run_S (f : c.fit) (hs : Sat h (mchS n rb tb vv M :: F)) (vm se many : Int) :
    HCalls Tryz.prog 16 #[.agg #[.pointer (some ⟨rb, 0, none⟩), .pointer (some ⟨tb, 0, none⟩), vv], .agg c.cells.toArray, .int .i64 vm, .int .i64 se, .int .i64 many] h fun v h' =>
      v = .tuple #[.agg (runP n vm se (min many 1000).toNat M c 0).c.cells.toArray, .agg (runP n vm se (min many 1000).toNat M c 0).t.cells.toArray, .int .i64 (runP n vm se (min many 1000).toNat M c 0).k] ∧
      (runP n vm se (min many 1000).toNat M c 0).c.fit ∧ Sat h' (mchS n rb tb vv (runP n vm se (min many 1000).toNat M c 0).M :: F) := by
  refine HCalls.via fun R hR => ?_
  obtain ⟨r, hr⟩ : ∃ r, runP n vm se (min many 1000).toNat M c 0 = r := ⟨_, rfl⟩
  rw [hr] at hR
  have z1 := (((hs.push (.cells #[.pointer (some ⟨rb, 0, none⟩), .pointer (some ⟨tb, 0, none⟩), vv] 36 (0, 0))).push (.cells c.cells.toArray 30 (0, 0))).push (.cells (tzeroD Tryz.prog 30).cells 30 (0, 0))).push (.cells okT.cells.toArray 56 (0, 0))
  simp only [tzeroD_30, size_push', Trp.cells_eq, okT, okF] at z1
  have tk := take_cpu f
  refine HCalls.of_dev T16 Tryz.func16 rfl mixed (by kernel_rfl) ?_; rw [Tryz.results16]
  simp (maxSteps := 2000000) (disch := first | (simp only [go_sem, simprocAttr, tk] <;> omega) | omega) only [go_sem, simprocAttr, tk]
  refine loopH.intro (fun t : Nat × Mch × Cp => (.cons 2 (.int .i64 vm) true (.cons 3 (.int .i64 se) true (.cons 4 (.int .i64 many) true (.cons 5 (.pointer (some ⟨h.size, 0, none⟩)) true (.cons 6 (.pointer (some ⟨h.size + 1, 0, none⟩)) true (.cons 10 (.pointer (some ⟨h.size + 1 + 1, 0, none⟩)) true (.cons 11 (.pointer (some ⟨h.size + 1 + 1 + 1, 0, none⟩)) true (.cons 13 (.int .i64 t.1) true .nil)))))))))
    (fun t h' => t.1 ≤ (min many 1000).toNat ∧ t.2.2.fit ∧ runP n vm se ((min many 1000).toNat - t.1) t.2.1 t.2.2 t.1 = r ∧ Sat h' (cellAt (h.size + 1 + 1 + 1) (.cells #[.int .i64 0, .int .i64 0, .int .i64 0, .int .i64 0, .int .i64 0, .int .i64 0, .bool false, .int .i64 0] 56 (0, 0)) ::
      cellAt (h.size + 1 + 1) (.cells #[.int .u32 0, .int .u32 0, .int .u32 0, .int .u32 0, .int .u32 0, .int .u32 0, .int .u32 0, .int .u32 0, .int .u32 0, .int .u32 0, .int .u32 0, .int .u32 0, .int .u32 0, .int .u32 0, .int .u32 0, .int .u32 0, .int .i64 0, .int .u32 0, .int .u32 0, .int .u32 0, .int .u32 0, .int .u32 0, .int .u32 0, .int .u32 0, .int .u32 0] 30 (0, 0)) ::
      cellAt (h.size + 1) (.cells t.2.2.cells.toArray 30 (0, 0)) :: cellAt h.size (.cells #[.pointer (some ⟨rb, 0, none⟩), .pointer (some ⟨tb, 0, none⟩), vv] 36 (0, 0)) :: mchS n rb tb vv t.2.1 :: F)) (fun t _ => (min many 1000).toNat + 1 - t.1) (0, M, c) ?_ ⟨by simp, f, hr, z1⟩ ?_
  · rfl
  clear z1 hr f tk hs
  rintro ⟨k, M, c⟩ h2 ⟨hk, f, hr, s⟩
  simp only at hk f hr s
  have tk := take_cpu f
  have gc := (s.front 2).get
  have gm := (s.front 3).get
  have n16 : nthL c.cells 16 = some (.int .i64 c.Pc) := by rw [nthL_eq]; exact Cp.pc f
  by_cases q : (k : Int) < min many 1000
  · obtain ⟨j, hj⟩ : ∃ j, (min many 1000).toNat - k = j + 1 := ⟨(min many 1000).toNat - k - 1, by omega⟩
    rw [hj] at hr
    have wq : IntKind.i64.wrap (c.Pc.tdiv 4) = c.Pc.tdiv 4 := w64_id (tdiv4_bd f.p1 f.p2).1 (tdiv4_bd f.p1 f.p2).2
    have al : IntKind.i64.wrap ((BitVec.ofInt IntKind.i64.bits (c.Pc.tdiv 4) &&& BitVec.ofInt IntKind.i64.bits 7).toNat : Int) = atP c.Pc := at_low c.Pc
    simp (maxSteps := 2000000) (disch := first | (simp only [go_sem, simprocAttr, q, gc, gm, tk, n16] <;> omega) | omega) only [go_sem, simprocAttr, q, gc, gm, tk, n16]
    simp only [wq]
    erw [al]
    refine (stepM_S f (s.front 4) vm se (atP c.Pc) (fun _ _ _ _ _ _ _ => Nat.zero_le _)).mono ?_
    rintro v h3 ⟨rfl, f1, t1⟩
    by_cases z : (stepP n M c vm se (atP c.Pc)).t.C = 0
    · rw [runP_go z] at hr
      have htr := stepP_okT (n := n) (M := M) (c := c) (vm := vm) (se := se) (at_ := atP c.Pc) z
      obtain ⟨st, hst⟩ : ∃ st, stepP n M c vm se (atP c.Pc) = st := ⟨_, rfl⟩
      rw [hst] at f1 t1 z hr htr ⊢
      clear hst
      obtain ⟨M1, c1, tr⟩ := st
      simp only at f1 t1 z hr htr ⊢
      subst htr
      simp (maxSteps := 2000000) (disch := first | (simp only [go_sem, simprocAttr] <;> omega) | omega) only [go_sem, simprocAttr]
      have q0 := (t1.push (.cells (tzeroD Tryz.prog 30).cells 30 (0, 0))).push (.cells okT.cells.toArray 56 (0, 0))
      simp only [tzeroD_30, Trp.cells_eq, okT, okF, size_push'] at q0
      refine store_cpu f1 (q0.front 1).get (by rfl) ?_
      have q1 := (t1.push (.cells c1.cells.toArray 30 (0, 0))).push (.cells okT.cells.toArray 56 (0, 0))
      simp only [Trp.cells_eq, okT, okF, size_push'] at q1
      have tk1 := take_cpu f1
      have y1 := q1.get
      have y2 := (q1.front 1).get
      simp (maxSteps := 2000000) (disch := first | (simp only [go_sem, simprocAttr, y1, y2, tk1, okT, okF] <;> omega) | omega) only [go_sem, simprocAttr, y1, y2, tk1, okT, okF]
      refine store_cpu f1 (q1.front 5).get (by simp [Cp.len f]) ?_
      have q3 := (q1.front 5).set (.cells c1.cells.toArray 30 (0, 0))
      have y3 := (q3.front 1).get
      simp (maxSteps := 2000000) (disch := first | (simp only [go_sem, simprocAttr, y3] <;> omega) | omega) only [go_sem, simprocAttr, y3]
      refine ⟨(k + 1, M1, c1), rfl, ⟨by simp only; omega, f1, ?_, (q3.drop1.drop1.back 3).back 4⟩, by simp only; omega⟩
      try simp only
      rw [show (min many 1000).toNat - (k + 1) = j by omega]
      exact hr
    · rw [runP_stop z] at hr
      subst hr
      simp only at hR
      obtain ⟨st, hst⟩ : ∃ st, stepP n M c vm se (atP c.Pc) = st := ⟨_, rfl⟩
      rw [hst] at f1 t1 z hR ⊢
      clear hst
      obtain ⟨M1, c1, tr⟩ := st
      simp only at f1 t1 z hR ⊢
      simp (maxSteps := 2000000) (disch := first | (simp only [go_sem, simprocAttr] <;> omega) | omega) only [go_sem, simprocAttr]
      have q0 := (t1.push (.cells (tzeroD Tryz.prog 30).cells 30 (0, 0))).push (.cells okT.cells.toArray 56 (0, 0))
      simp only [tzeroD_30, Trp.cells_eq, okT, okF, size_push'] at q0
      refine store_cpu f1 (q0.front 1).get (by rfl) ?_
      have q1 := (t1.push (.cells c1.cells.toArray 30 (0, 0))).push (.cells okT.cells.toArray 56 (0, 0))
      have q2 := (t1.push (.cells c1.cells.toArray 30 (0, 0))).push (.cells tr.cells.toArray 56 (0, 0))
      simp only [Trp.cells_eq, okT, okF, size_push'] at q1 q2
      have tk1 := take_cpu f1
      have y1 := q1.get
      have y2 := q2.get
      have y3 := (q2.front 1).get
      simp (maxSteps := 2000000) (disch := first | (simp only [go_sem, simprocAttr, y1, y2, y3, tk1, z] <;> omega) | omega) only [go_sem, simprocAttr, y1, y2, y3, tk1, z]
      refine store_cpu f1 (q2.front 5).get (by simp [Cp.len f]) ?_
      have q3 := (q2.front 5).set (.cells c1.cells.toArray 30 (0, 0))
      have y4 := (q3.front 1).get
      have y5 := q3.get
      simp (maxSteps := 2000000) (disch := first | (simp only [go_sem, simprocAttr, y4, y5, tk1, z] <;> omega) | omega) only [go_sem, simprocAttr, y4, y5, tk1, z]
      refine store_cpu f1 (q3.front 5).get (by rfl) ?_
      have u1 := (q3.front 5).set (.cells c1.cells.toArray 30 (0, 0))
      have u2 := (u1.front 5).set (.cells tr.cells.toArray 56 (0, 0))
      simp only [Trp.cells_eq] at u2
      have y6 := (u1.front 2).get
      have y7 := (u1.front 5).get
      have y8 := u2.get
      have y9 := (u2.front 1).get
      simp (maxSteps := 2000000) (disch := first | (simp only [go_sem, simprocAttr, y6, y7, y8, y9, tk1] <;> omega) | omega) only [go_sem, simprocAttr, y6, y7, y8, y9, tk1]
      exact hR _ _ ⟨rfl, f1, u2.tail.tail.tail.tail.tail.drop1⟩
  · simp (maxSteps := 2000000) (disch := first | (simp only [go_sem, simprocAttr, q, s.get, gc, gm, tk, (s.front 1).get] <;> omega) | omega) only [go_sem, simprocAttr, q, s.get, gc, gm, tk, (s.front 1).get]
    rw [show (min many 1000).toNat - k = 0 by omega] at hr
    subst hr
    simp only [runP] at hR
    refine store_cpu f (s.front 1).get (by rfl) ?_
    have u1 := (s.front 1).set (.cells c.cells.toArray 30 (0, 0))
    have u2 := (u1.front 1).set (.cells okT.cells.toArray 56 (0, 0))
    simp only [Trp.cells_eq, okT, okF] at u2
    have y1 := (u1.front 1).get
    have y2 := u2.get
    have y3 := (u2.front 1).get
    simp (maxSteps := 2000000) (disch := first | (simp only [go_sem, simprocAttr, y1, y2, y3, tk] <;> omega) | omega) only [go_sem, simprocAttr, y1, y2, y3, tk]
    exact hR _ _ ⟨rfl, f, u2.tail.tail.tail.tail⟩
end
end Go.Eng
