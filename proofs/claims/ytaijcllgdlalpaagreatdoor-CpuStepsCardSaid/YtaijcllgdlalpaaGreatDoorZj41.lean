/-
  The law CpuSteps.
-/
import Derived.Test.YtaijcllgdlalpaaGreatDoorZj30
import Derived.Test.YtaijcllgdlalpaaGreatDoorZj40
import Derived.Test.YtaijcllgdlalpaaGreatDoorZj28
set_option linter.unusedSimpArgs false
set_option linter.unusedVariables false
set_option maxRecDepth 16000
set_option maxHeartbeats 4000000
namespace Go.Eng
open Go Go.Proofs
structure ActP where
  d : Int
  n : Int
  m : Int
  o : Bool
def ActP.cells (a : ActP) : List Value := [.int .i64 a.d, .int .i64 a.n, .int .i64 a.m, .bool a.o]
theorem mJoin {h : Heap} {G : List SP} {rb tb rrb rtb : Nat} {vv wv : Value} {M : Mch} (s : Sat h (refRamS rrb 16 M.mem :: tlbS rtb M.T :: rvS wv M.V :: ramS rb 16 M.mem :: tlbS tb M.T :: vS vv M.V :: G)) : Sat h (mchS 16 rb tb vv M :: mchR 16 rrb rtb wv M :: G) := by
  have q1 : Sat h (mchR 16 rrb rtb wv M :: ramS rb 16 M.mem :: tlbS tb M.T :: vS vv M.V :: G) := Sat.star.2 s
  exact Sat.star.2 (q1.back 3)
theorem mSplit {h : Heap} {G : List SP} {rb tb rrb rtb : Nat} {vv wv : Value} {M : Mch} (s : Sat h (mchS 16 rb tb vv M :: mchR 16 rrb rtb wv M :: G)) : Sat h (refRamS rrb 16 M.mem :: tlbS rtb M.T :: rvS wv M.V :: ramS rb 16 M.mem :: tlbS tb M.T :: vS vv M.V :: G) := Sat.star.1 ((Sat.star.1 s).front 3)
theorem rvS_ok {h : Heap} {F : List SP} {wv : Value} {V : Option Vg} (hs : Sat h (rvS wv V :: F)) : vvOk wv V.isSome := by
  cases V with
  | none => exact .inl ⟨rfl, (rvS_none.1 hs).1⟩
  | some m =>
    obtain ⟨wb, x, e, -⟩ := rvS_some.1 hs
    exact .inr ⟨rfl, _, e⟩
section
variable {h : Heap}
theorem steps_law {v1 v2 v3 : Value} {P : List PutP} {L : List WordP} {A : List ActP} (hp : rdL PutP.cells 6 h v1 P) (hL : rdL WordP.cells 2 h v2 L) (hb : ∀ x ∈ L, 0 ≤ x.w ∧ x.w < 4294967296) (hA : rdL ActP.cells 4 h v3 A) (g : Bool) (vm se : Int) {c : Cp} (f : c.fit) :
    HCalls Tryz.prog 6 #[.agg #[v1, v2, .bool g, .int .i64 vm, .int .i64 se], .agg c.cells.toArray, v3] h fun v h' => v = .bool true ∧ Ext h h' := by
  refine HCalls.via fun R hR => ?_
  refine HCalls.of_dev T6 Tryz.func6 rfl mixed (by kernel_rfl) ?_; rw [Tryz.results6]
  have s0 := ((Sat.init h).push (.cells #[v1, v2, .bool g, .int .i64 vm, .int .i64 se] 25 (0, 0))).push (.cells c.cells.toArray 30 (0, 0))
  simp only [size_push'] at s0
  have tk := take_cpu f
  simp (maxSteps := 2000000) (disch := first | (simp only [go_sem, simprocAttr, tk] <;> omega) | omega) only [go_sem, simprocAttr, tk]
  refine awake_S.mono ?_
  rintro v h1 ⟨rfl, x1⟩
  have s1 := s0.grow x1
  have gx := (s1.front 1).get
  simp (maxSteps := 2000000) (disch := first | (simp only [go_sem, simprocAttr, gx] <;> omega) | omega) only [go_sem, simprocAttr, gx]
  have e1 := (s1.front 2).ext
  refine (made_S2 hb g vm se (hp.ext e1) (hL.ext e1)).mono ?_
  rintro v h2 ⟨rb, tb, pv, rrb, rtb, x3, rfl, m1⟩
  obtain ⟨sA, capA, rfl, gA⟩ := hA
  generalize hM0 : (⟨memP P L, noT, if g then some vg0 else none⟩ : Mch) = M0 at m1
  have m2 : Sat h2 [starL [mchS 16 rb tb (.pointer pv) M0, mchR 16 rrb rtb (.pointer x3) M0], oldS h1] := by
    have t0 : Sat h2 [tlbS rtb noT, rvS (.pointer x3) (if g then some vg0 else none), oldS h1, mchS 16 rb tb (.pointer pv) M0, refRamS rrb 16 (memP P L)] :=
      tlbS_iff.2 ⟨⟨rfl, fun l hl => .inl (List.eq_of_mem_replicate hl)⟩, 0, 0, _, m1.re [2, 3, 4, 0, 1]⟩
    have t1 : Sat h2 (mchR 16 rrb rtb (.pointer x3) M0 :: [mchS 16 rb tb (.pointer pv) M0, oldS h1]) := Sat.star.2 (by subst hM0; exact t0.re [4, 0, 1, 3, 2])
    exact Sat.star.2 (t1.re [1, 0, 2])
  have u0 : uniqT M0.T := by rw [← hM0]; exact uniqT_no
  have w0 : vmT vm M0.T := by rw [← hM0]; exact vmT_no
  have s2 := (Sat.star.1 (s1.over m2)).push (.cells #[.pointer (some ⟨rb, 0, none⟩), .pointer (some ⟨tb, 0, none⟩), .pointer pv, .pointer (some ⟨rrb, 0, none⟩), .pointer (some ⟨rtb, 0, none⟩), .pointer x3] 43 (0, 0))
  have s3z := s2.push (.cells (tzeroD Tryz.prog 30).cells 30 (0, 0))
  simp only [tzeroD_30, Value.cells, size_push'] at s3z
  have gc2 := (s2.front 3).get
  simp (maxSteps := 2000000) (disch := first | (simp only [go_sem, simprocAttr, gc2, tk] <;> omega) | omega) only [go_sem, simprocAttr, gc2, tk]
  refine store_cpu f s3z.get (by rfl) ?_
  have s3 := s3z.set (.cells c.cells.toArray 30 (0, 0))
  refine loopH.intro (fun t : Nat × Mch × Cp => (.cons 2 (.slice sA A.length capA) true (.cons 3 (.pointer (some ⟨h.size, 0, none⟩)) true (.cons 4 (.pointer (some ⟨h.size + 1, 0, none⟩)) true (.cons 7 (.bool true) true (.cons 8 (.pointer (some ⟨h2.size, 0, none⟩)) true (.cons 10 (.pointer (some ⟨h2.size + 1, 0, none⟩)) true (.cons 11 (.int .i64 t.1) true .nil))))))))
    (fun t h' => t.1 ≤ A.length ∧ t.2.2.fit ∧ uniqT t.2.1.T ∧ vmT vm t.2.1.T ∧ Sat h' [cellAt (h2.size + 1) (.cells t.2.2.cells.toArray 30 (0, 0)), cellAt h2.size (.cells #[.pointer (some ⟨rb, 0, none⟩), .pointer (some ⟨tb, 0, none⟩), .pointer pv, .pointer (some ⟨rrb, 0, none⟩), .pointer (some ⟨rtb, 0, none⟩), .pointer x3] 43 (0, 0)), mchS 16 rb tb (.pointer pv) t.2.1, mchR 16 rrb rtb (.pointer x3) t.2.1, cellAt (h.size + 1) (.cells t.2.2.cells.toArray 30 (0, 0)), cellAt h.size (.cells #[v1, v2, .bool g, .int .i64 vm, .int .i64 se] 25 (0, 0)), oldS h]) (fun t _ => A.length + 1 - t.1) (0, M0, c) ?_ ⟨by simp only; omega, f, u0, w0, s3⟩ ?_
  · rfl
  clear s3 s3z s2 u0 w0 hM0 m2 m1 gx s1 gc2 f tk s0
  rintro ⟨i, M, c⟩ h3 ⟨hi, f, u, w, s⟩
  simp only at hi f u w s
  by_cases q : i < A.length ∧ i < 60
  case neg =>
    by_cases q1 : i < A.length
    · have q2 : (i : Int) < A.length := by omega
      have q3 : ¬ (i : Int) < 60 := by omega
      simp (maxSteps := 2000000) (disch := first | (simp only [go_sem, simprocAttr, q2, q3] <;> omega) | omega) only [go_sem, simprocAttr, q2, q3]
      exact hR _ _ ⟨rfl, (s.front 6).ext⟩
    · have q2 : ¬ (i : Int) < A.length := by omega
      simp (maxSteps := 2000000) (disch := first | (simp only [go_sem, simprocAttr, q2] <;> omega) | omega) only [go_sem, simprocAttr, q2]
      exact hR _ _ ⟨rfl, (s.front 6).ext⟩
  obtain ⟨q1, q2⟩ := q
  have q1' : (i : Int) < A.length := by omega
  have q2' : (i : Int) < 60 := by omega
  obtain ⟨b, o, rfl, bl, gx⟩ := gA i q1
  have eh := (s.front 6).ext.get b bl
  generalize A[i] = a at gx
  obtain ⟨ad, an, am, ao⟩ := a
  have rd : hreadO h3[b]? (o + i * 4) 4 = some (⟨ad, an, am, ao⟩ : ActP).cells.toArray := by
    rw [eh]
    exact hreadO_of rfl (by decide) fun j hj => by rw [← gx j hj, Nat.add_assoc]
  have sb := s.push (.cells (⟨ad, an, am, ao⟩ : ActP).cells.toArray 72 (0, 0))
  simp only [ActP.cells] at sb rd
  have gb := sb.get
  have gw := (sb.front 2).get
  have gc := (sb.front 5).get
  have gd := (sb.front 1).get
  have gW := (sb.front 6).get
  have tk := take_cpu f
  by_cases d1 : ad = 1
  · subst d1
    simp (maxSteps := 2000000) (disch := first | (simp only [go_sem, simprocAttr, q1', q2', rd, gb, gw, gc, gW, tk] <;> omega) | omega) only [go_sem, simprocAttr, q1', q2', rd, gb, gw, gc, gW, tk]
    refine (stepM_S f (sb.front 3) vm se an (fun _ _ _ _ _ _ _ => Nat.zero_le _)).mono ?_
    rintro v k0 ⟨rfl, f1, t1⟩
    have u1 := (stepP_fine 16 M c vm se an u).u
    have w1 := stepP_vt 16 M c se an w
    obtain ⟨st, hst⟩ : ∃ st, stepP 16 M c vm se an = st := ⟨_, rfl⟩
    rw [hst] at f1 t1 u1 w1 ⊢
    obtain ⟨M1, c1, tr⟩ := st
    simp only at f1 t1 u1 w1 ⊢
    have tk1 := take_cpu f1
    simp (maxSteps := 2000000) (disch := first | (simp only [go_sem, simprocAttr] <;> omega) | omega) only [go_sem, simprocAttr]
    have q0a := (t1.push (.cells (tzeroD Tryz.prog 30).cells 30 (0, 0))).push (.cells okT.cells.toArray 56 (0, 0))
    simp only [tzeroD_30, Value.cells, Trp.cells_eq, okT, okF, size_push'] at q0a
    refine store_cpu f1 (q0a.front 1).get (by rfl) ?_
    have q1a := (t1.push (.cells c1.cells.toArray 30 (0, 0))).push (.cells okT.cells.toArray 56 (0, 0))
    have q2a := (t1.push (.cells c1.cells.toArray 30 (0, 0))).push (.cells tr.cells.toArray 56 (0, 0))
    simp only [Trp.cells_eq, okT, okF, size_push'] at q1a q2a
    simp (maxSteps := 2000000) (disch := first | (simp only [go_sem, simprocAttr, q1a.get, (q2a.front 5).get, (q2a.front 4).get, (q2a.front 8).get, (q2a.front 3).get, tk] <;> omega) | omega) only [go_sem, simprocAttr, q1a.get, (q2a.front 5).get, (q2a.front 4).get, (q2a.front 8).get, (q2a.front 3).get, tk]
    refine (rstepM_S f u vm se an w (q2a.front 6)).mono ?_
    rintro v k1 ⟨rfl, -, t2⟩
    rw [hst] at t2 ⊢
    simp only at t2 ⊢
    simp (maxSteps := 2000000) (disch := first | (simp only [go_sem, simprocAttr] <;> omega) | omega) only [go_sem, simprocAttr]
    have q0b := (t2.push (.cells (tzeroD Tryz.prog 30).cells 30 (0, 0))).push (.cells okT.cells.toArray 56 (0, 0))
    simp only [tzeroD_30, Value.cells, Trp.cells_eq, okT, okF, size_push'] at q0b
    refine store_cpu f1 (q0b.front 1).get (by rfl) ?_
    have q1b := (t2.push (.cells c1.cells.toArray 30 (0, 0))).push (.cells okT.cells.toArray 56 (0, 0))
    have q2b := (t2.push (.cells c1.cells.toArray 30 (0, 0))).push (.cells tr.cells.toArray 56 (0, 0))
    simp only [Trp.cells_eq, okT, okF, size_push'] at q1b q2b
    have r1 := (q2b.front 9).set (.cells c1.cells.toArray 30 (0, 0))
    have r2 := (r1.front 8).set (.cells c1.cells.toArray 30 (0, 0))
    simp (maxSteps := 2000000) (disch := first | (simp only [go_sem, simprocAttr, q1b.get, q2b.get, (q2b.front 1).get, (q2b.front 4).get, tk1] <;> omega) | omega) only [go_sem, simprocAttr, q1b.get, q2b.get, (q2b.front 1).get, (q2b.front 4).get, tk1]
    refine store_cpu f1 (q2b.front 9).get (by simp [Cp.len f]) ?_
    simp (maxSteps := 2000000) (disch := first | (simp only [go_sem, simprocAttr, (r1.front 2).get, tk1] <;> omega) | omega) only [go_sem, simprocAttr, (r1.front 2).get, tk1]
    refine store_cpu f1 (r1.front 8).get (by simp [Cp.len f]) ?_
    have X : Sat _ [cellAt (h2.size + 1) (.cells c1.cells.toArray 30 (0, 0)), cellAt h2.size (.cells #[.pointer (some ⟨rb, 0, none⟩), .pointer (some ⟨tb, 0, none⟩), .pointer pv, .pointer (some ⟨rrb, 0, none⟩), .pointer (some ⟨rtb, 0, none⟩), .pointer x3] 43 (0, 0)), mchS 16 rb tb (.pointer pv) M1, mchR 16 rrb rtb (.pointer x3) M1, cellAt (h.size + 1) (.cells c1.cells.toArray 30 (0, 0)), cellAt h.size (.cells #[v1, v2, .bool g, .int .i64 vm, .int .i64 se] 25 (0, 0)), oldS h] := r2.re [0, 9, 7, 4, 1, 10, 11]
    have y1 := (r2.front 2).get
    have y2 := (r2.front 5).get
    have tkx := take_cpu f1
    have gw := (X.front 1).get
    have gc := (X.front 4).get
    have gd := X.get
    have gW := (X.front 5).get
    have hvv : vvOk (.pointer pv) M1.V.isSome := vS_ok ((mSplit (X.front 3 |>.front 3)).front 5)
    have hww : vvOk (.pointer x3) M1.V.isSome := rvS_ok ((mSplit (X.front 3 |>.front 3)).front 2)
    simp (maxSteps := 2000000) (disch := first | (simp only [go_sem, simprocAttr, y1, y2, neqs_56, gw, gc, gd, gW, tkx] <;> omega) | omega) only [go_sem, simprocAttr, y1, y2, neqs_56, gw, gc, gd, gW, tkx]
    refine (space_S c1 f1 (.pointer (some ⟨rb, 0, none⟩)) (.pointer (some ⟨tb, 0, none⟩)) (.pointer pv) M1.V.isSome hvv vm se).mono ?_
    rintro v k1 ⟨rfl, e1⟩
    have X1 := (X.grow e1).push (.cells (spaceP M1.V.isSome c1 vm se).cells.toArray 78 (0, 0))
    generalize hsp : spaceP M1.V.isSome c1 vm se = sp at X1 ⊢
    simp only [Spc.cells_eq] at X1
    simp (maxSteps := 2000000) (disch := first | (simp only [go_sem, simprocAttr, X1.get, (X1.front 1).get, (X1.front 2).get, (X1.front 5).get, (X1.front 6).get, tkx] <;> omega) | omega) only [go_sem, simprocAttr, X1.get, (X1.front 1).get, (X1.front 2).get, (X1.front 5).get, (X1.front 6).get, tkx]
    refine (rspace_S c1 f1 (.pointer (some ⟨rrb, 0, none⟩)) (.pointer (some ⟨rtb, 0, none⟩)) (.pointer x3) M1.V.isSome hww vm se).mono ?_
    rintro v k2 ⟨rfl, e2⟩
    rw [hsp]
    have X2 := (X1.grow e2).push (.cells sp.cells.toArray 78 (0, 0))
    simp only [Spc.cells_eq] at X2
    simp (maxSteps := 2000000) (disch := first | (simp only [go_sem, simprocAttr, X2.get, (X2.front 3).get, tkx] <;> omega) | omega) only [go_sem, simprocAttr, X2.get, (X2.front 3).get, tkx]
    refine (sameB_S ((X2.front 5).front 5)).mono ?_
    rintro v k3 ⟨rfl, X3⟩
    have be := fun (h : Heap) (x y : Operand) => binD_neq_flat (h := h) (x := x) (y := y) (P := Tryz.prog) (t := 30) (by kernel_rfl) (fitC f1) (fitC f1)
    simp only [eqC f1 f1, decide_true] at be
    have Y := X3.re [4, 5, 0, 1, 6, 7, 8]
    simp (maxSteps := 2000000) (disch := first | (simp only [go_sem, simprocAttr, (X3.front 2).get, (X3.front 3).get, (X3.front 4).get, (X3.front 6).get, tkx, be, neqs_78] <;> omega) | omega) only [go_sem, simprocAttr, (X3.front 2).get, (X3.front 3).get, (X3.front 4).get, (X3.front 6).get, tkx, be, neqs_78]
    exact ⟨(i + 1, M1, c1), rfl, ⟨by simp only; omega, f1, u1, w1, Y⟩, by simp only; omega⟩
  by_cases d2 : ad = 2
  · subst d2
    simp (maxSteps := 2000000) (disch := first | (simp only [go_sem, simprocAttr, q1', q2', rd, gb, gw, gc, gW, tk] <;> omega) | omega) only [go_sem, simprocAttr, q1', q2', rd, gb, gw, gc, gW, tk]
    refine (run_S f (sb.front 3) vm se an).mono ?_
    rintro v k0 ⟨rfl, f1, t1⟩
    have u1 := runP_fine 16 vm se (min an 1000).toNat M c 0 u
    have w1 := runP_vt 16 se (min an 1000).toNat M c 0 w
    obtain ⟨st, hst⟩ : ∃ st, runP 16 vm se (min an 1000).toNat M c 0 = st := ⟨_, rfl⟩
    rw [hst] at f1 t1 u1 w1 ⊢
    obtain ⟨M1, c1, tr, kk⟩ := st
    simp only at f1 t1 u1 w1 ⊢
    have tk1 := take_cpu f1
    simp (maxSteps := 2000000) (disch := first | (simp only [go_sem, simprocAttr] <;> omega) | omega) only [go_sem, simprocAttr]
    have q0a := (t1.push (.cells (tzeroD Tryz.prog 30).cells 30 (0, 0))).push (.cells okT.cells.toArray 56 (0, 0))
    simp only [tzeroD_30, Value.cells, Trp.cells_eq, okT, okF, size_push'] at q0a
    refine store_cpu f1 (q0a.front 1).get (by rfl) ?_
    have q1a := (t1.push (.cells c1.cells.toArray 30 (0, 0))).push (.cells okT.cells.toArray 56 (0, 0))
    have q2a := (t1.push (.cells c1.cells.toArray 30 (0, 0))).push (.cells tr.cells.toArray 56 (0, 0))
    simp only [Trp.cells_eq, okT, okF, size_push'] at q1a q2a
    simp (maxSteps := 2000000) (disch := first | (simp only [go_sem, simprocAttr, q1a.get, (q2a.front 5).get, (q2a.front 4).get, (q2a.front 8).get, (q2a.front 3).get, tk] <;> omega) | omega) only [go_sem, simprocAttr, q1a.get, (q2a.front 5).get, (q2a.front 4).get, (q2a.front 8).get, (q2a.front 3).get, tk]
    refine (rrun_S f vm se an u w (q2a.front 6)).mono ?_
    rintro v k1 ⟨rfl, -, t2⟩
    rw [hst] at t2 ⊢
    simp only at t2 ⊢
    simp (maxSteps := 2000000) (disch := first | (simp only [go_sem, simprocAttr] <;> omega) | omega) only [go_sem, simprocAttr]
    have q0b := (t2.push (.cells (tzeroD Tryz.prog 30).cells 30 (0, 0))).push (.cells okT.cells.toArray 56 (0, 0))
    simp only [tzeroD_30, Value.cells, Trp.cells_eq, okT, okF, size_push'] at q0b
    refine store_cpu f1 (q0b.front 1).get (by rfl) ?_
    have q1b := (t2.push (.cells c1.cells.toArray 30 (0, 0))).push (.cells okT.cells.toArray 56 (0, 0))
    have q2b := (t2.push (.cells c1.cells.toArray 30 (0, 0))).push (.cells tr.cells.toArray 56 (0, 0))
    simp only [Trp.cells_eq, okT, okF, size_push'] at q1b q2b
    have r1 := (q2b.front 9).set (.cells c1.cells.toArray 30 (0, 0))
    have r2 := (r1.front 8).set (.cells c1.cells.toArray 30 (0, 0))
    simp (maxSteps := 2000000) (disch := first | (simp only [go_sem, simprocAttr, q1b.get, q2b.get, (q2b.front 1).get, (q2b.front 4).get, tk1] <;> omega) | omega) only [go_sem, simprocAttr, q1b.get, q2b.get, (q2b.front 1).get, (q2b.front 4).get, tk1]
    refine store_cpu f1 (q2b.front 9).get (by simp [Cp.len f]) ?_
    simp (maxSteps := 2000000) (disch := first | (simp only [go_sem, simprocAttr, (r1.front 2).get, tk1] <;> omega) | omega) only [go_sem, simprocAttr, (r1.front 2).get, tk1]
    refine store_cpu f1 (r1.front 8).get (by simp [Cp.len f]) ?_
    have X : Sat _ [cellAt (h2.size + 1) (.cells c1.cells.toArray 30 (0, 0)), cellAt h2.size (.cells #[.pointer (some ⟨rb, 0, none⟩), .pointer (some ⟨tb, 0, none⟩), .pointer pv, .pointer (some ⟨rrb, 0, none⟩), .pointer (some ⟨rtb, 0, none⟩), .pointer x3] 43 (0, 0)), mchS 16 rb tb (.pointer pv) M1, mchR 16 rrb rtb (.pointer x3) M1, cellAt (h.size + 1) (.cells c1.cells.toArray 30 (0, 0)), cellAt h.size (.cells #[v1, v2, .bool g, .int .i64 vm, .int .i64 se] 25 (0, 0)), oldS h] := r2.re [0, 9, 7, 4, 1, 10, 11]
    have y1 := (r2.front 2).get
    have y2 := (r2.front 5).get
    have tkx := take_cpu f1
    have gw := (X.front 1).get
    have gc := (X.front 4).get
    have gd := X.get
    have gW := (X.front 5).get
    have hvv : vvOk (.pointer pv) M1.V.isSome := vS_ok ((mSplit (X.front 3 |>.front 3)).front 5)
    have hww : vvOk (.pointer x3) M1.V.isSome := rvS_ok ((mSplit (X.front 3 |>.front 3)).front 2)
    simp (maxSteps := 2000000) (disch := first | (simp only [go_sem, simprocAttr, y1, y2, neqs_56, gw, gc, gd, gW, tkx] <;> omega) | omega) only [go_sem, simprocAttr, y1, y2, neqs_56, gw, gc, gd, gW, tkx]
    refine (space_S c1 f1 (.pointer (some ⟨rb, 0, none⟩)) (.pointer (some ⟨tb, 0, none⟩)) (.pointer pv) M1.V.isSome hvv vm se).mono ?_
    rintro v k1 ⟨rfl, e1⟩
    have X1 := (X.grow e1).push (.cells (spaceP M1.V.isSome c1 vm se).cells.toArray 78 (0, 0))
    generalize hsp : spaceP M1.V.isSome c1 vm se = sp at X1 ⊢
    simp only [Spc.cells_eq] at X1
    simp (maxSteps := 2000000) (disch := first | (simp only [go_sem, simprocAttr, X1.get, (X1.front 1).get, (X1.front 2).get, (X1.front 5).get, (X1.front 6).get, tkx] <;> omega) | omega) only [go_sem, simprocAttr, X1.get, (X1.front 1).get, (X1.front 2).get, (X1.front 5).get, (X1.front 6).get, tkx]
    refine (rspace_S c1 f1 (.pointer (some ⟨rrb, 0, none⟩)) (.pointer (some ⟨rtb, 0, none⟩)) (.pointer x3) M1.V.isSome hww vm se).mono ?_
    rintro v k2 ⟨rfl, e2⟩
    rw [hsp]
    have X2 := (X1.grow e2).push (.cells sp.cells.toArray 78 (0, 0))
    simp only [Spc.cells_eq] at X2
    simp (maxSteps := 2000000) (disch := first | (simp only [go_sem, simprocAttr, X2.get, (X2.front 3).get, tkx] <;> omega) | omega) only [go_sem, simprocAttr, X2.get, (X2.front 3).get, tkx]
    refine (sameB_S ((X2.front 5).front 5)).mono ?_
    rintro v k3 ⟨rfl, X3⟩
    have be := fun (h : Heap) (x y : Operand) => binD_neq_flat (h := h) (x := x) (y := y) (P := Tryz.prog) (t := 30) (by kernel_rfl) (fitC f1) (fitC f1)
    simp only [eqC f1 f1, decide_true] at be
    have Y := X3.re [4, 5, 0, 1, 6, 7, 8]
    simp (maxSteps := 2000000) (disch := first | (simp only [go_sem, simprocAttr, (X3.front 2).get, (X3.front 3).get, (X3.front 4).get, (X3.front 6).get, tkx, be, neqs_78] <;> omega) | omega) only [go_sem, simprocAttr, (X3.front 2).get, (X3.front 3).get, (X3.front 4).get, (X3.front 6).get, tkx, be, neqs_78]
    exact ⟨(i + 1, M1, c1), rfl, ⟨by simp only; omega, f1, u1, w1, Y⟩, by simp only; omega⟩
  by_cases d3 : ad = 3
  · subst d3
    have hvv0 : vvOk (.pointer pv) M.V.isSome := vS_ok ((mSplit ((sb.front 4).front 4)).front 5)
    have hww0 : vvOk (.pointer x3) M.V.isSome := rvS_ok ((mSplit ((sb.front 4).front 4)).front 2)
    cases hV : M.V with
    | none =>
      rw [hV] at hvv0
      obtain rfl : pv = none := by
        rcases hvv0 with ⟨-, e⟩ | ⟨e, -⟩
        · simpa using e
        · cases e
      have X := sb.tail
      have tkx := take_cpu f
      have Xgw := (sb.front 2).get
      have Xgc := (sb.front 5).get
      have Xgd := (sb.front 1).get
      have XgW := (sb.front 6).get
      have hvv : vvOk (.pointer none) M.V.isSome := vS_ok ((mSplit (X.front 3 |>.front 3)).front 5)
      have hww : vvOk (.pointer x3) M.V.isSome := rvS_ok ((mSplit (X.front 3 |>.front 3)).front 2)
      simp (maxSteps := 2000000) (disch := first | (simp only [go_sem, simprocAttr, q1', q2', rd, gb, Xgw, Xgc, Xgd, XgW, tkx] <;> omega) | omega) only [go_sem, simprocAttr, q1', q2', rd, gb, Xgw, Xgc, Xgd, XgW, tkx]
      refine (space_S c f (.pointer (some ⟨rb, 0, none⟩)) (.pointer (some ⟨tb, 0, none⟩)) (.pointer none) M.V.isSome hvv vm se).mono ?_
      rintro v k1 ⟨rfl, e1⟩
      have X1 := (X.grow e1).push (.cells (spaceP M.V.isSome c vm se).cells.toArray 78 (0, 0))
      generalize hsp : spaceP M.V.isSome c vm se = sp at X1 ⊢
      simp only [Spc.cells_eq] at X1
      simp (maxSteps := 2000000) (disch := first | (simp only [go_sem, simprocAttr, X1.get, (X1.front 1).get, (X1.front 2).get, (X1.front 5).get, (X1.front 6).get, tkx] <;> omega) | omega) only [go_sem, simprocAttr, X1.get, (X1.front 1).get, (X1.front 2).get, (X1.front 5).get, (X1.front 6).get, tkx]
      refine (rspace_S c f (.pointer (some ⟨rrb, 0, none⟩)) (.pointer (some ⟨rtb, 0, none⟩)) (.pointer x3) M.V.isSome hww vm se).mono ?_
      rintro v k2 ⟨rfl, e2⟩
      rw [hsp]
      have X2 := (X1.grow e2).push (.cells sp.cells.toArray 78 (0, 0))
      simp only [Spc.cells_eq] at X2
      simp (maxSteps := 2000000) (disch := first | (simp only [go_sem, simprocAttr, X2.get, (X2.front 3).get, tkx] <;> omega) | omega) only [go_sem, simprocAttr, X2.get, (X2.front 3).get, tkx]
      refine (sameB_S ((X2.front 5).front 5)).mono ?_
      rintro v k3 ⟨rfl, X3⟩
      have be := fun (h : Heap) (x y : Operand) => binD_neq_flat (h := h) (x := x) (y := y) (P := Tryz.prog) (t := 30) (by kernel_rfl) (fitC f) (fitC f)
      simp only [eqC f f, decide_true] at be
      have Y := X3.re [4, 5, 0, 1, 6, 7, 8]
      simp (maxSteps := 2000000) (disch := first | (simp only [go_sem, simprocAttr, (X3.front 2).get, (X3.front 3).get, (X3.front 4).get, (X3.front 6).get, tkx, be, neqs_78] <;> omega) | omega) only [go_sem, simprocAttr, (X3.front 2).get, (X3.front 3).get, (X3.front 4).get, (X3.front 6).get, tkx, be, neqs_78]
      exact ⟨(i + 1, M, c), rfl, ⟨by simp only; omega, f, u, w, Y⟩, by simp only; omega⟩
    | some m =>
      rw [hV] at hvv0 hww0
      obtain ⟨va, rfl⟩ : ∃ va, pv = some va := by
        rcases hvv0 with ⟨e, -⟩ | ⟨-, a, e⟩
        · cases e
        · exact ⟨a, by simpa using e⟩
      have sv := (mSplit ((sb.front 4).front 4)).front 5
      rw [hV] at sv
      simp (maxSteps := 2000000) (disch := first | (simp only [go_sem, simprocAttr, q1', q2', rd, gb, gw] <;> omega) | omega) only [go_sem, simprocAttr, q1', q2', rd, gb, gw]
      refine (inject_S sv an am ao).mono ?_
      rintro v k0 ⟨rfl, X0⟩
      simp (maxSteps := 2000000) (disch := first | (simp only [go_sem, simprocAttr, (X0.front 8).get, (X0.front 6).get] <;> omega) | omega) only [go_sem, simprocAttr, (X0.front 8).get, (X0.front 6).get]
      refine (rinject_S (X0.front 3) an am ao).mono ?_
      rintro v k0' ⟨rfl, X00⟩
      have X : Sat k0' [cellAt (h2.size + 1) (.cells c.cells.toArray 30 (0, 0)), cellAt h2.size (.cells #[.pointer (some ⟨rb, 0, none⟩), .pointer (some ⟨tb, 0, none⟩), .pointer (some va), .pointer (some ⟨rrb, 0, none⟩), .pointer (some ⟨rtb, 0, none⟩), .pointer x3] 43 (0, 0)), mchS 16 rb tb (.pointer (some va)) ({ M with V := some (injV m an am ao).1 } : Mch), mchR 16 rrb rtb (.pointer x3) ({ M with V := some (injV m an am ao).1 } : Mch), cellAt (h.size + 1) (.cells c.cells.toArray 30 (0, 0)), cellAt h.size (.cells #[v1, v2, .bool g, .int .i64 vm, .int .i64 se] 25 (0, 0)), oldS h] := by
        have t1 : Sat k0' (mchS 16 rb tb (.pointer (some va)) ({ M with V := some (injV m an am ao).1 } : Mch) :: mchR 16 rrb rtb (.pointer x3) ({ M with V := some (injV m an am ao).1 } : Mch) :: _) := mJoin (X00.re [2, 3, 0, 4, 5, 1, 7, 8, 9, 10, 11])
        exact t1.re [2, 3, 0, 1, 4, 5, 6]
      have tkx := take_cpu f
      have gw := (X.front 1).get
      have gc := (X.front 4).get
      have gd := X.get
      have gW := (X.front 5).get
      have hvv : vvOk (.pointer (some va)) ({ M with V := some (injV m an am ao).1 } : Mch).V.isSome := vS_ok ((mSplit (X.front 3 |>.front 3)).front 5)
      have hww : vvOk (.pointer x3) ({ M with V := some (injV m an am ao).1 } : Mch).V.isSome := rvS_ok ((mSplit (X.front 3 |>.front 3)).front 2)
      simp (maxSteps := 2000000) (disch := first | (simp only [go_sem, simprocAttr, gw, gc, gd, gW, tkx] <;> omega) | omega) only [go_sem, simprocAttr, gw, gc, gd, gW, tkx]
      refine (space_S c f (.pointer (some ⟨rb, 0, none⟩)) (.pointer (some ⟨tb, 0, none⟩)) (.pointer (some va)) ({ M with V := some (injV m an am ao).1 } : Mch).V.isSome hvv vm se).mono ?_
      rintro v k1 ⟨rfl, e1⟩
      have X1 := (X.grow e1).push (.cells (spaceP ({ M with V := some (injV m an am ao).1 } : Mch).V.isSome c vm se).cells.toArray 78 (0, 0))
      generalize hsp : spaceP ({ M with V := some (injV m an am ao).1 } : Mch).V.isSome c vm se = sp at X1 ⊢
      simp only [Spc.cells_eq] at X1
      simp (maxSteps := 2000000) (disch := first | (simp only [go_sem, simprocAttr, X1.get, (X1.front 1).get, (X1.front 2).get, (X1.front 5).get, (X1.front 6).get, tkx] <;> omega) | omega) only [go_sem, simprocAttr, X1.get, (X1.front 1).get, (X1.front 2).get, (X1.front 5).get, (X1.front 6).get, tkx]
      refine (rspace_S c f (.pointer (some ⟨rrb, 0, none⟩)) (.pointer (some ⟨rtb, 0, none⟩)) (.pointer x3) ({ M with V := some (injV m an am ao).1 } : Mch).V.isSome hww vm se).mono ?_
      rintro v k2 ⟨rfl, e2⟩
      rw [hsp]
      have X2 := (X1.grow e2).push (.cells sp.cells.toArray 78 (0, 0))
      simp only [Spc.cells_eq] at X2
      simp (maxSteps := 2000000) (disch := first | (simp only [go_sem, simprocAttr, X2.get, (X2.front 3).get, tkx] <;> omega) | omega) only [go_sem, simprocAttr, X2.get, (X2.front 3).get, tkx]
      refine (sameB_S ((X2.front 5).front 5)).mono ?_
      rintro v k3 ⟨rfl, X3⟩
      have be := fun (h : Heap) (x y : Operand) => binD_neq_flat (h := h) (x := x) (y := y) (P := Tryz.prog) (t := 30) (by kernel_rfl) (fitC f) (fitC f)
      simp only [eqC f f, decide_true] at be
      have Y := X3.re [4, 5, 0, 1, 6, 7, 8]
      simp (maxSteps := 2000000) (disch := first | (simp only [go_sem, simprocAttr, (X3.front 2).get, (X3.front 3).get, (X3.front 4).get, (X3.front 6).get, tkx, be, neqs_78] <;> omega) | omega) only [go_sem, simprocAttr, (X3.front 2).get, (X3.front 3).get, (X3.front 4).get, (X3.front 6).get, tkx, be, neqs_78]
      exact ⟨(i + 1, ({ M with V := some (injV m an am ao).1 } : Mch), c), rfl, ⟨by simp only; omega, f, u, w, Y⟩, by simp only; omega⟩
  by_cases d4 : ad = 4
  · subst d4
    simp (maxSteps := 2000000) (disch := first | (simp only [go_sem, simprocAttr, q1', q2', rd, gb, gw] <;> omega) | omega) only [go_sem, simprocAttr, q1', q2', rd, gb, gw]
    refine (tlbEvict_S (((mSplit ((sb.front 4).front 4)).front 4)) an).mono ?_
    rintro v k0 ⟨⟨_, rfl⟩, X0⟩
    simp (maxSteps := 2000000) (disch := first | (simp only [go_sem, simprocAttr, (X0.front 8).get, (X0.front 6).get] <;> omega) | omega) only [go_sem, simprocAttr, (X0.front 8).get, (X0.front 6).get]
    refine (revict_S (X0.front 2) an).mono ?_
    rintro v k0' ⟨⟨_, rfl⟩, X00⟩
    have X : Sat k0' [cellAt (h2.size + 1) (.cells c.cells.toArray 30 (0, 0)), cellAt h2.size (.cells #[.pointer (some ⟨rb, 0, none⟩), .pointer (some ⟨tb, 0, none⟩), .pointer pv, .pointer (some ⟨rrb, 0, none⟩), .pointer (some ⟨rtb, 0, none⟩), .pointer x3] 43 (0, 0)), mchS 16 rb tb (.pointer pv) ({ M with T := evictT M.T an } : Mch), mchR 16 rrb rtb (.pointer x3) ({ M with T := evictT M.T an } : Mch), cellAt (h.size + 1) (.cells c.cells.toArray 30 (0, 0)), cellAt h.size (.cells #[v1, v2, .bool g, .int .i64 vm, .int .i64 se] 25 (0, 0)), oldS h] := by
      have t1 : Sat k0' (mchS 16 rb tb (.pointer pv) ({ M with T := evictT M.T an } : Mch) :: mchR 16 rrb rtb (.pointer x3) ({ M with T := evictT M.T an } : Mch) :: _) := mJoin (X00.re [2, 0, 3, 4, 1, 5, 7, 8, 9, 10, 11])
      exact t1.re [2, 3, 0, 1, 4, 5, 6]
    have tkx := take_cpu f
    have gw := (X.front 1).get
    have gc := (X.front 4).get
    have gd := X.get
    have gW := (X.front 5).get
    have hvv : vvOk (.pointer pv) ({ M with T := evictT M.T an } : Mch).V.isSome := vS_ok ((mSplit (X.front 3 |>.front 3)).front 5)
    have hww : vvOk (.pointer x3) ({ M with T := evictT M.T an } : Mch).V.isSome := rvS_ok ((mSplit (X.front 3 |>.front 3)).front 2)
    simp (maxSteps := 2000000) (disch := first | (simp only [go_sem, simprocAttr, gw, gc, gd, gW, tkx] <;> omega) | omega) only [go_sem, simprocAttr, gw, gc, gd, gW, tkx]
    refine (space_S c f (.pointer (some ⟨rb, 0, none⟩)) (.pointer (some ⟨tb, 0, none⟩)) (.pointer pv) ({ M with T := evictT M.T an } : Mch).V.isSome hvv vm se).mono ?_
    rintro v k1 ⟨rfl, e1⟩
    have X1 := (X.grow e1).push (.cells (spaceP ({ M with T := evictT M.T an } : Mch).V.isSome c vm se).cells.toArray 78 (0, 0))
    generalize hsp : spaceP ({ M with T := evictT M.T an } : Mch).V.isSome c vm se = sp at X1 ⊢
    simp only [Spc.cells_eq] at X1
    simp (maxSteps := 2000000) (disch := first | (simp only [go_sem, simprocAttr, X1.get, (X1.front 1).get, (X1.front 2).get, (X1.front 5).get, (X1.front 6).get, tkx] <;> omega) | omega) only [go_sem, simprocAttr, X1.get, (X1.front 1).get, (X1.front 2).get, (X1.front 5).get, (X1.front 6).get, tkx]
    refine (rspace_S c f (.pointer (some ⟨rrb, 0, none⟩)) (.pointer (some ⟨rtb, 0, none⟩)) (.pointer x3) ({ M with T := evictT M.T an } : Mch).V.isSome hww vm se).mono ?_
    rintro v k2 ⟨rfl, e2⟩
    rw [hsp]
    have X2 := (X1.grow e2).push (.cells sp.cells.toArray 78 (0, 0))
    simp only [Spc.cells_eq] at X2
    simp (maxSteps := 2000000) (disch := first | (simp only [go_sem, simprocAttr, X2.get, (X2.front 3).get, tkx] <;> omega) | omega) only [go_sem, simprocAttr, X2.get, (X2.front 3).get, tkx]
    refine (sameB_S ((X2.front 5).front 5)).mono ?_
    rintro v k3 ⟨rfl, X3⟩
    have be := fun (h : Heap) (x y : Operand) => binD_neq_flat (h := h) (x := x) (y := y) (P := Tryz.prog) (t := 30) (by kernel_rfl) (fitC f) (fitC f)
    simp only [eqC f f, decide_true] at be
    have Y := X3.re [4, 5, 0, 1, 6, 7, 8]
    simp (maxSteps := 2000000) (disch := first | (simp only [go_sem, simprocAttr, (X3.front 2).get, (X3.front 3).get, (X3.front 4).get, (X3.front 6).get, tkx, be, neqs_78] <;> omega) | omega) only [go_sem, simprocAttr, (X3.front 2).get, (X3.front 3).get, (X3.front 4).get, (X3.front 6).get, tkx, be, neqs_78]
    exact ⟨(i + 1, ({ M with T := evictT M.T an } : Mch), c), rfl, ⟨by simp only; omega, f, (uniqT_evict u an), (vmT_evict w an), Y⟩, by simp only; omega⟩
  have X := sb.tail
  have tkx := take_cpu f
  have Xgw := (sb.front 2).get
  have Xgc := (sb.front 5).get
  have Xgd := (sb.front 1).get
  have XgW := (sb.front 6).get
  have hvv : vvOk (.pointer pv) M.V.isSome := vS_ok ((mSplit (X.front 3 |>.front 3)).front 5)
  have hww : vvOk (.pointer x3) M.V.isSome := rvS_ok ((mSplit (X.front 3 |>.front 3)).front 2)
  simp (maxSteps := 2000000) (disch := first | (simp only [go_sem, simprocAttr, q1', q2', rd, gb, d1, d2, d3, d4, Xgw, Xgc, Xgd, XgW, tkx] <;> omega) | omega) only [go_sem, simprocAttr, q1', q2', rd, gb, d1, d2, d3, d4, Xgw, Xgc, Xgd, XgW, tkx]
  refine (space_S c f (.pointer (some ⟨rb, 0, none⟩)) (.pointer (some ⟨tb, 0, none⟩)) (.pointer pv) M.V.isSome hvv vm se).mono ?_
  rintro v k1 ⟨rfl, e1⟩
  have X1 := (X.grow e1).push (.cells (spaceP M.V.isSome c vm se).cells.toArray 78 (0, 0))
  generalize hsp : spaceP M.V.isSome c vm se = sp at X1 ⊢
  simp only [Spc.cells_eq] at X1
  simp (maxSteps := 2000000) (disch := first | (simp only [go_sem, simprocAttr, X1.get, (X1.front 1).get, (X1.front 2).get, (X1.front 5).get, (X1.front 6).get, tkx] <;> omega) | omega) only [go_sem, simprocAttr, X1.get, (X1.front 1).get, (X1.front 2).get, (X1.front 5).get, (X1.front 6).get, tkx]
  refine (rspace_S c f (.pointer (some ⟨rrb, 0, none⟩)) (.pointer (some ⟨rtb, 0, none⟩)) (.pointer x3) M.V.isSome hww vm se).mono ?_
  rintro v k2 ⟨rfl, e2⟩
  rw [hsp]
  have X2 := (X1.grow e2).push (.cells sp.cells.toArray 78 (0, 0))
  simp only [Spc.cells_eq] at X2
  simp (maxSteps := 2000000) (disch := first | (simp only [go_sem, simprocAttr, X2.get, (X2.front 3).get, tkx] <;> omega) | omega) only [go_sem, simprocAttr, X2.get, (X2.front 3).get, tkx]
  refine (sameB_S ((X2.front 5).front 5)).mono ?_
  rintro v k3 ⟨rfl, X3⟩
  have be := fun (h : Heap) (x y : Operand) => binD_neq_flat (h := h) (x := x) (y := y) (P := Tryz.prog) (t := 30) (by kernel_rfl) (fitC f) (fitC f)
  simp only [eqC f f, decide_true] at be
  have Y := X3.re [4, 5, 0, 1, 6, 7, 8]
  simp (maxSteps := 2000000) (disch := first | (simp only [go_sem, simprocAttr, (X3.front 2).get, (X3.front 3).get, (X3.front 4).get, (X3.front 6).get, tkx, be, neqs_78] <;> omega) | omega) only [go_sem, simprocAttr, (X3.front 2).get, (X3.front 3).get, (X3.front 4).get, (X3.front 6).get, tkx, be, neqs_78]
  exact ⟨(i + 1, M, c), rfl, ⟨by simp only; omega, f, u, w, Y⟩, by simp only; omega⟩
end
end Go.Eng
/-
  Layer 9: acts as arguments.
-/
namespace Go.Eng
open Go Go.Proofs
set_option maxRecDepth 100000 in
theorem acts_open {H : Type} {enc : TypeId × Value → H} {W : World} {r : Reach} {b0 base : Nat} {spare : Nat → Bool} {held : Bool} {v : Value} {x : DataW H} {p : List MemPlace}
    (hv : Value.okWide Tryz.prog W r b0 70 v) (hd : DataW.Trod enc Tryz.prog W base spare held 70 v x p) : ∃ A : List ActP, rdL ActP.cells 4 W.heap v A := by
  obtain ⟨sl, n, cap, rfl, -, hn, q⟩ := slice_open (d := 6) (row := [.int .i64, .int .i64, .int .i64, .bool]) Tryz.underlying70 hv hd (by kernel_rfl) (by decide)
  obtain ⟨A, hA, -⟩ := rdL_of (enc := ActP.cells) (sz := 4) (n := n) (cap := cap) (sl := sl) (h := W.heap) (Q := fun _ => True) fun i hi => by
    obtain ⟨b, o, xs, rfl, s, e⟩ := q i hi
    obtain ⟨a1, xs, rfl, t1, s⟩ := shpL_cons s
    obtain ⟨a2, xs, rfl, t2, s⟩ := shpL_cons s
    obtain ⟨a3, xs, rfl, t3, s⟩ := shpL_cons s
    obtain ⟨a4, xs, rfl, t4, s⟩ := shpL_cons s
    obtain rfl := shpL_nil s
    obtain ⟨a1, rfl, -⟩ := shp_int t1
    obtain ⟨a2, rfl, -⟩ := shp_int t2
    obtain ⟨a3, rfl, -⟩ := shp_int t3
    obtain ⟨a4, rfl⟩ := shp_bool t4
    exact ⟨b, o, ⟨a1, a2, a3, a4⟩, rfl, hcellO_some (e 0 (by decide)), trivial, e⟩
  exact ⟨A, hA⟩
end Go.Eng
