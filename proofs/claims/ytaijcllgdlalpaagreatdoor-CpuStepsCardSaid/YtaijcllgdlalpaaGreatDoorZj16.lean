/-
  package cpu: operations.
-/
import Derived.Test.YtaijcllgdlalpaaGreatDoorZj15
set_option linter.unusedSimpArgs false
set_option linter.unusedVariables false
set_option maxRecDepth 16000
set_option maxHeartbeats 4000000
namespace Go.Eng
open Go Go.Proofs
def recB (fn : FuncId) (d dv : Value) : SP := exS fun x : Nat × TypeId => starL [pureS (dv = .func (.func fn) #[] #[.pointer (some ⟨x.1, 0, none⟩)]), cellAt x.1 (.cells #[d] x.2 (0, 0))]
def touB (z wt ca : Int) (dv : Value) : SP := exS fun x : (Nat × Nat × Nat) × (TypeId × TypeId × TypeId) => starL [pureS (dv = .func (.func 125) #[] #[.pointer (some ⟨x.1.1, 0, none⟩), .pointer (some ⟨x.1.2.1, 0, none⟩), .pointer (some ⟨x.1.2.2, 0, none⟩)]),
  cellAt x.1.1 (.cells #[.int .i64 z] x.2.1 (0, 0)), cellAt x.1.2.1 (.cells #[.int .i64 wt] x.2.2.1 (0, 0)), cellAt x.1.2.2 (.cells #[.int .i64 ca] x.2.2.2 (0, 0))]
theorem recB_iff {h : Heap} {F : List SP} {fn : FuncId} {d dv : Value} : Sat h (recB fn d dv :: F) ↔ ∃ b ty, dv = .func (.func fn) #[] #[.pointer (some ⟨b, 0, none⟩)] ∧ Sat h (cellAt b (.cells #[d] ty (0, 0)) :: F) := by
  unfold recB
  rw [Sat.ex]
  constructor
  · rintro ⟨x, hx⟩
    obtain ⟨p, q⟩ := Sat.pure.1 (Sat.star.1 hx)
    exact ⟨x.1, x.2, p, q⟩
  · rintro ⟨b, ty, p, hx⟩
    exact ⟨(b, ty), Sat.star.2 (Sat.pure.2 ⟨p, hx⟩)⟩
theorem touB_iff {h : Heap} {F : List SP} {z wt ca : Int} {dv : Value} : Sat h (touB z wt ca dv :: F) ↔ ∃ b1 b2 b3 t1 t2 t3, dv = .func (.func 125) #[] #[.pointer (some ⟨b1, 0, none⟩), .pointer (some ⟨b2, 0, none⟩), .pointer (some ⟨b3, 0, none⟩)] ∧
    Sat h (cellAt b1 (.cells #[.int .i64 z] t1 (0, 0)) :: cellAt b2 (.cells #[.int .i64 wt] t2 (0, 0)) :: cellAt b3 (.cells #[.int .i64 ca] t3 (0, 0)) :: F) := by
  unfold touB
  rw [Sat.ex]
  constructor
  · rintro ⟨x, hx⟩
    obtain ⟨p, q⟩ := Sat.pure.1 (Sat.star.1 hx)
    exact ⟨x.1.1, x.1.2.1, x.1.2.2, x.2.1, x.2.2.1, x.2.2.2, p, q⟩
  · rintro ⟨b1, b2, b3, t1, t2, t3, p, hx⟩
    exact ⟨((b1, b2, b3), (t1, t2, t3)), Sat.star.2 (Sat.pure.2 ⟨p, hx⟩)⟩
/-- What stands at an operation's place. -/
def opB (op : Nat) (dv : Value) : SP :=
  match op with
  | 1 => pureS (dv = .func (.func 76) #[] #[])
  | 2 => recB 123 (.func (.func 78) #[] #[]) dv
  | 3 => recB 123 (.func (.func 79) #[] #[]) dv
  | 4 => recB 123 (.func (.func 80) #[] #[]) dv
  | 5 => recB 123 (.func (.func 81) #[] #[]) dv
  | 6 => recB 123 (.func (.func 82) #[] #[]) dv
  | 7 => touB 4 1 2 dv
  | 8 => touB 4 2 3 dv
  | 9 => touB 1 1 2 dv
  | 10 => touB 1 2 3 dv
  | 11 => recB 126 (.func (.func 85) #[] #[]) dv
  | 12 => recB 126 (.func (.func 86) #[] #[]) dv
  | 13 => recB 126 (.func (.func 87) #[] #[]) dv
  | 14 => recB 126 (.func (.func 88) #[] #[]) dv
  | 15 => pureS (dv = .func (.func 89) #[] #[])
  | 16 => pureS (dv = .func (.func 90) #[] #[])
  | 17 => recB 127 (.int .i64 5) dv
  | 18 => recB 127 (.int .i64 6) dv
  | 19 => pureS (dv = .func (.func 92) #[] #[])
  | 20 => pureS (dv = .func (.func 93) #[] #[])
  | 21 => pureS (dv = .func (.func 94) #[] #[])
  | 22 => pureS (dv = .func (.func 95) #[] #[])
  | 23 => pureS (dv = .func (.func 97) #[] #[])
  | 24 => pureS (dv = .func (.func 98) #[] #[])
  | _ => pureS (dv = .func (.func 100) #[] #[])
def opsL (D : Nat → Value) : List Value := (List.range 26).flatMap fun k : Nat => [.bool (guestO (k : Nat)), D k]
theorem bdo_1 {fn : Fn} {a b : Array Value} {h : Heap} : runD Tryz.prog (iBuild 120 #[(1, .func fn a b)]) h = some (.agg #[.bool false, .func fn a b]) := by kernel_rfl
theorem bdo_01 {g : Bool} {fn : Fn} {a b : Array Value} {h : Heap} : runD Tryz.prog (iBuild 120 #[(0, .bool g), (1, .func fn a b)]) h = some (.agg #[.bool g, .func fn a b]) := by kernel_rfl
theorem bdos {d1 d2 d3 d4 d5 d6 d7 d8 d9 d10 d11 d12 d13 d14 d15 d16 d17 d18 d19 d20 d21 d22 d23 d24 d25 : Value} {h : Heap} : runD Tryz.prog (iBuild 121 #[(1, .agg #[.bool false, d1]), (2, .agg #[.bool false, d2]), (3, .agg #[.bool false, d3]), (4, .agg #[.bool false, d4]), (5, .agg #[.bool false, d5]), (6, .agg #[.bool false, d6]), (7, .agg #[.bool false, d7]), (8, .agg #[.bool false, d8]), (9, .agg #[.bool false, d9]), (10, .agg #[.bool false, d10]), (11, .agg #[.bool false, d11]), (12, .agg #[.bool false, d12]), (13, .agg #[.bool false, d13]), (14, .agg #[.bool false, d14]), (15, .agg #[.bool false, d15]), (16, .agg #[.bool false, d16]), (17, .agg #[.bool true, d17]), (18, .agg #[.bool false, d18]), (19, .agg #[.bool true, d19]), (20, .agg #[.bool true, d20]), (21, .agg #[.bool false, d21]), (22, .agg #[.bool true, d22]), (23, .agg #[.bool true, d23]), (24, .agg #[.bool true, d24]), (25, .agg #[.bool false, d25])]) h = some (.agg #[.bool false, .nilFunc, .bool false, d1, .bool false, d2, .bool false, d3, .bool false, d4, .bool false, d5, .bool false, d6, .bool false, d7, .bool false, d8, .bool false, d9, .bool false, d10, .bool false, d11, .bool false, d12, .bool false, d13, .bool false, d14, .bool false, d15, .bool false, d16, .bool true, d17, .bool false, d18, .bool true, d19, .bool true, d20, .bool false, d21, .bool true, d22, .bool true, d23, .bool true, d24, .bool false, d25]) := by kernel_rfl
theorem single_func {f : Fn} {a b : Array Value} : single (.func f a b) = true := (rfl)
theorem single_nilFunc : single .nilFunc = true := (rfl)
attribute [go_sem] bdo_1 bdo_01 bdos single_func single_nilFunc
section
variable {h : Heap} {F : List SP}
theorem reckons_S (fid : FuncId) : HCalls Tryz.prog 77 #[.func (.func fid) #[] #[]] h fun v h' => ∃ dv, v = .agg #[.bool false, dv] ∧ Sat h' [recB 123 (.func (.func fid) #[] #[]) dv, oldS h] := by
  refine HCalls.via fun R hR => ?_
  have s1 := ((Sat.init h).push (.cells #[.func (.func fid) #[] #[]] 178 (0, 0))).push (.cells #[.bool false, .func (.func 123) #[] #[.pointer (some ⟨h.size, 0, none⟩)]] 120 (0, 0))
  simp only [size_push'] at s1
  refine HCalls.of_dev T77 Tryz.func77 rfl mixed (by kernel_rfl) ?_; rw [Tryz.results77]
  simp (maxSteps := 2000000) (disch := first | (simp only [go_sem, simprocAttr] <;> omega) | omega) only [go_sem, simprocAttr]
  exact hR _ _ ⟨_, rfl, recB_iff.2 ⟨_, _, rfl, s1.tail⟩⟩
theorem branches_S (fid : FuncId) : HCalls Tryz.prog 84 #[.func (.func fid) #[] #[]] h fun v h' => ∃ dv, v = .agg #[.bool false, dv] ∧ Sat h' [recB 126 (.func (.func fid) #[] #[]) dv, oldS h] := by
  refine HCalls.via fun R hR => ?_
  have s1 := ((Sat.init h).push (.cells #[.func (.func fid) #[] #[]] 181 (0, 0))).push (.cells #[.bool false, .func (.func 126) #[] #[.pointer (some ⟨h.size, 0, none⟩)]] 120 (0, 0))
  simp only [size_push'] at s1
  refine HCalls.of_dev T84 Tryz.func84 rfl mixed (by kernel_rfl) ?_; rw [Tryz.results84]
  simp (maxSteps := 2000000) (disch := first | (simp only [go_sem, simprocAttr] <;> omega) | omega) only [go_sem, simprocAttr]
  exact hR _ _ ⟨_, rfl, recB_iff.2 ⟨_, _, rfl, s1.tail⟩⟩
theorem trapsM_S (gu : Bool) (ca : Int) : HCalls Tryz.prog 91 #[.bool gu, .int .i64 ca] h fun v h' => ∃ dv, v = .agg #[.bool gu, dv] ∧ Sat h' [recB 127 (.int .i64 ca) dv, oldS h] := by
  refine HCalls.via fun R hR => ?_
  have s1 := ((Sat.init h).push (.cells #[.int .i64 ca] 3 (0, 0))).push (.cells #[.bool gu, .func (.func 127) #[] #[.pointer (some ⟨h.size, 0, none⟩)]] 120 (0, 0))
  simp only [size_push'] at s1
  refine HCalls.of_dev T91 Tryz.func91 rfl mixed (by kernel_rfl) ?_; rw [Tryz.results91]
  simp (maxSteps := 2000000) (disch := first | (simp only [go_sem, simprocAttr] <;> omega) | omega) only [go_sem, simprocAttr]
  exact hR _ _ ⟨_, rfl, recB_iff.2 ⟨_, _, rfl, s1.tail⟩⟩
theorem touches_S (z wt ca : Int) : HCalls Tryz.prog 83 #[.int .i64 z, .int .i64 wt, .int .i64 ca] h fun v h' => ∃ dv, v = .agg #[.bool false, dv] ∧ Sat h' [touB z wt ca dv, oldS h] := by
  refine HCalls.via fun R hR => ?_
  have s0 := (((Sat.init h).push (.cells #[.int .i64 z] 3 (0, 0))).push (.cells #[.int .i64 wt] 3 (0, 0))).push (.cells #[.int .i64 ca] 3 (0, 0))
  simp only [size_push'] at s0
  have s1 := s0.push (.cells #[.bool false, .nilFunc] 120 (0, 0))
  have s2 := s1.set (.cells #[.bool false, .func (.func 125) #[] #[.pointer (some ⟨h.size, 0, none⟩), .pointer (some ⟨h.size + 1, 0, none⟩), .pointer (some ⟨h.size + 1 + 1, 0, none⟩)]] 120 (0, 0))
  simp only [size_push'] at s1 s2
  refine HCalls.of_dev T83 Tryz.func83 rfl mixed (by kernel_rfl) ?_; rw [Tryz.results83]
  simp (maxSteps := 2000000) (disch := first | (simp only [go_sem, simprocAttr, s1.get, s2.get] <;> omega) | omega) only [go_sem, simprocAttr, s1.get, s2.get]
  exact hR _ _ ⟨_, rfl, touB_iff.2 ⟨_, _, _, _, _, _, rfl, (s2.tail.swap.front 2)⟩⟩
theorem operations_S (hs : Sat h F) : HCalls Tryz.prog 41 #[] h fun v h' => ∃ D : Nat → Value, v = .agg (opsL D).toArray ∧ ∀ op, 1 ≤ op → op ≤ 25 → Sat h' (opB op (D op) :: F) := by
  refine HCalls.via fun R hR => ?_
  refine HCalls.of_dev T41 Tryz.func41 rfl mixed (by kernel_rfl) ?_; rw [Tryz.results41]
  simp (maxSteps := 2000000) (disch := first | (simp only [go_sem, simprocAttr] <;> omega) | omega) only [go_sem, simprocAttr]
  have z0 := hs.push (.cells #[.bool false, .nilFunc, .bool false, .nilFunc, .bool false, .nilFunc, .bool false, .nilFunc, .bool false, .nilFunc, .bool false, .nilFunc, .bool false, .nilFunc, .bool false, .nilFunc, .bool false, .nilFunc, .bool false, .nilFunc, .bool false, .nilFunc, .bool false, .nilFunc, .bool false, .nilFunc, .bool false, .nilFunc, .bool false, .nilFunc, .bool false, .nilFunc, .bool false, .nilFunc, .bool false, .nilFunc, .bool false, .nilFunc, .bool false, .nilFunc, .bool false, .nilFunc, .bool false, .nilFunc, .bool false, .nilFunc, .bool false, .nilFunc, .bool false, .nilFunc, .bool false, .nilFunc] 121 (0, 0))
  have e0 := Ext.refl (h.push (.cells #[.bool false, .nilFunc, .bool false, .nilFunc, .bool false, .nilFunc, .bool false, .nilFunc, .bool false, .nilFunc, .bool false, .nilFunc, .bool false, .nilFunc, .bool false, .nilFunc, .bool false, .nilFunc, .bool false, .nilFunc, .bool false, .nilFunc, .bool false, .nilFunc, .bool false, .nilFunc, .bool false, .nilFunc, .bool false, .nilFunc, .bool false, .nilFunc, .bool false, .nilFunc, .bool false, .nilFunc, .bool false, .nilFunc, .bool false, .nilFunc, .bool false, .nilFunc, .bool false, .nilFunc, .bool false, .nilFunc, .bool false, .nilFunc, .bool false, .nilFunc, .bool false, .nilFunc] 121 (0, 0)))
  refine (reckons_S 78).mono ?_
  rintro v h2 ⟨d2, rfl, m2⟩
  have q2 := (z0.grow e0).over m2
  have x2 := (m2.front 1).ext
  have e2 := e0.trans x2
  simp (maxSteps := 2000000) (disch := first | (simp only [go_sem, simprocAttr] <;> omega) | omega) only [go_sem, simprocAttr]
  refine (reckons_S 79).mono ?_
  rintro v h3 ⟨d3, rfl, m3⟩
  have q3 := (z0.grow e2).over m3
  have x3 := (m3.front 1).ext
  have e3 := e2.trans x3
  simp (maxSteps := 2000000) (disch := first | (simp only [go_sem, simprocAttr] <;> omega) | omega) only [go_sem, simprocAttr]
  refine (reckons_S 80).mono ?_
  rintro v h4 ⟨d4, rfl, m4⟩
  have q4 := (z0.grow e3).over m4
  have x4 := (m4.front 1).ext
  have e4 := e3.trans x4
  simp (maxSteps := 2000000) (disch := first | (simp only [go_sem, simprocAttr] <;> omega) | omega) only [go_sem, simprocAttr]
  refine (reckons_S 81).mono ?_
  rintro v h5 ⟨d5, rfl, m5⟩
  have q5 := (z0.grow e4).over m5
  have x5 := (m5.front 1).ext
  have e5 := e4.trans x5
  simp (maxSteps := 2000000) (disch := first | (simp only [go_sem, simprocAttr] <;> omega) | omega) only [go_sem, simprocAttr]
  refine (reckons_S 82).mono ?_
  rintro v h6 ⟨d6, rfl, m6⟩
  have q6 := (z0.grow e5).over m6
  have x6 := (m6.front 1).ext
  have e6 := e5.trans x6
  simp (maxSteps := 2000000) (disch := first | (simp only [go_sem, simprocAttr] <;> omega) | omega) only [go_sem, simprocAttr]
  refine (touches_S 4 1 2).mono ?_
  rintro v h7 ⟨d7, rfl, m7⟩
  have q7 := (z0.grow e6).over m7
  have x7 := (m7.front 1).ext
  have e7 := e6.trans x7
  simp (maxSteps := 2000000) (disch := first | (simp only [go_sem, simprocAttr] <;> omega) | omega) only [go_sem, simprocAttr]
  refine (touches_S 4 2 3).mono ?_
  rintro v h8 ⟨d8, rfl, m8⟩
  have q8 := (z0.grow e7).over m8
  have x8 := (m8.front 1).ext
  have e8 := e7.trans x8
  simp (maxSteps := 2000000) (disch := first | (simp only [go_sem, simprocAttr] <;> omega) | omega) only [go_sem, simprocAttr]
  refine (touches_S 1 1 2).mono ?_
  rintro v h9 ⟨d9, rfl, m9⟩
  have q9 := (z0.grow e8).over m9
  have x9 := (m9.front 1).ext
  have e9 := e8.trans x9
  simp (maxSteps := 2000000) (disch := first | (simp only [go_sem, simprocAttr] <;> omega) | omega) only [go_sem, simprocAttr]
  refine (touches_S 1 2 3).mono ?_
  rintro v h10 ⟨d10, rfl, m10⟩
  have q10 := (z0.grow e9).over m10
  have x10 := (m10.front 1).ext
  have e10 := e9.trans x10
  simp (maxSteps := 2000000) (disch := first | (simp only [go_sem, simprocAttr] <;> omega) | omega) only [go_sem, simprocAttr]
  refine (branches_S 85).mono ?_
  rintro v h11 ⟨d11, rfl, m11⟩
  have q11 := (z0.grow e10).over m11
  have x11 := (m11.front 1).ext
  have e11 := e10.trans x11
  simp (maxSteps := 2000000) (disch := first | (simp only [go_sem, simprocAttr] <;> omega) | omega) only [go_sem, simprocAttr]
  refine (branches_S 86).mono ?_
  rintro v h12 ⟨d12, rfl, m12⟩
  have q12 := (z0.grow e11).over m12
  have x12 := (m12.front 1).ext
  have e12 := e11.trans x12
  simp (maxSteps := 2000000) (disch := first | (simp only [go_sem, simprocAttr] <;> omega) | omega) only [go_sem, simprocAttr]
  refine (branches_S 87).mono ?_
  rintro v h13 ⟨d13, rfl, m13⟩
  have q13 := (z0.grow e12).over m13
  have x13 := (m13.front 1).ext
  have e13 := e12.trans x13
  simp (maxSteps := 2000000) (disch := first | (simp only [go_sem, simprocAttr] <;> omega) | omega) only [go_sem, simprocAttr]
  refine (branches_S 88).mono ?_
  rintro v h14 ⟨d14, rfl, m14⟩
  have q14 := (z0.grow e13).over m14
  have x14 := (m14.front 1).ext
  have e14 := e13.trans x14
  simp (maxSteps := 2000000) (disch := first | (simp only [go_sem, simprocAttr] <;> omega) | omega) only [go_sem, simprocAttr]
  refine (trapsM_S true 5).mono ?_
  rintro v h17 ⟨d17, rfl, m17⟩
  have q17 := (z0.grow e14).over m17
  have x17 := (m17.front 1).ext
  have e17 := e14.trans x17
  simp (maxSteps := 2000000) (disch := first | (simp only [go_sem, simprocAttr] <;> omega) | omega) only [go_sem, simprocAttr]
  refine (trapsM_S false 6).mono ?_
  rintro v h18 ⟨d18, rfl, m18⟩
  have q18 := (z0.grow e17).over m18
  have x18 := (m18.front 1).ext
  have e18 := e17.trans x18
  simp (maxSteps := 2000000) (disch := first | (simp only [go_sem, simprocAttr] <;> omega) | omega) only [go_sem, simprocAttr]
  have r18 := Ext.refl h18
  have r17 := x18.trans r18
  have r14 := x17.trans r17
  have r13 := x14.trans r14
  have r12 := x13.trans r13
  have r11 := x12.trans r12
  have r10 := x11.trans r11
  have r9 := x10.trans r10
  have r8 := x9.trans r9
  have r7 := x8.trans r8
  have r6 := x7.trans r7
  have r5 := x6.trans r6
  have r4 := x5.trans r5
  have r3 := x4.trans r4
  have r2 := x3.trans r3
  have zf := z0.grow e18
  have u2 : single d2 = true := by obtain ⟨_, _, e, -⟩ := recB_iff.1 m2; rw [e]; rfl
  have u3 : single d3 = true := by obtain ⟨_, _, e, -⟩ := recB_iff.1 m3; rw [e]; rfl
  have u4 : single d4 = true := by obtain ⟨_, _, e, -⟩ := recB_iff.1 m4; rw [e]; rfl
  have u5 : single d5 = true := by obtain ⟨_, _, e, -⟩ := recB_iff.1 m5; rw [e]; rfl
  have u6 : single d6 = true := by obtain ⟨_, _, e, -⟩ := recB_iff.1 m6; rw [e]; rfl
  have u7 : single d7 = true := by obtain ⟨_, _, _, _, _, _, e, -⟩ := touB_iff.1 m7; rw [e]; rfl
  have u8 : single d8 = true := by obtain ⟨_, _, _, _, _, _, e, -⟩ := touB_iff.1 m8; rw [e]; rfl
  have u9 : single d9 = true := by obtain ⟨_, _, _, _, _, _, e, -⟩ := touB_iff.1 m9; rw [e]; rfl
  have u10 : single d10 = true := by obtain ⟨_, _, _, _, _, _, e, -⟩ := touB_iff.1 m10; rw [e]; rfl
  have u11 : single d11 = true := by obtain ⟨_, _, e, -⟩ := recB_iff.1 m11; rw [e]; rfl
  have u12 : single d12 = true := by obtain ⟨_, _, e, -⟩ := recB_iff.1 m12; rw [e]; rfl
  have u13 : single d13 = true := by obtain ⟨_, _, e, -⟩ := recB_iff.1 m13; rw [e]; rfl
  have u14 : single d14 = true := by obtain ⟨_, _, e, -⟩ := recB_iff.1 m14; rw [e]; rfl
  have u17 : single d17 = true := by obtain ⟨_, _, e, -⟩ := recB_iff.1 m17; rw [e]; rfl
  have u18 : single d18 = true := by obtain ⟨_, _, e, -⟩ := recB_iff.1 m18; rw [e]; rfl
  have zg := zf.get
  have zs := zf.set (.cells #[.bool false, .nilFunc, .bool false, .func (.func 76) #[] #[], .bool false, d2, .bool false, d3, .bool false, d4, .bool false, d5, .bool false, d6, .bool false, d7, .bool false, d8, .bool false, d9, .bool false, d10, .bool false, d11, .bool false, d12, .bool false, d13, .bool false, d14, .bool false, .func (.func 89) #[] #[], .bool false, .func (.func 90) #[] #[], .bool true, d17, .bool false, d18, .bool true, .func (.func 92) #[] #[], .bool true, .func (.func 93) #[] #[], .bool false, .func (.func 94) #[] #[], .bool true, .func (.func 95) #[] #[], .bool true, .func (.func 97) #[] #[], .bool true, .func (.func 98) #[] #[], .bool false, .func (.func 100) #[] #[]] 121 (0, 0))
  have zsg := zs.get
  simp (maxSteps := 2000000) (disch := first | (simp only [go_sem, simprocAttr, zg, u2, u3, u4, u5, u6, u7, u8, u9, u10, u11, u12, u13, u14, u17, u18, zsg] <;> omega) | omega) only [go_sem, simprocAttr, zg, u2, u3, u4, u5, u6, u7, u8, u9, u10, u11, u12, u13, u14, u17, u18, zsg]
  refine hR _ _ ⟨fun k => [.nilFunc, .func (.func 76) #[] #[], d2, d3, d4, d5, d6, d7, d8, d9, d10, d11, d12, d13, d14, .func (.func 89) #[] #[], .func (.func 90) #[] #[], d17, d18, .func (.func 92) #[] #[], .func (.func 93) #[] #[], .func (.func 94) #[] #[], .func (.func 95) #[] #[], .func (.func 97) #[] #[], .func (.func 98) #[] #[], .func (.func 100) #[] #[]].getD k .nilFunc, rfl, fun op h1 h2 => ?_⟩
  match op, h1, h2 with
  | 1, _, _ => exact Sat.pure.2 ⟨rfl, zs.tail⟩
  | 2, _, _ => exact ((((q2.grow r2).swap.set _).swap).drop1)
  | 3, _, _ => exact ((((q3.grow r3).swap.set _).swap).drop1)
  | 4, _, _ => exact ((((q4.grow r4).swap.set _).swap).drop1)
  | 5, _, _ => exact ((((q5.grow r5).swap.set _).swap).drop1)
  | 6, _, _ => exact ((((q6.grow r6).swap.set _).swap).drop1)
  | 7, _, _ => exact ((((q7.grow r7).swap.set _).swap).drop1)
  | 8, _, _ => exact ((((q8.grow r8).swap.set _).swap).drop1)
  | 9, _, _ => exact ((((q9.grow r9).swap.set _).swap).drop1)
  | 10, _, _ => exact ((((q10.grow r10).swap.set _).swap).drop1)
  | 11, _, _ => exact ((((q11.grow r11).swap.set _).swap).drop1)
  | 12, _, _ => exact ((((q12.grow r12).swap.set _).swap).drop1)
  | 13, _, _ => exact ((((q13.grow r13).swap.set _).swap).drop1)
  | 14, _, _ => exact ((((q14.grow r14).swap.set _).swap).drop1)
  | 15, _, _ => exact Sat.pure.2 ⟨rfl, zs.tail⟩
  | 16, _, _ => exact Sat.pure.2 ⟨rfl, zs.tail⟩
  | 17, _, _ => exact ((((q17.grow r17).swap.set _).swap).drop1)
  | 18, _, _ => exact ((((q18.grow r18).swap.set _).swap).drop1)
  | 19, _, _ => exact Sat.pure.2 ⟨rfl, zs.tail⟩
  | 20, _, _ => exact Sat.pure.2 ⟨rfl, zs.tail⟩
  | 21, _, _ => exact Sat.pure.2 ⟨rfl, zs.tail⟩
  | 22, _, _ => exact Sat.pure.2 ⟨rfl, zs.tail⟩
  | 23, _, _ => exact Sat.pure.2 ⟨rfl, zs.tail⟩
  | 24, _, _ => exact Sat.pure.2 ⟨rfl, zs.tail⟩
  | 25, _, _ => exact Sat.pure.2 ⟨rfl, zs.tail⟩
  | op + 26, _, h2 => exact absurd h2 (by omega)
  | 0, h1, _ => exact absurd h1 (by omega)
end
end Go.Eng
