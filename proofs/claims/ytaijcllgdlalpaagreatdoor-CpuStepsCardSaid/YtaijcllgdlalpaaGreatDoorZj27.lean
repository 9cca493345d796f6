/-
  viceroylaw09: leaf, example.
-/
import Derived.Test.YtaijcllgdlalpaaGreatDoorZj26
import Derived.Test.YtaijcllgdlalpaaGreatDoorZj23
import Derived.Test.YtaijcllgdlalpaaGreatDoorZj11
set_option linter.unusedSimpArgs false
set_option linter.unusedVariables false
set_option maxRecDepth 16000
set_option maxHeartbeats 4000000
namespace Go.Eng
open Go Go.Proofs
def exP : List PutP := [⟨3, 0, ⟨true, false, 0, 4⟩⟩, ⟨4, 0, ⟨true, true, 5, 1⟩⟩, ⟨4, 1, ⟨true, true, 3, 2⟩⟩]
def exW (i : Ins) : List WordP := [⟨64, if rightI i then wordI i else 0⟩, ⟨128, 77⟩]
section
variable {h : Heap} {F : List SP}
theorem leaf_S (fr ri : Int) : HCalls Tryz.prog 64 #[.int .i64 fr, .int .i64 ri] h fun v h' => v = .agg #[.bool true, .bool true, .int .i64 ri, .int .i64 fr] ∧ Ext h h' := by
  refine HCalls.via fun R hR => ?_
  refine HCalls.of_dev T64 Tryz.func64 rfl mixed (by kernel_rfl) ?_; rw [Tryz.results64]
  simp (maxSteps := 2000000) (disch := first | (simp only [go_sem, simprocAttr] <;> omega) | omega) only [go_sem, simprocAttr]
  exact hR _ _ ⟨rfl, Ext.push _ _⟩
theorem rdL_lit {α : Type} {enc : α → List Value} {sz : Nat} (he : ∀ x, (enc x).length = sz) {b cap : Nat} {ty : TypeId} (L : List α) (hs : Sat h (cellAt b (.cells (L.flatMap enc).toArray ty (0, 0)) :: F)) : rdL enc sz h (.slice (some ⟨b, 0, none⟩) L.length cap) L := by
  refine ⟨_, _, rfl, fun i hi => ⟨b, 0, rfl, hs.lt, fun j hj => ?_⟩⟩
  rw [hs.get, hcellO_arr, List.getElem?_toArray, Nat.zero_add, flat_get he _ _ _ hj, List.getElem?_eq_getElem hi]
  rfl
theorem example_S (i : Ins) (g : Bool) : HCalls Tryz.prog 26 #[.agg i.cells.toArray, .bool g] h fun v h' => ∃ v1 v2, v = .agg #[v1, v2, .bool g, .int .i64 1, .int .i64 3] ∧ rdL PutP.cells 6 h' v1 exP ∧ rdL WordP.cells 2 h' v2 (exW i) ∧ Ext h h' := by
  refine HCalls.via fun R hR => ?_
  have s0 := ((Sat.init h).push (.cells i.cells.toArray 84 (0, 0))).push (.cells #[.slice none 0 0, .slice none 0 0, .bool false, .int .i64 0, .int .i64 0] 25 (0, 0))
  simp only [Ins.cells_eq, size_push'] at s0
  have g0 := (s0.front 1).get
  refine HCalls.of_dev T26 Tryz.func26 rfl mixed (by kernel_rfl) ?_; rw [Tryz.results26]
  simp (maxSteps := 2000000) (disch := first | (simp only [go_sem, simprocAttr, g0] <;> omega) | omega) only [go_sem, simprocAttr, g0]
  refine (encode_S i).mono ?_
  rintro v h1 ⟨rfl, x1⟩
  have hv : encV i = .tuple #[.int .u32 (if rightI i then wordI i else 0), .int .i64 (if rightI i then 0 else 50)] := by
    unfold encV
    split <;> rfl
  rw [hv]
  unfold exW at hR
  generalize (if rightI i then wordI i else 0) = w at *
  have s1 := s0.grow x1
  simp (maxSteps := 2000000) (disch := first | (simp only [go_sem, simprocAttr] <;> omega) | omega) only [go_sem, simprocAttr]
  refine (leaf_S 1 5).mono ?_
  rintro v h2 ⟨rfl, x2⟩
  have s2 := s1.grow x2
  simp (maxSteps := 2000000) (disch := first | (simp only [go_sem, simprocAttr] <;> omega) | omega) only [go_sem, simprocAttr]
  refine (leaf_S 2 3).mono ?_
  rintro v h3 ⟨rfl, x3⟩
  have s3 := s2.grow x3
  simp (maxSteps := 2000000) (disch := first | (simp only [go_sem, simprocAttr] <;> omega) | omega) only [go_sem, simprocAttr]
  have s4 := (s3.push (.cells #[.int .i64 3, .int .i64 0, .bool true, .bool false, .int .i64 0, .int .i64 4, .int .i64 4, .int .i64 0, .bool true, .bool true, .int .i64 5, .int .i64 1, .int .i64 4, .int .i64 1, .bool true, .bool true, .int .i64 3, .int .i64 2] 92 (0, 0))).push (.cells #[.int .i64 64, .int .u32 w, .int .i64 128, .int .u32 77] 96 (0, 0))
  simp only [size_push'] at s4
  have s5 := (s4.front 2).set (.cells #[.slice (some ⟨h3.size, 0, none⟩) 3 3, .slice (some ⟨h3.size + 1, 0, none⟩) 2 2, .bool g, .int .i64 1, .int .i64 3] 25 (0, 0))
  simp (maxSteps := 2000000) (disch := first | (simp only [go_sem, simprocAttr, (s4.front 2).get, s5.get] <;> omega) | omega) only [go_sem, simprocAttr, (s4.front 2).get, s5.get]
  exact hR _ _ ⟨_, _, rfl, rdL_lit (enc := PutP.cells) (fun _ => rfl) exP (s5.front 2), rdL_lit (enc := WordP.cells) (fun _ => rfl) ([⟨64, w⟩, ⟨128, 77⟩] : List WordP) (s5.front 1), (s5.front 4).ext⟩
/-- The chapter's space. -/
def exM (i : Ins) : Nat → Int := memP exP (exW i)
theorem madeEx_S (i : Ins) (g : Bool) (hw : 0 ≤ (if rightI i then wordI i else 0) ∧ (if rightI i then wordI i else 0) < 4294967296) {v1 v2 : Value} (r1 : rdL PutP.cells 6 h v1 exP) (r2 : rdL WordP.cells 2 h v2 (exW i)) :
    HCalls Tryz.prog 8 #[.agg #[v1, v2, .bool g, .int .i64 1, .int .i64 3]] h fun v h' => ∃ rb tb pv x1 x2 x3, v = .tuple #[.agg #[.pointer (some ⟨rb, 0, none⟩), .pointer (some ⟨tb, 0, none⟩), .pointer pv, .pointer x1, .pointer x2, .pointer x3], .bool true] ∧
      Sat h' [mchS 16 rb tb (.pointer pv) ⟨exM i, noT, if g then some vg0 else none⟩, oldS h] :=
  made_S (fun x hx => by
    simp only [exW, List.mem_cons, List.not_mem_nil, or_false] at hx
    rcases hx with rfl | rfl
    · exact hw
    · exact ⟨by decide, by decide⟩) g 1 3 r1 r2
def noC : Cp := ⟨List.replicate 16 0, 0, List.replicate 8 0⟩
theorem noC_fit : noC.fit := ⟨rfl, rfl, fun x hx => by rw [List.eq_of_mem_replicate hx]; decide, fun x hx => by rw [List.eq_of_mem_replicate hx]; decide, by decide, by decide⟩
end
end Go.Eng
/-
  viceroylaw09: awake.
-/
namespace Go.Eng
open Go Go.Proofs
section
variable {h : Heap} {F : List SP} {n rb tb : Nat} {vv : Value} {M : Mch} {c : Cp}
theorem stepM_S (f : c.fit) (hs : Sat h (mchS n rb tb vv M :: F)) (vm se at_ : Int)
    (hoi : ∀ op A B C I : Nat, (fetchP n M.mem M.T (spaceP M.V.isSome c vm se) c.Pc at_).t.C = 0 → decI (fetchP n M.mem M.T (spaceP M.V.isSome c vm se) c.Pc at_).w.toNat = ⟨op, A, B, C, I⟩ → opIn op) :
    HCalls Tryz.prog 11 #[.agg #[.pointer (some ⟨rb, 0, none⟩), .pointer (some ⟨tb, 0, none⟩), vv], .agg c.cells.toArray, .int .i64 vm, .int .i64 se, .int .i64 at_] h fun v h' =>
      v = .tuple #[.agg (stepP n M c vm se at_).c.cells.toArray, .agg (stepP n M c vm se at_).t.cells.toArray] ∧ (stepP n M c vm se at_).c.fit ∧ Sat h' (mchS n rb tb vv (stepP n M c vm se at_).M :: F) := by
  refine (step_S2 f (Sat.star.1 hs) vm se at_ hoi).mono ?_
  rintro v h' ⟨rfl, f2, s⟩
  exact ⟨rfl, f2, Sat.star.2 s⟩
def exMch (i : Ins) (g : Bool) : Mch := ⟨exM i, noT, if g then some vg0 else none⟩
theorem opIn_of {x i : Ins} {op A B C I : Nat} (h : x = i) (e : x = ⟨op, A, B, C, I⟩) (k : ∀ o : Nat, (o : Int) = i.Op → opIn o) : opIn op := k op (by rw [← h, e])
def inC : Cp := ⟨[0, 64, 0, 0, 0, 0, 0, 0, 0, 0, 0, 0, 0, 0, 0, 0], 0, List.replicate 8 0⟩
theorem inC_fit : inC.fit := ⟨rfl, rfl, by decide, by decide, by decide, by decide⟩
theorem resA : (stepP 16 ⟨exM ⟨1, 1, 0, 0, 300⟩, noT, none⟩ noC 1 3 0).c.cells = [.int .u32 0, .int .u32 300, .int .u32 0, .int .u32 0, .int .u32 0, .int .u32 0, .int .u32 0, .int .u32 0, .int .u32 0, .int .u32 0, .int .u32 0, .int .u32 0, .int .u32 0, .int .u32 0, .int .u32 0, .int .u32 0, .int .i64 4, .int .u32 0, .int .u32 0, .int .u32 0, .int .u32 0, .int .u32 0, .int .u32 0, .int .u32 0, .int .u32 0] ∧ (stepP 16 ⟨exM ⟨1, 1, 0, 0, 300⟩, noT, none⟩ noC 1 3 0).t = okT := by constructor <;> kernel_rfl
theorem resB : (stepP 16 ⟨exM ⟨7, 2, 1, 0, 0⟩, noT, none⟩ inC 1 3 0).c.cells = [.int .u32 0, .int .u32 64, .int .u32 77, .int .u32 0, .int .u32 0, .int .u32 0, .int .u32 0, .int .u32 0, .int .u32 0, .int .u32 0, .int .u32 0, .int .u32 0, .int .u32 0, .int .u32 0, .int .u32 0, .int .u32 0, .int .i64 4, .int .u32 0, .int .u32 0, .int .u32 0, .int .u32 0, .int .u32 0, .int .u32 0, .int .u32 0, .int .u32 0] ∧ (stepP 16 ⟨exM ⟨7, 2, 1, 0, 0⟩, noT, none⟩ inC 1 3 0).t = okT := by constructor <;> kernel_rfl
theorem resC : (stepP 16 ⟨exM ⟨17, 0, 0, 0, 3⟩, noT, none⟩ noC 1 3 0).c.cells = [.int .u32 0, .int .u32 0, .int .u32 0, .int .u32 0, .int .u32 0, .int .u32 0, .int .u32 0, .int .u32 0, .int .u32 0, .int .u32 0, .int .u32 0, .int .u32 0, .int .u32 0, .int .u32 0, .int .u32 0, .int .u32 0, .int .i64 0, .int .u32 0, .int .u32 0, .int .u32 0, .int .u32 0, .int .u32 0, .int .u32 0, .int .u32 0, .int .u32 0] ∧ (stepP 16 ⟨exM ⟨17, 0, 0, 0, 3⟩, noT, none⟩ noC 1 3 0).t = ⟨8, 285212675, 0, okF⟩ := by constructor <;> kernel_rfl
theorem resD : (stepP 16 ⟨exM ⟨17, 0, 0, 0, 3⟩, noT, some vg0⟩ noC 1 3 0).c.cells = [.int .u32 0, .int .u32 0, .int .u32 0, .int .u32 0, .int .u32 0, .int .u32 0, .int .u32 0, .int .u32 0, .int .u32 0, .int .u32 0, .int .u32 0, .int .u32 0, .int .u32 0, .int .u32 0, .int .u32 0, .int .u32 0, .int .i64 0, .int .u32 0, .int .u32 0, .int .u32 0, .int .u32 0, .int .u32 0, .int .u32 0, .int .u32 0, .int .u32 0] ∧ (stepP 16 ⟨exM ⟨17, 0, 0, 0, 3⟩, noT, some vg0⟩ noC 1 3 0).t = ⟨5, 3, 0, okF⟩ := by constructor <;> kernel_rfl
theorem awake_S : HCalls Tryz.prog 7 #[] h fun v h' => v = .bool true ∧ Ext h h' := by
  refine HCalls.via fun R hR => ?_
  refine HCalls.of_dev T7 Tryz.func7 rfl mixed (by kernel_rfl) ?_; rw [Tryz.results7]
  simp (maxSteps := 2000000) (disch := first | (simp only [go_sem, simprocAttr] <;> omega) | omega) only [go_sem, simprocAttr]
  refine (example_S ⟨1, 1, 0, 0, 300⟩ false).mono ?_
  rintro v ha1 ⟨v1, v2, rfl, r1, r2, xa⟩
  have sa0 := (Sat.init h).grow xa
  simp (maxSteps := 2000000) (disch := first | (simp only [go_sem, simprocAttr] <;> omega) | omega) only [go_sem, simprocAttr]
  refine (madeEx_S ⟨1, 1, 0, 0, 300⟩ false ⟨by decide +kernel, by decide +kernel⟩ r1 r2).mono ?_
  rintro v ha2 ⟨rba, tba, pa, ya1, ya2, ya3, rfl, ma⟩
  have sa1 := sa0.over ma
  have sa2 := sa1.push (.cells #[.pointer (some ⟨rba, 0, none⟩), .pointer (some ⟨tba, 0, none⟩), .pointer pa, .pointer ya1, .pointer ya2, .pointer ya3] 43 (0, 0))
  simp (maxSteps := 2000000) (disch := first | (simp only [go_sem, simprocAttr] <;> omega) | omega) only [go_sem, simprocAttr]
  refine (example_S ⟨7, 2, 1, 0, 0⟩ false).mono ?_
  rintro v hb1 ⟨v1, v2, rfl, r1, r2, xb⟩
  have sb0 := sa2.grow xb
  simp (maxSteps := 2000000) (disch := first | (simp only [go_sem, simprocAttr] <;> omega) | omega) only [go_sem, simprocAttr]
  refine (madeEx_S ⟨7, 2, 1, 0, 0⟩ false ⟨by decide +kernel, by decide +kernel⟩ r1 r2).mono ?_
  rintro v hb2 ⟨rbb, tbb, pb, yb1, yb2, yb3, rfl, mb⟩
  have sb1 := sb0.over mb
  have sb2 := sb1.push (.cells #[.pointer (some ⟨rbb, 0, none⟩), .pointer (some ⟨tbb, 0, none⟩), .pointer pb, .pointer yb1, .pointer yb2, .pointer yb3] 43 (0, 0))
  simp (maxSteps := 2000000) (disch := first | (simp only [go_sem, simprocAttr] <;> omega) | omega) only [go_sem, simprocAttr]
  refine (example_S ⟨17, 0, 0, 0, 3⟩ false).mono ?_
  rintro v hc1 ⟨v1, v2, rfl, r1, r2, xc⟩
  have sc0 := sb2.grow xc
  simp (maxSteps := 2000000) (disch := first | (simp only [go_sem, simprocAttr] <;> omega) | omega) only [go_sem, simprocAttr]
  refine (madeEx_S ⟨17, 0, 0, 0, 3⟩ false ⟨by decide +kernel, by decide +kernel⟩ r1 r2).mono ?_
  rintro v hc2 ⟨rbc, tbc, pc, yc1, yc2, yc3, rfl, mc⟩
  have sc1 := sc0.over mc
  have sc2 := sc1.push (.cells #[.pointer (some ⟨rbc, 0, none⟩), .pointer (some ⟨tbc, 0, none⟩), .pointer pc, .pointer yc1, .pointer yc2, .pointer yc3] 43 (0, 0))
  simp (maxSteps := 2000000) (disch := first | (simp only [go_sem, simprocAttr] <;> omega) | omega) only [go_sem, simprocAttr]
  refine (example_S ⟨17, 0, 0, 0, 3⟩ true).mono ?_
  rintro v hd1 ⟨v1, v2, rfl, r1, r2, xd⟩
  have sd0 := sc2.grow xd
  simp (maxSteps := 2000000) (disch := first | (simp only [go_sem, simprocAttr] <;> omega) | omega) only [go_sem, simprocAttr]
  refine (madeEx_S ⟨17, 0, 0, 0, 3⟩ true ⟨by decide +kernel, by decide +kernel⟩ r1 r2).mono ?_
  rintro v hd2 ⟨rbd, tbd, pd, yd1, yd2, yd3, rfl, md⟩
  have sd1 := sd0.over md
  have sd2 := sd1.push (.cells #[.pointer (some ⟨rbd, 0, none⟩), .pointer (some ⟨tbd, 0, none⟩), .pointer pd, .pointer yd1, .pointer yd2, .pointer yd3] 43 (0, 0))
  simp (maxSteps := 2000000) (disch := first | (simp only [go_sem, simprocAttr] <;> omega) | omega) only [go_sem, simprocAttr]
  have ga := (sd2.front 6).get
  simp (maxSteps := 2000000) (disch := first | (simp only [go_sem, simprocAttr, ga] <;> omega) | omega) only [go_sem, simprocAttr, ga]
  refine (stepM_S noC_fit (sd2.front 7) 1 3 0 (fun op A B C I _ e => opIn_of (i := ⟨1, 1, 0, 0, 300⟩) (by kernel_rfl) e (fun o h => by unfold opIn; simp only at h; omega))).mono ?_
  rintro v k1 ⟨rfl, -, t1⟩
  simp only [Bool.false_eq_true, if_false]
  rw [resA.1, resA.2]
  have u3 := ((t1.push (.cells #[.int .u32 0, .int .u32 300, .int .u32 0, .int .u32 0, .int .u32 0, .int .u32 0, .int .u32 0, .int .u32 0, .int .u32 0, .int .u32 0, .int .u32 0, .int .u32 0, .int .u32 0, .int .u32 0, .int .u32 0, .int .u32 0, .int .i64 4, .int .u32 0, .int .u32 0, .int .u32 0, .int .u32 0, .int .u32 0, .int .u32 0, .int .u32 0, .int .u32 0] 30 (0, 0))).push (.cells okT.cells.toArray 56 (0, 0))).push (.cells #[.int .u32 0, .int .u32 64, .int .u32 0, .int .u32 0, .int .u32 0, .int .u32 0, .int .u32 0, .int .u32 0, .int .u32 0, .int .u32 0, .int .u32 0, .int .u32 0, .int .u32 0, .int .u32 0, .int .u32 0, .int .u32 0, .int .i64 0, .int .u32 0, .int .u32 0, .int .u32 0, .int .u32 0, .int .u32 0, .int .u32 0, .int .u32 0, .int .u32 0] 30 (0, 0))
  simp only [Trp.cells_eq, size_push'] at u3
  have gb := (u3.front 8).get
  simp (maxSteps := 2000000) (disch := first | (simp only [go_sem, simprocAttr, gb] <;> omega) | omega) only [go_sem, simprocAttr, gb]
  refine (stepM_S inC_fit (u3.front 9) 1 3 0 (fun op A B C I _ e => opIn_of (i := ⟨7, 2, 1, 0, 0⟩) (by kernel_rfl) e (fun o h => by unfold opIn; simp only at h; omega))).mono ?_
  rintro v k2 ⟨rfl, -, t2⟩
  simp only [Bool.false_eq_true, if_false]
  rw [resB.1, resB.2]
  have u5 := (t2.push (.cells #[.int .u32 0, .int .u32 64, .int .u32 77, .int .u32 0, .int .u32 0, .int .u32 0, .int .u32 0, .int .u32 0, .int .u32 0, .int .u32 0, .int .u32 0, .int .u32 0, .int .u32 0, .int .u32 0, .int .u32 0, .int .u32 0, .int .i64 4, .int .u32 0, .int .u32 0, .int .u32 0, .int .u32 0, .int .u32 0, .int .u32 0, .int .u32 0, .int .u32 0] 30 (0, 0))).push (.cells okT.cells.toArray 56 (0, 0))
  simp only [Trp.cells_eq, size_push'] at u5
  have gc := (u5.front 9).get
  simp (maxSteps := 2000000) (disch := first | (simp only [go_sem, simprocAttr, gc] <;> omega) | omega) only [go_sem, simprocAttr, gc]
  refine (stepM_S noC_fit (u5.front 10) 1 3 0 (fun op A B C I _ e => opIn_of (i := ⟨17, 0, 0, 0, 3⟩) (by kernel_rfl) e (fun o h => by unfold opIn; simp only at h; omega))).mono ?_
  rintro v k3 ⟨rfl, -, t3⟩
  simp only [Bool.false_eq_true, if_false]
  rw [resC.1, resC.2]
  have u7 := (t3.push (.cells #[.int .u32 0, .int .u32 0, .int .u32 0, .int .u32 0, .int .u32 0, .int .u32 0, .int .u32 0, .int .u32 0, .int .u32 0, .int .u32 0, .int .u32 0, .int .u32 0, .int .u32 0, .int .u32 0, .int .u32 0, .int .u32 0, .int .i64 0, .int .u32 0, .int .u32 0, .int .u32 0, .int .u32 0, .int .u32 0, .int .u32 0, .int .u32 0, .int .u32 0] 30 (0, 0))).push (.cells (⟨8, 285212675, 0, okF⟩ : Trp).cells.toArray 56 (0, 0))
  simp only [Trp.cells_eq, size_push'] at u7
  have gd := (u7.front 10).get
  simp (maxSteps := 2000000) (disch := first | (simp only [go_sem, simprocAttr, gd] <;> omega) | omega) only [go_sem, simprocAttr, gd]
  refine (stepM_S noC_fit (u7.front 11) 1 3 0 (fun op A B C I _ e => opIn_of (i := ⟨17, 0, 0, 0, 3⟩) (by kernel_rfl) e (fun o h => by unfold opIn; simp only at h; omega))).mono ?_
  rintro v k4 ⟨rfl, -, t4⟩
  simp only [if_true]
  rw [resD.1, resD.2]
  have u9 := (t4.push (.cells #[.int .u32 0, .int .u32 0, .int .u32 0, .int .u32 0, .int .u32 0, .int .u32 0, .int .u32 0, .int .u32 0, .int .u32 0, .int .u32 0, .int .u32 0, .int .u32 0, .int .u32 0, .int .u32 0, .int .u32 0, .int .u32 0, .int .i64 0, .int .u32 0, .int .u32 0, .int .u32 0, .int .u32 0, .int .u32 0, .int .u32 0, .int .u32 0, .int .u32 0] 30 (0, 0))).push (.cells (⟨5, 3, 0, okF⟩ : Trp).cells.toArray 56 (0, 0))
  simp only [Trp.cells_eq, okT, okF, size_push'] at u9
  have g1 := (u9.front 11).get
  have g2 := (u9.front 10).get
  have g3 := (u9.front 7).get
  have g4 := (u9.front 6).get
  have g5 := (u9.front 3).get
  have g6 := u9.get
  have x1 : okT = ⟨0, 0, 0, ⟨0, 0, 0, false, 0⟩⟩ := rfl
  have x2 : okF = ⟨0, 0, 0, false, 0⟩ := rfl
  simp (maxSteps := 2000000) (disch := first | (simp only [go_sem, simprocAttr, g1, g2, g3, g4, g5, g6, eqls_56, x1, x2] <;> omega) | omega) only [go_sem, simprocAttr, g1, g2, g3, g4, g5, g6, eqls_56, x1, x2]
  exact hR _ _ ⟨rfl, (u9.front 17).ext⟩
end
end Go.Eng
