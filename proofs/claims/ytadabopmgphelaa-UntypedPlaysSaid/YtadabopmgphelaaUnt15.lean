/-
  package untyped: Regions.
-/
import Derived.Test.YtadabopmgphelaaUnt13
import Derived.Test.YtadabopmgphelaaSrt2
import Derived.Test.YtadabopmgphelaaSrtReg
namespace Go.Eng
set_option linter.unusedSimpArgs false
set_option linter.unusedVariables false
set_option maxRecDepth 16000
set_option maxHeartbeats 4000000
open Go Go.Proofs Go.Sort Go.Shelf
instance : Inhabited Reg := ⟨⟨0, 0, 0, false⟩⟩
def cmpI (x y : Int) : Int := if x < y then -1 else if y < x then 1 else 0
def cfG (x y : Reg) : Int := cmpI x.F y.F
theorem cfG_lt (x y : Reg) : cfG x y < 0 ↔ x.F < y.F := by
  unfold cfG cmpI
  split <;> (try split) <;> omega
theorem swoG : SWO (ltOf cfG) where
  irrefl x := by
    unfold ltOf
    exact decide_eq_false fun q => by have := (cfG_lt x x).1 q; omega
  trans x y z h1 h2 := by
    unfold ltOf at *
    rw [decide_eq_true_iff] at *
    rw [cfG_lt] at *
    omega
  ntrans x y z h1 h2 := by
    unfold ltOf at *
    rw [decide_eq_false_iff_not] at *
    rw [cfG_lt] at *
    omega
section
variable {h : Heap}
theorem isNaN_S (x : Int) : HCalls Try.prog 49 #[.int .i64 x] h fun v h' => v = .bool false ∧ h' = h := by
  refine HCalls.via fun R hR => ?_
  refine HCalls.of_dev T49 Try.func49 rfl mixed (by kernel_rfl) ?_; rw [Try.results49]
  simp (maxSteps := 2000000) (disch := first | (simp only [go_sem, Nat.reduceBEq, Nat.reduceAdd, Nat.reduceMul, Nat.reduceSub, Nat.reduceEqDiff, Nat.reduceLeDiff, Nat.reduceLT, Int.reduceEq, Int.reduceAdd, Int.reduceSub, Int.reduceMul, Int.reduceNeg, Int.reduceLT, Int.reduceLE, Int.reduceToNat, Int.reduceBEq, Int.reduceNe, reduceCtorEq]; done) | omega | (simp only [go_sem, Nat.reduceBEq, Nat.reduceAdd, Nat.reduceMul, Nat.reduceSub, Nat.reduceEqDiff, Nat.reduceLeDiff, Nat.reduceLT, Int.reduceEq, Int.reduceAdd, Int.reduceSub, Int.reduceMul, Int.reduceNeg, Int.reduceLT, Int.reduceLE, Int.reduceToNat, Int.reduceBEq, Int.reduceNe, reduceCtorEq]; omega)) only [go_sem, Nat.reduceBEq, Nat.reduceAdd, Nat.reduceMul, Nat.reduceSub, Nat.reduceEqDiff, Nat.reduceLeDiff, Nat.reduceLT, Int.reduceEq, Int.reduceAdd, Int.reduceSub, Int.reduceMul, Int.reduceNeg, Int.reduceLT, Int.reduceLE, Int.reduceToNat, Int.reduceBEq, Int.reduceNe, reduceCtorEq, w64_id, w8_id, w16_id, w32_id, tmod_pos, tdiv_pos, Bool.or_true, Bool.true_or, Bool.or_false, Bool.false_or, Bool.and_false, Bool.false_and, condK_decide]
  exact hR _ _ ⟨rfl, rfl⟩
theorem compare_S (x y : Int) : HCalls Try.prog 40 #[.int .i64 x, .int .i64 y] h fun v h' => v = .int .i64 (cmpI x y) ∧ h' = h := by
  refine HCalls.via fun R hR => ?_
  refine HCalls.of_dev T40 Try.func40 rfl mixed (by kernel_rfl) ?_; rw [Try.results40]
  simp (maxSteps := 2000000) (disch := first | (simp only [go_sem, Nat.reduceBEq, Nat.reduceAdd, Nat.reduceMul, Nat.reduceSub, Nat.reduceEqDiff, Nat.reduceLeDiff, Nat.reduceLT, Int.reduceEq, Int.reduceAdd, Int.reduceSub, Int.reduceMul, Int.reduceNeg, Int.reduceLT, Int.reduceLE, Int.reduceToNat, Int.reduceBEq, Int.reduceNe, reduceCtorEq]; done) | omega | (simp only [go_sem, Nat.reduceBEq, Nat.reduceAdd, Nat.reduceMul, Nat.reduceSub, Nat.reduceEqDiff, Nat.reduceLeDiff, Nat.reduceLT, Int.reduceEq, Int.reduceAdd, Int.reduceSub, Int.reduceMul, Int.reduceNeg, Int.reduceLT, Int.reduceLE, Int.reduceToNat, Int.reduceBEq, Int.reduceNe, reduceCtorEq]; omega)) only [go_sem, Nat.reduceBEq, Nat.reduceAdd, Nat.reduceMul, Nat.reduceSub, Nat.reduceEqDiff, Nat.reduceLeDiff, Nat.reduceLT, Int.reduceEq, Int.reduceAdd, Int.reduceSub, Int.reduceMul, Int.reduceNeg, Int.reduceLT, Int.reduceLE, Int.reduceToNat, Int.reduceBEq, Int.reduceNe, reduceCtorEq, w64_id, w8_id, w16_id, w32_id, tmod_pos, tdiv_pos, Bool.or_true, Bool.true_or, Bool.or_false, Bool.false_or, Bool.and_false, Bool.false_and, condK_decide]
  refine (isNaN_S x).mono ?_
  rintro v h' ⟨rfl, rfl⟩
  simp (maxSteps := 2000000) (disch := first | (simp only [go_sem, Nat.reduceBEq, Nat.reduceAdd, Nat.reduceMul, Nat.reduceSub, Nat.reduceEqDiff, Nat.reduceLeDiff, Nat.reduceLT, Int.reduceEq, Int.reduceAdd, Int.reduceSub, Int.reduceMul, Int.reduceNeg, Int.reduceLT, Int.reduceLE, Int.reduceToNat, Int.reduceBEq, Int.reduceNe, reduceCtorEq]; done) | omega | (simp only [go_sem, Nat.reduceBEq, Nat.reduceAdd, Nat.reduceMul, Nat.reduceSub, Nat.reduceEqDiff, Nat.reduceLeDiff, Nat.reduceLT, Int.reduceEq, Int.reduceAdd, Int.reduceSub, Int.reduceMul, Int.reduceNeg, Int.reduceLT, Int.reduceLE, Int.reduceToNat, Int.reduceBEq, Int.reduceNe, reduceCtorEq]; omega)) only [go_sem, Nat.reduceBEq, Nat.reduceAdd, Nat.reduceMul, Nat.reduceSub, Nat.reduceEqDiff, Nat.reduceLeDiff, Nat.reduceLT, Int.reduceEq, Int.reduceAdd, Int.reduceSub, Int.reduceMul, Int.reduceNeg, Int.reduceLT, Int.reduceLE, Int.reduceToNat, Int.reduceBEq, Int.reduceNe, reduceCtorEq, w64_id, w8_id, w16_id, w32_id, tmod_pos, tdiv_pos, Bool.or_true, Bool.true_or, Bool.or_false, Bool.false_or, Bool.and_false, Bool.false_and, condK_decide]
  refine (isNaN_S y).mono ?_
  rintro v h' ⟨rfl, rfl⟩
  unfold cmpI at hR
  by_cases c1 : x < y
  · rw [if_pos c1] at hR
    simp (maxSteps := 2000000) (disch := first | (simp only [go_sem, Nat.reduceBEq, Nat.reduceAdd, Nat.reduceMul, Nat.reduceSub, Nat.reduceEqDiff, Nat.reduceLeDiff, Nat.reduceLT, Int.reduceEq, Int.reduceAdd, Int.reduceSub, Int.reduceMul, Int.reduceNeg, Int.reduceLT, Int.reduceLE, Int.reduceToNat, Int.reduceBEq, Int.reduceNe, reduceCtorEq, c1]; done) | omega | (simp only [go_sem, Nat.reduceBEq, Nat.reduceAdd, Nat.reduceMul, Nat.reduceSub, Nat.reduceEqDiff, Nat.reduceLeDiff, Nat.reduceLT, Int.reduceEq, Int.reduceAdd, Int.reduceSub, Int.reduceMul, Int.reduceNeg, Int.reduceLT, Int.reduceLE, Int.reduceToNat, Int.reduceBEq, Int.reduceNe, reduceCtorEq, c1]; omega)) only [go_sem, Nat.reduceBEq, Nat.reduceAdd, Nat.reduceMul, Nat.reduceSub, Nat.reduceEqDiff, Nat.reduceLeDiff, Nat.reduceLT, Int.reduceEq, Int.reduceAdd, Int.reduceSub, Int.reduceMul, Int.reduceNeg, Int.reduceLT, Int.reduceLE, Int.reduceToNat, Int.reduceBEq, Int.reduceNe, reduceCtorEq, w64_id, w8_id, w16_id, w32_id, tmod_pos, tdiv_pos, Bool.or_true, Bool.true_or, Bool.or_false, Bool.false_or, Bool.and_false, Bool.false_and, condK_decide, c1]
    exact hR _ _ ⟨rfl, rfl⟩
  · rw [if_neg c1] at hR
    by_cases c2 : y < x
    · rw [if_pos c2] at hR
      simp (maxSteps := 2000000) (disch := first | (simp only [go_sem, Nat.reduceBEq, Nat.reduceAdd, Nat.reduceMul, Nat.reduceSub, Nat.reduceEqDiff, Nat.reduceLeDiff, Nat.reduceLT, Int.reduceEq, Int.reduceAdd, Int.reduceSub, Int.reduceMul, Int.reduceNeg, Int.reduceLT, Int.reduceLE, Int.reduceToNat, Int.reduceBEq, Int.reduceNe, reduceCtorEq, c1, c2]; done) | omega | (simp only [go_sem, Nat.reduceBEq, Nat.reduceAdd, Nat.reduceMul, Nat.reduceSub, Nat.reduceEqDiff, Nat.reduceLeDiff, Nat.reduceLT, Int.reduceEq, Int.reduceAdd, Int.reduceSub, Int.reduceMul, Int.reduceNeg, Int.reduceLT, Int.reduceLE, Int.reduceToNat, Int.reduceBEq, Int.reduceNe, reduceCtorEq, c1, c2]; omega)) only [go_sem, Nat.reduceBEq, Nat.reduceAdd, Nat.reduceMul, Nat.reduceSub, Nat.reduceEqDiff, Nat.reduceLeDiff, Nat.reduceLT, Int.reduceEq, Int.reduceAdd, Int.reduceSub, Int.reduceMul, Int.reduceNeg, Int.reduceLT, Int.reduceLE, Int.reduceToNat, Int.reduceBEq, Int.reduceNe, reduceCtorEq, w64_id, w8_id, w16_id, w32_id, tmod_pos, tdiv_pos, Bool.or_true, Bool.true_or, Bool.or_false, Bool.false_or, Bool.and_false, Bool.false_and, condK_decide, c1, c2]
      exact hR _ _ ⟨rfl, rfl⟩
    · rw [if_neg c2] at hR
      simp (maxSteps := 2000000) (disch := first | (simp only [go_sem, Nat.reduceBEq, Nat.reduceAdd, Nat.reduceMul, Nat.reduceSub, Nat.reduceEqDiff, Nat.reduceLeDiff, Nat.reduceLT, Int.reduceEq, Int.reduceAdd, Int.reduceSub, Int.reduceMul, Int.reduceNeg, Int.reduceLT, Int.reduceLE, Int.reduceToNat, Int.reduceBEq, Int.reduceNe, reduceCtorEq, c1, c2]; done) | omega | (simp only [go_sem, Nat.reduceBEq, Nat.reduceAdd, Nat.reduceMul, Nat.reduceSub, Nat.reduceEqDiff, Nat.reduceLeDiff, Nat.reduceLT, Int.reduceEq, Int.reduceAdd, Int.reduceSub, Int.reduceMul, Int.reduceNeg, Int.reduceLT, Int.reduceLE, Int.reduceToNat, Int.reduceBEq, Int.reduceNe, reduceCtorEq, c1, c2]; omega)) only [go_sem, Nat.reduceBEq, Nat.reduceAdd, Nat.reduceMul, Nat.reduceSub, Nat.reduceEqDiff, Nat.reduceLeDiff, Nat.reduceLT, Int.reduceEq, Int.reduceAdd, Int.reduceSub, Int.reduceMul, Int.reduceNeg, Int.reduceLT, Int.reduceLE, Int.reduceToNat, Int.reduceBEq, Int.reduceNe, reduceCtorEq, w64_id, w8_id, w16_id, w32_id, tmod_pos, tdiv_pos, Bool.or_true, Bool.true_or, Bool.or_false, Bool.false_or, Bool.and_false, Bool.false_and, condK_decide, c1, c2]
      exact hR _ _ ⟨rfl, rfl⟩
theorem cmpReg_S (x y : Reg) (h : Heap) : HCalls Try.prog 39 #[.agg x.cells.toArray, .agg y.cells.toArray] h fun v h' => v = .int .i64 (cfG x y) ∧ Ext h h' := by
  refine HCalls.via fun R hR => ?_
  refine HCalls.of_dev T39 Try.func39 rfl mixed (by kernel_rfl) ?_; rw [Try.results39]
  simp (maxSteps := 2000000) (disch := first | (simp only [go_sem, Nat.reduceBEq, Nat.reduceAdd, Nat.reduceMul, Nat.reduceSub, Nat.reduceEqDiff, Nat.reduceLeDiff, Nat.reduceLT, Int.reduceEq, Int.reduceAdd, Int.reduceSub, Int.reduceMul, Int.reduceNeg, Int.reduceLT, Int.reduceLE, Int.reduceToNat, Int.reduceBEq, Int.reduceNe, reduceCtorEq]; done) | omega | (simp only [go_sem, Nat.reduceBEq, Nat.reduceAdd, Nat.reduceMul, Nat.reduceSub, Nat.reduceEqDiff, Nat.reduceLeDiff, Nat.reduceLT, Int.reduceEq, Int.reduceAdd, Int.reduceSub, Int.reduceMul, Int.reduceNeg, Int.reduceLT, Int.reduceLE, Int.reduceToNat, Int.reduceBEq, Int.reduceNe, reduceCtorEq]; omega)) only [go_sem, Nat.reduceBEq, Nat.reduceAdd, Nat.reduceMul, Nat.reduceSub, Nat.reduceEqDiff, Nat.reduceLeDiff, Nat.reduceLT, Int.reduceEq, Int.reduceAdd, Int.reduceSub, Int.reduceMul, Int.reduceNeg, Int.reduceLT, Int.reduceLE, Int.reduceToNat, Int.reduceBEq, Int.reduceNe, reduceCtorEq, w64_id, w8_id, w16_id, w32_id, tmod_pos, tdiv_pos, Bool.or_true, Bool.true_or, Bool.or_false, Bool.false_or, Bool.and_false, Bool.false_and, condK_decide]
  have s1 := ((Sat.init h).push (.cells x.cells.toArray 28 (0, 0))).push (.cells y.cells.toArray 28 (0, 0))
  simp only [size_push', Reg.cells_eq] at s1
  refine (compare_S _ _).mono ?_
  rintro v h' ⟨rfl, rfl⟩
  simp (maxSteps := 2000000) (disch := first | (simp only [go_sem, Nat.reduceBEq, Nat.reduceAdd, Nat.reduceMul, Nat.reduceSub, Nat.reduceEqDiff, Nat.reduceLeDiff, Nat.reduceLT, Int.reduceEq, Int.reduceAdd, Int.reduceSub, Int.reduceMul, Int.reduceNeg, Int.reduceLT, Int.reduceLE, Int.reduceToNat, Int.reduceBEq, Int.reduceNe, reduceCtorEq]; done) | omega | (simp only [go_sem, Nat.reduceBEq, Nat.reduceAdd, Nat.reduceMul, Nat.reduceSub, Nat.reduceEqDiff, Nat.reduceLeDiff, Nat.reduceLT, Int.reduceEq, Int.reduceAdd, Int.reduceSub, Int.reduceMul, Int.reduceNeg, Int.reduceLT, Int.reduceLE, Int.reduceToNat, Int.reduceBEq, Int.reduceNe, reduceCtorEq]; omega)) only [go_sem, Nat.reduceBEq, Nat.reduceAdd, Nat.reduceMul, Nat.reduceSub, Nat.reduceEqDiff, Nat.reduceLeDiff, Nat.reduceLT, Int.reduceEq, Int.reduceAdd, Int.reduceSub, Int.reduceMul, Int.reduceNeg, Int.reduceLT, Int.reduceLE, Int.reduceToNat, Int.reduceBEq, Int.reduceNe, reduceCtorEq, w64_id, w8_id, w16_id, w32_id, tmod_pos, tdiv_pos, Bool.or_true, Bool.true_or, Bool.or_false, Bool.false_or, Bool.and_false, Bool.false_and, condK_decide]
  exact hR _ _ ⟨rfl, (s1.front 2).ext⟩
theorem sortRegs (v : Value) (Y : List Reg) (h : Heap) (F : List SP) (hs : Sat h (sliceS 4 Y.length v (regsL Y) :: F)) (hl : Y.length ≤ 100000) : HCalls Try.prog 38 #[v, .func (.func 39) #[] #[]] h fun r h' => r = .tuple #[] ∧ ∃ Z : List Reg, Z.Perm Y ∧ Z.Pairwise (fun x y => ¬ y.F < x.F) ∧ Sat h' (sliceS 4 Z.length v (regsL Z) :: F) := by
  have hc := Sat.sort (P := Try.prog) Try.sortReg (k := 4) (by decide) Try.isAgg28 Try.sizeOf28 Reg.cells Reg.cells_len (fun x v hv => by simp [Reg.cells] at hv; rcases hv with rfl | rfl | rfl | rfl <;> rfl) (fun x => Reg.cells_single x) cfG swoG 39 (by kernel_rfl) cmpReg_S hs (by omega)
  refine HCalls.mono hc ?_
  rintro r h' ⟨rfl, Z, h1, h2, h3⟩
  refine ⟨rfl, Z, h1, h2.imp ?_, h3⟩
  intro x y q
  unfold ltOf at q
  rw [decide_eq_false_iff_not] at q
  exact fun r => q ((cfG_lt y x).2 r)
end
def gRegs (L : List Reg) (k : Option Int) : List Reg := match k with
  | some k => (match mOf L k with | some r => [r] | none => [])
  | none => []
def gotG (L : List Reg) (done : List MapEntry) : List Reg := (done.map keyI).flatMap (gRegs L)
theorem gotG_one {L : List Reg} {done : List MapEntry} {e : MapEntry} {k : Int} {r : Reg} (hk : keyI e = some k) (hn : mOf L k = some r) : gotG L (done ++ [e]) = gotG L done ++ [r] := by
  unfold gotG
  rw [List.map_append, List.flatMap_append]
  congr 1
  simp only [List.map_cons, List.map_nil, List.flatMap_cons, List.flatMap_nil, List.append_nil, hk, gRegs, hn]
theorem regKeys {h : Heap} {pb mb : Nat} {es : Array MapEntry} {clk : Nat} {β : Int → Nat} {L : List Reg} (ok : SortedOk L) (p : PoolAt h pb mb es clk β (mOf L)) : (es.toList.map keyI).Perm (L.map fun r => some r.F) := by
  refine (List.perm_ext_iff_of_nodup p.map.nodup ?_).2 fun k => ?_
  · unfold List.Nodup
    rw [List.pairwise_map]
    refine ok.1.imp fun {a b} h q => ?_
    simp only [Option.some.injEq] at q
    omega
  · constructor
    · intro h
      obtain ⟨e, he, rfl⟩ := List.mem_map.1 h
      obtain ⟨k, hk⟩ := Option.isSome_iff_exists.1 (p.map.keys e he)
      have h1 := mapOf_mem p.map.nodup he hk
      rw [p.val k] at h1
      cases hm : mOf L k with
      | none => rw [hm] at h1; cases h1
      | some r =>
        obtain ⟨q1, q2⟩ := mOf_some hm
        rw [hk]
        exact List.mem_map.2 ⟨r, q1, by rw [q2]⟩
    · intro h
      obtain ⟨r, hr, rfl⟩ := List.mem_map.1 h
      have h1 := mOf_mem ok.1 hr
      have h3 := p.val r.F
      rw [h1] at h3
      unfold mapOf at h3
      cases hf : findI es.toList r.F with
      | none => rw [hf] at h3; cases h3
      | some e =>
        unfold findI at hf
        exact List.mem_map.2 ⟨e, List.mem_of_find?_eq_some hf, by simpa using List.find?_some hf⟩
theorem regPerm {h : Heap} {pb mb : Nat} {es : Array MapEntry} {clk : Nat} {β : Int → Nat} {L : List Reg} (ok : SortedOk L) (p : PoolAt h pb mb es clk β (mOf L)) : (gotG L es.toList).Perm L := by
  refine ((regKeys ok p).flatMap_right _).trans ?_
  have : ∀ M : List Reg, (∀ r ∈ M, r ∈ L) → (M.map fun r => some r.F).flatMap (gRegs L) = M := by
    intro M
    induction M with
    | nil => intro _; rfl
    | cons r M ih =>
      intro h
      rw [List.map_cons, List.flatMap_cons, ih fun m hm => h m (by simp [hm])]
      unfold gRegs
      simp only [mOf_mem ok.1 (h r (by simp)), List.cons_append, List.nil_append]
  rw [this L fun r hr => hr]
section
variable {h : Heap} {F : List SP} {pb : Nat} {L : List Reg}
theorem regions_S (hs : Sat h (poolS pb (mOf L) :: F)) (ok : SortedOk L) (hL : L.length ≤ 10000) : HCalls Try.prog 23 #[.pointer (some ⟨pb, 0, none⟩)] h fun v h' => Sat h' (sliceS 4 L.length v (regsL L) :: poolS pb (mOf L) :: F) := by
  refine HCalls.via fun R hR => ?_
  obtain ⟨X, ⟨mb, es, clk, β, p, hF⟩, hX, -⟩ := hs.open_ poolO_local
  obtain ⟨ty, hhead⟩ := p.head
  have hm := p.map.at_
  have hpm := regPerm ok p
  refine HCalls.of_dev T23 Try.func23 rfl mixed (by kernel_rfl) ?_; rw [Try.results23]
  simp (maxSteps := 2000000) (disch := first | (simp only [go_sem, Nat.reduceBEq, Nat.reduceAdd, Nat.reduceMul, Nat.reduceSub, Nat.reduceEqDiff, Nat.reduceLeDiff, Nat.reduceLT, Int.reduceEq, Int.reduceAdd, Int.reduceSub, Int.reduceMul, Int.reduceNeg, Int.reduceLT, Int.reduceLE, Int.reduceToNat, Int.reduceBEq, Int.reduceNe, reduceCtorEq, hhead]; done) | omega | (simp only [go_sem, Nat.reduceBEq, Nat.reduceAdd, Nat.reduceMul, Nat.reduceSub, Nat.reduceEqDiff, Nat.reduceLeDiff, Nat.reduceLT, Int.reduceEq, Int.reduceAdd, Int.reduceSub, Int.reduceMul, Int.reduceNeg, Int.reduceLT, Int.reduceLE, Int.reduceToNat, Int.reduceBEq, Int.reduceNe, reduceCtorEq, hhead]; omega)) only [go_sem, Nat.reduceBEq, Nat.reduceAdd, Nat.reduceMul, Nat.reduceSub, Nat.reduceEqDiff, Nat.reduceLeDiff, Nat.reduceLT, Int.reduceEq, Int.reduceAdd, Int.reduceSub, Int.reduceMul, Int.reduceNeg, Int.reduceLT, Int.reduceLE, Int.reduceToNat, Int.reduceBEq, Int.reduceNe, reduceCtorEq, w64_id, w8_id, w16_id, w32_id, tmod_pos, tdiv_pos, Bool.or_true, Bool.true_or, Bool.or_false, Bool.false_or, Bool.and_false, Bool.false_and, condK_decide, hhead]
  rw [runH_range Try.underlying64 hm]
  have s1 := Sat.nilS (sz := 4) ((Sat.init h).push (.mapIter (some mb) clk #[] clk))
  simp (maxSteps := 2000000) (disch := first | (simp only [go_sem, Nat.reduceBEq, Nat.reduceAdd, Nat.reduceMul, Nat.reduceSub, Nat.reduceEqDiff, Nat.reduceLeDiff, Nat.reduceLT, Int.reduceEq, Int.reduceAdd, Int.reduceSub, Int.reduceMul, Int.reduceNeg, Int.reduceLT, Int.reduceLE, Int.reduceToNat, Int.reduceBEq, Int.reduceNe, reduceCtorEq]; done) | omega | (simp only [go_sem, Nat.reduceBEq, Nat.reduceAdd, Nat.reduceMul, Nat.reduceSub, Nat.reduceEqDiff, Nat.reduceLeDiff, Nat.reduceLT, Int.reduceEq, Int.reduceAdd, Int.reduceSub, Int.reduceMul, Int.reduceNeg, Int.reduceLT, Int.reduceLE, Int.reduceToNat, Int.reduceBEq, Int.reduceNe, reduceCtorEq]; omega)) only [go_sem, Nat.reduceBEq, Nat.reduceAdd, Nat.reduceMul, Nat.reduceSub, Nat.reduceEqDiff, Nat.reduceLeDiff, Nat.reduceLT, Int.reduceEq, Int.reduceAdd, Int.reduceSub, Int.reduceMul, Int.reduceNeg, Int.reduceLT, Int.reduceLE, Int.reduceToNat, Int.reduceBEq, Int.reduceNe, reduceCtorEq, w64_id, w8_id, w16_id, w32_id, tmod_pos, tdiv_pos, Bool.or_true, Bool.true_or, Bool.or_false, Bool.false_or, Bool.and_false, Bool.false_and, condK_decide]
  refine loopH.intro (fun t : Value × List MapEntry => (.cons 3 (t.1) true (.cons 10 (.pointer (some ⟨h.size, 0, none⟩)) true .nil)))
    (fun t h' => Sat h' [sliceS 4 (gotG L t.2).length t.1 (regsL (gotG L t.2)), cellAt h.size (.mapIter (some mb) clk (t.2.map (·.born)).toArray clk), oldS h] ∧
      ∃ rest, (t.2 ++ rest).Perm es.toList) (fun t _ => es.toList.length + 1 - t.2.length) (.slice none 0 0, []) ?_ ⟨s1, es.toList, List.Perm.refl _⟩ ?_
  · simp (maxSteps := 2000000) (disch := first | (simp only [go_sem, Nat.reduceBEq, Nat.reduceAdd, Nat.reduceMul, Nat.reduceSub, Nat.reduceEqDiff, Nat.reduceLeDiff, Nat.reduceLT, Int.reduceEq, Int.reduceAdd, Int.reduceSub, Int.reduceMul, Int.reduceNeg, Int.reduceLT, Int.reduceLE, Int.reduceToNat, Int.reduceBEq, Int.reduceNe, reduceCtorEq]; done) | omega | (simp only [go_sem, Nat.reduceBEq, Nat.reduceAdd, Nat.reduceMul, Nat.reduceSub, Nat.reduceEqDiff, Nat.reduceLeDiff, Nat.reduceLT, Int.reduceEq, Int.reduceAdd, Int.reduceSub, Int.reduceMul, Int.reduceNeg, Int.reduceLT, Int.reduceLE, Int.reduceToNat, Int.reduceBEq, Int.reduceNe, reduceCtorEq]; omega)) only [go_sem, Nat.reduceBEq, Nat.reduceAdd, Nat.reduceMul, Nat.reduceSub, Nat.reduceEqDiff, Nat.reduceLeDiff, Nat.reduceLT, Int.reduceEq, Int.reduceAdd, Int.reduceSub, Int.reduceMul, Int.reduceNeg, Int.reduceLT, Int.reduceLE, Int.reduceToNat, Int.reduceBEq, Int.reduceNe, reduceCtorEq, w64_id, w8_id, w16_id, w32_id, tmod_pos, tdiv_pos, Bool.or_true, Bool.true_or, Bool.or_false, Bool.false_or, Bool.and_false, Bool.false_and, condK_decide]
  clear s1
  rintro ⟨v, done⟩ h2 ⟨s, rest, hp⟩
  simp only at s hp
  obtain ⟨sl2, cap2, rfl, -⟩ := s.elems
  have hx := (s.front 2).ext
  have hlen : (gotG L done).length ≤ L.length := by
    have h1 : gotG L (done ++ rest) = gotG L done ++ gotG L rest := by unfold gotG; rw [List.map_append, List.flatMap_append]
    have h2 : (gotG L (done ++ rest)).Perm (gotG L es.toList) := (hp.map keyI).flatMap_right _
    have h3 := (h2.trans hpm).length_eq
    rw [h1, List.length_append] at h3
    omega
  simp (maxSteps := 2000000) (disch := first | (simp only [go_sem, Nat.reduceBEq, Nat.reduceAdd, Nat.reduceMul, Nat.reduceSub, Nat.reduceEqDiff, Nat.reduceLeDiff, Nat.reduceLT, Int.reduceEq, Int.reduceAdd, Int.reduceSub, Int.reduceMul, Int.reduceNeg, Int.reduceLT, Int.reduceLE, Int.reduceToNat, Int.reduceBEq, Int.reduceNe, reduceCtorEq]; done) | omega | (simp only [go_sem, Nat.reduceBEq, Nat.reduceAdd, Nat.reduceMul, Nat.reduceSub, Nat.reduceEqDiff, Nat.reduceLeDiff, Nat.reduceLT, Int.reduceEq, Int.reduceAdd, Int.reduceSub, Int.reduceMul, Int.reduceNeg, Int.reduceLT, Int.reduceLE, Int.reduceToNat, Int.reduceBEq, Int.reduceNe, reduceCtorEq]; omega)) only [go_sem, Nat.reduceBEq, Nat.reduceAdd, Nat.reduceMul, Nat.reduceSub, Nat.reduceEqDiff, Nat.reduceLeDiff, Nat.reduceLT, Int.reduceEq, Int.reduceAdd, Int.reduceSub, Int.reduceMul, Int.reduceNeg, Int.reduceLT, Int.reduceLE, Int.reduceToNat, Int.reduceBEq, Int.reduceNe, reduceCtorEq, w64_id, w8_id, w16_id, w32_id, tmod_pos, tdiv_pos, Bool.or_true, Bool.true_or, Bool.or_false, Bool.false_or, Bool.and_false, Bool.false_and, condK_decide]
  refine runH_next (s.front 1).get (hx.some hm) p.map.old ?_ ?_
  · intro hall
    have : rest = [] := iter_done hp p.map.stamps (fun e he => by simpa using hall e he)
    subst this
    rw [List.append_nil] at hp
    simp (maxSteps := 2000000) (disch := first | (simp only [go_sem, Nat.reduceBEq, Nat.reduceAdd, Nat.reduceMul, Nat.reduceSub, Nat.reduceEqDiff, Nat.reduceLeDiff, Nat.reduceLT, Int.reduceEq, Int.reduceAdd, Int.reduceSub, Int.reduceMul, Int.reduceNeg, Int.reduceLT, Int.reduceLE, Int.reduceToNat, Int.reduceBEq, Int.reduceNe, reduceCtorEq]; done) | omega | (simp only [go_sem, Nat.reduceBEq, Nat.reduceAdd, Nat.reduceMul, Nat.reduceSub, Nat.reduceEqDiff, Nat.reduceLeDiff, Nat.reduceLT, Int.reduceEq, Int.reduceAdd, Int.reduceSub, Int.reduceMul, Int.reduceNeg, Int.reduceLT, Int.reduceLE, Int.reduceToNat, Int.reduceBEq, Int.reduceNe, reduceCtorEq]; omega)) only [go_sem, Nat.reduceBEq, Nat.reduceAdd, Nat.reduceMul, Nat.reduceSub, Nat.reduceEqDiff, Nat.reduceLeDiff, Nat.reduceLT, Int.reduceEq, Int.reduceAdd, Int.reduceSub, Int.reduceMul, Int.reduceNeg, Int.reduceLT, Int.reduceLE, Int.reduceToNat, Int.reduceBEq, Int.reduceNe, reduceCtorEq, w64_id, w8_id, w16_id, w32_id, tmod_pos, tdiv_pos, Bool.or_true, Bool.true_or, Bool.or_false, Bool.false_or, Bool.and_false, Bool.false_and, condK_decide]
    refine (sortRegs _ (gotG L done) _ _ s (by omega)).mono ?_
    rintro r h3 ⟨rfl, Y, y1, y2, s3⟩
    have hfin : Y = L := sorted_uniq (lt := fun a b : Reg => a.F < b.F) (y1.trans (((hp.map keyI).flatMap_right (gRegs L)).trans hpm)) ok.1 y2
    subst hfin
    simp (maxSteps := 2000000) (disch := first | (simp only [go_sem, Nat.reduceBEq, Nat.reduceAdd, Nat.reduceMul, Nat.reduceSub, Nat.reduceEqDiff, Nat.reduceLeDiff, Nat.reduceLT, Int.reduceEq, Int.reduceAdd, Int.reduceSub, Int.reduceMul, Int.reduceNeg, Int.reduceLT, Int.reduceLE, Int.reduceToNat, Int.reduceBEq, Int.reduceNe, reduceCtorEq]; done) | omega | (simp only [go_sem, Nat.reduceBEq, Nat.reduceAdd, Nat.reduceMul, Nat.reduceSub, Nat.reduceEqDiff, Nat.reduceLeDiff, Nat.reduceLT, Int.reduceEq, Int.reduceAdd, Int.reduceSub, Int.reduceMul, Int.reduceNeg, Int.reduceLT, Int.reduceLE, Int.reduceToNat, Int.reduceBEq, Int.reduceNe, reduceCtorEq]; omega)) only [go_sem, Nat.reduceBEq, Nat.reduceAdd, Nat.reduceMul, Nat.reduceSub, Nat.reduceEqDiff, Nat.reduceLeDiff, Nat.reduceLT, Int.reduceEq, Int.reduceAdd, Int.reduceSub, Int.reduceMul, Int.reduceNeg, Int.reduceLT, Int.reduceLE, Int.reduceToNat, Int.reduceBEq, Int.reduceNe, reduceCtorEq, w64_id, w8_id, w16_id, w32_id, tmod_pos, tdiv_pos, Bool.or_true, Bool.true_or, Bool.or_false, Bool.false_or, Bool.and_false, Bool.false_and, condK_decide]
    exact hR _ _ (Sat.over hs (s3.re [0, 2]))
  · intro e he hne
    have hne2 : e.born ∉ done.map (·.born) := by simpa using hne
    obtain ⟨rest', hp'⟩ := iter_left hp p.map.stamps he hne2
    obtain ⟨k, hk⟩ := Option.isSome_iff_exists.1 (p.map.keys e he)
    have hkey := keyI_eq hk
    have hmo := mapOf_mem p.map.nodup he hk
    rw [p.val k] at hmo
    obtain ⟨r, hr, hrv⟩ : ∃ r, mOf L k = some r ∧ e.val = .pointer (some ⟨β k, 0, none⟩) := by
      cases hz : mOf L k with
      | none => rw [hz] at hmo; cases hmo
      | some z => rw [hz] at hmo; exact ⟨z, rfl, by simpa using hmo.symm⟩
    obtain ⟨ty2, hrb⟩ := p.reg k r hr
    have s4 := ((s.front 1).set (.mapIter (some mb) clk ((done.map (·.born)).toArray.push e.born) clk)).swap
    have hx4 := (s4.front 2).ext
    have hent := runD_entry (P := Try.prog) s4.swap.get (hx4.some hm) p.map.stamps he
    have hrb4 := hx4.some hrb
    rw [hkey, hrv] at hent
    rw [hkey, hrv]
    simp (maxSteps := 2000000) (disch := first | (simp only [go_sem, Nat.reduceBEq, Nat.reduceAdd, Nat.reduceMul, Nat.reduceSub, Nat.reduceEqDiff, Nat.reduceLeDiff, Nat.reduceLT, Int.reduceEq, Int.reduceAdd, Int.reduceSub, Int.reduceMul, Int.reduceNeg, Int.reduceLT, Int.reduceLE, Int.reduceToNat, Int.reduceBEq, Int.reduceNe, reduceCtorEq, hent, hrb4]; done) | omega | (simp only [go_sem, Nat.reduceBEq, Nat.reduceAdd, Nat.reduceMul, Nat.reduceSub, Nat.reduceEqDiff, Nat.reduceLeDiff, Nat.reduceLT, Int.reduceEq, Int.reduceAdd, Int.reduceSub, Int.reduceMul, Int.reduceNeg, Int.reduceLT, Int.reduceLE, Int.reduceToNat, Int.reduceBEq, Int.reduceNe, reduceCtorEq, hent, hrb4]; omega)) only [go_sem, Nat.reduceBEq, Nat.reduceAdd, Nat.reduceMul, Nat.reduceSub, Nat.reduceEqDiff, Nat.reduceLeDiff, Nat.reduceLT, Int.reduceEq, Int.reduceAdd, Int.reduceSub, Int.reduceMul, Int.reduceNeg, Int.reduceLT, Int.reduceLE, Int.reduceToNat, Int.reduceBEq, Int.reduceNe, reduceCtorEq, w64_id, w8_id, w16_id, w32_id, tmod_pos, tdiv_pos, Bool.or_true, Bool.true_or, Bool.or_false, Bool.false_or, Bool.and_false, Bool.false_and, condK_decide, hent, hrb4]
    have hpush : (done.map (·.born)).toArray.push e.born = ((done ++ [e]).map (·.born)).toArray := by simp
    rw [hpush] at s4 ⊢
    have hby : ∀ n, n ≤ 200009 → (2 * n + 1024) * (tbytes Try.prog (sliceElem Try.prog 53)).getD 0 ≤ 281474976710656 := fun n hn => by
      rw [selem_53, tbytes_28]; simp only [Option.getD_some]; omega
    have s7 := (s4.push (.cells r.cells.toArray 28 (0, 0))).swap
    simp only [Reg.cells_eq, Array.size_setIfInBounds] at s7
    refine Sat.append s7 (SrcAt.lit (n := 1) (s7.front 1).get rfl (Reg.cells_single r)) isSlice_53 ssz_53 (by kernel_rfl) (by kernel_rfl) (hby _ (by omega)) (by omega) ?_
    intro v5 h5 s5
    simp (maxSteps := 2000000) (disch := first | (simp only [go_sem, Nat.reduceBEq, Nat.reduceAdd, Nat.reduceMul, Nat.reduceSub, Nat.reduceEqDiff, Nat.reduceLeDiff, Nat.reduceLT, Int.reduceEq, Int.reduceAdd, Int.reduceSub, Int.reduceMul, Int.reduceNeg, Int.reduceLT, Int.reduceLE, Int.reduceToNat, Int.reduceBEq, Int.reduceNe, reduceCtorEq]; done) | omega | (simp only [go_sem, Nat.reduceBEq, Nat.reduceAdd, Nat.reduceMul, Nat.reduceSub, Nat.reduceEqDiff, Nat.reduceLeDiff, Nat.reduceLT, Int.reduceEq, Int.reduceAdd, Int.reduceSub, Int.reduceMul, Int.reduceNeg, Int.reduceLT, Int.reduceLE, Int.reduceToNat, Int.reduceBEq, Int.reduceNe, reduceCtorEq]; omega)) only [go_sem, Nat.reduceBEq, Nat.reduceAdd, Nat.reduceMul, Nat.reduceSub, Nat.reduceEqDiff, Nat.reduceLeDiff, Nat.reduceLT, Int.reduceEq, Int.reduceAdd, Int.reduceSub, Int.reduceMul, Int.reduceNeg, Int.reduceLT, Int.reduceLE, Int.reduceToNat, Int.reduceBEq, Int.reduceNe, reduceCtorEq, w64_id, w8_id, w16_id, w32_id, tmod_pos, tdiv_pos, Bool.or_true, Bool.true_or, Bool.or_false, Bool.false_or, Bool.and_false, Bool.false_and, condK_decide]
    have hpl := hp'.length_eq
    rw [List.length_append, List.length_append, List.length_singleton] at hpl
    refine ⟨(v5, done ++ [e]), rfl, ⟨?_, rest', hp'⟩, by simp only [List.length_append, List.length_singleton]; omega⟩
    have e1 : regsL (gotG L (done ++ [e])) = regsL (gotG L done) ++ r.cells := by rw [gotG_one hk hr, regsL_append]; simp [regsL]
    have e2 : (gotG L (done ++ [e])).length = (gotG L done).length + 1 := by rw [gotG_one hk hr]; simp
    simp only
    rw [e1, e2]
    exact s5.drop1
end
end Go.Eng
