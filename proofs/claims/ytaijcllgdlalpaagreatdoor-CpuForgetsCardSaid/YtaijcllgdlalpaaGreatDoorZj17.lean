/-
  package vgic: New, SetMask (nothing injected); package cpu: msr; Step.
-/
import Derived.Test.YtaijcllgdlalpaaGreatDoorZj16
import Derived.Test.YtaijcllgdlalpaaGreatDoorZj3
namespace Go.Eng
set_option linter.unusedSimpArgs false
set_option linter.unusedVariables false
set_option maxRecDepth 16000
set_option maxHeartbeats 4000000
open Go Go.Proofs
def vgicL (l m a b c : Int) (pm am : Nat) : List Value := [.int .i64 l, .int .i64 m] ++ List.replicate 64 (.bool false) ++ [.map (some pm), .map (some am), .int .i64 a, .int .i64 b, .int .i64 c]
structure Vx where
  l : Int
  a : Int
  b : Int
  c : Int
  pm : Nat
  am : Nat
  c1 : Nat
  c2 : Nat
  ty : TypeId
/-- What handles a guest's interrupts: none is injected. -/
def vgicS (vb : Nat) (m : Int) : SP := exS fun x : Vx => starL [cellAt vb (.cells (vgicL x.l m x.a x.b x.c x.pm x.am).toArray x.ty (0, 0)), cellAt x.pm (.map #[] x.c1), cellAt x.am (.map #[] x.c2)]
def vS (vv : Value) (V : Option Int) : SP := match V with
  | none => pureS (vv = .pointer none)
  | some m => exS fun vb : Nat => starL [pureS (vv = .pointer (some ⟨vb, 0, none⟩)), vgicS vb m]
theorem vS_some {h : Heap} {F : List SP} {vv : Value} {m : Int} : Sat h (vS vv (some m) :: F) ↔ ∃ (vb : Nat) (x : Vx), vv = .pointer (some ⟨vb, 0, none⟩) ∧ Sat h (cellAt vb (.cells (vgicL x.l m x.a x.b x.c x.pm x.am).toArray x.ty (0, 0)) :: cellAt x.pm (.map #[] x.c1) :: cellAt x.am (.map #[] x.c2) :: F) := by
  unfold vS
  try simp only
  rw [Sat.ex]
  constructor
  · rintro ⟨vb, hx⟩
    obtain ⟨p, q⟩ := Sat.pure.1 (Sat.star.1 hx)
    unfold vgicS at q
    obtain ⟨x, q⟩ := Sat.ex.1 (show Sat h ((exS fun x : Vx => starL [cellAt vb (.cells (vgicL x.l m x.a x.b x.c x.pm x.am).toArray x.ty (0, 0)), cellAt x.pm (.map #[] x.c1), cellAt x.am (.map #[] x.c2)]) :: F) from q)
    exact ⟨vb, x, p, Sat.star.1 q⟩
  · rintro ⟨vb, x, p, q⟩
    refine ⟨vb, Sat.star.2 (Sat.pure.2 ⟨p, ?_⟩)⟩
    unfold vgicS
    exact Sat.ex.2 ⟨x, Sat.star.2 q⟩
theorem vS_none {h : Heap} {F : List SP} {vv : Value} : Sat h (vS vv none :: F) ↔ vv = .pointer none ∧ Sat h F := Sat.pure
theorem bdv {l m : Int} {pm am : Nat} {h : Heap} : runD Tryz.prog (iBuild 148 #[(0, .int .i64 l), (1, .int .i64 m), (3, .map (some pm)), (4, .map (some am))]) h = some (.agg (vgicL l m 0 0 0 pm am).toArray) := by kernel_rfl
section
variable {h : Heap} {F : List SP} {rb n tb xb cb : Nat} {mem : Nat → Int} {T : List Ln} {vr vt vv : Value} {w : Int} {s : Spc} {at_ next : Int} {g : Bool} {ty ty2 : TypeId} {c : Cp} {o : Int} {A B C I : Nat}
theorem vNew_S (hs : Sat h F) : HCalls Tryz.prog 34 #[.int .i64 4] h fun v h' => ∃ vv, v = .tuple #[vv, .int .i64 0] ∧ (∃ a, vv = .pointer (some a)) ∧ Sat h' (vS vv (some 256) :: F) := by
  refine HCalls.via fun R hR => ?_
  have s1 := ((hs.push (.map #[] 0)).push (.map #[] 0)).push (.cells (vgicL 4 256 0 0 0 h.size (h.size + 1)).toArray 148 (0, 0))
  simp only [size_push'] at s1
  refine HCalls.of_dev T34 Tryz.func34 rfl mixed (by kernel_rfl) ?_; rw [Tryz.results34]
  simp (maxSteps := 2000000) (disch := first | (simp only [go_sem, Nat.reduceBEq, Nat.reduceAdd, Nat.reduceMul, Nat.reduceSub, Nat.reduceEqDiff, Nat.reduceLeDiff, Nat.reduceLT, Int.reduceEq, Int.reduceAdd, Int.reduceSub, Int.reduceMul, Int.reduceNeg, Int.reduceLT, Int.reduceLE, Int.reduceToNat, Int.reduceBEq, Int.reduceNe, reduceCtorEq, bdv] <;> omega) | omega) only [go_sem, Nat.reduceBEq, Nat.reduceAdd, Nat.reduceMul, Nat.reduceSub, Nat.reduceEqDiff, Nat.reduceLeDiff, Nat.reduceLT, Int.reduceEq, Int.reduceAdd, Int.reduceSub, Int.reduceMul, Int.reduceNeg, Int.reduceLT, Int.reduceLE, Int.reduceToNat, Int.reduceBEq, Int.reduceNe, reduceCtorEq, w64_id, w8_id, w16_id, w32_id, tmod_pos, tdiv_pos, Bool.or_true, Bool.true_or, Bool.or_false, Bool.false_or, Bool.and_false, Bool.false_and, condK_decide, bdv]
  exact hR _ _ ⟨_, rfl, ⟨_, rfl⟩, vS_some.2 ⟨_, ⟨4, 0, 0, 0, h.size, h.size + 1, 0, 0, _⟩, rfl, s1.swap.front 2 |>.front 2⟩⟩
theorem setMask_S {m : Int} (hs : Sat h (vS vv (some m) :: F)) (k : Int) (h0 : 0 ≤ k) (h1 : k ≤ 256) : HCalls Tryz.prog 128 #[vv, .int .i64 k] h fun v h' => v = .int .i64 0 ∧ Sat h' (vS vv (some k) :: F) := by
  refine HCalls.via fun R hR => ?_
  obtain ⟨vb, x, rfl, s⟩ := vS_some.1 hs
  have s1 := s.set (.cells (vgicL x.l k x.a x.b x.c x.pm x.am).toArray x.ty (0, 0))
  have g := s.get
  simp only [vgicL, List.replicate, List.cons_append, List.nil_append] at g
  have k0 : ¬ k < 0 := by omega
  have k1 : ¬ 256 < k := by omega
  refine HCalls.of_dev T128 Tryz.func128 rfl mixed (by kernel_rfl) ?_; rw [Tryz.results128]
  simp (maxSteps := 2000000) (disch := first | (simp only [go_sem, Nat.reduceBEq, Nat.reduceAdd, Nat.reduceMul, Nat.reduceSub, Nat.reduceEqDiff, Nat.reduceLeDiff, Nat.reduceLT, Int.reduceEq, Int.reduceAdd, Int.reduceSub, Int.reduceMul, Int.reduceNeg, Int.reduceLT, Int.reduceLE, Int.reduceToNat, Int.reduceBEq, Int.reduceNe, reduceCtorEq, g, k0, k1] <;> omega) | omega) only [go_sem, Nat.reduceBEq, Nat.reduceAdd, Nat.reduceMul, Nat.reduceSub, Nat.reduceEqDiff, Nat.reduceLeDiff, Nat.reduceLT, Int.reduceEq, Int.reduceAdd, Int.reduceSub, Int.reduceMul, Int.reduceNeg, Int.reduceLT, Int.reduceLE, Int.reduceToNat, Int.reduceBEq, Int.reduceNe, reduceCtorEq, w64_id, w8_id, w16_id, w32_id, tmod_pos, tdiv_pos, Bool.or_true, Bool.true_or, Bool.or_false, Bool.false_or, Bool.and_false, Bool.false_and, condK_decide, g, k0, k1]
  exact hR _ _ ⟨rfl, vS_some.2 ⟨vb, x, rfl, s1⟩⟩
end
end Go.Eng
/-
  package cpu: msr.
-/
namespace Go.Eng
set_option linter.unusedSimpArgs false
set_option linter.unusedVariables false
set_option maxRecDepth 16000
set_option maxHeartbeats 4000000
open Go Go.Proofs
section
variable {h : Heap} {F : List SP} {rb n tb xb cb : Nat} {mem : Nat → Int} {T : List Ln} {vr vt vv : Value} {w : Int} {s : Spc} {at_ next : Int} {g : Bool} {ty ty2 : TypeId} {c : Cp} {o : Int} {A B C I : Nat}
theorem msr_S (f : c.fit) (hB : B < 16) {m : Int} (hs : Sat h (cellAt xb (.cells (turnL vr vt vv cb ⟨o, A, B, C, I⟩ w s at_ next g).toArray ty (0, 0)) :: cellAt cb (.cells c.cells.toArray ty2 (0, 0)) :: vS vv (some m) :: F)) :
    HCalls Tryz.prog 93 #[.pointer (some ⟨xb, 0, none⟩)] h fun v h' =>
      if 6 ≤ I then v = .agg (⟨7, I, c.Pc, okF⟩ : Trp).cells.toArray ∧ Sat h' (cellAt xb (.cells (turnL vr vt vv cb ⟨o, A, B, C, I⟩ w s at_ next g).toArray ty (0, 0)) :: cellAt cb (.cells c.cells.toArray ty2 (0, 0)) :: vS vv (some m) :: F)
      else v = .agg okT.cells.toArray ∧ Sat h' (cellAt xb (.cells (turnL vr vt vv cb ⟨o, A, B, C, I⟩ w s at_ next g).toArray ty (0, 0)) :: cellAt cb (.cells (setS c I (rg c B)).cells.toArray ty2 (0, 0)) :: vS vv (some (if (I : Int) = 2 then min (rg c B) 256 else m)) :: F) := by
  refine HCalls.via fun R hR => ?_
  have s1 := hs.push (.cells okT.cells.toArray 56 (0, 0))
  simp only [Trp.cells_eq, okT, okF] at s1
  have g0 := (s1.front 1).get
  have g1 := (s1.front 2).get
  simp only [turnL] at g0
  have n16 : nthL c.cells 16 = some (.int .i64 c.Pc) := by rw [nthL_eq]; exact Cp.pc f
  refine HCalls.of_dev T93 Tryz.func93 rfl mixed (by kernel_rfl) ?_; rw [Tryz.results93]
  by_cases q : 6 ≤ I
  · simp only [if_pos q] at hR
    have q1 : (6 : Int) ≤ I := by omega
    have s3 := hs.push (.cells (⟨7, I, c.Pc, okF⟩ : Trp).cells.toArray 56 (0, 0))
    simp (maxSteps := 2000000) (disch := first | (simp only [go_sem, Nat.reduceBEq, Nat.reduceAdd, Nat.reduceMul, Nat.reduceSub, Nat.reduceEqDiff, Nat.reduceLeDiff, Nat.reduceLT, Int.reduceEq, Int.reduceAdd, Int.reduceSub, Int.reduceMul, Int.reduceNeg, Int.reduceLT, Int.reduceLE, Int.reduceToNat, Int.reduceBEq, Int.reduceNe, reduceCtorEq, g0, g1, n16, s1.get, q1] <;> omega) | omega) only [go_sem, Nat.reduceBEq, Nat.reduceAdd, Nat.reduceMul, Nat.reduceSub, Nat.reduceEqDiff, Nat.reduceLeDiff, Nat.reduceLT, Int.reduceEq, Int.reduceAdd, Int.reduceSub, Int.reduceMul, Int.reduceNeg, Int.reduceLT, Int.reduceLE, Int.reduceToNat, Int.reduceBEq, Int.reduceNe, reduceCtorEq, w64_id, w8_id, w16_id, w32_id, tmod_pos, tdiv_pos, Bool.or_true, Bool.true_or, Bool.or_false, Bool.false_or, Bool.and_false, Bool.false_and, condK_decide, g0, g1, n16, s1.get, q1]
    exact hR _ _ ⟨rfl, s3.tail⟩
  · simp only [if_neg q] at hR
    have q1 : ¬ (6 : Int) ≤ I := by omega
    have nB : nthL c.cells B = some (.int .u32 (rg c B)) := by rw [nthL_eq]; exact Cp.reg f hB
    have i0 : (0 : Int) ≤ I := by omega
    have i1 : (I : Int) < 8 := by omega
    have b0 : (0 : Int) ≤ B := by omega
    have b1 : (B : Int) < 16 := by omega
    obtain ⟨y0, y1⟩ := rg_bd f (i := B) (by omega) (by omega)
    have l := Cp.len f
    have l1 : 17 + I < c.cells.length := by omega
    have sc := setS_cells f (a := I) (v := rg c B)
    have f2 := setS_fit f (a := I) ⟨y0, y1⟩
    have nB2 : nthL (setS c I (rg c B)).cells B = some (.int .u32 (rg c B)) := by rw [nthL_eq]; exact Cp.reg f2 hB
    have s2 := (s1.front 2).set (.cells (setS c I (rg c B)).cells.toArray ty2 (0, 0))
    have s3 := (s2.front 1).set (.cells okT.cells.toArray 56 (0, 0))
    have g20 := (s2.front 2).get
    have g21 := s2.get
    have g2 := (s2.front 1).get
    have g3 := s3.get
    simp only [Trp.cells_eq, okT, okF, turnL] at g3 g20
    by_cases q2 : (I : Int) = 2
    · simp only [if_pos q2] at hR
      obtain rfl : I = 2 := by omega
      have n2 : ((2 : Nat) : Int) = 2 := rfl
      have l19 : 19 < c.cells.length := l1
      have sc19 : c.cells.set 19 (.int .u32 (rg c B)) = (setS c 2 (rg c B)).cells := sc
      simp only [n2] at nB2 g2 g3 g20 g21 g0
      simp (maxSteps := 2000000) (disch := first | (simp only [go_sem, Nat.reduceBEq, Nat.reduceAdd, Nat.reduceMul, Nat.reduceSub, Nat.reduceEqDiff, Nat.reduceLeDiff, Nat.reduceLT, Int.reduceEq, Int.reduceAdd, Int.reduceSub, Int.reduceMul, Int.reduceNeg, Int.reduceLT, Int.reduceLE, Int.reduceToNat, Int.reduceBEq, Int.reduceNe, reduceCtorEq, g0, g1, nB, n2, b0, b1, l19, sc19, g20, g21, nB2] <;> omega) | omega) only [go_sem, Nat.reduceBEq, Nat.reduceAdd, Nat.reduceMul, Nat.reduceSub, Nat.reduceEqDiff, Nat.reduceLeDiff, Nat.reduceLT, Int.reduceEq, Int.reduceAdd, Int.reduceSub, Int.reduceMul, Int.reduceNeg, Int.reduceLT, Int.reduceLE, Int.reduceToNat, Int.reduceBEq, Int.reduceNe, reduceCtorEq, w64_id, w8_id, w16_id, w32_id, tmod_pos, tdiv_pos, Bool.or_true, Bool.true_or, Bool.or_false, Bool.false_or, Bool.and_false, Bool.false_and, condK_decide, g0, g1, nB, n2, b0, b1, l19, sc19, g20, g21, nB2]
      refine (setMask_S (s2.front 3) (min (rg c B) 256) (by omega) (by omega)).mono ?_
      rintro v h4 ⟨rfl, s4⟩
      have s5 := (s4.front 2).set (.cells okT.cells.toArray 56 (0, 0))
      simp only [Trp.cells_eq, okT, okF] at s5
      simp (maxSteps := 2000000) (disch := first | (simp only [go_sem, Nat.reduceBEq, Nat.reduceAdd, Nat.reduceMul, Nat.reduceSub, Nat.reduceEqDiff, Nat.reduceLeDiff, Nat.reduceLT, Int.reduceEq, Int.reduceAdd, Int.reduceSub, Int.reduceMul, Int.reduceNeg, Int.reduceLT, Int.reduceLE, Int.reduceToNat, Int.reduceBEq, Int.reduceNe, reduceCtorEq, (s4.front 2).get, s5.get] <;> omega) | omega) only [go_sem, Nat.reduceBEq, Nat.reduceAdd, Nat.reduceMul, Nat.reduceSub, Nat.reduceEqDiff, Nat.reduceLeDiff, Nat.reduceLT, Int.reduceEq, Int.reduceAdd, Int.reduceSub, Int.reduceMul, Int.reduceNeg, Int.reduceLT, Int.reduceLE, Int.reduceToNat, Int.reduceBEq, Int.reduceNe, reduceCtorEq, w64_id, w8_id, w16_id, w32_id, tmod_pos, tdiv_pos, Bool.or_true, Bool.true_or, Bool.or_false, Bool.false_or, Bool.and_false, Bool.false_and, condK_decide, (s4.front 2).get, s5.get]
      exact hR _ _ ⟨rfl, (s5.tail.back 2).swap⟩
    · simp only [if_neg q2] at hR
      simp (maxSteps := 2000000) (disch := first | (simp only [go_sem, Nat.reduceBEq, Nat.reduceAdd, Nat.reduceMul, Nat.reduceSub, Nat.reduceEqDiff, Nat.reduceLeDiff, Nat.reduceLT, Int.reduceEq, Int.reduceAdd, Int.reduceSub, Int.reduceMul, Int.reduceNeg, Int.reduceLT, Int.reduceLE, Int.reduceToNat, Int.reduceBEq, Int.reduceNe, reduceCtorEq, g0, g1, nB, q1, i0, i1, b0, b1, l1, sc, g2, g3, q2, g20, g21] <;> omega) | omega) only [go_sem, Nat.reduceBEq, Nat.reduceAdd, Nat.reduceMul, Nat.reduceSub, Nat.reduceEqDiff, Nat.reduceLeDiff, Nat.reduceLT, Int.reduceEq, Int.reduceAdd, Int.reduceSub, Int.reduceMul, Int.reduceNeg, Int.reduceLT, Int.reduceLE, Int.reduceToNat, Int.reduceBEq, Int.reduceNe, reduceCtorEq, w64_id, w8_id, w16_id, w32_id, tmod_pos, tdiv_pos, Bool.or_true, Bool.true_or, Bool.or_false, Bool.false_or, Bool.and_false, Bool.false_and, condK_decide, g0, g1, nB, q1, i0, i1, b0, b1, l1, sc, g2, g3, q2, g20, g21]
      exact hR _ _ ⟨rfl, s3.tail.swap⟩
end
end Go.Eng
/-
  THE ENGINE: delete, for maps keyed by int.
-/
namespace Go.Eng
set_option linter.unusedSimpArgs false
set_option linter.unusedVariables false
set_option maxRecDepth 16000
set_option maxHeartbeats 4000000
open Go
section
variable {h : Heap}
theorem MapIs.delete {P : Program} {r : Nat} {es : Array MapEntry} {clk : Nat} {t kt et u : TypeId} {q : IntKind} (hm : MapIs h r es clk) (ht : P.underlying t = some (.map kt et)) (hk : P.underlying kt = some (.int q)) {k : Int} {t2 : TypeId} {K : Value → Heap → Prop}
    (hK : ∀ es', MapIs (h.setIfInBounds r (.map es' clk)) r es' clk → (∀ j, mapOf es' j = if j = k then none else mapOf es j) → K (.tuple #[]) (h.setIfInBounds r (.map es' clk))) :
    runH P (iDelete #[t, t2] u #[.map (some r), .int .i64 k]) h K := by
  have hlt := lt_of_get hm.at_
  unfold iDelete Builtin.delete_
  simp only [List.getElem?_toArray, List.getElem?_cons_zero, List.getElem?_cons_succ]
  rw [runH_bind, runH_underlying ht]
  try simp only
  rw [runH_bind, runH_of_runD _ (runD_getObj hm.at_ (by simp))]
  try simp only
  rw [runH_bind, runH_of_runD _ (runD_checkKey_int hk)]
  rw [runH_bind, runH_of_runD _ (runD_findKey hk hm.keys)]
  have hset : ∀ (o : Obj) (K : Unit → Heap → Prop), (∀ c e f, o ≠ .cells c e f) → runH P (setObj r o) h K = K () (h.setIfInBounds r o) := fun o K _ => by
    simp only [setObj, runH, hm.at_]
  have hget : ∀ es' : Array MapEntry, (h.setIfInBounds r (.map es' clk))[r]? = some (.map es' clk) := fun es' => by simp [hlt]
  cases hf : es.toList.findIdx? (fun e => keyI e == some k) with
  | none =>
    simp only [Option.bind_none]
    rw [runH_bind, hset _ _ (by simp)]
    have hno : ∀ e ∈ es.toList, keyI e ≠ some k := by simpa using hf
    refine hK es ⟨hget es, hm.keys, hm.nodup, hm.stamps, hm.old⟩ fun j => ?_
    by_cases hj : j = k
    · subst hj
      rw [if_pos rfl]
      unfold mapOf findI
      rw [List.find?_eq_none.2 (by simpa using hno)]; rfl
    · rw [if_neg hj]
  | some i =>
    obtain ⟨hi, hki, -⟩ := List.findIdx?_eq_some_iff_getElem.1 hf
    simp only [Option.bind_some, List.getElem?_eq_getElem hi, Option.map_some]
    rw [runH_bind, hset _ _ (by simp)]
    have hl : (es.eraseIdxIfInBounds i).toList = es.toList.eraseIdx i := by
      have hi' : i < es.size := by simpa using hi
      rw [Array.eraseIdxIfInBounds, dif_pos hi', Array.toList_eraseIdx]
    have hsub : (es.toList.eraseIdx i).Sublist es.toList := List.eraseIdx_sublist _ _
    refine hK _ ⟨hget _, ?_, ?_, ?_, ?_⟩ fun j => ?_
    · rw [hl]; exact fun e he => hm.keys e (hsub.subset he)
    · rw [hl]; exact hm.nodup.sublist (hsub.map _)
    · rw [hl]; exact hm.stamps.sublist (hsub.map _)
    · rw [hl]; exact fun e he => hm.old e (hsub.subset he)
    · unfold mapOf
      rw [hl]
      have hn := hm.nodup
      have hki' : keyI es.toList[i] = some k := by simpa using hki
      clear hf hm hK hget hset hl hsub
      generalize es.toList = l at *
      have key : ∀ (l : List MapEntry) (i : Nat) (hi : i < l.length), keyI l[i] = some k → (l.map keyI).Nodup → findI (l.eraseIdx i) j = if j = k then none else findI l j := by
        intro l
        induction l with
        | nil => intro i hi; simp at hi
        | cons e l ih =>
          intro i hi hk hn
          simp only [List.map_cons, List.nodup_cons] at hn
          cases i with
          | zero =>
            simp only [List.getElem_cons_zero] at hk
            simp only [List.eraseIdx_cons_zero]
            by_cases hj : j = k
            · subst hj
              rw [if_pos rfl]
              unfold findI
              rw [List.find?_eq_none]
              intro x hx
              simp only [beq_iff_eq]
              intro hx2
              exact hn.1 (by rw [hk]; exact List.mem_map.2 ⟨x, hx, hx2⟩)
            · rw [if_neg hj]
              unfold findI
              rw [List.find?_cons]
              have : (keyI e == some j) = false := by rw [hk]; simpa using fun z => hj z.symm
              rw [this]
          | succ i =>
            simp only [List.getElem_cons_succ] at hk
            simp only [List.eraseIdx_cons_succ]
            have hi' : i < l.length := by simpa using hi
            have := ih i hi' hk hn.2
            unfold findI at this ⊢
            rw [List.find?_cons, List.find?_cons, this]
            cases hc : keyI e == some j with
            | false => rfl
            | true =>
              by_cases hj : j = k
              · subst hj
                exfalso
                have : keyI e = some j := by simpa using hc
                exact hn.1 (by rw [this, ← hk]; exact List.mem_map.2 ⟨_, List.getElem_mem hi', rfl⟩)
              · simp only [if_neg hj]
      rw [key l i hi hki' hn]
      split <;> rfl

end
section
variable {P : Program} {h : Heap} {t kt et : TypeId} {m r : Nat} {es : Array MapEntry} {clk : Nat}
theorem runH_range {K : Value → Heap → Prop} (ht : P.underlying t = some (.map kt et)) (hm : h[m]? = some (.map es clk)) :
    runH P (iRange t (.map (some m))) h K = K (.pointer (some ⟨h.size, 0, none⟩)) (h.push (.mapIter (some m) clk #[] clk)) := by
  unfold iRange Instr.range
  rw [runH_bind, runH_underlying ht]
  try simp only
  rw [runH_bind, runH_of_runD _ (runD_getObj hm (by simp))]
  rfl
theorem runH_next {ty : TypeId} {seen : Array Nat} {K : Value → Heap → Prop} (hr : h[r]? = some (.mapIter (some m) clk seen clk)) (hm : h[m]? = some (.map es clk)) (hold : ∀ e ∈ es.toList, e.born < clk)
    (h0 : (∀ e ∈ es.toList, e.born ∈ seen.toList) → K (.tuple #[.bool false]) h)
    (h1 : ∀ e ∈ es.toList, e.born ∉ seen.toList → K (.tuple #[.bool true, e.key, e.val]) (h.setIfInBounds r (.mapIter (some m) clk (seen.push e.born) clk))) :
    runH P (iNext (.pointer (some ⟨r, 0, none⟩)) false ty) h K := by
  unfold iNext Instr.next
  try simp only
  rw [runH_bind, runH_of_runD _ (runD_getObj hr (by simp))]
  try simp only
  rw [runH_bind, runH_of_runD _ (runD_getObj hm (by simp))]
  try simp only
  have hset : ∀ (o : Obj) (K : Unit → Heap → Prop), (∀ c e f, o ≠ .cells c e f) → runH P (setObj r o) h K = K () (h.setIfInBounds r o) := fun o K _ => by
    simp only [setObj, runH, hr]
  have g : (!seen.isEmpty && !es.isEmpty && es.all fun x => decide (x.born ≥ clk)) = false := by
    by_cases he : es.isEmpty = true
    · simp [he]
    · have hz : 0 < es.size := by
        rw [Array.isEmpty_iff_size_eq_zero] at he; omega
      have : (es.all fun x => decide (x.born ≥ clk)) = false := by
        rw [← Bool.not_eq_true, Array.all_eq_true]
        intro q
        have q0 := q 0 hz
        have := hold es[0] (by simp)
        simp only [ge_iff_le, decide_eq_true_eq] at q0
        omega
      rw [this]; simp
  rw [if_neg (by rw [g]; simp)]
  have hnew : (es.filter fun e => !seen.contains e.born).filter (fun e => decide (e.born ≥ clk)) = #[] := by
    rw [Array.filter_eq_empty_iff]
    intro e he
    rw [Array.mem_filter] at he
    have := hold e (by simpa using he.1)
    simp only [ge_iff_le, decide_eq_true_eq]
    omega
  have hold2 : (es.filter fun e => !seen.contains e.born).filter (fun e => decide (e.born < clk)) = es.filter fun e => !seen.contains e.born := by
    rw [Array.filter_eq_self]
    intro e he
    rw [Array.mem_filter] at he
    have := hold e (by simpa using he.1)
    simpa using this
  rw [hnew, hold2]
  have hmem : ∀ e, e ∈ es.filter (fun e => !seen.contains e.born) ↔ e ∈ es.toList ∧ e.born ∉ seen.toList := by
    intro e
    rw [Array.mem_filter]
    simp
  generalize es.filter (fun e => !seen.contains e.born) = left at hmem ⊢
  rw [runH_bind]
  unfold choose
  by_cases hl : left.isEmpty = true
  · have : left = #[] := by simpa using hl
    subst this
    simp only [Array.isEmpty_empty, if_true, Array.append_empty, Array.map_empty, List.size_toArray, List.length_cons, List.length_nil]
    simp only [runH]
    rw [if_pos (by rfl)]
    simp only [List.getElem?_toArray, List.getElem?_cons_zero]
    refine h0 fun e he => ?_
    refine Classical.byContradiction fun q => ?_
    exact absurd ((hmem e).2 ⟨he, q⟩) (by simp)
  · have hz : 0 < left.size := by
      rw [Array.isEmpty_iff_size_eq_zero] at hl; omega
    have hone : ∀ i, i < left.size → runH P (match ((if left.isEmpty = true then #[none] else #[]) ++ (left ++ #[]).map some)[i]? with
        | some (some e) => do
          setObj r (.mapIter (some m) clk (seen.push e.born) clk)
          pure (.tuple #[.bool true, e.key, e.val])
        | some none => pure (.tuple #[.bool false])
        | none => stuck "Next: no such candidate") h K := by
      intro i hi
      rw [if_neg hl]
      have : (#[] ++ (left ++ #[]).map some)[i]? = some (some left[i]) := by simp [hi]
      rw [this]
      try simp only
      rw [runH_bind, hset _ _ (by simp)]
      have hm := (hmem left[i]).1 (Array.getElem_mem hi)
      exact h1 _ hm.1 hm.2
    have hsz : ((if left.isEmpty = true then #[none] else #[]) ++ (left ++ #[]).map some).size = left.size := by rw [if_neg hl]; simp
    simp only [runH, hsz]
    by_cases hf : (Question.mapNext left.size).forced = true
    · rw [if_pos hf]
      exact hone 0 hz
    · rw [if_neg hf]
      intro tp
      exact hone _ (Nat.mod_lt _ hz)
theorem runD_entry {seen : Array Nat} {e : MapEntry} (hr : h[r]? = some (.mapIter (some m) clk (seen.push e.born) clk)) (hm : h[m]? = some (.map es clk)) (hn : (es.toList.map (·.born)).Nodup) (he : e ∈ es.toList) :
    runD P (iEntry (.pointer (some ⟨r, 0, none⟩))) h = some (.tuple #[e.key, e.val]) := by
  unfold iEntry Instr.entry
  try simp only
  rw [runD_bind, runD_getObj hr (by simp)]
  simp only [Option.bind_some, Array.back?_push]
  rw [runD_bind, runD_getObj hm (by simp)]
  simp only [Option.bind_some]
  have hf : es.find? (fun x => x.born == e.born) = some e := by
    rw [← Array.find?_toList]
    generalize es.toList = l at hn he
    clear hm
    induction l with
    | nil => cases he
    | cons x l ih =>
      rw [List.find?_cons]
      simp only [List.map_cons, List.nodup_cons] at hn
      rcases List.mem_cons.1 he with rfl | he
      · simp
      · have : (x.born == e.born) = false := by
          simp only [beq_eq_false_iff_ne, ne_eq]
          intro q
          exact hn.1 (List.mem_map.2 ⟨e, he, q.symm⟩)
        rw [this]
        exact ih hn.2 he
  simp only [hf, bne_self_eq_false, Bool.false_eq_true, if_false]
  rfl
end
end Go.Eng
/-
  package vgic: what is asked where nothing is injected.
-/
namespace Go.Eng
set_option linter.unusedSimpArgs false
set_option linter.unusedVariables false
set_option maxRecDepth 16000
set_option maxHeartbeats 4000000
open Go Go.Proofs
theorem mapOf_nil (k : Int) : mapOf #[] k = none := (rfl)
theorem isInt_nil {c : Nat} : isIntMap (some (.map #[] c)) := by intro e he; simp at he
theorem lookV {h : Heap} {r c : Nat} {k : Int} (g : h[r]? = some (.map #[] c)) : runD Tryz.prog (iLookup 146 (.map (some r)) (.int .i64 k) true) h = some (.tuple #[.agg #[.int .i64 0, .bool false], .bool false]) := by
  rw [runD_lookup (by rw [g]; exact isInt_nil) (by kernel_rfl), g, lookO_ok, mapOf_nil]
  kernel_rfl
section
variable {h : Heap} {F : List SP} {vv : Value} {m : Int}
theorem running_S (hs : Sat h (vS vv (some m) :: F)) : HCalls Tryz.prog 147 #[vv] h fun v h' => v = .int .i64 256 ∧ Sat h' (vS vv (some m) :: F) := by
  refine HCalls.via fun R hR => ?_
  obtain ⟨vb, x, rfl, s⟩ := vS_some.1 hs
  have g := s.get
  simp only [vgicL, List.replicate, List.cons_append, List.nil_append] at g
  refine HCalls.of_dev T147 Tryz.func147 rfl mixed (by kernel_rfl) ?_; rw [Tryz.results147]
  simp (maxSteps := 2000000) (disch := first | (simp only [go_sem, Nat.reduceBEq, Nat.reduceAdd, Nat.reduceMul, Nat.reduceSub, Nat.reduceEqDiff, Nat.reduceLeDiff, Nat.reduceLT, Int.reduceEq, Int.reduceAdd, Int.reduceSub, Int.reduceMul, Int.reduceNeg, Int.reduceLT, Int.reduceLE, Int.reduceToNat, Int.reduceBEq, Int.reduceNe, reduceCtorEq, g] <;> omega) | omega) only [go_sem, Nat.reduceBEq, Nat.reduceAdd, Nat.reduceMul, Nat.reduceSub, Nat.reduceEqDiff, Nat.reduceLeDiff, Nat.reduceLT, Int.reduceEq, Int.reduceAdd, Int.reduceSub, Int.reduceMul, Int.reduceNeg, Int.reduceLT, Int.reduceLE, Int.reduceToNat, Int.reduceBEq, Int.reduceNe, reduceCtorEq, w64_id, w8_id, w16_id, w32_id, tmod_pos, tdiv_pos, Bool.or_true, Bool.true_or, Bool.or_false, Bool.false_or, Bool.and_false, Bool.false_and, condK_decide, g]
  rw [runH_range Tryz.underlying146 (s.front 2).get]
  have s1 := s.push (.mapIter (some x.am) x.c2 #[] x.c2)
  simp (maxSteps := 2000000) (disch := first | (simp only [go_sem, Nat.reduceBEq, Nat.reduceAdd, Nat.reduceMul, Nat.reduceSub, Nat.reduceEqDiff, Nat.reduceLeDiff, Nat.reduceLT, Int.reduceEq, Int.reduceAdd, Int.reduceSub, Int.reduceMul, Int.reduceNeg, Int.reduceLT, Int.reduceLE, Int.reduceToNat, Int.reduceBEq, Int.reduceNe, reduceCtorEq] <;> omega) | omega) only [go_sem, Nat.reduceBEq, Nat.reduceAdd, Nat.reduceMul, Nat.reduceSub, Nat.reduceEqDiff, Nat.reduceLeDiff, Nat.reduceLT, Int.reduceEq, Int.reduceAdd, Int.reduceSub, Int.reduceMul, Int.reduceNeg, Int.reduceLT, Int.reduceLE, Int.reduceToNat, Int.reduceBEq, Int.reduceNe, reduceCtorEq, w64_id, w8_id, w16_id, w32_id, tmod_pos, tdiv_pos, Bool.or_true, Bool.true_or, Bool.or_false, Bool.false_or, Bool.and_false, Bool.false_and, condK_decide]
  refine loopH.intro (fun _ : Unit => (.cons 3 (.int .i64 256) true (.cons 10 (.pointer (some ⟨h.size, 0, none⟩)) true .nil))) (fun _ h' => h' = h.push (.mapIter (some x.am) x.c2 #[] x.c2)) (fun _ _ => 1) () ?_ rfl ?_
  · simp (maxSteps := 2000000) (disch := first | (simp only [go_sem, Nat.reduceBEq, Nat.reduceAdd, Nat.reduceMul, Nat.reduceSub, Nat.reduceEqDiff, Nat.reduceLeDiff, Nat.reduceLT, Int.reduceEq, Int.reduceAdd, Int.reduceSub, Int.reduceMul, Int.reduceNeg, Int.reduceLT, Int.reduceLE, Int.reduceToNat, Int.reduceBEq, Int.reduceNe, reduceCtorEq] <;> omega) | omega) only [go_sem, Nat.reduceBEq, Nat.reduceAdd, Nat.reduceMul, Nat.reduceSub, Nat.reduceEqDiff, Nat.reduceLeDiff, Nat.reduceLT, Int.reduceEq, Int.reduceAdd, Int.reduceSub, Int.reduceMul, Int.reduceNeg, Int.reduceLT, Int.reduceLE, Int.reduceToNat, Int.reduceBEq, Int.reduceNe, reduceCtorEq, w64_id, w8_id, w16_id, w32_id, tmod_pos, tdiv_pos, Bool.or_true, Bool.true_or, Bool.or_false, Bool.false_or, Bool.and_false, Bool.false_and, condK_decide]
  rintro _ h2 rfl
  simp (maxSteps := 2000000) (disch := first | (simp only [go_sem, Nat.reduceBEq, Nat.reduceAdd, Nat.reduceMul, Nat.reduceSub, Nat.reduceEqDiff, Nat.reduceLeDiff, Nat.reduceLT, Int.reduceEq, Int.reduceAdd, Int.reduceSub, Int.reduceMul, Int.reduceNeg, Int.reduceLT, Int.reduceLE, Int.reduceToNat, Int.reduceBEq, Int.reduceNe, reduceCtorEq] <;> omega) | omega) only [go_sem, Nat.reduceBEq, Nat.reduceAdd, Nat.reduceMul, Nat.reduceSub, Nat.reduceEqDiff, Nat.reduceLeDiff, Nat.reduceLT, Int.reduceEq, Int.reduceAdd, Int.reduceSub, Int.reduceMul, Int.reduceNeg, Int.reduceLT, Int.reduceLE, Int.reduceToNat, Int.reduceBEq, Int.reduceNe, reduceCtorEq, w64_id, w8_id, w16_id, w32_id, tmod_pos, tdiv_pos, Bool.or_true, Bool.true_or, Bool.or_false, Bool.false_or, Bool.and_false, Bool.false_and, condK_decide]
  refine runH_next s1.get (s1.front 3).get (by simp) ?_ ?_
  · intro _
    simp (maxSteps := 2000000) (disch := first | (simp only [go_sem, Nat.reduceBEq, Nat.reduceAdd, Nat.reduceMul, Nat.reduceSub, Nat.reduceEqDiff, Nat.reduceLeDiff, Nat.reduceLT, Int.reduceEq, Int.reduceAdd, Int.reduceSub, Int.reduceMul, Int.reduceNeg, Int.reduceLT, Int.reduceLE, Int.reduceToNat, Int.reduceBEq, Int.reduceNe, reduceCtorEq] <;> omega) | omega) only [go_sem, Nat.reduceBEq, Nat.reduceAdd, Nat.reduceMul, Nat.reduceSub, Nat.reduceEqDiff, Nat.reduceLeDiff, Nat.reduceLT, Int.reduceEq, Int.reduceAdd, Int.reduceSub, Int.reduceMul, Int.reduceNeg, Int.reduceLT, Int.reduceLE, Int.reduceToNat, Int.reduceBEq, Int.reduceNe, reduceCtorEq, w64_id, w8_id, w16_id, w32_id, tmod_pos, tdiv_pos, Bool.or_true, Bool.true_or, Bool.or_false, Bool.false_or, Bool.and_false, Bool.false_and, condK_decide]
    exact hR _ _ ⟨rfl, vS_some.2 ⟨vb, x, rfl, s1.tail⟩⟩
  · intro e he
    simp at he
theorem is_S (i : Int) : HCalls Tryz.prog 56 #[.int .i64 i] h fun v h' => v = .bool (decide (0 ≤ i) && decide (i < 64)) ∧ h' = h := by
  refine HCalls.via fun R hR => ?_
  refine HCalls.of_dev T56 Tryz.func56 rfl mixed (by kernel_rfl) ?_; rw [Tryz.results56]
  by_cases c0 : 0 ≤ i
  · simp (maxSteps := 2000000) (disch := first | (simp only [go_sem, Nat.reduceBEq, Nat.reduceAdd, Nat.reduceMul, Nat.reduceSub, Nat.reduceEqDiff, Nat.reduceLeDiff, Nat.reduceLT, Int.reduceEq, Int.reduceAdd, Int.reduceSub, Int.reduceMul, Int.reduceNeg, Int.reduceLT, Int.reduceLE, Int.reduceToNat, Int.reduceBEq, Int.reduceNe, reduceCtorEq, c0] <;> omega) | omega) only [go_sem, Nat.reduceBEq, Nat.reduceAdd, Nat.reduceMul, Nat.reduceSub, Nat.reduceEqDiff, Nat.reduceLeDiff, Nat.reduceLT, Int.reduceEq, Int.reduceAdd, Int.reduceSub, Int.reduceMul, Int.reduceNeg, Int.reduceLT, Int.reduceLE, Int.reduceToNat, Int.reduceBEq, Int.reduceNe, reduceCtorEq, w64_id, w8_id, w16_id, w32_id, tmod_pos, tdiv_pos, Bool.or_true, Bool.true_or, Bool.or_false, Bool.false_or, Bool.and_false, Bool.false_and, condK_decide, c0]
    by_cases c1 : i < 64
    · simp (maxSteps := 2000000) (disch := first | (simp only [go_sem, Nat.reduceBEq, Nat.reduceAdd, Nat.reduceMul, Nat.reduceSub, Nat.reduceEqDiff, Nat.reduceLeDiff, Nat.reduceLT, Int.reduceEq, Int.reduceAdd, Int.reduceSub, Int.reduceMul, Int.reduceNeg, Int.reduceLT, Int.reduceLE, Int.reduceToNat, Int.reduceBEq, Int.reduceNe, reduceCtorEq, c0, c1] <;> omega) | omega) only [go_sem, Nat.reduceBEq, Nat.reduceAdd, Nat.reduceMul, Nat.reduceSub, Nat.reduceEqDiff, Nat.reduceLeDiff, Nat.reduceLT, Int.reduceEq, Int.reduceAdd, Int.reduceSub, Int.reduceMul, Int.reduceNeg, Int.reduceLT, Int.reduceLE, Int.reduceToNat, Int.reduceBEq, Int.reduceNe, reduceCtorEq, w64_id, w8_id, w16_id, w32_id, tmod_pos, tdiv_pos, Bool.or_true, Bool.true_or, Bool.or_false, Bool.false_or, Bool.and_false, Bool.false_and, condK_decide, c0, c1]
      exact hR _ _ ⟨by simp [c0, c1], rfl⟩
    · simp (maxSteps := 2000000) (disch := first | (simp only [go_sem, Nat.reduceBEq, Nat.reduceAdd, Nat.reduceMul, Nat.reduceSub, Nat.reduceEqDiff, Nat.reduceLeDiff, Nat.reduceLT, Int.reduceEq, Int.reduceAdd, Int.reduceSub, Int.reduceMul, Int.reduceNeg, Int.reduceLT, Int.reduceLE, Int.reduceToNat, Int.reduceBEq, Int.reduceNe, reduceCtorEq, c0, c1] <;> omega) | omega) only [go_sem, Nat.reduceBEq, Nat.reduceAdd, Nat.reduceMul, Nat.reduceSub, Nat.reduceEqDiff, Nat.reduceLeDiff, Nat.reduceLT, Int.reduceEq, Int.reduceAdd, Int.reduceSub, Int.reduceMul, Int.reduceNeg, Int.reduceLT, Int.reduceLE, Int.reduceToNat, Int.reduceBEq, Int.reduceNe, reduceCtorEq, w64_id, w8_id, w16_id, w32_id, tmod_pos, tdiv_pos, Bool.or_true, Bool.true_or, Bool.or_false, Bool.false_or, Bool.and_false, Bool.false_and, condK_decide, c0, c1]
      exact hR _ _ ⟨by simp [c0, c1], rfl⟩
  · simp (maxSteps := 2000000) (disch := first | (simp only [go_sem, Nat.reduceBEq, Nat.reduceAdd, Nat.reduceMul, Nat.reduceSub, Nat.reduceEqDiff, Nat.reduceLeDiff, Nat.reduceLT, Int.reduceEq, Int.reduceAdd, Int.reduceSub, Int.reduceMul, Int.reduceNeg, Int.reduceLT, Int.reduceLE, Int.reduceToNat, Int.reduceBEq, Int.reduceNe, reduceCtorEq, c0] <;> omega) | omega) only [go_sem, Nat.reduceBEq, Nat.reduceAdd, Nat.reduceMul, Nat.reduceSub, Nat.reduceEqDiff, Nat.reduceLeDiff, Nat.reduceLT, Int.reduceEq, Int.reduceAdd, Int.reduceSub, Int.reduceMul, Int.reduceNeg, Int.reduceLT, Int.reduceLE, Int.reduceToNat, Int.reduceBEq, Int.reduceNe, reduceCtorEq, w64_id, w8_id, w16_id, w32_id, tmod_pos, tdiv_pos, Bool.or_true, Bool.true_or, Bool.or_false, Bool.false_or, Bool.and_false, Bool.false_and, condK_decide, c0]
    exact hR _ _ ⟨by simp [c0], rfl⟩
theorem end_S (hs : Sat h (vS vv (some m) :: F)) (id : Int) : HCalls Tryz.prog 130 #[vv, .int .i64 id] h fun v h' => (∃ e, v = .tuple #[.bool false, .int .i64 e]) ∧ Sat h' (vS vv (some m) :: F) := by
  refine HCalls.via fun R hR => ?_
  obtain ⟨vb, x, rfl, s⟩ := vS_some.1 hs
  have g := s.get
  simp only [vgicL, List.replicate, List.cons_append, List.nil_append] at g
  have ga := (s.front 2).get
  refine HCalls.of_dev T130 Tryz.func130 rfl mixed (by kernel_rfl) ?_; rw [Tryz.results130]
  simp (maxSteps := 2000000) (disch := first | (simp only [go_sem, Nat.reduceBEq, Nat.reduceAdd, Nat.reduceMul, Nat.reduceSub, Nat.reduceEqDiff, Nat.reduceLeDiff, Nat.reduceLT, Int.reduceEq, Int.reduceAdd, Int.reduceSub, Int.reduceMul, Int.reduceNeg, Int.reduceLT, Int.reduceLE, Int.reduceToNat, Int.reduceBEq, Int.reduceNe, reduceCtorEq] <;> omega) | omega) only [go_sem, Nat.reduceBEq, Nat.reduceAdd, Nat.reduceMul, Nat.reduceSub, Nat.reduceEqDiff, Nat.reduceLeDiff, Nat.reduceLT, Int.reduceEq, Int.reduceAdd, Int.reduceSub, Int.reduceMul, Int.reduceNeg, Int.reduceLT, Int.reduceLE, Int.reduceToNat, Int.reduceBEq, Int.reduceNe, reduceCtorEq, w64_id, w8_id, w16_id, w32_id, tmod_pos, tdiv_pos, Bool.or_true, Bool.true_or, Bool.or_false, Bool.false_or, Bool.and_false, Bool.false_and, condK_decide]
  refine (is_S id).mono ?_
  rintro v h1 ⟨rfl, rfl⟩
  by_cases c : (decide (0 ≤ id) && decide (id < 64)) = true
  · rw [c]
    have s1 := s.push (.cells #[.int .i64 0, .bool false] 143 (0, 0))
    have lk := lookV (k := id) ga
    simp (maxSteps := 2000000) (disch := first | (simp only [go_sem, Nat.reduceBEq, Nat.reduceAdd, Nat.reduceMul, Nat.reduceSub, Nat.reduceEqDiff, Nat.reduceLeDiff, Nat.reduceLT, Int.reduceEq, Int.reduceAdd, Int.reduceSub, Int.reduceMul, Int.reduceNeg, Int.reduceLT, Int.reduceLE, Int.reduceToNat, Int.reduceBEq, Int.reduceNe, reduceCtorEq, g, lk, s1.get] <;> omega) | omega) only [go_sem, Nat.reduceBEq, Nat.reduceAdd, Nat.reduceMul, Nat.reduceSub, Nat.reduceEqDiff, Nat.reduceLeDiff, Nat.reduceLT, Int.reduceEq, Int.reduceAdd, Int.reduceSub, Int.reduceMul, Int.reduceNeg, Int.reduceLT, Int.reduceLE, Int.reduceToNat, Int.reduceBEq, Int.reduceNe, reduceCtorEq, w64_id, w8_id, w16_id, w32_id, tmod_pos, tdiv_pos, Bool.or_true, Bool.true_or, Bool.or_false, Bool.false_or, Bool.and_false, Bool.false_and, condK_decide, g, lk, s1.get]
    exact hR _ _ ⟨⟨_, rfl⟩, vS_some.2 ⟨vb, x, rfl, s1.tail⟩⟩
  · rw [Bool.not_eq_true] at c
    rw [c]
    simp (maxSteps := 2000000) (disch := first | (simp only [go_sem, Nat.reduceBEq, Nat.reduceAdd, Nat.reduceMul, Nat.reduceSub, Nat.reduceEqDiff, Nat.reduceLeDiff, Nat.reduceLT, Int.reduceEq, Int.reduceAdd, Int.reduceSub, Int.reduceMul, Int.reduceNeg, Int.reduceLT, Int.reduceLE, Int.reduceToNat, Int.reduceBEq, Int.reduceNe, reduceCtorEq] <;> omega) | omega) only [go_sem, Nat.reduceBEq, Nat.reduceAdd, Nat.reduceMul, Nat.reduceSub, Nat.reduceEqDiff, Nat.reduceLeDiff, Nat.reduceLT, Int.reduceEq, Int.reduceAdd, Int.reduceSub, Int.reduceMul, Int.reduceNeg, Int.reduceLT, Int.reduceLE, Int.reduceToNat, Int.reduceBEq, Int.reduceNe, reduceCtorEq, w64_id, w8_id, w16_id, w32_id, tmod_pos, tdiv_pos, Bool.or_true, Bool.true_or, Bool.or_false, Bool.false_or, Bool.and_false, Bool.false_and, condK_decide]
    exact hR _ _ ⟨⟨_, rfl⟩, hs⟩
theorem insert0_S (f : Value) : HCalls Tryz.prog 153 #[.slice none 0 0, .int .i64 0, .int .i64 0, f] h fun v h' => v = .tuple #[] ∧ h' = h := by
  refine HCalls.via fun R hR => ?_
  refine HCalls.of_dev T153 Tryz.func153 rfl mixed (by kernel_rfl) ?_; rw [Tryz.results153]
  simp (maxSteps := 2000000) (disch := first | (simp only [go_sem, Nat.reduceBEq, Nat.reduceAdd, Nat.reduceMul, Nat.reduceSub, Nat.reduceEqDiff, Nat.reduceLeDiff, Nat.reduceLT, Int.reduceEq, Int.reduceAdd, Int.reduceSub, Int.reduceMul, Int.reduceNeg, Int.reduceLT, Int.reduceLE, Int.reduceToNat, Int.reduceBEq, Int.reduceNe, reduceCtorEq] <;> omega) | omega) only [go_sem, Nat.reduceBEq, Nat.reduceAdd, Nat.reduceMul, Nat.reduceSub, Nat.reduceEqDiff, Nat.reduceLeDiff, Nat.reduceLT, Int.reduceEq, Int.reduceAdd, Int.reduceSub, Int.reduceMul, Int.reduceNeg, Int.reduceLT, Int.reduceLE, Int.reduceToNat, Int.reduceBEq, Int.reduceNe, reduceCtorEq, w64_id, w8_id, w16_id, w32_id, tmod_pos, tdiv_pos, Bool.or_true, Bool.true_or, Bool.or_false, Bool.false_or, Bool.and_false, Bool.false_and, condK_decide]
  refine loopH.intro (fun _ : Unit => (.cons 0 (.slice none 0 0) true (.cons 1 (.int .i64 0) true (.cons 2 (.int .i64 0) true (.cons 3 (f) true (.cons 8 (.int .i64 1) true .nil)))))) (fun _ h' => h' = h) (fun _ _ => 1) () ?_ rfl ?_
  · rfl
  rintro _ h2 rfl
  simp (maxSteps := 2000000) (disch := first | (simp only [go_sem, Nat.reduceBEq, Nat.reduceAdd, Nat.reduceMul, Nat.reduceSub, Nat.reduceEqDiff, Nat.reduceLeDiff, Nat.reduceLT, Int.reduceEq, Int.reduceAdd, Int.reduceSub, Int.reduceMul, Int.reduceNeg, Int.reduceLT, Int.reduceLE, Int.reduceToNat, Int.reduceBEq, Int.reduceNe, reduceCtorEq] <;> omega) | omega) only [go_sem, Nat.reduceBEq, Nat.reduceAdd, Nat.reduceMul, Nat.reduceSub, Nat.reduceEqDiff, Nat.reduceLeDiff, Nat.reduceLT, Int.reduceEq, Int.reduceAdd, Int.reduceSub, Int.reduceMul, Int.reduceNeg, Int.reduceLT, Int.reduceLE, Int.reduceToNat, Int.reduceBEq, Int.reduceNe, reduceCtorEq, w64_id, w8_id, w16_id, w32_id, tmod_pos, tdiv_pos, Bool.or_true, Bool.true_or, Bool.or_false, Bool.false_or, Bool.and_false, Bool.false_and, condK_decide]
  exact hR _ _ ⟨rfl, rfl⟩
theorem stableC0_S (f : Value) : HCalls Tryz.prog 138 #[.slice none 0 0, .int .i64 0, f] h fun v h' => v = .tuple #[] ∧ h' = h := by
  refine HCalls.via fun R hR => ?_
  refine HCalls.of_dev T138 Tryz.func138 rfl mixed (by kernel_rfl) ?_; rw [Tryz.results138]
  simp (maxSteps := 2000000) (disch := first | (simp only [go_sem, Nat.reduceBEq, Nat.reduceAdd, Nat.reduceMul, Nat.reduceSub, Nat.reduceEqDiff, Nat.reduceLeDiff, Nat.reduceLT, Int.reduceEq, Int.reduceAdd, Int.reduceSub, Int.reduceMul, Int.reduceNeg, Int.reduceLT, Int.reduceLE, Int.reduceToNat, Int.reduceBEq, Int.reduceNe, reduceCtorEq] <;> omega) | omega) only [go_sem, Nat.reduceBEq, Nat.reduceAdd, Nat.reduceMul, Nat.reduceSub, Nat.reduceEqDiff, Nat.reduceLeDiff, Nat.reduceLT, Int.reduceEq, Int.reduceAdd, Int.reduceSub, Int.reduceMul, Int.reduceNeg, Int.reduceLT, Int.reduceLE, Int.reduceToNat, Int.reduceBEq, Int.reduceNe, reduceCtorEq, w64_id, w8_id, w16_id, w32_id, tmod_pos, tdiv_pos, Bool.or_true, Bool.true_or, Bool.or_false, Bool.false_or, Bool.and_false, Bool.false_and, condK_decide]
  refine loopH.intro (fun _ : Unit => (.cons 0 (.slice none 0 0) true (.cons 1 (.int .i64 0) true (.cons 2 (f) true (.cons 6 (.int .i64 20) true (.cons 7 (.int .i64 0) true (.cons 8 (.int .i64 20) true .nil))))))) (fun _ h' => h' = h) (fun _ _ => 1) () ?_ rfl ?_
  · rfl
  rintro _ h2 rfl
  simp (maxSteps := 2000000) (disch := first | (simp only [go_sem, Nat.reduceBEq, Nat.reduceAdd, Nat.reduceMul, Nat.reduceSub, Nat.reduceEqDiff, Nat.reduceLeDiff, Nat.reduceLT, Int.reduceEq, Int.reduceAdd, Int.reduceSub, Int.reduceMul, Int.reduceNeg, Int.reduceLT, Int.reduceLE, Int.reduceToNat, Int.reduceBEq, Int.reduceNe, reduceCtorEq] <;> omega) | omega) only [go_sem, Nat.reduceBEq, Nat.reduceAdd, Nat.reduceMul, Nat.reduceSub, Nat.reduceEqDiff, Nat.reduceLeDiff, Nat.reduceLT, Int.reduceEq, Int.reduceAdd, Int.reduceSub, Int.reduceMul, Int.reduceNeg, Int.reduceLT, Int.reduceLE, Int.reduceToNat, Int.reduceBEq, Int.reduceNe, reduceCtorEq, w64_id, w8_id, w16_id, w32_id, tmod_pos, tdiv_pos, Bool.or_true, Bool.true_or, Bool.or_false, Bool.false_or, Bool.and_false, Bool.false_and, condK_decide]
  refine (insert0_S f).mono ?_
  rintro v h3 ⟨rfl, rfl⟩
  simp (maxSteps := 2000000) (disch := first | (simp only [go_sem, Nat.reduceBEq, Nat.reduceAdd, Nat.reduceMul, Nat.reduceSub, Nat.reduceEqDiff, Nat.reduceLeDiff, Nat.reduceLT, Int.reduceEq, Int.reduceAdd, Int.reduceSub, Int.reduceMul, Int.reduceNeg, Int.reduceLT, Int.reduceLE, Int.reduceToNat, Int.reduceBEq, Int.reduceNe, reduceCtorEq] <;> omega) | omega) only [go_sem, Nat.reduceBEq, Nat.reduceAdd, Nat.reduceMul, Nat.reduceSub, Nat.reduceEqDiff, Nat.reduceLeDiff, Nat.reduceLT, Int.reduceEq, Int.reduceAdd, Int.reduceSub, Int.reduceMul, Int.reduceNeg, Int.reduceLT, Int.reduceLE, Int.reduceToNat, Int.reduceBEq, Int.reduceNe, reduceCtorEq, w64_id, w8_id, w16_id, w32_id, tmod_pos, tdiv_pos, Bool.or_true, Bool.true_or, Bool.or_false, Bool.false_or, Bool.and_false, Bool.false_and, condK_decide]
  refine loopH.intro (fun _ : Unit => (.cons 0 (.slice none 0 0) true (.cons 1 (.int .i64 0) true (.cons 2 (f) true (.cons 6 (.int .i64 20) true .nil))))) (fun _ h' => h' = h3) (fun _ _ => 1) () ?_ rfl ?_
  · rfl
  rintro _ h4 rfl
  simp (maxSteps := 2000000) (disch := first | (simp only [go_sem, Nat.reduceBEq, Nat.reduceAdd, Nat.reduceMul, Nat.reduceSub, Nat.reduceEqDiff, Nat.reduceLeDiff, Nat.reduceLT, Int.reduceEq, Int.reduceAdd, Int.reduceSub, Int.reduceMul, Int.reduceNeg, Int.reduceLT, Int.reduceLE, Int.reduceToNat, Int.reduceBEq, Int.reduceNe, reduceCtorEq] <;> omega) | omega) only [go_sem, Nat.reduceBEq, Nat.reduceAdd, Nat.reduceMul, Nat.reduceSub, Nat.reduceEqDiff, Nat.reduceLeDiff, Nat.reduceLT, Int.reduceEq, Int.reduceAdd, Int.reduceSub, Int.reduceMul, Int.reduceNeg, Int.reduceLT, Int.reduceLE, Int.reduceToNat, Int.reduceBEq, Int.reduceNe, reduceCtorEq, w64_id, w8_id, w16_id, w32_id, tmod_pos, tdiv_pos, Bool.or_true, Bool.true_or, Bool.or_false, Bool.false_or, Bool.and_false, Bool.false_and, condK_decide]
  exact hR _ _ ⟨rfl, rfl⟩
theorem stable0_S (f : Value) : HCalls Tryz.prog 114 #[.slice none 0 0, f] h fun v h' => v = .tuple #[] ∧ h' = h := by
  refine HCalls.via fun R hR => ?_
  refine HCalls.of_dev T114 Tryz.func114 rfl mixed (by kernel_rfl) ?_; rw [Tryz.results114]
  simp (maxSteps := 2000000) (disch := first | (simp only [go_sem, Nat.reduceBEq, Nat.reduceAdd, Nat.reduceMul, Nat.reduceSub, Nat.reduceEqDiff, Nat.reduceLeDiff, Nat.reduceLT, Int.reduceEq, Int.reduceAdd, Int.reduceSub, Int.reduceMul, Int.reduceNeg, Int.reduceLT, Int.reduceLE, Int.reduceToNat, Int.reduceBEq, Int.reduceNe, reduceCtorEq] <;> omega) | omega) only [go_sem, Nat.reduceBEq, Nat.reduceAdd, Nat.reduceMul, Nat.reduceSub, Nat.reduceEqDiff, Nat.reduceLeDiff, Nat.reduceLT, Int.reduceEq, Int.reduceAdd, Int.reduceSub, Int.reduceMul, Int.reduceNeg, Int.reduceLT, Int.reduceLE, Int.reduceToNat, Int.reduceBEq, Int.reduceNe, reduceCtorEq, w64_id, w8_id, w16_id, w32_id, tmod_pos, tdiv_pos, Bool.or_true, Bool.true_or, Bool.or_false, Bool.false_or, Bool.and_false, Bool.false_and, condK_decide]
  refine (stableC0_S f).mono ?_
  rintro v h1 ⟨rfl, rfl⟩
  simp (maxSteps := 2000000) (disch := first | (simp only [go_sem, Nat.reduceBEq, Nat.reduceAdd, Nat.reduceMul, Nat.reduceSub, Nat.reduceEqDiff, Nat.reduceLeDiff, Nat.reduceLT, Int.reduceEq, Int.reduceAdd, Int.reduceSub, Int.reduceMul, Int.reduceNeg, Int.reduceLT, Int.reduceLE, Int.reduceToNat, Int.reduceBEq, Int.reduceNe, reduceCtorEq] <;> omega) | omega) only [go_sem, Nat.reduceBEq, Nat.reduceAdd, Nat.reduceMul, Nat.reduceSub, Nat.reduceEqDiff, Nat.reduceLeDiff, Nat.reduceLT, Int.reduceEq, Int.reduceAdd, Int.reduceSub, Int.reduceMul, Int.reduceNeg, Int.reduceLT, Int.reduceLE, Int.reduceToNat, Int.reduceBEq, Int.reduceNe, reduceCtorEq, w64_id, w8_id, w16_id, w32_id, tmod_pos, tdiv_pos, Bool.or_true, Bool.true_or, Bool.or_false, Bool.false_or, Bool.and_false, Bool.false_and, condK_decide]
  exact hR _ _ ⟨rfl, rfl⟩
theorem all_S (hs : Sat h (vS vv (some m) :: F)) : HCalls Tryz.prog 61 #[vv] h fun v h' => v = .slice none 0 0 ∧ Sat h' (vS vv (some m) :: F) := by
  refine HCalls.via fun R hR => ?_
  obtain ⟨vb, x, rfl, s⟩ := vS_some.1 hs
  have g := s.get
  simp only [vgicL, List.replicate, List.cons_append, List.nil_append] at g
  have gp := (s.front 1).get
  have ga := (s.front 2).get
  refine HCalls.of_dev T61 Tryz.func61 rfl mixed (by kernel_rfl) ?_; rw [Tryz.results61]
  simp (maxSteps := 2000000) (disch := first | (simp only [go_sem, Nat.reduceBEq, Nat.reduceAdd, Nat.reduceMul, Nat.reduceSub, Nat.reduceEqDiff, Nat.reduceLeDiff, Nat.reduceLT, Int.reduceEq, Int.reduceAdd, Int.reduceSub, Int.reduceMul, Int.reduceNeg, Int.reduceLT, Int.reduceLE, Int.reduceToNat, Int.reduceBEq, Int.reduceNe, reduceCtorEq] <;> omega) | omega) only [go_sem, Nat.reduceBEq, Nat.reduceAdd, Nat.reduceMul, Nat.reduceSub, Nat.reduceEqDiff, Nat.reduceLeDiff, Nat.reduceLT, Int.reduceEq, Int.reduceAdd, Int.reduceSub, Int.reduceMul, Int.reduceNeg, Int.reduceLT, Int.reduceLE, Int.reduceToNat, Int.reduceBEq, Int.reduceNe, reduceCtorEq, w64_id, w8_id, w16_id, w32_id, tmod_pos, tdiv_pos, Bool.or_true, Bool.true_or, Bool.or_false, Bool.false_or, Bool.and_false, Bool.false_and, condK_decide]
  refine loopH.intro (fun i : Nat => (.cons 0 (.pointer (some ⟨vb, 0, none⟩)) true (.cons 3 (.slice none 0 0) true (.cons 9 (.int .i64 i) true .nil)))) (fun i h' => i ≤ 64 ∧ Sat h' (cellAt vb (.cells (vgicL x.l m x.a x.b x.c x.pm x.am).toArray x.ty (0, 0)) :: cellAt x.pm (.map #[] x.c1) :: cellAt x.am (.map #[] x.c2) :: F)) (fun i _ => 65 - i) 0 ?_ ⟨by omega, s⟩ ?_
  · simp (maxSteps := 2000000) (disch := first | (simp only [go_sem, Nat.reduceBEq, Nat.reduceAdd, Nat.reduceMul, Nat.reduceSub, Nat.reduceEqDiff, Nat.reduceLeDiff, Nat.reduceLT, Int.reduceEq, Int.reduceAdd, Int.reduceSub, Int.reduceMul, Int.reduceNeg, Int.reduceLT, Int.reduceLE, Int.reduceToNat, Int.reduceBEq, Int.reduceNe, reduceCtorEq] <;> omega) | omega) only [go_sem, Nat.reduceBEq, Nat.reduceAdd, Nat.reduceMul, Nat.reduceSub, Nat.reduceEqDiff, Nat.reduceLeDiff, Nat.reduceLT, Int.reduceEq, Int.reduceAdd, Int.reduceSub, Int.reduceMul, Int.reduceNeg, Int.reduceLT, Int.reduceLE, Int.reduceToNat, Int.reduceBEq, Int.reduceNe, reduceCtorEq, w64_id, w8_id, w16_id, w32_id, tmod_pos, tdiv_pos, Bool.or_true, Bool.true_or, Bool.or_false, Bool.false_or, Bool.and_false, Bool.false_and, condK_decide]
    rfl
  clear hs s g gp ga
  rintro i h2 ⟨hi, s⟩
  have g := s.get
  simp only [vgicL, List.replicate, List.cons_append, List.nil_append] at g
  have s1 := s.push (.cells #[.int .i64 0, .bool false] 143 (0, 0))
  have s2 := s1.push (.cells #[.int .i64 0, .bool false] 143 (0, 0))
  have lk := lookV (k := i) (s.front 1).get
  have g1 := (s1.front 1).get
  simp only [vgicL, List.replicate, List.cons_append, List.nil_append] at g1
  have lk2 := lookV (k := i) (s1.front 3).get
  simp (maxSteps := 2000000) (disch := first | (simp only [go_sem, Nat.reduceBEq, Nat.reduceAdd, Nat.reduceMul, Nat.reduceSub, Nat.reduceEqDiff, Nat.reduceLeDiff, Nat.reduceLT, Int.reduceEq, Int.reduceAdd, Int.reduceSub, Int.reduceMul, Int.reduceNeg, Int.reduceLT, Int.reduceLE, Int.reduceToNat, Int.reduceBEq, Int.reduceNe, reduceCtorEq] <;> omega) | omega) only [go_sem, Nat.reduceBEq, Nat.reduceAdd, Nat.reduceMul, Nat.reduceSub, Nat.reduceEqDiff, Nat.reduceLeDiff, Nat.reduceLT, Int.reduceEq, Int.reduceAdd, Int.reduceSub, Int.reduceMul, Int.reduceNeg, Int.reduceLT, Int.reduceLE, Int.reduceToNat, Int.reduceBEq, Int.reduceNe, reduceCtorEq, w64_id, w8_id, w16_id, w32_id, tmod_pos, tdiv_pos, Bool.or_true, Bool.true_or, Bool.or_false, Bool.false_or, Bool.and_false, Bool.false_and, condK_decide]
  by_cases q : (i : Int) < 64
  · simp (maxSteps := 2000000) (disch := first | (simp only [go_sem, Nat.reduceBEq, Nat.reduceAdd, Nat.reduceMul, Nat.reduceSub, Nat.reduceEqDiff, Nat.reduceLeDiff, Nat.reduceLT, Int.reduceEq, Int.reduceAdd, Int.reduceSub, Int.reduceMul, Int.reduceNeg, Int.reduceLT, Int.reduceLE, Int.reduceToNat, Int.reduceBEq, Int.reduceNe, reduceCtorEq, q, g, lk, s1.get, g1, lk2, s2.get] <;> omega) | omega) only [go_sem, Nat.reduceBEq, Nat.reduceAdd, Nat.reduceMul, Nat.reduceSub, Nat.reduceEqDiff, Nat.reduceLeDiff, Nat.reduceLT, Int.reduceEq, Int.reduceAdd, Int.reduceSub, Int.reduceMul, Int.reduceNeg, Int.reduceLT, Int.reduceLE, Int.reduceToNat, Int.reduceBEq, Int.reduceNe, reduceCtorEq, w64_id, w8_id, w16_id, w32_id, tmod_pos, tdiv_pos, Bool.or_true, Bool.true_or, Bool.or_false, Bool.false_or, Bool.and_false, Bool.false_and, condK_decide, q, g, lk, s1.get, g1, lk2, s2.get]
    exact ⟨i + 1, rfl, ⟨by omega, s2.tail.tail⟩, by simp only; omega⟩
  · simp (maxSteps := 2000000) (disch := first | (simp only [go_sem, Nat.reduceBEq, Nat.reduceAdd, Nat.reduceMul, Nat.reduceSub, Nat.reduceEqDiff, Nat.reduceLeDiff, Nat.reduceLT, Int.reduceEq, Int.reduceAdd, Int.reduceSub, Int.reduceMul, Int.reduceNeg, Int.reduceLT, Int.reduceLE, Int.reduceToNat, Int.reduceBEq, Int.reduceNe, reduceCtorEq, q] <;> omega) | omega) only [go_sem, Nat.reduceBEq, Nat.reduceAdd, Nat.reduceMul, Nat.reduceSub, Nat.reduceEqDiff, Nat.reduceLeDiff, Nat.reduceLT, Int.reduceEq, Int.reduceAdd, Int.reduceSub, Int.reduceMul, Int.reduceNeg, Int.reduceLT, Int.reduceLE, Int.reduceToNat, Int.reduceBEq, Int.reduceNe, reduceCtorEq, w64_id, w8_id, w16_id, w32_id, tmod_pos, tdiv_pos, Bool.or_true, Bool.true_or, Bool.or_false, Bool.false_or, Bool.and_false, Bool.false_and, condK_decide, q]
    refine (stable0_S _).mono ?_
    rintro v h3 ⟨rfl, rfl⟩
    simp (maxSteps := 2000000) (disch := first | (simp only [go_sem, Nat.reduceBEq, Nat.reduceAdd, Nat.reduceMul, Nat.reduceSub, Nat.reduceEqDiff, Nat.reduceLeDiff, Nat.reduceLT, Int.reduceEq, Int.reduceAdd, Int.reduceSub, Int.reduceMul, Int.reduceNeg, Int.reduceLT, Int.reduceLE, Int.reduceToNat, Int.reduceBEq, Int.reduceNe, reduceCtorEq] <;> omega) | omega) only [go_sem, Nat.reduceBEq, Nat.reduceAdd, Nat.reduceMul, Nat.reduceSub, Nat.reduceEqDiff, Nat.reduceLeDiff, Nat.reduceLT, Int.reduceEq, Int.reduceAdd, Int.reduceSub, Int.reduceMul, Int.reduceNeg, Int.reduceLT, Int.reduceLE, Int.reduceToNat, Int.reduceBEq, Int.reduceNe, reduceCtorEq, w64_id, w8_id, w16_id, w32_id, tmod_pos, tdiv_pos, Bool.or_true, Bool.true_or, Bool.or_false, Bool.false_or, Bool.and_false, Bool.false_and, condK_decide]
    exact hR _ _ ⟨rfl, vS_some.2 ⟨vb, x, rfl, s⟩⟩
theorem next_S (hs : Sat h (vS vv (some m) :: F)) : HCalls Tryz.prog 129 #[vv] h fun v h' => v = .tuple #[.int .i64 0, .bool false] ∧ Sat h' (vS vv (some m) :: F) := by
  refine HCalls.via fun R hR => ?_
  obtain ⟨vb, x, rfl, s⟩ := vS_some.1 hs
  have g := s.get
  simp only [vgicL, List.replicate, List.cons_append, List.nil_append] at g
  refine HCalls.of_dev T129 Tryz.func129 rfl mixed (by kernel_rfl) ?_; rw [Tryz.results129]
  simp (maxSteps := 2000000) (disch := first | (simp only [go_sem, Nat.reduceBEq, Nat.reduceAdd, Nat.reduceMul, Nat.reduceSub, Nat.reduceEqDiff, Nat.reduceLeDiff, Nat.reduceLT, Int.reduceEq, Int.reduceAdd, Int.reduceSub, Int.reduceMul, Int.reduceNeg, Int.reduceLT, Int.reduceLE, Int.reduceToNat, Int.reduceBEq, Int.reduceNe, reduceCtorEq, g] <;> omega) | omega) only [go_sem, Nat.reduceBEq, Nat.reduceAdd, Nat.reduceMul, Nat.reduceSub, Nat.reduceEqDiff, Nat.reduceLeDiff, Nat.reduceLT, Int.reduceEq, Int.reduceAdd, Int.reduceSub, Int.reduceMul, Int.reduceNeg, Int.reduceLT, Int.reduceLE, Int.reduceToNat, Int.reduceBEq, Int.reduceNe, reduceCtorEq, w64_id, w8_id, w16_id, w32_id, tmod_pos, tdiv_pos, Bool.or_true, Bool.true_or, Bool.or_false, Bool.false_or, Bool.and_false, Bool.false_and, condK_decide, g]
  refine (running_S hs).mono ?_
  rintro v h1 ⟨rfl, s1⟩
  obtain ⟨vb', x', e, s1'⟩ := vS_some.1 s1
  cases e
  have g1 := s1'.get
  simp only [vgicL, List.replicate, List.cons_append, List.nil_append] at g1
  simp (maxSteps := 2000000) (disch := first | (simp only [go_sem, Nat.reduceBEq, Nat.reduceAdd, Nat.reduceMul, Nat.reduceSub, Nat.reduceEqDiff, Nat.reduceLeDiff, Nat.reduceLT, Int.reduceEq, Int.reduceAdd, Int.reduceSub, Int.reduceMul, Int.reduceNeg, Int.reduceLT, Int.reduceLE, Int.reduceToNat, Int.reduceBEq, Int.reduceNe, reduceCtorEq, g1] <;> omega) | omega) only [go_sem, Nat.reduceBEq, Nat.reduceAdd, Nat.reduceMul, Nat.reduceSub, Nat.reduceEqDiff, Nat.reduceLeDiff, Nat.reduceLT, Int.reduceEq, Int.reduceAdd, Int.reduceSub, Int.reduceMul, Int.reduceNeg, Int.reduceLT, Int.reduceLE, Int.reduceToNat, Int.reduceBEq, Int.reduceNe, reduceCtorEq, w64_id, w8_id, w16_id, w32_id, tmod_pos, tdiv_pos, Bool.or_true, Bool.true_or, Bool.or_false, Bool.false_or, Bool.and_false, Bool.false_and, condK_decide, g1]
  refine (all_S s1).mono ?_
  rintro v h2 ⟨rfl, s2⟩
  simp (maxSteps := 2000000) (disch := first | (simp only [go_sem, Nat.reduceBEq, Nat.reduceAdd, Nat.reduceMul, Nat.reduceSub, Nat.reduceEqDiff, Nat.reduceLeDiff, Nat.reduceLT, Int.reduceEq, Int.reduceAdd, Int.reduceSub, Int.reduceMul, Int.reduceNeg, Int.reduceLT, Int.reduceLE, Int.reduceToNat, Int.reduceBEq, Int.reduceNe, reduceCtorEq] <;> omega) | omega) only [go_sem, Nat.reduceBEq, Nat.reduceAdd, Nat.reduceMul, Nat.reduceSub, Nat.reduceEqDiff, Nat.reduceLeDiff, Nat.reduceLT, Int.reduceEq, Int.reduceAdd, Int.reduceSub, Int.reduceMul, Int.reduceNeg, Int.reduceLT, Int.reduceLE, Int.reduceToNat, Int.reduceBEq, Int.reduceNe, reduceCtorEq, w64_id, w8_id, w16_id, w32_id, tmod_pos, tdiv_pos, Bool.or_true, Bool.true_or, Bool.or_false, Bool.false_or, Bool.and_false, Bool.false_and, condK_decide]
  refine loopH.intro (fun _ : Unit => (.cons 0 (.pointer (some ⟨vb, 0, none⟩)) true (.cons 4 (.int .i64 (min m 256)) true (.cons 15 (.slice none 0 0) true (.cons 16 (.int .i64 0) true (.cons 17 (.int .i64 0) true .nil)))))) (fun _ h' => h' = h2) (fun _ _ => 1) () ?_ rfl ?_
  · rfl
  rintro _ h4 rfl
  simp (maxSteps := 2000000) (disch := first | (simp only [go_sem, Nat.reduceBEq, Nat.reduceAdd, Nat.reduceMul, Nat.reduceSub, Nat.reduceEqDiff, Nat.reduceLeDiff, Nat.reduceLT, Int.reduceEq, Int.reduceAdd, Int.reduceSub, Int.reduceMul, Int.reduceNeg, Int.reduceLT, Int.reduceLE, Int.reduceToNat, Int.reduceBEq, Int.reduceNe, reduceCtorEq] <;> omega) | omega) only [go_sem, Nat.reduceBEq, Nat.reduceAdd, Nat.reduceMul, Nat.reduceSub, Nat.reduceEqDiff, Nat.reduceLeDiff, Nat.reduceLT, Int.reduceEq, Int.reduceAdd, Int.reduceSub, Int.reduceMul, Int.reduceNeg, Int.reduceLT, Int.reduceLE, Int.reduceToNat, Int.reduceBEq, Int.reduceNe, reduceCtorEq, w64_id, w8_id, w16_id, w32_id, tmod_pos, tdiv_pos, Bool.or_true, Bool.true_or, Bool.or_false, Bool.false_or, Bool.and_false, Bool.false_and, condK_decide]
  exact hR _ _ ⟨rfl, s2⟩
theorem ack_S (hs : Sat h (vS vv (some m) :: F)) : HCalls Tryz.prog 96 #[vv] h fun v h' => v = .int .i64 1023 ∧ Sat h' (vS vv (some m) :: F) := by
  refine HCalls.via fun R hR => ?_
  refine HCalls.of_dev T96 Tryz.func96 rfl mixed (by kernel_rfl) ?_; rw [Tryz.results96]
  simp (maxSteps := 2000000) (disch := first | (simp only [go_sem, Nat.reduceBEq, Nat.reduceAdd, Nat.reduceMul, Nat.reduceSub, Nat.reduceEqDiff, Nat.reduceLeDiff, Nat.reduceLT, Int.reduceEq, Int.reduceAdd, Int.reduceSub, Int.reduceMul, Int.reduceNeg, Int.reduceLT, Int.reduceLE, Int.reduceToNat, Int.reduceBEq, Int.reduceNe, reduceCtorEq] <;> omega) | omega) only [go_sem, Nat.reduceBEq, Nat.reduceAdd, Nat.reduceMul, Nat.reduceSub, Nat.reduceEqDiff, Nat.reduceLeDiff, Nat.reduceLT, Int.reduceEq, Int.reduceAdd, Int.reduceSub, Int.reduceMul, Int.reduceNeg, Int.reduceLT, Int.reduceLE, Int.reduceToNat, Int.reduceBEq, Int.reduceNe, reduceCtorEq, w64_id, w8_id, w16_id, w32_id, tmod_pos, tdiv_pos, Bool.or_true, Bool.true_or, Bool.or_false, Bool.false_or, Bool.and_false, Bool.false_and, condK_decide]
  refine (next_S hs).mono ?_
  rintro v h1 ⟨rfl, s1⟩
  simp (maxSteps := 2000000) (disch := first | (simp only [go_sem, Nat.reduceBEq, Nat.reduceAdd, Nat.reduceMul, Nat.reduceSub, Nat.reduceEqDiff, Nat.reduceLeDiff, Nat.reduceLT, Int.reduceEq, Int.reduceAdd, Int.reduceSub, Int.reduceMul, Int.reduceNeg, Int.reduceLT, Int.reduceLE, Int.reduceToNat, Int.reduceBEq, Int.reduceNe, reduceCtorEq] <;> omega) | omega) only [go_sem, Nat.reduceBEq, Nat.reduceAdd, Nat.reduceMul, Nat.reduceSub, Nat.reduceEqDiff, Nat.reduceLeDiff, Nat.reduceLT, Int.reduceEq, Int.reduceAdd, Int.reduceSub, Int.reduceMul, Int.reduceNeg, Int.reduceLT, Int.reduceLE, Int.reduceToNat, Int.reduceBEq, Int.reduceNe, reduceCtorEq, w64_id, w8_id, w16_id, w32_id, tmod_pos, tdiv_pos, Bool.or_true, Bool.true_or, Bool.or_false, Bool.false_or, Bool.and_false, Bool.false_and, condK_decide]
  exact hR _ _ ⟨rfl, s1⟩
end
end Go.Eng
/-
  package cpu: branches, jumps, what does nothing.
-/
namespace Go.Eng
set_option linter.unusedSimpArgs false
set_option linter.unusedVariables false
set_option maxRecDepth 16000
set_option maxHeartbeats 4000000
open Go Go.Proofs
section
variable {h : Heap} {F : List SP} {rb n tb xb cb : Nat} {mem : Nat → Int} {T : List Ln} {vr vt vv : Value} {w : Int} {s : Spc} {at_ next : Int} {g : Bool} {ty ty2 : TypeId} {c : Cp} {o : Int} {A B C I : Nat}
/-- A question on two numbers. -/
def isS (fid : FuncId) (k : Int → Int → Bool) : Prop := okFn Tryz.prog fid = true ∧ ∀ (h : Heap) (x y : Int), 0 ≤ x → x < 4294967296 → 0 ≤ y → y < 4294967296 → HCalls Tryz.prog fid #[.int .u32 x, .int .u32 y] h fun v h' => v = .bool (k x y) ∧ h' = h
theorem eq_is : isS 85 fun x y => decide (x = y) := by
  refine ⟨by kernel_rfl, fun h x y x0 x1 y0 y1 => ?_⟩
  refine HCalls.via fun R hR => ?_
  refine HCalls.of_dev T85 Tryz.func85 rfl mixed (by kernel_rfl) ?_; rw [Tryz.results85]
  simp (maxSteps := 2000000) (disch := first | (simp only [go_sem, Nat.reduceBEq, Nat.reduceAdd, Nat.reduceMul, Nat.reduceSub, Nat.reduceEqDiff, Nat.reduceLeDiff, Nat.reduceLT, Int.reduceEq, Int.reduceAdd, Int.reduceSub, Int.reduceMul, Int.reduceNeg, Int.reduceLT, Int.reduceLE, Int.reduceToNat, Int.reduceBEq, Int.reduceNe, reduceCtorEq] <;> omega) | omega) only [go_sem, Nat.reduceBEq, Nat.reduceAdd, Nat.reduceMul, Nat.reduceSub, Nat.reduceEqDiff, Nat.reduceLeDiff, Nat.reduceLT, Int.reduceEq, Int.reduceAdd, Int.reduceSub, Int.reduceMul, Int.reduceNeg, Int.reduceLT, Int.reduceLE, Int.reduceToNat, Int.reduceBEq, Int.reduceNe, reduceCtorEq, w64_id, w8_id, w16_id, w32_id, tmod_pos, tdiv_pos, Bool.or_true, Bool.true_or, Bool.or_false, Bool.false_or, Bool.and_false, Bool.false_and, condK_decide]
  exact hR _ _ ⟨rfl, rfl⟩
theorem ne_is : isS 86 fun x y => !decide (x = y) := by
  refine ⟨by kernel_rfl, fun h x y x0 x1 y0 y1 => ?_⟩
  refine HCalls.via fun R hR => ?_
  refine HCalls.of_dev T86 Tryz.func86 rfl mixed (by kernel_rfl) ?_; rw [Tryz.results86]
  simp (maxSteps := 2000000) (disch := first | (simp only [go_sem, Nat.reduceBEq, Nat.reduceAdd, Nat.reduceMul, Nat.reduceSub, Nat.reduceEqDiff, Nat.reduceLeDiff, Nat.reduceLT, Int.reduceEq, Int.reduceAdd, Int.reduceSub, Int.reduceMul, Int.reduceNeg, Int.reduceLT, Int.reduceLE, Int.reduceToNat, Int.reduceBEq, Int.reduceNe, reduceCtorEq] <;> omega) | omega) only [go_sem, Nat.reduceBEq, Nat.reduceAdd, Nat.reduceMul, Nat.reduceSub, Nat.reduceEqDiff, Nat.reduceLeDiff, Nat.reduceLT, Int.reduceEq, Int.reduceAdd, Int.reduceSub, Int.reduceMul, Int.reduceNeg, Int.reduceLT, Int.reduceLE, Int.reduceToNat, Int.reduceBEq, Int.reduceNe, reduceCtorEq, w64_id, w8_id, w16_id, w32_id, tmod_pos, tdiv_pos, Bool.or_true, Bool.true_or, Bool.or_false, Bool.false_or, Bool.and_false, Bool.false_and, condK_decide]
  exact hR _ _ ⟨by simp, rfl⟩
theorem lt_is : isS 87 fun x y => decide (x < y) := by
  refine ⟨by kernel_rfl, fun h x y x0 x1 y0 y1 => ?_⟩
  refine HCalls.via fun R hR => ?_
  refine HCalls.of_dev T87 Tryz.func87 rfl mixed (by kernel_rfl) ?_; rw [Tryz.results87]
  simp (maxSteps := 2000000) (disch := first | (simp only [go_sem, Nat.reduceBEq, Nat.reduceAdd, Nat.reduceMul, Nat.reduceSub, Nat.reduceEqDiff, Nat.reduceLeDiff, Nat.reduceLT, Int.reduceEq, Int.reduceAdd, Int.reduceSub, Int.reduceMul, Int.reduceNeg, Int.reduceLT, Int.reduceLE, Int.reduceToNat, Int.reduceBEq, Int.reduceNe, reduceCtorEq] <;> omega) | omega) only [go_sem, Nat.reduceBEq, Nat.reduceAdd, Nat.reduceMul, Nat.reduceSub, Nat.reduceEqDiff, Nat.reduceLeDiff, Nat.reduceLT, Int.reduceEq, Int.reduceAdd, Int.reduceSub, Int.reduceMul, Int.reduceNeg, Int.reduceLT, Int.reduceLE, Int.reduceToNat, Int.reduceBEq, Int.reduceNe, reduceCtorEq, w64_id, w8_id, w16_id, w32_id, tmod_pos, tdiv_pos, Bool.or_true, Bool.true_or, Bool.or_false, Bool.false_or, Bool.and_false, Bool.false_and, condK_decide]
  exact hR _ _ ⟨rfl, rfl⟩
theorem yes_is : isS 88 fun _ _ => true := by
  refine ⟨by kernel_rfl, fun h x y x0 x1 y0 y1 => ?_⟩
  refine HCalls.via fun R hR => ?_
  refine HCalls.of_dev T88 Tryz.func88 rfl mixed (by kernel_rfl) ?_; rw [Tryz.results88]
  simp (maxSteps := 2000000) (disch := first | (simp only [go_sem, Nat.reduceBEq, Nat.reduceAdd, Nat.reduceMul, Nat.reduceSub, Nat.reduceEqDiff, Nat.reduceLeDiff, Nat.reduceLT, Int.reduceEq, Int.reduceAdd, Int.reduceSub, Int.reduceMul, Int.reduceNeg, Int.reduceLT, Int.reduceLE, Int.reduceToNat, Int.reduceBEq, Int.reduceNe, reduceCtorEq] <;> omega) | omega) only [go_sem, Nat.reduceBEq, Nat.reduceAdd, Nat.reduceMul, Nat.reduceSub, Nat.reduceEqDiff, Nat.reduceLeDiff, Nat.reduceLT, Int.reduceEq, Int.reduceAdd, Int.reduceSub, Int.reduceMul, Int.reduceNeg, Int.reduceLT, Int.reduceLE, Int.reduceToNat, Int.reduceBEq, Int.reduceNe, reduceCtorEq, w64_id, w8_id, w16_id, w32_id, tmod_pos, tdiv_pos, Bool.or_true, Bool.true_or, Bool.or_false, Bool.false_or, Bool.and_false, Bool.false_and, condK_decide]
  exact hR _ _ ⟨rfl, rfl⟩
theorem bran_S (f : c.fit) (hA : A < 16) (hB : B < 16) (hC : C < 16) {fid : FuncId} {k : Int → Int → Bool} (hk : isS fid k) {bb : Nat} {ty3 : TypeId}
    (hs : Sat h (cellAt bb (.cells #[.func (.func fid) #[] #[]] ty3 (0, 0)) :: cellAt xb (.cells (turnL vr vt vv cb ⟨o, A, B, C, I⟩ w s at_ next g).toArray ty (0, 0)) :: cellAt cb (.cells c.cells.toArray ty2 (0, 0)) :: F)) :
    HCalls Tryz.prog 126 (#[] ++ #[.pointer (some ⟨xb, 0, none⟩)] ++ #[.pointer (some ⟨bb, 0, none⟩)]) h fun v h' => v = .agg okT.cells.toArray ∧
      Sat h' (cellAt xb (.cells (turnL vr vt vv cb ⟨o, A, B, C, I⟩ w s at_ (if k (rg c A) (rg c B) then I else next) g).toArray ty (0, 0)) :: cellAt cb (.cells c.cells.toArray ty2 (0, 0)) :: F) := by
  rw [show (#[] ++ #[.pointer (some ⟨xb, 0, none⟩)] ++ #[.pointer (some ⟨bb, 0, none⟩)] : Array Value) = #[.pointer (some ⟨xb, 0, none⟩), .pointer (some ⟨bb, 0, none⟩)] by simp]
  refine HCalls.via fun R hR => ?_
  obtain ⟨ok, hk⟩ := hk
  have s1 := hs.push (.cells okT.cells.toArray 56 (0, 0))
  simp only [Trp.cells_eq, okT, okF] at s1
  have gb := (s1.front 1).get
  have g0 := (s1.front 2).get
  have g1 := (s1.front 3).get
  have gt := s1.get
  simp only [turnL] at g0
  obtain ⟨x0, x1⟩ := rg_bd f (i := A) (by omega) (by omega)
  obtain ⟨y0, y1⟩ := rg_bd f (i := B) (by omega) (by omega)
  have nA : nthL c.cells A = some (.int .u32 (rg c A)) := by rw [nthL_eq]; exact Cp.reg f hA
  refine HCalls.of_dev T126 Tryz.func126 rfl mixed (by kernel_rfl) ?_; rw [Tryz.results126]
  simp (maxSteps := 2000000) (disch := first | (simp only [go_sem, Nat.reduceBEq, Nat.reduceAdd, Nat.reduceMul, Nat.reduceSub, Nat.reduceEqDiff, Nat.reduceLeDiff, Nat.reduceLT, Int.reduceEq, Int.reduceAdd, Int.reduceSub, Int.reduceMul, Int.reduceNeg, Int.reduceLT, Int.reduceLE, Int.reduceToNat, Int.reduceBEq, Int.reduceNe, reduceCtorEq] <;> omega) | omega) only [go_sem, Nat.reduceBEq, Nat.reduceAdd, Nat.reduceMul, Nat.reduceSub, Nat.reduceEqDiff, Nat.reduceLeDiff, Nat.reduceLT, Int.reduceEq, Int.reduceAdd, Int.reduceSub, Int.reduceMul, Int.reduceNeg, Int.reduceLT, Int.reduceLE, Int.reduceToNat, Int.reduceBEq, Int.reduceNe, reduceCtorEq, w64_id, w8_id, w16_id, w32_id, tmod_pos, tdiv_pos, Bool.or_true, Bool.true_or, Bool.or_false, Bool.false_or, Bool.and_false, Bool.false_and, condK_decide]
  refine (regs_S f hA hB hC (s1.front 2 |>.front 3 |>.front 1)).mono ?_
  rintro v h2 ⟨rfl, rfl⟩
  simp (maxSteps := 2000000) (disch := first | (simp only [go_sem, Nat.reduceBEq, Nat.reduceAdd, Nat.reduceMul, Nat.reduceSub, Nat.reduceEqDiff, Nat.reduceLeDiff, Nat.reduceLT, Int.reduceEq, Int.reduceAdd, Int.reduceSub, Int.reduceMul, Int.reduceNeg, Int.reduceLT, Int.reduceLE, Int.reduceToNat, Int.reduceBEq, Int.reduceNe, reduceCtorEq, gb, g1, nA, ok] <;> omega) | omega) only [go_sem, Nat.reduceBEq, Nat.reduceAdd, Nat.reduceMul, Nat.reduceSub, Nat.reduceEqDiff, Nat.reduceLeDiff, Nat.reduceLT, Int.reduceEq, Int.reduceAdd, Int.reduceSub, Int.reduceMul, Int.reduceNeg, Int.reduceLT, Int.reduceLE, Int.reduceToNat, Int.reduceBEq, Int.reduceNe, reduceCtorEq, w64_id, w8_id, w16_id, w32_id, tmod_pos, tdiv_pos, Bool.or_true, Bool.true_or, Bool.or_false, Bool.false_or, Bool.and_false, Bool.false_and, condK_decide, gb, g1, nA, ok]
  refine (hk _ _ _ x0 x1 y0 y1).mono ?_
  rintro v h3 ⟨rfl, rfl⟩
  have z1 := (s1.front 2).set (.cells (turnL vr vt vv cb ⟨o, A, B, C, I⟩ w s at_ I g).toArray ty (0, 0))
  have z2 := (z1.front 1).set (.cells okT.cells.toArray 56 (0, 0))
  simp only [Trp.cells_eq, okT, okF, turnL] at z1 z2
  have gz := (z1.front 1).get
  simp (maxSteps := 2000000) (disch := first | (simp only [go_sem, Nat.reduceBEq, Nat.reduceAdd, Nat.reduceMul, Nat.reduceSub, Nat.reduceEqDiff, Nat.reduceLeDiff, Nat.reduceLT, Int.reduceEq, Int.reduceAdd, Int.reduceSub, Int.reduceMul, Int.reduceNeg, Int.reduceLT, Int.reduceLE, Int.reduceToNat, Int.reduceBEq, Int.reduceNe, reduceCtorEq, g0, gt, gz, z2.get] <;> omega) | omega) only [go_sem, Nat.reduceBEq, Nat.reduceAdd, Nat.reduceMul, Nat.reduceSub, Nat.reduceEqDiff, Nat.reduceLeDiff, Nat.reduceLT, Int.reduceEq, Int.reduceAdd, Int.reduceSub, Int.reduceMul, Int.reduceNeg, Int.reduceLT, Int.reduceLE, Int.reduceToNat, Int.reduceBEq, Int.reduceNe, reduceCtorEq, w64_id, w8_id, w16_id, w32_id, tmod_pos, tdiv_pos, Bool.or_true, Bool.true_or, Bool.or_false, Bool.false_or, Bool.and_false, Bool.false_and, condK_decide, g0, gt, gz, z2.get]
  refine ⟨fun q => ?_, fun q => ?_⟩
  · simp only [q, if_true] at hR
    exact hR _ _ ⟨rfl, (z2.tail.drop1)⟩
  · simp only [q, Bool.false_eq_true, if_false] at hR
    exact hR _ _ ⟨rfl, s1.tail.tail⟩
theorem jal_S (f : c.fit) (hA : A < 16) (hs : Sat h (cellAt xb (.cells (turnL vr vt vv cb ⟨o, A, B, C, I⟩ w s at_ next g).toArray ty (0, 0)) :: cellAt cb (.cells c.cells.toArray ty2 (0, 0)) :: F)) (n0 : 0 ≤ next) (n1 : next < 65536) :
    HCalls Tryz.prog 89 #[.pointer (some ⟨xb, 0, none⟩)] h fun v h' => v = .agg okT.cells.toArray ∧ Sat h' (cellAt xb (.cells (turnL vr vt vv cb ⟨o, A, B, C, I⟩ w s at_ I g).toArray ty (0, 0)) :: cellAt cb (.cells (setR c A next).cells.toArray ty2 (0, 0)) :: F) := by
  refine HCalls.via fun R hR => ?_
  have s1 := hs.push (.cells okT.cells.toArray 56 (0, 0))
  simp only [Trp.cells_eq, okT, okF] at s1
  have g0 := (s1.front 1).get
  have g1 := (s1.front 2).get
  simp only [turnL] at g0
  have a0 : (0 : Int) ≤ A := by omega
  have a1 : (A : Int) < 16 := by omega
  have l := Cp.len f
  have l1 : A < c.cells.length := by omega
  have sc := setR_cells f hA (v := next)
  have s2 := (s1.front 2).set (.cells (setR c A next).cells.toArray ty2 (0, 0))
  have s3 := (s2.front 2).set (.cells (turnL vr vt vv cb ⟨o, A, B, C, I⟩ w s at_ I g).toArray ty (0, 0))
  have s4 := (s3.front 2).set (.cells okT.cells.toArray 56 (0, 0))
  simp only [Trp.cells_eq, okT, okF, turnL] at s2 s3 s4
  have g2 := (s2.front 2).get
  have g3 := (s3.front 2).get
  have g4 := s4.get
  refine HCalls.of_dev T89 Tryz.func89 rfl mixed (by kernel_rfl) ?_; rw [Tryz.results89]
  simp (maxSteps := 2000000) (disch := first | (simp only [go_sem, Nat.reduceBEq, Nat.reduceAdd, Nat.reduceMul, Nat.reduceSub, Nat.reduceEqDiff, Nat.reduceLeDiff, Nat.reduceLT, Int.reduceEq, Int.reduceAdd, Int.reduceSub, Int.reduceMul, Int.reduceNeg, Int.reduceLT, Int.reduceLE, Int.reduceToNat, Int.reduceBEq, Int.reduceNe, reduceCtorEq, g0, g1, a0, a1, l1, sc, g2, g3, g4] <;> omega) | omega) only [go_sem, Nat.reduceBEq, Nat.reduceAdd, Nat.reduceMul, Nat.reduceSub, Nat.reduceEqDiff, Nat.reduceLeDiff, Nat.reduceLT, Int.reduceEq, Int.reduceAdd, Int.reduceSub, Int.reduceMul, Int.reduceNeg, Int.reduceLT, Int.reduceLE, Int.reduceToNat, Int.reduceBEq, Int.reduceNe, reduceCtorEq, w64_id, w8_id, w16_id, w32_id, tmod_pos, tdiv_pos, Bool.or_true, Bool.true_or, Bool.or_false, Bool.false_or, Bool.and_false, Bool.false_and, condK_decide, g0, g1, a0, a1, l1, sc, g2, g3, g4]
  exact hR _ _ ⟨rfl, s4.tail⟩
theorem jr_S (f : c.fit) (hB : B < 16) (hs : Sat h (cellAt xb (.cells (turnL vr vt vv cb ⟨o, A, B, C, I⟩ w s at_ next g).toArray ty (0, 0)) :: cellAt cb (.cells c.cells.toArray ty2 (0, 0)) :: F)) :
    HCalls Tryz.prog 90 #[.pointer (some ⟨xb, 0, none⟩)] h fun v h' => v = .agg okT.cells.toArray ∧ Sat h' (cellAt xb (.cells (turnL vr vt vv cb ⟨o, A, B, C, I⟩ w s at_ (rg c B % 65536) g).toArray ty (0, 0)) :: cellAt cb (.cells c.cells.toArray ty2 (0, 0)) :: F) := by
  refine HCalls.via fun R hR => ?_
  have s1 := hs.push (.cells okT.cells.toArray 56 (0, 0))
  simp only [Trp.cells_eq, okT, okF] at s1
  have g0 := (s1.front 1).get
  have g1 := (s1.front 2).get
  simp only [turnL] at g0
  have b0 : (0 : Int) ≤ B := by omega
  have b1 : (B : Int) < 16 := by omega
  obtain ⟨y0, y1⟩ := rg_bd f (i := B) (by omega) (by omega)
  have nB : nthL c.cells B = some (.int .u32 (rg c B)) := by rw [nthL_eq]; exact Cp.reg f hB
  obtain ⟨y, hy⟩ := Int.eq_ofNat_of_zero_le y0
  rw [hy] at nB hR
  have s3 := (s1.front 1).set (.cells (turnL vr vt vv cb ⟨o, A, B, C, I⟩ w s at_ ((y : Int) % 65536) g).toArray ty (0, 0))
  have s4 := (s3.front 1).set (.cells okT.cells.toArray 56 (0, 0))
  simp only [Trp.cells_eq, okT, okF, turnL] at s3 s4
  have g3 := (s3.front 1).get
  have g4 := s4.get
  refine HCalls.of_dev T90 Tryz.func90 rfl mixed (by kernel_rfl) ?_; rw [Tryz.results90]
  simp (maxSteps := 2000000) (disch := first | (simp only [go_sem, Nat.reduceBEq, Nat.reduceAdd, Nat.reduceMul, Nat.reduceSub, Nat.reduceEqDiff, Nat.reduceLeDiff, Nat.reduceLT, Int.reduceEq, Int.reduceAdd, Int.reduceSub, Int.reduceMul, Int.reduceNeg, Int.reduceLT, Int.reduceLE, Int.reduceToNat, Int.reduceBEq, Int.reduceNe, reduceCtorEq, g0, g1, b0, b1, nB] <;> omega) | omega) only [go_sem, Nat.reduceBEq, Nat.reduceAdd, Nat.reduceMul, Nat.reduceSub, Nat.reduceEqDiff, Nat.reduceLeDiff, Nat.reduceLT, Int.reduceEq, Int.reduceAdd, Int.reduceSub, Int.reduceMul, Int.reduceNeg, Int.reduceLT, Int.reduceLE, Int.reduceToNat, Int.reduceBEq, Int.reduceNe, reduceCtorEq, w64_id, w8_id, w16_id, w32_id, tmod_pos, tdiv_pos, Bool.or_true, Bool.true_or, Bool.or_false, Bool.false_or, Bool.and_false, Bool.false_and, condK_decide, g0, g1, b0, b1, nB]
  refine (low_S y (by omega)).mono ?_
  rintro v h2 ⟨rfl, rfl⟩
  have e : ((y % 65536 : Nat) : Int) = (y : Int) % 65536 := by omega
  rw [e]
  simp (maxSteps := 2000000) (disch := first | (simp only [go_sem, Nat.reduceBEq, Nat.reduceAdd, Nat.reduceMul, Nat.reduceSub, Nat.reduceEqDiff, Nat.reduceLeDiff, Nat.reduceLT, Int.reduceEq, Int.reduceAdd, Int.reduceSub, Int.reduceMul, Int.reduceNeg, Int.reduceLT, Int.reduceLE, Int.reduceToNat, Int.reduceBEq, Int.reduceNe, reduceCtorEq, g0, g3, g4] <;> omega) | omega) only [go_sem, Nat.reduceBEq, Nat.reduceAdd, Nat.reduceMul, Nat.reduceSub, Nat.reduceEqDiff, Nat.reduceLeDiff, Nat.reduceLT, Int.reduceEq, Int.reduceAdd, Int.reduceSub, Int.reduceMul, Int.reduceNeg, Int.reduceLT, Int.reduceLE, Int.reduceToNat, Int.reduceBEq, Int.reduceNe, reduceCtorEq, w64_id, w8_id, w16_id, w32_id, tmod_pos, tdiv_pos, Bool.or_true, Bool.true_or, Bool.or_false, Bool.false_or, Bool.and_false, Bool.false_and, condK_decide, g0, g3, g4]
  exact hR _ _ ⟨rfl, s4.tail⟩
theorem nop_S {x : Value} (hs : Sat h F) : HCalls Tryz.prog 100 #[x] h fun v h' => v = .agg okT.cells.toArray ∧ Sat h' F := by
  refine HCalls.via fun R hR => ?_
  have s1 := hs.push (.cells okT.cells.toArray 56 (0, 0))
  simp only [Trp.cells_eq, okT, okF] at s1
  refine HCalls.of_dev T100 Tryz.func100 rfl mixed (by kernel_rfl) ?_; rw [Tryz.results100]
  simp (maxSteps := 2000000) (disch := first | (simp only [go_sem, Nat.reduceBEq, Nat.reduceAdd, Nat.reduceMul, Nat.reduceSub, Nat.reduceEqDiff, Nat.reduceLeDiff, Nat.reduceLT, Int.reduceEq, Int.reduceAdd, Int.reduceSub, Int.reduceMul, Int.reduceNeg, Int.reduceLT, Int.reduceLE, Int.reduceToNat, Int.reduceBEq, Int.reduceNe, reduceCtorEq, s1.get] <;> omega) | omega) only [go_sem, Nat.reduceBEq, Nat.reduceAdd, Nat.reduceMul, Nat.reduceSub, Nat.reduceEqDiff, Nat.reduceLeDiff, Nat.reduceLT, Int.reduceEq, Int.reduceAdd, Int.reduceSub, Int.reduceMul, Int.reduceNeg, Int.reduceLT, Int.reduceLE, Int.reduceToNat, Int.reduceBEq, Int.reduceNe, reduceCtorEq, w64_id, w8_id, w16_id, w32_id, tmod_pos, tdiv_pos, Bool.or_true, Bool.true_or, Bool.or_false, Bool.false_or, Bool.and_false, Bool.false_and, condK_decide, s1.get]
  exact hR _ _ ⟨rfl, s1.tail⟩
end
end Go.Eng
/-
  package cpu: wfi, iar, eoi, tlbi (nothing injected).
-/
namespace Go.Eng
set_option linter.unusedSimpArgs false
set_option linter.unusedVariables false
set_option maxRecDepth 16000
set_option maxHeartbeats 4000000
open Go Go.Proofs
section
variable {h : Heap} {F : List SP} {rb n tb xb cb : Nat} {mem : Nat → Int} {T : List Ln} {vr vt vv : Value} {w : Int} {s : Spc} {at_ next : Int} {g : Bool} {ty ty2 : TypeId} {c : Cp} {o : Int} {A B C I : Nat}
theorem wfi_S {V : Option Int} (f : c.fit) (hs : Sat h (cellAt xb (.cells (turnL vr vt vv cb ⟨o, A, B, C, I⟩ w s at_ next g).toArray ty (0, 0)) :: cellAt cb (.cells c.cells.toArray ty2 (0, 0)) :: vS vv V :: F)) :
    HCalls Tryz.prog 94 #[.pointer (some ⟨xb, 0, none⟩)] h fun v h' => v = .agg (⟨9, 0, c.Pc, okF⟩ : Trp).cells.toArray ∧ Sat h' (cellAt xb (.cells (turnL vr vt vv cb ⟨o, A, B, C, I⟩ w s at_ next g).toArray ty (0, 0)) :: cellAt cb (.cells c.cells.toArray ty2 (0, 0)) :: vS vv V :: F) := by
  refine HCalls.via fun R hR => ?_
  have n16 : nthL c.cells 16 = some (.int .i64 c.Pc) := by rw [nthL_eq]; exact Cp.pc f
  have g0 := hs.get
  have g1 := (hs.front 1).get
  simp only [turnL] at g0
  refine HCalls.of_dev T94 Tryz.func94 rfl mixed (by kernel_rfl) ?_; rw [Tryz.results94]
  cases V with
  | none =>
    obtain ⟨rfl, s0⟩ := vS_none.1 (hs.front 2)
    have s1 := hs.push (.cells okT.cells.toArray 56 (0, 0))
    simp only [Trp.cells_eq, okT, okF] at s1
    have h0 := (s1.front 1).get
    have h1 := (s1.front 2).get
    simp only [turnL] at h0
    have s3 := hs.push (.cells (⟨9, 0, c.Pc, okF⟩ : Trp).cells.toArray 56 (0, 0))
    simp (maxSteps := 2000000) (disch := first | (simp only [go_sem, Nat.reduceBEq, Nat.reduceAdd, Nat.reduceMul, Nat.reduceSub, Nat.reduceEqDiff, Nat.reduceLeDiff, Nat.reduceLT, Int.reduceEq, Int.reduceAdd, Int.reduceSub, Int.reduceMul, Int.reduceNeg, Int.reduceLT, Int.reduceLE, Int.reduceToNat, Int.reduceBEq, Int.reduceNe, reduceCtorEq, g0, g1, h0, h1, n16, s1.get] <;> omega) | omega) only [go_sem, Nat.reduceBEq, Nat.reduceAdd, Nat.reduceMul, Nat.reduceSub, Nat.reduceEqDiff, Nat.reduceLeDiff, Nat.reduceLT, Int.reduceEq, Int.reduceAdd, Int.reduceSub, Int.reduceMul, Int.reduceNeg, Int.reduceLT, Int.reduceLE, Int.reduceToNat, Int.reduceBEq, Int.reduceNe, reduceCtorEq, w64_id, w8_id, w16_id, w32_id, tmod_pos, tdiv_pos, Bool.or_true, Bool.true_or, Bool.or_false, Bool.false_or, Bool.and_false, Bool.false_and, condK_decide, g0, g1, h0, h1, n16, s1.get]
    exact hR _ _ ⟨rfl, s3.tail⟩
  | some m =>
    obtain ⟨vb, x, rfl, s0⟩ := vS_some.1 (hs.front 2)
    have s1 := hs.push (.cells okT.cells.toArray 56 (0, 0))
    simp only [Trp.cells_eq, okT, okF] at s1
    have h0 := (s1.front 1).get
    simp only [turnL] at h0
    simp (maxSteps := 2000000) (disch := first | (simp only [go_sem, Nat.reduceBEq, Nat.reduceAdd, Nat.reduceMul, Nat.reduceSub, Nat.reduceEqDiff, Nat.reduceLeDiff, Nat.reduceLT, Int.reduceEq, Int.reduceAdd, Int.reduceSub, Int.reduceMul, Int.reduceNeg, Int.reduceLT, Int.reduceLE, Int.reduceToNat, Int.reduceBEq, Int.reduceNe, reduceCtorEq, h0] <;> omega) | omega) only [go_sem, Nat.reduceBEq, Nat.reduceAdd, Nat.reduceMul, Nat.reduceSub, Nat.reduceEqDiff, Nat.reduceLeDiff, Nat.reduceLT, Int.reduceEq, Int.reduceAdd, Int.reduceSub, Int.reduceMul, Int.reduceNeg, Int.reduceLT, Int.reduceLE, Int.reduceToNat, Int.reduceBEq, Int.reduceNe, reduceCtorEq, w64_id, w8_id, w16_id, w32_id, tmod_pos, tdiv_pos, Bool.or_true, Bool.true_or, Bool.or_false, Bool.false_or, Bool.and_false, Bool.false_and, condK_decide, h0]
    refine (next_S (s1.front 3)).mono ?_
    rintro v h2 ⟨rfl, s2⟩
    have k0 := (s2.front 2).get
    have k1 := (s2.front 3).get
    simp only [turnL] at k0
    have s3 := (s2.front 1).set (.cells (⟨9, 0, c.Pc, okF⟩ : Trp).cells.toArray 56 (0, 0))
    simp only [Trp.cells_eq, okT, okF] at s3
    have k2 := (s2.front 1).get
    have k3 := s3.get
    simp (maxSteps := 2000000) (disch := first | (simp only [go_sem, Nat.reduceBEq, Nat.reduceAdd, Nat.reduceMul, Nat.reduceSub, Nat.reduceEqDiff, Nat.reduceLeDiff, Nat.reduceLT, Int.reduceEq, Int.reduceAdd, Int.reduceSub, Int.reduceMul, Int.reduceNeg, Int.reduceLT, Int.reduceLE, Int.reduceToNat, Int.reduceBEq, Int.reduceNe, reduceCtorEq, k0, k1, k2, k3, n16] <;> omega) | omega) only [go_sem, Nat.reduceBEq, Nat.reduceAdd, Nat.reduceMul, Nat.reduceSub, Nat.reduceEqDiff, Nat.reduceLeDiff, Nat.reduceLT, Int.reduceEq, Int.reduceAdd, Int.reduceSub, Int.reduceMul, Int.reduceNeg, Int.reduceLT, Int.reduceLE, Int.reduceToNat, Int.reduceBEq, Int.reduceNe, reduceCtorEq, w64_id, w8_id, w16_id, w32_id, tmod_pos, tdiv_pos, Bool.or_true, Bool.true_or, Bool.or_false, Bool.false_or, Bool.and_false, Bool.false_and, condK_decide, k0, k1, k2, k3, n16]
    exact hR _ _ ⟨rfl, s3.tail.back 2⟩
theorem iar_S {m : Int} (f : c.fit) (hA : A < 16) (hs : Sat h (cellAt xb (.cells (turnL vr vt vv cb ⟨o, A, B, C, I⟩ w s at_ next g).toArray ty (0, 0)) :: cellAt cb (.cells c.cells.toArray ty2 (0, 0)) :: vS vv (some m) :: F)) :
    HCalls Tryz.prog 95 #[.pointer (some ⟨xb, 0, none⟩)] h fun v h' => v = .agg okT.cells.toArray ∧ Sat h' (cellAt xb (.cells (turnL vr vt vv cb ⟨o, A, B, C, I⟩ w s at_ next g).toArray ty (0, 0)) :: cellAt cb (.cells (setR c A 1023).cells.toArray ty2 (0, 0)) :: vS vv (some m) :: F) := by
  refine HCalls.via fun R hR => ?_
  have s1 := hs.push (.cells okT.cells.toArray 56 (0, 0))
  simp only [Trp.cells_eq, okT, okF] at s1
  have g0 := (s1.front 1).get
  simp only [turnL] at g0
  have a0 : (0 : Int) ≤ A := by omega
  have a1 : (A : Int) < 16 := by omega
  have l := Cp.len f
  have l1 : A < c.cells.length := by omega
  have sc := setR_cells f hA (v := 1023)
  refine HCalls.of_dev T95 Tryz.func95 rfl mixed (by kernel_rfl) ?_; rw [Tryz.results95]
  simp (maxSteps := 2000000) (disch := first | (simp only [go_sem, Nat.reduceBEq, Nat.reduceAdd, Nat.reduceMul, Nat.reduceSub, Nat.reduceEqDiff, Nat.reduceLeDiff, Nat.reduceLT, Int.reduceEq, Int.reduceAdd, Int.reduceSub, Int.reduceMul, Int.reduceNeg, Int.reduceLT, Int.reduceLE, Int.reduceToNat, Int.reduceBEq, Int.reduceNe, reduceCtorEq, g0] <;> omega) | omega) only [go_sem, Nat.reduceBEq, Nat.reduceAdd, Nat.reduceMul, Nat.reduceSub, Nat.reduceEqDiff, Nat.reduceLeDiff, Nat.reduceLT, Int.reduceEq, Int.reduceAdd, Int.reduceSub, Int.reduceMul, Int.reduceNeg, Int.reduceLT, Int.reduceLE, Int.reduceToNat, Int.reduceBEq, Int.reduceNe, reduceCtorEq, w64_id, w8_id, w16_id, w32_id, tmod_pos, tdiv_pos, Bool.or_true, Bool.true_or, Bool.or_false, Bool.false_or, Bool.and_false, Bool.false_and, condK_decide, g0]
  refine (ack_S (s1.front 3)).mono ?_
  rintro v h2 ⟨rfl, s2⟩
  have k0 := (s2.front 2).get
  have k1 := (s2.front 3).get
  simp only [turnL] at k0
  have s3 := (s2.front 3).set (.cells (setR c A 1023).cells.toArray ty2 (0, 0))
  have s4 := (s3.front 2).set (.cells okT.cells.toArray 56 (0, 0))
  simp only [Trp.cells_eq, okT, okF, turnL] at s3 s4
  have g2 := (s3.front 2).get
  have g4 := s4.get
  simp (maxSteps := 2000000) (disch := first | (simp only [go_sem, Nat.reduceBEq, Nat.reduceAdd, Nat.reduceMul, Nat.reduceSub, Nat.reduceEqDiff, Nat.reduceLeDiff, Nat.reduceLT, Int.reduceEq, Int.reduceAdd, Int.reduceSub, Int.reduceMul, Int.reduceNeg, Int.reduceLT, Int.reduceLE, Int.reduceToNat, Int.reduceBEq, Int.reduceNe, reduceCtorEq, k0, k1, a0, a1, l1, sc, g2, g4] <;> omega) | omega) only [go_sem, Nat.reduceBEq, Nat.reduceAdd, Nat.reduceMul, Nat.reduceSub, Nat.reduceEqDiff, Nat.reduceLeDiff, Nat.reduceLT, Int.reduceEq, Int.reduceAdd, Int.reduceSub, Int.reduceMul, Int.reduceNeg, Int.reduceLT, Int.reduceLE, Int.reduceToNat, Int.reduceBEq, Int.reduceNe, reduceCtorEq, w64_id, w8_id, w16_id, w32_id, tmod_pos, tdiv_pos, Bool.or_true, Bool.true_or, Bool.or_false, Bool.false_or, Bool.and_false, Bool.false_and, condK_decide, k0, k1, a0, a1, l1, sc, g2, g4]
  exact hR _ _ ⟨rfl, s4.tail.front 2⟩
theorem eoi_S {m : Int} (f : c.fit) (hB : B < 16) (hs : Sat h (cellAt xb (.cells (turnL vr vt vv cb ⟨o, A, B, C, I⟩ w s at_ next g).toArray ty (0, 0)) :: cellAt cb (.cells c.cells.toArray ty2 (0, 0)) :: vS vv (some m) :: F)) :
    HCalls Tryz.prog 97 #[.pointer (some ⟨xb, 0, none⟩)] h fun v h' => v = .agg okT.cells.toArray ∧ Sat h' (cellAt xb (.cells (turnL vr vt vv cb ⟨o, A, B, C, I⟩ w s at_ next g).toArray ty (0, 0)) :: cellAt cb (.cells c.cells.toArray ty2 (0, 0)) :: vS vv (some m) :: F) := by
  refine HCalls.via fun R hR => ?_
  have s1 := hs.push (.cells okT.cells.toArray 56 (0, 0))
  simp only [Trp.cells_eq, okT, okF] at s1
  have g0 := (s1.front 1).get
  have g1 := (s1.front 2).get
  simp only [turnL] at g0
  have b0 : (0 : Int) ≤ B := by omega
  have b1 : (B : Int) < 16 := by omega
  obtain ⟨y0, y1⟩ := rg_bd f (i := B) (by omega) (by omega)
  have nB : nthL c.cells B = some (.int .u32 (rg c B)) := by rw [nthL_eq]; exact Cp.reg f hB
  refine HCalls.of_dev T97 Tryz.func97 rfl mixed (by kernel_rfl) ?_; rw [Tryz.results97]
  simp (maxSteps := 2000000) (disch := first | (simp only [go_sem, Nat.reduceBEq, Nat.reduceAdd, Nat.reduceMul, Nat.reduceSub, Nat.reduceEqDiff, Nat.reduceLeDiff, Nat.reduceLT, Int.reduceEq, Int.reduceAdd, Int.reduceSub, Int.reduceMul, Int.reduceNeg, Int.reduceLT, Int.reduceLE, Int.reduceToNat, Int.reduceBEq, Int.reduceNe, reduceCtorEq, g0, g1, b0, b1, nB] <;> omega) | omega) only [go_sem, Nat.reduceBEq, Nat.reduceAdd, Nat.reduceMul, Nat.reduceSub, Nat.reduceEqDiff, Nat.reduceLeDiff, Nat.reduceLT, Int.reduceEq, Int.reduceAdd, Int.reduceSub, Int.reduceMul, Int.reduceNeg, Int.reduceLT, Int.reduceLE, Int.reduceToNat, Int.reduceBEq, Int.reduceNe, reduceCtorEq, w64_id, w8_id, w16_id, w32_id, tmod_pos, tdiv_pos, Bool.or_true, Bool.true_or, Bool.or_false, Bool.false_or, Bool.and_false, Bool.false_and, condK_decide, g0, g1, b0, b1, nB]
  refine (end_S (s1.front 3) _).mono ?_
  rintro v h2 ⟨⟨e, rfl⟩, s2⟩
  have k0 := (s2.front 2).get
  have k2 := (s2.front 1).get
  simp only [turnL] at k0
  have s3 := (s2.front 1).set (.cells okT.cells.toArray 56 (0, 0))
  simp only [Trp.cells_eq, okT, okF] at s3
  simp (maxSteps := 2000000) (disch := first | (simp only [go_sem, Nat.reduceBEq, Nat.reduceAdd, Nat.reduceMul, Nat.reduceSub, Nat.reduceEqDiff, Nat.reduceLeDiff, Nat.reduceLT, Int.reduceEq, Int.reduceAdd, Int.reduceSub, Int.reduceMul, Int.reduceNeg, Int.reduceLT, Int.reduceLE, Int.reduceToNat, Int.reduceBEq, Int.reduceNe, reduceCtorEq, k0, k2, s3.get] <;> omega) | omega) only [go_sem, Nat.reduceBEq, Nat.reduceAdd, Nat.reduceMul, Nat.reduceSub, Nat.reduceEqDiff, Nat.reduceLeDiff, Nat.reduceLT, Int.reduceEq, Int.reduceAdd, Int.reduceSub, Int.reduceMul, Int.reduceNeg, Int.reduceLT, Int.reduceLE, Int.reduceToNat, Int.reduceBEq, Int.reduceNe, reduceCtorEq, w64_id, w8_id, w16_id, w32_id, tmod_pos, tdiv_pos, Bool.or_true, Bool.true_or, Bool.or_false, Bool.false_or, Bool.and_false, Bool.false_and, condK_decide, k0, k2, s3.get]
  exact hR _ _ ⟨rfl, s3.tail.back 2⟩
theorem tlbi_S {tb : Nat} {T : List Ln} (hs : Sat h (cellAt xb (.cells (turnL vr (.pointer (some ⟨tb, 0, none⟩)) vv cb ⟨o, A, B, C, I⟩ w s at_ next g).toArray ty (0, 0)) :: tlbS tb T :: F)) :
    HCalls Tryz.prog 98 #[.pointer (some ⟨xb, 0, none⟩)] h fun v h' => v = .agg okT.cells.toArray ∧ Sat h' (cellAt xb (.cells (turnL vr (.pointer (some ⟨tb, 0, none⟩)) vv cb ⟨o, A, B, C, I⟩ w s at_ next g).toArray ty (0, 0)) :: tlbS tb (flushT T fun l => decide (l.Vmid = s.Vmid) && decide (l.Asid = s.Asid)) :: F) := by
  refine HCalls.via fun R hR => ?_
  have s1 := hs.push (.cells okT.cells.toArray 56 (0, 0))
  simp only [Trp.cells_eq, okT, okF] at s1
  have g0 := (s1.front 1).get
  simp only [turnL] at g0
  refine HCalls.of_dev T98 Tryz.func98 rfl mixed (by kernel_rfl) ?_; rw [Tryz.results98]
  simp (maxSteps := 2000000) (disch := first | (simp only [go_sem, Nat.reduceBEq, Nat.reduceAdd, Nat.reduceMul, Nat.reduceSub, Nat.reduceEqDiff, Nat.reduceLeDiff, Nat.reduceLT, Int.reduceEq, Int.reduceAdd, Int.reduceSub, Int.reduceMul, Int.reduceNeg, Int.reduceLT, Int.reduceLE, Int.reduceToNat, Int.reduceBEq, Int.reduceNe, reduceCtorEq, g0] <;> omega) | omega) only [go_sem, Nat.reduceBEq, Nat.reduceAdd, Nat.reduceMul, Nat.reduceSub, Nat.reduceEqDiff, Nat.reduceLeDiff, Nat.reduceLT, Int.reduceEq, Int.reduceAdd, Int.reduceSub, Int.reduceMul, Int.reduceNeg, Int.reduceLT, Int.reduceLE, Int.reduceToNat, Int.reduceBEq, Int.reduceNe, reduceCtorEq, w64_id, w8_id, w16_id, w32_id, tmod_pos, tdiv_pos, Bool.or_true, Bool.true_or, Bool.or_false, Bool.false_or, Bool.and_false, Bool.false_and, condK_decide, g0]
  refine (flushAsid_S (s1.front 2) _ _).mono ?_
  rintro v h2 ⟨⟨e, rfl⟩, s2⟩
  have k2 := (s2.front 1).get
  have s3 := (s2.front 1).set (.cells okT.cells.toArray 56 (0, 0))
  simp only [Trp.cells_eq, okT, okF] at s3
  simp (maxSteps := 2000000) (disch := first | (simp only [go_sem, Nat.reduceBEq, Nat.reduceAdd, Nat.reduceMul, Nat.reduceSub, Nat.reduceEqDiff, Nat.reduceLeDiff, Nat.reduceLT, Int.reduceEq, Int.reduceAdd, Int.reduceSub, Int.reduceMul, Int.reduceNeg, Int.reduceLT, Int.reduceLE, Int.reduceToNat, Int.reduceBEq, Int.reduceNe, reduceCtorEq, k2, s3.get] <;> omega) | omega) only [go_sem, Nat.reduceBEq, Nat.reduceAdd, Nat.reduceMul, Nat.reduceSub, Nat.reduceEqDiff, Nat.reduceLeDiff, Nat.reduceLT, Int.reduceEq, Int.reduceAdd, Int.reduceSub, Int.reduceMul, Int.reduceNeg, Int.reduceLT, Int.reduceLE, Int.reduceToNat, Int.reduceBEq, Int.reduceNe, reduceCtorEq, w64_id, w8_id, w16_id, w32_id, tmod_pos, tdiv_pos, Bool.or_true, Bool.true_or, Bool.or_false, Bool.false_or, Bool.and_false, Bool.false_and, condK_decide, k2, s3.get]
  exact hR _ _ ⟨rfl, s3.tail.swap⟩
end
end Go.Eng
/-
  package cpu: what is done, by the operation's number.
-/
namespace Go.Eng
set_option linter.unusedSimpArgs false
set_option linter.unusedVariables false
set_option maxRecDepth 16000
set_option maxHeartbeats 4000000
open Go Go.Proofs
theorem drop4 {h : Heap} {A B C D E : SP} {F : List SP} (x : Sat h (A :: B :: C :: D :: E :: F)) : Sat h (A :: B :: C :: D :: F) := (x.front 4).tail
theorem callV_mono {P : Program} {v : Value} {vs : List Value} {h : Heap} {K K' : Value → Heap → Prop} (q : callV P v vs h K) (m : ∀ v h', K v h' → K' v h') : callV P v vs h K' := by
  unfold callV at q ⊢
  split at q
  · exact ⟨q.1, q.2.mono m⟩
  · exact q.elim
theorem ops_get (D : Nat → Value) {op : Nat} (h : op < 26) : (opsL D).toArray.extract (op * 2) (op * 2 + 2) = #[.bool (guestO (op : Nat)), D op] := by
  have := flat_extract (enc := fun k : Nat => [Value.bool (guestO (k : Nat)), D k]) (sz := 2) (fun _ => rfl) (L := List.range 26) (i := op) (by simpa using h)
  rw [List.getElem_range] at this
  exact this
theorem opB_func {h : Heap} {F : List SP} {op : Nat} {dv : Value} (hs : Sat h (opB op dv :: F)) : ∃ f a b, dv = .func f a b := by
  unfold opB at hs
  split at hs
  all_goals first
    | exact ⟨_, _, _, (Sat.pure.1 hs).1⟩
    | (obtain ⟨_, _, e, -⟩ := recB_iff.1 hs; exact ⟨_, _, _, e⟩)
    | (obtain ⟨_, _, _, _, _, _, e, -⟩ := touB_iff.1 hs; exact ⟨_, _, _, e⟩)
/-- What an operation leaves. -/
def opPost (n rb tb xb cb : Nat) (vv : Value) (ty ty2 : TypeId) (M : Mch) (c : Cp) (i : Ins) (w : Int) (s : Spc) (at_ : Int) (F : List SP) (v : Value) (h' : Heap) : Prop :=
  ∃ (tr : Trp) (M' : Mch) (c' : Cp) (nx : Int), v = .agg tr.cells.toArray ∧ c'.fit ∧ 0 ≤ nx ∧ nx < 65536 ∧
    Sat h' (cellAt xb (.cells (turnL (.pointer (some ⟨rb, 0, none⟩)) (.pointer (some ⟨tb, 0, none⟩)) vv cb i w s at_ nx false).toArray ty (0, 0)) :: ramS rb n M'.mem :: tlbS tb M'.T :: cellAt cb (.cells c'.cells.toArray ty2 (0, 0)) :: vS vv M'.V :: F) ∧
    doP n M c i s at_ = if tr.C ≠ 0 then ⟨M', c, tr⟩ else ⟨M', { c' with Pc := nx }, tr⟩
/-- The operations of which it is told: all. -/
def opIn (op : Nat) : Prop := 0 ≤ op
theorem touch_eq (n : Nat) (M : Mch) (c : Cp) (i : Ins) (s : Spc) (at_ size want cause : Int) (hc : cause ≠ 0) : touch n M c i s at_ size want cause =
    if (touchP n M.mem M.T c i.A ((rg c i.B + i.I) % 65536) s at_ size want cause).t.C ≠ 0 then ⟨⟨(touchP n M.mem M.T c i.A ((rg c i.B + i.I) % 65536) s at_ size want cause).mem, (touchP n M.mem M.T c i.A ((rg c i.B + i.I) % 65536) s at_ size want cause).T, M.V⟩, c, (touchP n M.mem M.T c i.A ((rg c i.B + i.I) % 65536) s at_ size want cause).t⟩
    else ⟨⟨(touchP n M.mem M.T c i.A ((rg c i.B + i.I) % 65536) s at_ size want cause).mem, (touchP n M.mem M.T c i.A ((rg c i.B + i.I) % 65536) s at_ size want cause).T, M.V⟩, { (touchP n M.mem M.T c i.A ((rg c i.B + i.I) % 65536) s at_ size want cause).c with Pc := (c.Pc + 4) % 65536 }, (touchP n M.mem M.T c i.A ((rg c i.B + i.I) % 65536) s at_ size want cause).t⟩ := by
  unfold touch touchP
  generalize (rg c i.B + i.I) % 65536 = ad
  by_cases q : ad % size ≠ 0
  · simp only [if_pos q]; rfl
  simp only [if_neg q]
  by_cases k : (reachC n M.mem M.T s ad want at_).f.K ≠ 0
  · simp only [if_pos k]
    rw [if_pos hc]
  simp only [if_neg k]
  by_cases w2 : want = 2
  · simp only [if_pos w2]; rfl
  · simp only [if_neg w2]; rfl
theorem touch_fit {n : Nat} {mem : Nat → Int} {T : List Ln} {c : Cp} (f : c.fit) (hb : bytesOk (64 * n) mem) (hn : n ≤ 1024) (hT : ∀ l ∈ T, okL l) (A ad : Int) {s : Spc} {at_ size want cause : Int} (hz : size = 4 ∨ size = 1) (h0 : 0 ≤ ad) : (touchP n mem T c A ad s at_ size want cause).c.fit := by
  unfold touchP
  by_cases q : ad % size ≠ 0
  · rw [if_pos q]; exact f
  rw [if_neg q]
  by_cases k : (reachC n mem T s ad want at_).f.K ≠ 0
  · rw [if_pos k]; exact f
  rw [if_neg k]
  by_cases w2 : want = 2
  · rw [if_pos w2]; exact f
  rw [if_neg w2]
  obtain ⟨b1, b2, b3⟩ := reachC_bd mem hT hn s ad want at_ h0 (by omega)
  refine setR_fit f ?_
  obtain ⟨l1, l2⟩ := loadM_bd hb (reachC n mem T s ad want at_).at_.toNat size.toNat (by rcases hz with rfl | rfl <;> simp <;> omega)
  refine ⟨l1, ?_⟩
  rcases hz with rfl | rfl
  · exact l2
  · have : (256 : Int) ^ (1 : Int).toNat = 256 := rfl
    omega
theorem add_do_bd (x y : Int) : 0 ≤ (x + y) % 4294967296 ∧ (x + y) % 4294967296 < 4294967296 := by omega
theorem sub_do_bd (x y : Int) : 0 ≤ (x - y) % 4294967296 ∧ (x - y) % 4294967296 < 4294967296 := by omega
theorem and_do_bd (x y : Int) : 0 ≤ and32 x y ∧ and32 x y < 4294967296 := by
  unfold and32
  have := (BitVec.ofInt 32 x &&& BitVec.ofInt 32 y).isLt
  omega
theorem xor_do_bd (x y : Int) : 0 ≤ xor32 x y ∧ xor32 x y < 4294967296 := by
  unfold xor32
  have := (BitVec.ofInt 32 x ^^^ BitVec.ofInt 32 y).isLt
  omega
theorem shl_do_bd (x y : Int) : 0 ≤ x * 2 ^ (y % 32).toNat % 4294967296 ∧ x * 2 ^ (y % 32).toNat % 4294967296 < 4294967296 := by
  generalize x * 2 ^ (y % 32).toNat = z
  omega
section
variable {h : Heap} {F : List SP} {rb n tb xb cb : Nat} {vv dv : Value} {w : Int} {s : Spc} {at_ : Int} {ty ty2 : TypeId} {c : Cp} {M : Mch} {op A B C I : Nat}
theorem opDo_S (f : c.fit) (op1 : 1 ≤ op) (op2 : op ≤ 25) (oi : opIn op) (hA : A < 16) (hB : B < 16) (hC : C < 16) (hI : I < 65536) (hg : guestO (op : Nat) = true → ∃ m, M.V = some m)
    (hs : Sat h (opB op dv :: cellAt xb (.cells (turnL (.pointer (some ⟨rb, 0, none⟩)) (.pointer (some ⟨tb, 0, none⟩)) vv cb ⟨op, A, B, C, I⟩ w s at_ ((c.Pc + 4) % 65536) false).toArray ty (0, 0)) :: ramS rb n M.mem :: tlbS tb M.T :: cellAt cb (.cells c.cells.toArray ty2 (0, 0)) :: vS vv M.V :: F)) :
    callV Tryz.prog dv [.pointer (some ⟨xb, 0, none⟩)] h (opPost n rb tb xb cb vv ty ty2 M c ⟨op, A, B, C, I⟩ w s at_ F) := by
  have nx0 : 0 ≤ (c.Pc + 4) % 65536 := by omega
  have nx1 : (c.Pc + 4) % 65536 < 65536 := by omega
  obtain ⟨⟨hb, hn⟩, -⟩ := ramS_iff.1 (hs.front 2)
  obtain ⟨⟨-, hT⟩, -⟩ := tlbS_iff.1 (hs.front 3)
  have hI2 : (I : Int) % 65536 = I := by omega
  have y0 := rg_bd f (i := B) (by omega) (by omega)
  have z0 := rg_bd f (i := C) (by omega) (by omega)
  match op, op1, op2, oi with
  | 1, _, _, _ =>
    obtain ⟨rfl, s1⟩ := Sat.pure.1 hs
    refine ⟨by kernel_rfl, ?_⟩
    refine (movi_S f hA hI (s1.front 3).swap).mono ?_
    rintro v h' ⟨rfl, s2⟩
    exact ⟨okT, M, _, _, rfl, setR_fit f ⟨by omega, by omega⟩, nx0, nx1, s2.swap.back 3, rfl⟩
  | 2, _, _, _ =>
    obtain ⟨b, ty3, rfl, s1⟩ := recB_iff.1 hs
    refine ⟨by kernel_rfl, ?_⟩
    refine (reck_S f hA hB hC add_do add_do_bd ((s1.front 4).back 2)).mono ?_
    rintro v h' ⟨rfl, s2⟩
    exact ⟨okT, M, _, _, rfl, setR_fit f (add_do_bd _ _), nx0, nx1, s2.swap.back 3, rfl⟩
  | 3, _, _, _ =>
    obtain ⟨b, ty3, rfl, s1⟩ := recB_iff.1 hs
    refine ⟨by kernel_rfl, ?_⟩
    refine (reck_S f hA hB hC sub_do sub_do_bd ((s1.front 4).back 2)).mono ?_
    rintro v h' ⟨rfl, s2⟩
    exact ⟨okT, M, _, _, rfl, setR_fit f (sub_do_bd _ _), nx0, nx1, s2.swap.back 3, rfl⟩
  | 4, _, _, _ =>
    obtain ⟨b, ty3, rfl, s1⟩ := recB_iff.1 hs
    refine ⟨by kernel_rfl, ?_⟩
    refine (reck_S f hA hB hC and_do and_do_bd ((s1.front 4).back 2)).mono ?_
    rintro v h' ⟨rfl, s2⟩
    exact ⟨okT, M, _, _, rfl, setR_fit f (and_do_bd _ _), nx0, nx1, s2.swap.back 3, rfl⟩
  | 5, _, _, _ =>
    obtain ⟨b, ty3, rfl, s1⟩ := recB_iff.1 hs
    refine ⟨by kernel_rfl, ?_⟩
    refine (reck_S f hA hB hC xor_do xor_do_bd ((s1.front 4).back 2)).mono ?_
    rintro v h' ⟨rfl, s2⟩
    exact ⟨okT, M, _, _, rfl, setR_fit f (xor_do_bd _ _), nx0, nx1, s2.swap.back 3, rfl⟩
  | 6, _, _, _ =>
    obtain ⟨b, ty3, rfl, s1⟩ := recB_iff.1 hs
    refine ⟨by kernel_rfl, ?_⟩
    refine (reck_S f hA hB hC shl_do shl_do_bd ((s1.front 4).back 2)).mono ?_
    rintro v h' ⟨rfl, s2⟩
    exact ⟨okT, M, _, _, rfl, setR_fit f (shl_do_bd _ _), nx0, nx1, s2.swap.back 3, rfl⟩
  | 7, _, _, _ =>
    obtain ⟨b1, b2, b3, t1, t2, t3, rfl, s1⟩ := touB_iff.1 hs
    refine ⟨by kernel_rfl, ?_⟩
    refine (touchC_S f hA hB hC hI (by omega) (by omega) s1).mono ?_
    rintro v h' ⟨rfl, s2⟩
    exact ⟨_, ⟨_, _, M.V⟩, _, _, rfl, touch_fit f hb hn hT _ _ (by omega) (by omega), nx0, nx1, s2, touch_eq _ _ _ _ _ _ _ _ _ (by decide)⟩
  | 8, _, _, _ =>
    obtain ⟨b1, b2, b3, t1, t2, t3, rfl, s1⟩ := touB_iff.1 hs
    refine ⟨by kernel_rfl, ?_⟩
    refine (touchC_S f hA hB hC hI (by omega) (by omega) s1).mono ?_
    rintro v h' ⟨rfl, s2⟩
    exact ⟨_, ⟨_, _, M.V⟩, _, _, rfl, touch_fit f hb hn hT _ _ (by omega) (by omega), nx0, nx1, s2, touch_eq _ _ _ _ _ _ _ _ _ (by decide)⟩
  | 9, _, _, _ =>
    obtain ⟨b1, b2, b3, t1, t2, t3, rfl, s1⟩ := touB_iff.1 hs
    refine ⟨by kernel_rfl, ?_⟩
    refine (touchC_S f hA hB hC hI (by omega) (by omega) s1).mono ?_
    rintro v h' ⟨rfl, s2⟩
    exact ⟨_, ⟨_, _, M.V⟩, _, _, rfl, touch_fit f hb hn hT _ _ (by omega) (by omega), nx0, nx1, s2, touch_eq _ _ _ _ _ _ _ _ _ (by decide)⟩
  | 10, _, _, _ =>
    obtain ⟨b1, b2, b3, t1, t2, t3, rfl, s1⟩ := touB_iff.1 hs
    refine ⟨by kernel_rfl, ?_⟩
    refine (touchC_S f hA hB hC hI (by omega) (by omega) s1).mono ?_
    rintro v h' ⟨rfl, s2⟩
    exact ⟨_, ⟨_, _, M.V⟩, _, _, rfl, touch_fit f hb hn hT _ _ (by omega) (by omega), nx0, nx1, s2, touch_eq _ _ _ _ _ _ _ _ _ (by decide)⟩
  | 17, _, _, _ =>
    obtain ⟨b, ty3, rfl, s1⟩ := recB_iff.1 hs
    refine ⟨by kernel_rfl, ?_⟩
    refine (trapsC_S f ((s1.front 4).back 2)).mono ?_
    rintro v h' ⟨rfl, s2⟩
    exact ⟨_, M, _, _, rfl, f, nx0, nx1, s2.swap.back 3, rfl⟩
  | 19, _, _, _ =>
    obtain ⟨rfl, s1⟩ := Sat.pure.1 hs
    refine ⟨by kernel_rfl, ?_⟩
    refine (mrs_S f hA (s1.front 3).swap).mono ?_
    intro v h'
    by_cases q : 6 < I
    · rw [if_pos q]
      rintro ⟨rfl, s2⟩
      refine ⟨_, M, _, _, rfl, f, nx0, nx1, s2.swap.back 3, ?_⟩
      have q1 : (6 : Int) < I := by omega
      simp [doP, q1]
    · rw [if_neg q]
      rintro ⟨rfl, s2⟩
      refine ⟨okT, M, _, _, rfl, setR_fit f (sy_bd f (by omega) (by omega)), nx0, nx1, s2.swap.back 3, ?_⟩
      have q1 : ¬ (6 : Int) < I := by omega
      simp [doP, q1, go, okT]
  | 20, _, _, _ =>
    obtain ⟨rfl, s1⟩ := Sat.pure.1 hs
    refine ⟨by kernel_rfl, ?_⟩
    obtain ⟨m, hV⟩ := hg (by decide)
    rw [hV] at s1
    refine (msr_S f hB (((s1.front 4).front 4).front 2)).mono ?_
    intro v h'
    by_cases q : 6 ≤ I
    · rw [if_pos q]
      rintro ⟨rfl, s2⟩
      refine ⟨_, M, _, _, rfl, f, nx0, nx1, ?_, ?_⟩
      · rw [hV]; exact ((s2.front 4).front 4).front 2
      have q1 : (6 : Int) ≤ I := by omega
      simp [doP, q1]
    · rw [if_neg q]
      rintro ⟨rfl, s2⟩
      refine ⟨okT, { M with V := some (if (I : Int) = 2 then min (rg c B) 256 else m) }, setS c I (rg c B), _, rfl, setS_fit f (a := I) y0, nx0, nx1, ?_, ?_⟩
      · exact ((s2.front 4).front 4).front 2
      have q1 : ¬ (6 : Int) ≤ I := by omega
      by_cases q2 : (I : Int) = 2
      · simp [doP, q1, go, okT, q2]
      · simp [doP, q1, go, okT, q2, hV]
  | 11, _, _, _ =>
    obtain ⟨b, ty3, rfl, s1⟩ := recB_iff.1 hs
    refine ⟨by kernel_rfl, ?_⟩
    refine (bran_S f hA hB hC eq_is ((s1.front 4).back 2)).mono ?_
    rintro v h' ⟨rfl, s2⟩
    refine ⟨okT, M, c, _, rfl, f, ?_, ?_, s2.swap.back 3, ?_⟩
    · split <;> omega
    · split <;> omega
    · by_cases q : rg c A = rg c B <;> simp [doP, go, okT, q, hI2]
  | 12, _, _, _ =>
    obtain ⟨b, ty3, rfl, s1⟩ := recB_iff.1 hs
    refine ⟨by kernel_rfl, ?_⟩
    refine (bran_S f hA hB hC ne_is ((s1.front 4).back 2)).mono ?_
    rintro v h' ⟨rfl, s2⟩
    refine ⟨okT, M, c, _, rfl, f, ?_, ?_, s2.swap.back 3, ?_⟩
    · split <;> omega
    · split <;> omega
    · by_cases q : rg c A = rg c B <;> simp [doP, go, okT, q, hI2]
  | 13, _, _, _ =>
    obtain ⟨b, ty3, rfl, s1⟩ := recB_iff.1 hs
    refine ⟨by kernel_rfl, ?_⟩
    refine (bran_S f hA hB hC lt_is ((s1.front 4).back 2)).mono ?_
    rintro v h' ⟨rfl, s2⟩
    refine ⟨okT, M, c, _, rfl, f, ?_, ?_, s2.swap.back 3, ?_⟩
    · split <;> omega
    · split <;> omega
    · by_cases q : rg c A < rg c B <;> simp [doP, go, okT, q, hI2]
  | 14, _, _, _ =>
    obtain ⟨b, ty3, rfl, s1⟩ := recB_iff.1 hs
    refine ⟨by kernel_rfl, ?_⟩
    refine (bran_S f hA hB hC yes_is ((s1.front 4).back 2)).mono ?_
    rintro v h' ⟨rfl, s2⟩
    refine ⟨okT, M, c, _, rfl, f, ?_, ?_, s2.swap.back 3, ?_⟩
    · split <;> omega
    · split <;> omega
    · simp [doP, go, okT, hI2]
  | 15, _, _, _ =>
    obtain ⟨rfl, s1⟩ := Sat.pure.1 hs
    refine ⟨by kernel_rfl, ?_⟩
    refine (jal_S f hA (s1.front 3).swap nx0 nx1).mono ?_
    rintro v h' ⟨rfl, s2⟩
    refine ⟨okT, M, _, _, rfl, setR_fit f ⟨nx0, by omega⟩, ?_, ?_, s2.swap.back 3, ?_⟩
    · omega
    · omega
    · simp [doP, go, okT, hI2]
  | 16, _, _, _ =>
    obtain ⟨rfl, s1⟩ := Sat.pure.1 hs
    refine ⟨by kernel_rfl, ?_⟩
    refine (jr_S f hB (s1.front 3).swap).mono ?_
    rintro v h' ⟨rfl, s2⟩
    refine ⟨okT, M, _, _, rfl, f, ?_, ?_, s2.swap.back 3, ?_⟩
    · omega
    · omega
    · simp [doP, go, okT]
  | 18, _, _, _ =>
    obtain ⟨b, ty3, rfl, s1⟩ := recB_iff.1 hs
    refine ⟨by kernel_rfl, ?_⟩
    refine (trapsC_S f ((s1.front 4).back 2)).mono ?_
    rintro v h' ⟨rfl, s2⟩
    exact ⟨_, M, _, _, rfl, f, nx0, nx1, s2.swap.back 3, rfl⟩
  | 21, _, _, _ =>
    obtain ⟨rfl, s1⟩ := Sat.pure.1 hs
    refine ⟨by kernel_rfl, ?_⟩
    refine (wfi_S f (((s1.front 4).front 4).front 2)).mono ?_
    rintro v h' ⟨rfl, s2⟩
    exact ⟨_, M, _, _, rfl, f, nx0, nx1, ((s2.front 4).front 4).front 2, rfl⟩
  | 22, _, _, _ =>
    obtain ⟨rfl, s1⟩ := Sat.pure.1 hs
    refine ⟨by kernel_rfl, ?_⟩
    obtain ⟨m, hV⟩ := hg (by decide)
    rw [hV] at s1
    refine (iar_S f hA (((s1.front 4).front 4).front 2)).mono ?_
    rintro v h' ⟨rfl, s2⟩
    refine ⟨okT, M, _, _, rfl, setR_fit f ⟨by omega, by omega⟩, nx0, nx1, ?_, rfl⟩
    rw [hV]
    exact ((s2.front 4).front 4).front 2
  | 23, _, _, _ =>
    obtain ⟨rfl, s1⟩ := Sat.pure.1 hs
    refine ⟨by kernel_rfl, ?_⟩
    obtain ⟨m, hV⟩ := hg (by decide)
    rw [hV] at s1
    refine (eoi_S f hB (((s1.front 4).front 4).front 2)).mono ?_
    rintro v h' ⟨rfl, s2⟩
    refine ⟨okT, M, _, _, rfl, f, nx0, nx1, ?_, rfl⟩
    rw [hV]
    exact ((s2.front 4).front 4).front 2
  | 24, _, _, _ =>
    obtain ⟨rfl, s1⟩ := Sat.pure.1 hs
    refine ⟨by kernel_rfl, ?_⟩
    refine (tlbi_S ((s1.front 2).swap)).mono ?_
    rintro v h' ⟨rfl, s2⟩
    exact ⟨okT, { M with T := flushT M.T fun l => decide (l.Vmid = s.Vmid) && decide (l.Asid = s.Asid) }, c, _, rfl, f, nx0, nx1, (s2.front 2).swap, rfl⟩
  | 25, _, _, _ =>
    obtain ⟨rfl, s1⟩ := Sat.pure.1 hs
    refine ⟨by kernel_rfl, ?_⟩
    refine (nop_S s1).mono ?_
    rintro v h' ⟨rfl, s2⟩
    exact ⟨okT, M, c, _, rfl, f, nx0, nx1, s2, rfl⟩
  | 0, q, _, _ => exact absurd q (by decide)
  | op + 26, _, q, _ => exact absurd q (by omega)
end
end Go.Eng
/-
  A step, by what is fetched: plain.
-/
namespace Go.Eng
set_option linter.unusedSimpArgs false
set_option linter.unusedVariables false
set_option maxRecDepth 16000
set_option maxHeartbeats 4000000
open Go Go.Proofs
theorem stepP_eq (n : Nat) (M : Mch) (c : Cp) (vm se at_ : Int) : stepP n M c vm se at_ =
    if (fetchP n M.mem M.T (spaceP M.V.isSome c vm se) c.Pc at_).t.C ≠ 0 then ⟨{ M with T := (fetchP n M.mem M.T (spaceP M.V.isSome c vm se) c.Pc at_).T }, c, (fetchP n M.mem M.T (spaceP M.V.isSome c vm se) c.Pc at_).t⟩
    else if guestO (decI (fetchP n M.mem M.T (spaceP M.V.isSome c vm se) c.Pc at_).w.toNat).Op = true ∧ M.V = none then ⟨{ M with T := (fetchP n M.mem M.T (spaceP M.V.isSome c vm se) c.Pc at_).T }, c, ⟨8, (fetchP n M.mem M.T (spaceP M.V.isSome c vm se) c.Pc at_).w, c.Pc, okF⟩⟩
    else doP n { M with T := (fetchP n M.mem M.T (spaceP M.V.isSome c vm se) c.Pc at_).T } c (decI (fetchP n M.mem M.T (spaceP M.V.isSome c vm se) c.Pc at_).w.toNat) (spaceP M.V.isSome c vm se) at_ := by
  unfold stepP
  generalize spaceP M.V.isSome c vm se = s
  unfold fetchP stepF
  by_cases q : c.Pc % 4 ≠ 0 ∨ c.Pc < 0 ∨ 65536 ≤ c.Pc
  · simp only [if_pos q]; rfl
  simp only [if_neg q]
  by_cases k : (reachC n M.mem M.T s c.Pc 4 at_).f.K ≠ 0
  · simp only [if_pos k]; rfl
  simp only [if_neg k]
  generalize loadM M.mem (reachC n M.mem M.T s c.Pc 4 at_).at_.toNat 4 = w
  cases r : rightI (decI w.toNat) with
  | false => simp [okT]
  | true => simp [okT]
end Go.Eng
