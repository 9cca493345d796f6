/-
  viceroylaw09: worlds.
-/
import Derived.Test.YtaijcllgdlalpaaGreatDoorZj10
import Derived.Test.YtaijcllgdlalpaaGreatDoorZj22
import Derived.Test.YtaijcllgdlalpaaGreatDoorZj24
set_option linter.unusedSimpArgs false
set_option linter.unusedVariables false
set_option maxRecDepth 16000
set_option maxHeartbeats 4000000
namespace Go.Eng
open Go Go.Proofs
structure PutP where
  t : Int
  i : Int
  x : Ent
structure WordP where
  a : Int
  w : Int
def PutP.cells (p : PutP) : List Value := [.int .i64 p.t, .int .i64 p.i, .bool p.x.V, .bool p.x.L, .int .i64 p.x.R, .int .i64 p.x.F]
def WordP.cells (p : WordP) : List Value := [.int .i64 p.a, .int .u32 p.w]
/-- A list that is read, in memory that stays. -/
def rdL {α : Type} (enc : α → List Value) (sz : Nat) (h : Heap) (v : Value) (L : List α) : Prop :=
  ∃ sl cap, v = .slice sl L.length cap ∧ ∀ i (hi : i < L.length), ∃ b o, sl = some ⟨b, o, none⟩ ∧ b < h.size ∧ ∀ j, j < sz → hcellO h[b]? (o + (i * sz + j)) = (enc L[i])[j]?
theorem rdL.ext {α : Type} {enc : α → List Value} {sz : Nat} {h h' : Heap} {v : Value} {L : List α} (r : rdL enc sz h v L) (e : Ext h h') : rdL enc sz h' v L := by
  obtain ⟨sl, cap, rfl, g⟩ := r
  refine ⟨sl, cap, rfl, fun i hi => ?_⟩
  obtain ⟨b, o, e1, e2, e3⟩ := g i hi
  exact ⟨b, o, e1, Nat.lt_of_lt_of_le e2 e.size, fun j hj => by rw [e.get b e2]; exact e3 j hj⟩
def putAll (n : Nat) (mem : Nat → Int) : List PutP → Nat → Int
  | [] => mem
  | p :: L => putAll n (putE n mem p.t p.i p.x).1 L
def storeP (n : Nat) (mem : Nat → Int) (a w : Int) : Nat → Int := if accM n a 4 = 0 then putM mem a 4 w else mem
def wordAll (n : Nat) (mem : Nat → Int) : List WordP → Nat → Int
  | [] => mem
  | p :: L => wordAll n (storeP n mem p.a p.w) L
theorem putAll_append (n : Nat) : ∀ (L M : List PutP) (mem : Nat → Int), putAll n mem (L ++ M) = putAll n (putAll n mem L) M
  | [], _, _ => rfl
  | _ :: L, M, _ => putAll_append n L M _
theorem wordAll_append (n : Nat) : ∀ (L M : List WordP) (mem : Nat → Int), wordAll n mem (L ++ M) = wordAll n (wordAll n mem L) M
  | [], _, _ => rfl
  | _ :: L, M, _ => wordAll_append n L M _
def memP (P : List PutP) (W : List WordP) : Nat → Int := wordAll 16 (putAll 16 (fun _ => 0) (P.take 100)) (W.take 300)
def c08 : List Value := (List.replicate 64 [Value.bool false, .bool false, .bool false, .int .i64 0, .int .i64 0, .bool false, .bool false]).flatten ++ [.int .i64 4, .int .i64 256, .int .i64 0, .int .i64 0, .int .i64 0]
section
variable {h : Heap} {F : List SP}
set_option maxRecDepth 100000 in
theorem b08 {h : Heap} : runD Tryz.prog (iBuild 153 #[(1, .int .i64 4), (2, .int .i64 256)]) h = some (.agg c08.toArray) := by kernel_rfl
theorem c08_eq : c08 = rvL (List.replicate 64 ⟨false, false, 0, 0, false, false⟩) 4 256 0 0 0 := by kernel_rfl
theorem rel0 : relV vg0 (List.replicate 64 ⟨false, false, 0, 0, false, false⟩) := by
  refine ⟨List.length_replicate, fun k o hk => ?_, vg0_ok⟩
  obtain ⟨-, rfl⟩ := List.getElem?_eq_some_iff.1 hk
  rw [List.getElem_replicate]
  exact ⟨rfl, rfl, fun _ _ e => (by cases e), fun _ _ e => (by cases e)⟩
theorem r08New_S (hs : Sat h F) : HCalls Tryz.prog 35 #[.int .i64 4] h fun v h' => ∃ a, v = .tuple #[.pointer (some a), .int .i64 0] ∧ Sat h' (rvS (.pointer (some a)) (some vg0) :: F) := by
  refine HCalls.via fun R hR => ?_
  have s1 := hs.push (.cells c08.toArray 153 (0, 0))
  refine HCalls.of_dev T35 Tryz.func35 rfl mixed (by kernel_rfl) ?_; rw [Tryz.results35]
  simp (maxSteps := 2000000) (disch := first | (simp only [go_sem, simprocAttr, b08] <;> omega) | omega) only [go_sem, simprocAttr, b08]
  rw [c08_eq] at s1 ⊢
  exact hR _ _ ⟨_, rfl, rvS_some.2 ⟨_, ⟨_, 4, 0, 0, 0, _⟩, rfl, rel0, s1⟩⟩
def mchS (n rb tb : Nat) (vv : Value) (M : Mch) : SP := starL [ramS rb n M.mem, tlbS tb M.T, vS vv M.V]
theorem hreadO_of {ob : Option Obj} {o n : Nat} {l : List Value} (hl : l.length = n) (hn : 0 < n) (h : ∀ j, j < n → hcellO ob (o + j) = l[j]?) : hreadO ob o n = some l.toArray := by
  have h0 := h (n - 1) (by omega)
  rw [List.getElem?_eq_getElem (by omega)] at h0
  cases ob with
  | none => cases h0
  | some ob =>
    cases ob with
    | cells c e fr =>
      have hle : o + (n - 1) < c.size := (Array.getElem?_eq_some_iff.1 h0).1
      rw [hreadO_arr (by omega)]
      congr 1
      apply Array.ext_getElem?
      intro j
      have el : l.toArray[j]? = l[j]? := List.getElem?_toArray
      rw [Array.getElem?_extract, el]
      split
      · exact h j (by omega)
      · rw [List.getElem?_eq_none (by omega)]
    | _ => cases h0
theorem made_S2 {P : List PutP} {W : List WordP} (hW : ∀ x ∈ W, 0 ≤ x.w ∧ x.w < 4294967296) {v1 v2 : Value} (g : Bool) (vm se : Int) (hp : rdL PutP.cells 6 h v1 P) (hw : rdL WordP.cells 2 h v2 W) :
    HCalls Tryz.prog 8 #[.agg #[v1, v2, .bool g, .int .i64 vm, .int .i64 se]] h fun v h' => ∃ rb tb pv rrb rtb x3, v = .tuple #[.agg #[.pointer (some ⟨rb, 0, none⟩), .pointer (some ⟨tb, 0, none⟩), .pointer pv, .pointer (some ⟨rrb, 0, none⟩), .pointer (some ⟨rtb, 0, none⟩), .pointer x3], .bool true] ∧
      Sat h' [mchS 16 rb tb (.pointer pv) ⟨memP P W, noT, if g then some vg0 else none⟩, refRamS rrb 16 (memP P W), cellAt rtb (.cells (List.replicate 42 (Value.int .i64 0)).toArray 101 (0, 0)), rvS (.pointer x3) (if g then some vg0 else none), oldS h] := by
  refine HCalls.via fun R hR => ?_
  have s0 := ((Sat.init h).push (.cells #[v1, v2, .bool g, .int .i64 vm, .int .i64 se] 25 (0, 0))).push (.cells #[.pointer none, .pointer none, .pointer none, .pointer none, .pointer none, .pointer none] 43 (0, 0))
  simp only [size_push'] at s0
  refine HCalls.of_dev T8 Tryz.func8 rfl mixed (by kernel_rfl) ?_; rw [Tryz.results8]
  simp (maxSteps := 2000000) (disch := first | (simp only [go_sem, simprocAttr] <;> omega) | omega) only [go_sem, simprocAttr]
  refine (ramNew_S s0 16 (by decide) (by decide)).mono ?_
  rintro v h1 ⟨rb, rfl, s1⟩
  simp (maxSteps := 2000000) (disch := first | (simp only [go_sem, simprocAttr] <;> omega) | omega) only [go_sem, simprocAttr]
  refine (refNew_S s1 16 (by decide) (by decide)).mono ?_
  rintro v h2 ⟨rrb, rfl, s2⟩
  simp (maxSteps := 2000000) (disch := first | (simp only [go_sem, simprocAttr] <;> omega) | omega) only [go_sem, simprocAttr]
  refine (tlbNew_S s2).mono ?_
  rintro v h3 ⟨tb, rfl, s3⟩
  obtain ⟨sl, cap, rfl, -⟩ := id hp
  obtain ⟨sl2, cap2, rfl, -⟩ := id hw
  simp (maxSteps := 2000000) (disch := first | (simp only [go_sem, simprocAttr] <;> omega) | omega) only [go_sem, simprocAttr]
  have st := ((s3.front 1).front 2)
  refine loopH.intro (fun i : Nat => (.cons 1 (.pointer (some ⟨h.size, 0, none⟩)) true (.cons 2 (.pointer (some ⟨h.size + 1, 0, none⟩)) true (.cons 4 (.pointer (some ⟨rb, 0, none⟩)) true (.cons 6 (.pointer (some ⟨rrb, 0, none⟩)) true (.cons 8 (.pointer (some ⟨tb, 0, none⟩)) true (.cons 9 (.int .i64 i) true .nil)))))))
    (fun i h' => i ≤ P.length ∧ i ≤ 100 ∧ Sat h' [ramS rb 16 (putAll 16 (fun _ => 0) (P.take i)), refRamS rrb 16 (putAll 16 (fun _ => 0) (P.take i)), tlbS tb noT,
      cellAt (h.size + 1) (.cells #[.pointer none, .pointer none, .pointer none, .pointer none, .pointer none, .pointer none] 43 (0, 0)),
      cellAt h.size (.cells #[.slice sl P.length cap, .slice sl2 W.length cap2, .bool g, .int .i64 vm, .int .i64 se] 25 (0, 0)), oldS h]) (fun i _ => P.length + 1 - i) 0 ?_ ⟨by omega, by omega, st⟩ ?_
  · simp (maxSteps := 2000000) (disch := first | (simp only [go_sem, simprocAttr] <;> omega) | omega) only [go_sem, simprocAttr]; try rfl
  rintro i h4 ⟨hi, hi2, s4⟩
  have gw := (s4.front 4).get
  by_cases q : i < P.length ∧ i < 100
  · obtain ⟨q1, q2⟩ := q
    have q1' : (i : Int) < P.length := by omega
    have q2' : (i : Int) < 100 := by omega
    obtain ⟨sl', cap', ev, gg⟩ := hp
    cases ev
    obtain ⟨b, o, rfl, bl, gx⟩ := gg i q1
    have r0 := gx 0 (by decide)
    have r1 := gx 1 (by decide)
    have r2 : hreadO h[b]? (o + i * 6 + 2) 4 = some (P[i].x.cells).toArray := hreadO_of rfl (by decide) fun j hj => by
      have := gx (2 + j) (by omega)
      rw [show o + i * 6 + 2 + j = o + (i * 6 + (2 + j)) by omega, this]
      match j, hj with
      | 0, _ => rfl
      | 1, _ => rfl
      | 2, _ => rfl
      | 3, _ => rfl
    simp only [PutP.cells, Nat.add_zero, List.getElem?_cons_zero, List.getElem?_cons_succ] at r0 r1
    rw [← Nat.add_assoc] at r1
    simp only [Ent.cells_eq] at r2
    have e4 := (s4.front 5).ext.get b bl
    have g0 := r0
    have g1 := r1
    have g2 := r2
    rw [← e4] at g0 g1 g2
    simp (maxSteps := 2000000) (disch := first | (simp only [go_sem, simprocAttr, gw, q1', q2', g0, g1, ↓g2] <;> omega) | omega) only [go_sem, simprocAttr, gw, q1', q2', g0, g1, ↓g2]
    refine (ptePut_S s4 P[i].t P[i].i P[i].x).mono ?_
    rintro v h5 ⟨rfl, s5⟩
    have gw5 := (s5.front 4).get
    have e5 := (s5.front 5).ext.get b bl
    have k0 := r0
    have k1 := r1
    have k2 := r2
    rw [← e5] at k0 k1 k2
    simp (maxSteps := 2000000) (disch := first | (simp only [go_sem, simprocAttr, gw5, q1', q2', k0, k1, ↓k2] <;> omega) | omega) only [go_sem, simprocAttr, gw5, q1', q2', k0, k1, ↓k2]
    refine (rptPut_S s5.swap P[i].t P[i].i P[i].x).mono ?_
    rintro v h6 ⟨rfl, s6⟩
    simp (maxSteps := 2000000) (disch := first | (simp only [go_sem, simprocAttr] <;> omega) | omega) only [go_sem, simprocAttr]
    have et : P.take (i + 1) = P.take i ++ [P[i]] := List.take_succ_eq_append_getElem q1
    refine ⟨i + 1, rfl, ⟨by omega, by omega, ?_⟩, by simp only; omega⟩
    rw [et, putAll_append]
    exact s6.swap
  · have q3 : P.take i = P.take 100 := by
      by_cases z : i < 100
      · rw [List.take_of_length_le (by omega), List.take_of_length_le (by omega)]
      · rw [show i = 100 by omega]
    rw [q3] at s4
    by_cases z : i < P.length
    · have z1 : (i : Int) < P.length := by omega
      have z2 : ¬ (i : Int) < 100 := by omega
      simp (maxSteps := 2000000) (disch := first | (simp only [go_sem, simprocAttr, gw, z1, z2] <;> omega) | omega) only [go_sem, simprocAttr, gw, z1, z2]
      refine loopH.intro (fun i : Nat => (.cons 1 (.pointer (some ⟨h.size, 0, none⟩)) true (.cons 2 (.pointer (some ⟨h.size + 1, 0, none⟩)) true (.cons 4 (.pointer (some ⟨rb, 0, none⟩)) true (.cons 6 (.pointer (some ⟨rrb, 0, none⟩)) true (.cons 8 (.pointer (some ⟨tb, 0, none⟩)) true (.cons 10 (.int .i64 i) true .nil)))))))
        (fun i h' => i ≤ W.length ∧ i ≤ 300 ∧ Sat h' [ramS rb 16 (wordAll 16 (putAll 16 (fun _ => 0) (P.take 100)) (W.take i)), refRamS rrb 16 (wordAll 16 (putAll 16 (fun _ => 0) (P.take 100)) (W.take i)), tlbS tb noT,
          cellAt (h.size + 1) (.cells #[.pointer none, .pointer none, .pointer none, .pointer none, .pointer none, .pointer none] 43 (0, 0)),
          cellAt h.size (.cells #[.slice sl P.length cap, .slice sl2 W.length cap2, .bool g, .int .i64 vm, .int .i64 se] 25 (0, 0)), oldS h]) (fun i _ => W.length + 1 - i) 0 ?_ ⟨by omega, by omega, s4⟩ ?_
      · simp (maxSteps := 2000000) (disch := first | (simp only [go_sem, simprocAttr] <;> omega) | omega) only [go_sem, simprocAttr]; try rfl
      clear s4 gw q3 q hi hi2
      rintro i h4 ⟨hi, hi2, s4⟩
      have gw := (s4.front 4).get
      by_cases q : i < W.length ∧ i < 300
      · obtain ⟨q1, q2⟩ := q
        have q1' : (i : Int) < W.length := by omega
        have q2' : (i : Int) < 300 := by omega
        obtain ⟨sl', cap', ev, gg⟩ := hw
        cases ev
        obtain ⟨b, o, rfl, bl, gx⟩ := gg i q1
        have r0 := gx 0 (by decide)
        have r1 := gx 1 (by decide)
        simp only [WordP.cells, Nat.add_zero, List.getElem?_cons_zero, List.getElem?_cons_succ] at r0 r1
        rw [← Nat.add_assoc] at r1
        have hww := hW W[i] (List.getElem_mem _)
        have e4 := (s4.front 5).ext.get b bl
        have g0 := r0
        have g1 := r1
        rw [← e4] at g0 g1
        simp (maxSteps := 2000000) (disch := first | (simp only [go_sem, simprocAttr, gw, q1', q2', g0, g1] <;> omega) | omega) only [go_sem, simprocAttr, gw, q1', q2', g0, g1]
        refine (store_S s4 W[i].a 4 W[i].w (by omega) hww).mono ?_
        rintro v h5 ⟨rfl, s5⟩
        have gw5 := (s5.front 4).get
        have e5 := (s5.front 5).ext.get b bl
        have k0 := r0
        have k1 := r1
        rw [← e5] at k0 k1
        simp (maxSteps := 2000000) (disch := first | (simp only [go_sem, simprocAttr, gw5, q1', q2', k0, k1] <;> omega) | omega) only [go_sem, simprocAttr, gw5, q1', q2', k0, k1]
        refine (refStore_S s5.swap W[i].a 4 W[i].w hww).mono ?_
        rintro v h6 ⟨rfl, s6⟩
        simp (maxSteps := 2000000) (disch := first | (simp only [go_sem, simprocAttr] <;> omega) | omega) only [go_sem, simprocAttr]
        have et : W.take (i + 1) = W.take i ++ [W[i]] := List.take_succ_eq_append_getElem q1
        refine ⟨i + 1, rfl, ⟨by omega, by omega, ?_⟩, by simp only; omega⟩
        rw [et, wordAll_append]
        exact s6.swap
      · have q3 : W.take i = W.take 300 := by
          by_cases z : i < 300
          · rw [List.take_of_length_le (by omega), List.take_of_length_le (by omega)]
          · rw [show i = 300 by omega]
        rw [q3] at s4
        by_cases z : i < W.length
        · have z1 : (i : Int) < W.length := by omega
          have z2 : ¬ (i : Int) < 300 := by omega
          simp (maxSteps := 2000000) (disch := first | (simp only [go_sem, simprocAttr, gw, z1, z2] <;> omega) | omega) only [go_sem, simprocAttr, gw, z1, z2]
          have s5 := (s4.push (.cells (List.replicate 42 (Value.int .i64 0)).toArray 101 (0, 0))).push (.cells #[.pointer (some ⟨rb, 0, none⟩), .pointer (some ⟨tb, 0, none⟩), .pointer none, .pointer (some ⟨rrb, 0, none⟩), .pointer (some ⟨h4.size, 0, none⟩), .pointer none] 43 (0, 0))
          simp only [size_push', List.replicate] at s5
          have gw6 := (s5.front 6).get
          cases g with
          | false =>
            have s6 := (s5.front 5).set (.cells #[.pointer (some ⟨rb, 0, none⟩), .pointer (some ⟨tb, 0, none⟩), .pointer none, .pointer (some ⟨rrb, 0, none⟩), .pointer (some ⟨h4.size, 0, none⟩), .pointer none] 43 (0, 0))
            simp (maxSteps := 2000000) (disch := first | (simp only [go_sem, simprocAttr, gw6, s5.get, (s5.front 5).get, s6.get] <;> omega) | omega) only [go_sem, simprocAttr, gw6, s5.get, (s5.front 5).get, s6.get]
            refine hR _ _ ⟨rb, tb, _, rrb, h4.size, _, rfl, Sat.star.2 ?_⟩
            have y := s6.re [3, 5, 4, 2, 7]
            exact (vS_none.2 ⟨rfl, (rvS_none.2 ⟨rfl, y⟩).back 4⟩).back 2
          | true =>
            simp (maxSteps := 2000000) (disch := first | (simp only [go_sem, simprocAttr, gw6] <;> omega) | omega) only [go_sem, simprocAttr, gw6]
            refine (vNew_S s5).mono ?_
            rintro v h7 ⟨vv, rfl, ⟨av, rfl⟩, s7⟩
            simp (maxSteps := 2000000) (disch := first | (simp only [go_sem, simprocAttr] <;> omega) | omega) only [go_sem, simprocAttr]
            refine (r08New_S s7).mono ?_
            rintro v h8 ⟨a8, rfl, s8⟩
            replace s8 := s8.back 9
            have s9 := (s8.front 1).set (.cells #[.pointer (some ⟨rb, 0, none⟩), .pointer (some ⟨tb, 0, none⟩), .pointer (some av), .pointer (some ⟨rrb, 0, none⟩), .pointer (some ⟨h4.size, 0, none⟩), .pointer none] 43 (0, 0))
            have s10 := s9.set (.cells #[.pointer (some ⟨rb, 0, none⟩), .pointer (some ⟨tb, 0, none⟩), .pointer (some av), .pointer (some ⟨rrb, 0, none⟩), .pointer (some ⟨h4.size, 0, none⟩), .pointer (some a8)] 43 (0, 0))
            have s11 := (s10.front 6).set (.cells #[.pointer (some ⟨rb, 0, none⟩), .pointer (some ⟨tb, 0, none⟩), .pointer (some av), .pointer (some ⟨rrb, 0, none⟩), .pointer (some ⟨h4.size, 0, none⟩), .pointer (some a8)] 43 (0, 0))
            simp (maxSteps := 2000000) (disch := first | (simp only [go_sem, simprocAttr, (s8.front 1).get, s9.get, s10.get, (s10.front 6).get, s11.get] <;> omega) | omega) only [go_sem, simprocAttr, (s8.front 1).get, s9.get, s10.get, (s10.front 6).get, s11.get]
            refine hR _ _ ⟨rb, tb, _, rrb, h4.size, _, rfl, Sat.star.2 ?_⟩
            exact s11.re [4, 6, 2, 5, 3, 9, 8]
        · have z1 : ¬ (i : Int) < W.length := by omega
          simp (maxSteps := 2000000) (disch := first | (simp only [go_sem, simprocAttr, gw, z1] <;> omega) | omega) only [go_sem, simprocAttr, gw, z1]
          have s5 := (s4.push (.cells (List.replicate 42 (Value.int .i64 0)).toArray 101 (0, 0))).push (.cells #[.pointer (some ⟨rb, 0, none⟩), .pointer (some ⟨tb, 0, none⟩), .pointer none, .pointer (some ⟨rrb, 0, none⟩), .pointer (some ⟨h4.size, 0, none⟩), .pointer none] 43 (0, 0))
          simp only [size_push', List.replicate] at s5
          have gw6 := (s5.front 6).get
          cases g with
          | false =>
            have s6 := (s5.front 5).set (.cells #[.pointer (some ⟨rb, 0, none⟩), .pointer (some ⟨tb, 0, none⟩), .pointer none, .pointer (some ⟨rrb, 0, none⟩), .pointer (some ⟨h4.size, 0, none⟩), .pointer none] 43 (0, 0))
            simp (maxSteps := 2000000) (disch := first | (simp only [go_sem, simprocAttr, gw6, s5.get, (s5.front 5).get, s6.get] <;> omega) | omega) only [go_sem, simprocAttr, gw6, s5.get, (s5.front 5).get, s6.get]
            refine hR _ _ ⟨rb, tb, _, rrb, h4.size, _, rfl, Sat.star.2 ?_⟩
            have y := s6.re [3, 5, 4, 2, 7]
            exact (vS_none.2 ⟨rfl, (rvS_none.2 ⟨rfl, y⟩).back 4⟩).back 2
          | true =>
            simp (maxSteps := 2000000) (disch := first | (simp only [go_sem, simprocAttr, gw6] <;> omega) | omega) only [go_sem, simprocAttr, gw6]
            refine (vNew_S s5).mono ?_
            rintro v h7 ⟨vv, rfl, ⟨av, rfl⟩, s7⟩
            simp (maxSteps := 2000000) (disch := first | (simp only [go_sem, simprocAttr] <;> omega) | omega) only [go_sem, simprocAttr]
            refine (r08New_S s7).mono ?_
            rintro v h8 ⟨a8, rfl, s8⟩
            replace s8 := s8.back 9
            have s9 := (s8.front 1).set (.cells #[.pointer (some ⟨rb, 0, none⟩), .pointer (some ⟨tb, 0, none⟩), .pointer (some av), .pointer (some ⟨rrb, 0, none⟩), .pointer (some ⟨h4.size, 0, none⟩), .pointer none] 43 (0, 0))
            have s10 := s9.set (.cells #[.pointer (some ⟨rb, 0, none⟩), .pointer (some ⟨tb, 0, none⟩), .pointer (some av), .pointer (some ⟨rrb, 0, none⟩), .pointer (some ⟨h4.size, 0, none⟩), .pointer (some a8)] 43 (0, 0))
            have s11 := (s10.front 6).set (.cells #[.pointer (some ⟨rb, 0, none⟩), .pointer (some ⟨tb, 0, none⟩), .pointer (some av), .pointer (some ⟨rrb, 0, none⟩), .pointer (some ⟨h4.size, 0, none⟩), .pointer (some a8)] 43 (0, 0))
            simp (maxSteps := 2000000) (disch := first | (simp only [go_sem, simprocAttr, (s8.front 1).get, s9.get, s10.get, (s10.front 6).get, s11.get] <;> omega) | omega) only [go_sem, simprocAttr, (s8.front 1).get, s9.get, s10.get, (s10.front 6).get, s11.get]
            refine hR _ _ ⟨rb, tb, _, rrb, h4.size, _, rfl, Sat.star.2 ?_⟩
            exact s11.re [4, 6, 2, 5, 3, 9, 8]
    · have z1 : ¬ (i : Int) < P.length := by omega
      simp (maxSteps := 2000000) (disch := first | (simp only [go_sem, simprocAttr, gw, z1] <;> omega) | omega) only [go_sem, simprocAttr, gw, z1]
      refine loopH.intro (fun i : Nat => (.cons 1 (.pointer (some ⟨h.size, 0, none⟩)) true (.cons 2 (.pointer (some ⟨h.size + 1, 0, none⟩)) true (.cons 4 (.pointer (some ⟨rb, 0, none⟩)) true (.cons 6 (.pointer (some ⟨rrb, 0, none⟩)) true (.cons 8 (.pointer (some ⟨tb, 0, none⟩)) true (.cons 10 (.int .i64 i) true .nil)))))))
        (fun i h' => i ≤ W.length ∧ i ≤ 300 ∧ Sat h' [ramS rb 16 (wordAll 16 (putAll 16 (fun _ => 0) (P.take 100)) (W.take i)), refRamS rrb 16 (wordAll 16 (putAll 16 (fun _ => 0) (P.take 100)) (W.take i)), tlbS tb noT,
          cellAt (h.size + 1) (.cells #[.pointer none, .pointer none, .pointer none, .pointer none, .pointer none, .pointer none] 43 (0, 0)),
          cellAt h.size (.cells #[.slice sl P.length cap, .slice sl2 W.length cap2, .bool g, .int .i64 vm, .int .i64 se] 25 (0, 0)), oldS h]) (fun i _ => W.length + 1 - i) 0 ?_ ⟨by omega, by omega, s4⟩ ?_
      · simp (maxSteps := 2000000) (disch := first | (simp only [go_sem, simprocAttr] <;> omega) | omega) only [go_sem, simprocAttr]; try rfl
      clear s4 gw q3 q hi hi2
      rintro i h4 ⟨hi, hi2, s4⟩
      have gw := (s4.front 4).get
      by_cases q : i < W.length ∧ i < 300
      · obtain ⟨q1, q2⟩ := q
        have q1' : (i : Int) < W.length := by omega
        have q2' : (i : Int) < 300 := by omega
        obtain ⟨sl', cap', ev, gg⟩ := hw
        cases ev
        obtain ⟨b, o, rfl, bl, gx⟩ := gg i q1
        have r0 := gx 0 (by decide)
        have r1 := gx 1 (by decide)
        simp only [WordP.cells, Nat.add_zero, List.getElem?_cons_zero, List.getElem?_cons_succ] at r0 r1
        rw [← Nat.add_assoc] at r1
        have hww := hW W[i] (List.getElem_mem _)
        have e4 := (s4.front 5).ext.get b bl
        have g0 := r0
        have g1 := r1
        rw [← e4] at g0 g1
        simp (maxSteps := 2000000) (disch := first | (simp only [go_sem, simprocAttr, gw, q1', q2', g0, g1] <;> omega) | omega) only [go_sem, simprocAttr, gw, q1', q2', g0, g1]
        refine (store_S s4 W[i].a 4 W[i].w (by omega) hww).mono ?_
        rintro v h5 ⟨rfl, s5⟩
        have gw5 := (s5.front 4).get
        have e5 := (s5.front 5).ext.get b bl
        have k0 := r0
        have k1 := r1
        rw [← e5] at k0 k1
        simp (maxSteps := 2000000) (disch := first | (simp only [go_sem, simprocAttr, gw5, q1', q2', k0, k1] <;> omega) | omega) only [go_sem, simprocAttr, gw5, q1', q2', k0, k1]
        refine (refStore_S s5.swap W[i].a 4 W[i].w hww).mono ?_
        rintro v h6 ⟨rfl, s6⟩
        simp (maxSteps := 2000000) (disch := first | (simp only [go_sem, simprocAttr] <;> omega) | omega) only [go_sem, simprocAttr]
        have et : W.take (i + 1) = W.take i ++ [W[i]] := List.take_succ_eq_append_getElem q1
        refine ⟨i + 1, rfl, ⟨by omega, by omega, ?_⟩, by simp only; omega⟩
        rw [et, wordAll_append]
        exact s6.swap
      · have q3 : W.take i = W.take 300 := by
          by_cases z : i < 300
          · rw [List.take_of_length_le (by omega), List.take_of_length_le (by omega)]
          · rw [show i = 300 by omega]
        rw [q3] at s4
        by_cases z : i < W.length
        · have z1 : (i : Int) < W.length := by omega
          have z2 : ¬ (i : Int) < 300 := by omega
          simp (maxSteps := 2000000) (disch := first | (simp only [go_sem, simprocAttr, gw, z1, z2] <;> omega) | omega) only [go_sem, simprocAttr, gw, z1, z2]
          have s5 := (s4.push (.cells (List.replicate 42 (Value.int .i64 0)).toArray 101 (0, 0))).push (.cells #[.pointer (some ⟨rb, 0, none⟩), .pointer (some ⟨tb, 0, none⟩), .pointer none, .pointer (some ⟨rrb, 0, none⟩), .pointer (some ⟨h4.size, 0, none⟩), .pointer none] 43 (0, 0))
          simp only [size_push', List.replicate] at s5
          have gw6 := (s5.front 6).get
          cases g with
          | false =>
            have s6 := (s5.front 5).set (.cells #[.pointer (some ⟨rb, 0, none⟩), .pointer (some ⟨tb, 0, none⟩), .pointer none, .pointer (some ⟨rrb, 0, none⟩), .pointer (some ⟨h4.size, 0, none⟩), .pointer none] 43 (0, 0))
            simp (maxSteps := 2000000) (disch := first | (simp only [go_sem, simprocAttr, gw6, s5.get, (s5.front 5).get, s6.get] <;> omega) | omega) only [go_sem, simprocAttr, gw6, s5.get, (s5.front 5).get, s6.get]
            refine hR _ _ ⟨rb, tb, _, rrb, h4.size, _, rfl, Sat.star.2 ?_⟩
            have y := s6.re [3, 5, 4, 2, 7]
            exact (vS_none.2 ⟨rfl, (rvS_none.2 ⟨rfl, y⟩).back 4⟩).back 2
          | true =>
            simp (maxSteps := 2000000) (disch := first | (simp only [go_sem, simprocAttr, gw6] <;> omega) | omega) only [go_sem, simprocAttr, gw6]
            refine (vNew_S s5).mono ?_
            rintro v h7 ⟨vv, rfl, ⟨av, rfl⟩, s7⟩
            simp (maxSteps := 2000000) (disch := first | (simp only [go_sem, simprocAttr] <;> omega) | omega) only [go_sem, simprocAttr]
            refine (r08New_S s7).mono ?_
            rintro v h8 ⟨a8, rfl, s8⟩
            replace s8 := s8.back 9
            have s9 := (s8.front 1).set (.cells #[.pointer (some ⟨rb, 0, none⟩), .pointer (some ⟨tb, 0, none⟩), .pointer (some av), .pointer (some ⟨rrb, 0, none⟩), .pointer (some ⟨h4.size, 0, none⟩), .pointer none] 43 (0, 0))
            have s10 := s9.set (.cells #[.pointer (some ⟨rb, 0, none⟩), .pointer (some ⟨tb, 0, none⟩), .pointer (some av), .pointer (some ⟨rrb, 0, none⟩), .pointer (some ⟨h4.size, 0, none⟩), .pointer (some a8)] 43 (0, 0))
            have s11 := (s10.front 6).set (.cells #[.pointer (some ⟨rb, 0, none⟩), .pointer (some ⟨tb, 0, none⟩), .pointer (some av), .pointer (some ⟨rrb, 0, none⟩), .pointer (some ⟨h4.size, 0, none⟩), .pointer (some a8)] 43 (0, 0))
            simp (maxSteps := 2000000) (disch := first | (simp only [go_sem, simprocAttr, (s8.front 1).get, s9.get, s10.get, (s10.front 6).get, s11.get] <;> omega) | omega) only [go_sem, simprocAttr, (s8.front 1).get, s9.get, s10.get, (s10.front 6).get, s11.get]
            refine hR _ _ ⟨rb, tb, _, rrb, h4.size, _, rfl, Sat.star.2 ?_⟩
            exact s11.re [4, 6, 2, 5, 3, 9, 8]
        · have z1 : ¬ (i : Int) < W.length := by omega
          simp (maxSteps := 2000000) (disch := first | (simp only [go_sem, simprocAttr, gw, z1] <;> omega) | omega) only [go_sem, simprocAttr, gw, z1]
          have s5 := (s4.push (.cells (List.replicate 42 (Value.int .i64 0)).toArray 101 (0, 0))).push (.cells #[.pointer (some ⟨rb, 0, none⟩), .pointer (some ⟨tb, 0, none⟩), .pointer none, .pointer (some ⟨rrb, 0, none⟩), .pointer (some ⟨h4.size, 0, none⟩), .pointer none] 43 (0, 0))
          simp only [size_push', List.replicate] at s5
          have gw6 := (s5.front 6).get
          cases g with
          | false =>
            have s6 := (s5.front 5).set (.cells #[.pointer (some ⟨rb, 0, none⟩), .pointer (some ⟨tb, 0, none⟩), .pointer none, .pointer (some ⟨rrb, 0, none⟩), .pointer (some ⟨h4.size, 0, none⟩), .pointer none] 43 (0, 0))
            simp (maxSteps := 2000000) (disch := first | (simp only [go_sem, simprocAttr, gw6, s5.get, (s5.front 5).get, s6.get] <;> omega) | omega) only [go_sem, simprocAttr, gw6, s5.get, (s5.front 5).get, s6.get]
            refine hR _ _ ⟨rb, tb, _, rrb, h4.size, _, rfl, Sat.star.2 ?_⟩
            have y := s6.re [3, 5, 4, 2, 7]
            exact (vS_none.2 ⟨rfl, (rvS_none.2 ⟨rfl, y⟩).back 4⟩).back 2
          | true =>
            simp (maxSteps := 2000000) (disch := first | (simp only [go_sem, simprocAttr, gw6] <;> omega) | omega) only [go_sem, simprocAttr, gw6]
            refine (vNew_S s5).mono ?_
            rintro v h7 ⟨vv, rfl, ⟨av, rfl⟩, s7⟩
            simp (maxSteps := 2000000) (disch := first | (simp only [go_sem, simprocAttr] <;> omega) | omega) only [go_sem, simprocAttr]
            refine (r08New_S s7).mono ?_
            rintro v h8 ⟨a8, rfl, s8⟩
            replace s8 := s8.back 9
            have s9 := (s8.front 1).set (.cells #[.pointer (some ⟨rb, 0, none⟩), .pointer (some ⟨tb, 0, none⟩), .pointer (some av), .pointer (some ⟨rrb, 0, none⟩), .pointer (some ⟨h4.size, 0, none⟩), .pointer none] 43 (0, 0))
            have s10 := s9.set (.cells #[.pointer (some ⟨rb, 0, none⟩), .pointer (some ⟨tb, 0, none⟩), .pointer (some av), .pointer (some ⟨rrb, 0, none⟩), .pointer (some ⟨h4.size, 0, none⟩), .pointer (some a8)] 43 (0, 0))
            have s11 := (s10.front 6).set (.cells #[.pointer (some ⟨rb, 0, none⟩), .pointer (some ⟨tb, 0, none⟩), .pointer (some av), .pointer (some ⟨rrb, 0, none⟩), .pointer (some ⟨h4.size, 0, none⟩), .pointer (some a8)] 43 (0, 0))
            simp (maxSteps := 2000000) (disch := first | (simp only [go_sem, simprocAttr, (s8.front 1).get, s9.get, s10.get, (s10.front 6).get, s11.get] <;> omega) | omega) only [go_sem, simprocAttr, (s8.front 1).get, s9.get, s10.get, (s10.front 6).get, s11.get]
            refine hR _ _ ⟨rb, tb, _, rrb, h4.size, _, rfl, Sat.star.2 ?_⟩
            exact s11.re [4, 6, 2, 5, 3, 9, 8]
theorem made_S {P : List PutP} {W : List WordP} (hW : ∀ x ∈ W, 0 ≤ x.w ∧ x.w < 4294967296) {v1 v2 : Value} (g : Bool) (vm se : Int) (hp : rdL PutP.cells 6 h v1 P) (hw : rdL WordP.cells 2 h v2 W) :
    HCalls Tryz.prog 8 #[.agg #[v1, v2, .bool g, .int .i64 vm, .int .i64 se]] h fun v h' => ∃ rb tb pv x1 x2 x3, v = .tuple #[.agg #[.pointer (some ⟨rb, 0, none⟩), .pointer (some ⟨tb, 0, none⟩), .pointer pv, .pointer x1, .pointer x2, .pointer x3], .bool true] ∧
      Sat h' [mchS 16 rb tb (.pointer pv) ⟨memP P W, noT, if g then some vg0 else none⟩, oldS h] := by
  refine (made_S2 hW g vm se hp hw).mono ?_
  rintro v h' ⟨rb, tb, pv, rrb, rtb, x3, e, s⟩
  exact ⟨rb, tb, pv, _, _, x3, e, s.drop1.drop1.drop1⟩
end
end Go.Eng
