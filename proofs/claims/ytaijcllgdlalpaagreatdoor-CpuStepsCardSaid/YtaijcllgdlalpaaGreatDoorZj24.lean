/-
  viceroyref08: a guest's interrupts in memory; Running, SetMask.
-/
import Derived.Test.YtaijcllgdlalpaaGreatDoorZj22
set_option linter.unusedSimpArgs false
set_option linter.unusedVariables false
set_option maxRecDepth 16000
set_option maxHeartbeats 4000000
namespace Go.Eng
open Go Go.Proofs
structure One where
  Pe : Bool
  Ac : Bool
  P : Int
  A : Int
  L : Bool
  Fl : Bool
def One.cells (o : One) : List Value := [.bool false, .bool o.Pe, .bool o.Ac, .int .i64 o.P, .int .i64 o.A, .bool o.L, .bool o.Fl]
theorem One.cells_eq {o : One} : o.cells = [.bool false, .bool o.Pe, .bool o.Ac, .int .i64 o.P, .int .i64 o.A, .bool o.L, .bool o.Fl] := rfl
attribute [go_sem] One.cells_eq
theorem One.cells_len (o : One) : o.cells.length = 7 := rfl
/-- What one says. -/
structure relO (V : Vg) (k : Int) (o : One) : Prop where
  pe : o.Pe = (V.P k).isSome
  ac : o.Ac = (V.A k).isSome
  p : ∀ p l, V.P k = some (p, l) → o.P = p ∧ o.L = l
  a : ∀ a l, V.A k = some (a, l) → o.A = a ∧ o.Fl = l
structure relV (V : Vg) (D : List One) : Prop where
  len : D.length = 64
  one : ∀ (k : Nat) (o : One), D[k]? = some o → relO V k o
  ok : V.ok
def rvL (D : List One) (lr m a b c : Int) : List Value := D.flatMap One.cells ++ [.int .i64 lr, .int .i64 m, .int .i64 a, .int .i64 b, .int .i64 c]
structure Rx where
  D : List One
  lr : Int
  a : Int
  b : Int
  c : Int
  ty : TypeId
/-- The document's. -/
def rvgS (wb : Nat) (V : Vg) : SP := exS fun x : Rx => starL [pureS (relV V x.D), cellAt wb (.cells (rvL x.D x.lr V.mask x.a x.b x.c).toArray x.ty (0, 0))]
def rvS (wv : Value) (V : Option Vg) : SP := match V with
  | none => pureS (wv = .pointer none)
  | some m => exS fun wb : Nat => starL [pureS (wv = .pointer (some ⟨wb, 0, none⟩)), rvgS wb m]
theorem rvS_some {h : Heap} {F : List SP} {wv : Value} {V : Vg} : Sat h (rvS wv (some V) :: F) ↔ ∃ (wb : Nat) (x : Rx), wv = .pointer (some ⟨wb, 0, none⟩) ∧ relV V x.D ∧ Sat h (cellAt wb (.cells (rvL x.D x.lr V.mask x.a x.b x.c).toArray x.ty (0, 0)) :: F) := by
  unfold rvS
  try simp only
  rw [Sat.ex]
  constructor
  · rintro ⟨wb, hx⟩
    obtain ⟨p, q⟩ := Sat.pure.1 (Sat.star.1 hx)
    unfold rvgS at q
    obtain ⟨x, q⟩ := Sat.ex.1 (show Sat h ((exS fun x : Rx => starL [pureS (relV V x.D), cellAt wb (.cells (rvL x.D x.lr V.mask x.a x.b x.c).toArray x.ty (0, 0))]) :: F) from q)
    obtain ⟨p2, q⟩ := Sat.pure.1 (Sat.star.1 q)
    exact ⟨wb, x, p, p2, q⟩
  · rintro ⟨wb, x, p, p2, q⟩
    refine ⟨wb, Sat.star.2 (Sat.pure.2 ⟨p, ?_⟩)⟩
    unfold rvgS
    exact Sat.ex.2 ⟨x, Sat.star.2 (Sat.pure.2 ⟨p2, q⟩)⟩
theorem rvS_none {h : Heap} {F : List SP} {wv : Value} : Sat h (rvS wv none :: F) ↔ wv = .pointer none ∧ Sat h F := Sat.pure
theorem rvL_at {D : List One} {lr m a b c : Int} {ty : TypeId} {k j : Nat} {o : One} (hk : D[k]? = some o) (hj : j < 7) : hcellO (some (Obj.cells (rvL D lr m a b c).toArray ty (0, 0))) (k * 7 + j) = o.cells[j]? := by
  obtain ⟨h1, -⟩ := List.getElem?_eq_some_iff.1 hk
  have h2 : (k + 1) * 7 ≤ D.length * 7 := Nat.mul_le_mul_right _ h1
  rw [hcellO_arr, List.getElem?_toArray]
  unfold rvL
  rw [List.getElem?_append_left (by rw [flat_len One.cells_len]; omega), flat_get One.cells_len _ _ _ hj, hk]
  rfl
theorem rvL_read {D : List One} {lr m a b c : Int} {ty : TypeId} {k : Nat} {o : One} (hk : D[k]? = some o) : hreadO (some (Obj.cells (rvL D lr m a b c).toArray ty (0, 0))) (k * 7) 7 = some o.cells.toArray := by
  obtain ⟨h1, -⟩ := List.getElem?_eq_some_iff.1 hk
  have h2 : (k + 1) * 7 ≤ D.length * 7 := Nat.mul_le_mul_right _ h1
  have hl : (rvL D lr m a b c).length = D.length * 7 + 5 := by unfold rvL; rw [List.length_append, flat_len One.cells_len]; rfl
  rw [hreadO_arr (by rw [List.size_toArray, hl]; omega)]
  congr 1
  apply Array.ext_getElem?
  intro j
  rw [Array.getElem?_extract, List.getElem?_toArray, List.size_toArray, hl, List.getElem?_toArray]
  by_cases hj : j < 7
  · rw [if_pos (by omega)]
    have := rvL_at (lr := lr) (m := m) (a := a) (b := b) (c := c) (ty := ty) hk hj
    rw [hcellO_arr, List.getElem?_toArray] at this
    exact this
  · rw [if_neg (by omega), List.getElem?_eq_none (by rw [One.cells_len]; omega)]
theorem rvL_len (D : List One) (lr m a b c : Int) (hD : D.length = 64) : (rvL D lr m a b c).length = 453 := by
  unfold rvL; rw [List.length_append, flat_len One.cells_len, hD]; rfl
theorem rvL_tail {D : List One} {lr m a b c : Int} (hD : D.length = 64) (j : Nat) : (rvL D lr m a b c)[448 + j]? = [Value.int .i64 lr, .int .i64 m, .int .i64 a, .int .i64 b, .int .i64 c][j]? := by
  unfold rvL
  rw [List.getElem?_append_right (by rw [flat_len One.cells_len, hD]; omega), flat_len One.cells_len, hD]
  congr 1
  omega
theorem rvL_set {D : List One} {lr m a b c : Int} {k j : Nat} {o o' : One} {v : Value} (hk : D[k]? = some o) (hj : j < 7) (ho : o.cells.set j v = o'.cells) : (rvL D lr m a b c).set (k * 7 + j) v = rvL (D.set k o') lr m a b c := by
  obtain ⟨h1, -⟩ := List.getElem?_eq_some_iff.1 hk
  have h2 : (k + 1) * 7 ≤ D.length * 7 := Nat.mul_le_mul_right _ h1
  unfold rvL
  rw [List.set_append_left _ _ (by rw [flat_len One.cells_len]; omega)]
  congr 1
  apply List.ext_getElem?
  intro i
  by_cases hi : i < D.length * 7
  · have ei : i / 7 * 7 + i % 7 = i := by omega
    have e1 := flat_get One.cells_len (D.set k o') (i / 7) (i % 7) (by omega)
    have e2 := flat_get One.cells_len D (i / 7) (i % 7) (by omega)
    rw [ei] at e1 e2
    rw [List.getElem?_set, e1, List.getElem?_set, e2]
    by_cases q : k = i / 7
    · rw [if_pos q, if_pos h1]
      simp only [Option.bind_some]
      rw [← q, hk]
      simp only [Option.bind_some]
      rw [← ho, List.getElem?_set]
      by_cases r : j = i % 7
      · rw [if_pos (by omega), if_pos r, if_pos (by rw [flat_len One.cells_len]; omega), if_pos (by rw [One.cells_len]; omega)]
      · rw [if_neg (by omega), if_neg r]
    · rw [if_neg q, if_neg (by omega)]
  · rw [List.getElem?_eq_none (by rw [List.length_set, flat_len One.cells_len]; omega), List.getElem?_eq_none (by rw [flat_len One.cells_len, List.length_set]; omega)]
theorem rvL_mask {D : List One} {lr m a b c k : Int} (hD : D.length = 64) : (rvL D lr m a b c).set 449 (.int .i64 k) = rvL D lr k a b c := by
  unfold rvL
  rw [List.set_append_right _ _ (by rw [flat_len One.cells_len, hD]; omega), flat_len One.cells_len, hD]
  rfl
theorem rvL_acked {D : List One} {lr m a b c k : Int} (hD : D.length = 64) : (rvL D lr m a b c).set 451 (.int .i64 k) = rvL D lr m a k c := by
  unfold rvL
  rw [List.set_append_right _ _ (by rw [flat_len One.cells_len, hD]; omega), flat_len One.cells_len, hD]
  rfl
theorem rvL_inj {D : List One} {lr m a b c k : Int} (hD : D.length = 64) : (rvL D lr m a b c).set 450 (.int .i64 k) = rvL D lr m k b c := by
  unfold rvL
  rw [List.set_append_right _ _ (by rw [flat_len One.cells_len, hD]; omega), flat_len One.cells_len, hD]
  rfl
theorem rvL_ended {D : List One} {lr m a b c k : Int} (hD : D.length = 64) : (rvL D lr m a b c).set 452 (.int .i64 k) = rvL D lr m a b k := by
  unfold rvL
  rw [List.set_append_right _ _ (by rw [flat_len One.cells_len, hD]; omega), flat_len One.cells_len, hD]
  rfl
section
variable {h : Heap} {F : List SP} {wv : Value} {V : Vg}
theorem rrunning_S (hs : Sat h (rvS wv (some V) :: F)) : HCalls Tryz.prog 137 #[wv] h fun v h' => v = .int .i64 (runV V 64) ∧ h' = h := by
  refine HCalls.via fun R hR => ?_
  obtain ⟨wb, x, rfl, rel, s⟩ := rvS_some.1 hs
  have g := s.get
  refine HCalls.of_dev T137 Tryz.func137 rfl mixed (by kernel_rfl) ?_; rw [Tryz.results137]
  simp (maxSteps := 2000000) (disch := first | (simp only [go_sem, simprocAttr] <;> omega) | omega) only [go_sem, simprocAttr]
  refine loopH.intro (fun i : Nat => (.cons 0 (.pointer (some ⟨wb, 0, none⟩)) true (.cons 3 (.int .i64 (runV V i)) true (.cons 4 (.int .i64 i) true .nil)))) (fun i h' => h' = h ∧ i ≤ 64) (fun i _ => 65 - i) 0 ?_ ⟨rfl, by omega⟩ ?_
  · simp (maxSteps := 2000000) (disch := first | (simp only [go_sem, simprocAttr] <;> omega) | omega) only [go_sem, simprocAttr]
    try rfl
  rintro i h2 ⟨rfl, hi⟩
  by_cases q : i < 64
  · have q1 : (i : Int) < 64 := by omega
    obtain ⟨o, ho⟩ : ∃ o, x.D[i]? = some o := ⟨_, List.getElem?_eq_getElem (by rw [rel.len]; exact q)⟩
    have ro := rel.one i o ho
    have c2 : hcellO h2[wb]? (i * 7 + 2) = some (.bool o.Ac) := by rw [g]; exact rvL_at ho (by decide)
    have c4 : hcellO h2[wb]? (i * 7 + 4) = some (.int .i64 o.A) := by rw [g]; exact rvL_at ho (by decide)
    have e : runV V (i + 1) = if o.Ac = true ∧ o.A < runV V i then o.A else runV V i := by
      rw [runV, ro.ac]
      cases hA : V.A i with
      | none => simp
      | some y =>
        obtain ⟨a, l⟩ := y
        obtain ⟨e1, -⟩ := ro.a a l hA
        simp only [Option.isSome_some, true_and]
        split <;> omega
    simp (maxSteps := 2000000) (disch := first | (simp only [go_sem, simprocAttr, q1, c2, c4] <;> omega) | omega) only [go_sem, simprocAttr, q1, c2, c4]
    refine ⟨fun z => ⟨i + 1, ?_, ⟨rfl, by omega⟩, by simp only; omega⟩, fun z => ⟨i + 1, ?_, ⟨rfl, by omega⟩, by simp only; omega⟩⟩
    · simp only; rw [e, if_pos (by simpa using z)]; rfl
    · simp only; rw [e, if_neg (fun w => by rw [w.1, decide_eq_true w.2] at z; cases z)]; rfl
  · have q1 : ¬ (i : Int) < 64 := by omega
    obtain rfl : i = 64 := by omega
    simp (maxSteps := 2000000) (disch := first | (simp only [go_sem, simprocAttr, q1] <;> omega) | omega) only [go_sem, simprocAttr, q1]
    exact hR _ _ ⟨rfl, rfl⟩
theorem rsetMask_S (hs : Sat h (rvS wv (some V) :: F)) (k : Int) (h0 : 0 ≤ k) (h1 : k ≤ 256) : HCalls Tryz.prog 108 #[wv, .int .i64 k] h fun v h' => v = .int .i64 0 ∧ Sat h' (rvS wv (some { V with mask := k }) :: F) := by
  refine HCalls.via fun R hR => ?_
  obtain ⟨wb, x, rfl, rel, s⟩ := rvS_some.1 hs
  have k0 : ¬ k < 0 := by omega
  have k1 : ¬ 256 < k := by omega
  have g := s.get
  refine HCalls.of_dev T108 Tryz.func108 rfl mixed (by kernel_rfl) ?_; rw [Tryz.results108]
  have l := rvL_len x.D x.lr V.mask x.a x.b x.c rel.len
  have l1 : 449 < (rvL x.D x.lr V.mask x.a x.b x.c).length := by omega
  have sm := rvL_mask (lr := x.lr) (m := V.mask) (a := x.a) (b := x.b) (c := x.c) rel.len (k := k)
  have s1 := s.set (.cells (rvL x.D x.lr k x.a x.b x.c).toArray x.ty (0, 0))
  simp (maxSteps := 2000000) (disch := first | (simp only [go_sem, simprocAttr, k0, k1, g, l1, sm] <;> omega) | omega) only [go_sem, simprocAttr, k0, k1, g, l1, sm]
  exact hR _ _ ⟨rfl, rvS_some.2 ⟨wb, x, rfl, ⟨rel.len, fun k o hk => ⟨(rel.one k o hk).pe, (rel.one k o hk).ac, (rel.one k o hk).p, (rel.one k o hk).a⟩, ⟨rel.ok.p, rel.ok.a, h0, h1⟩⟩, s1⟩⟩
end
end Go.Eng
/-
  viceroyref08: Next.
-/
namespace Go.Eng
open Go Go.Proofs
/-- The best one so far. -/
def bestV (V : Vg) (b : Int) (i : Nat) : Prop := (b = -1 ∧ ∀ k : Nat, k < i → mayV V k = none) ∨ (∃ bn : Nat, b = bn ∧ bn < i ∧ ∃ p, mayV V bn = some p ∧ ∀ k : Nat, k < i → ∀ q, mayV V k = some q → p < q ∨ (p = q ∧ bn ≤ k))
theorem bestV_skip {V : Vg} {b : Int} {i : Nat} (h : bestV V b i) (hm : mayV V i = none) : bestV V b (i + 1) := by
  rcases h with ⟨h1, h2⟩ | ⟨bn, h1, h2, p, h3, h4⟩
  · refine .inl ⟨h1, fun k hk => ?_⟩
    by_cases q : k = i
    · subst q; exact hm
    · exact h2 k (by omega)
  · refine .inr ⟨bn, h1, by omega, p, h3, fun k hk q hq => ?_⟩
    by_cases z : k = i
    · subst z; rw [hm] at hq; cases hq
    · exact h4 k (by omega) q hq
theorem bestV_take {V : Vg} {b : Int} {i : Nat} (h : bestV V b i) {p : Int} (hm : mayV V i = some p) (hb : b < 0 ∨ ∃ bn : Nat, b = bn ∧ ∀ q, mayV V bn = some q → p < q) : bestV V i (i + 1) := by
  refine .inr ⟨i, rfl, by omega, p, hm, fun k hk q hq => ?_⟩
  by_cases z : k = i
  · subst z; rw [hm] at hq; cases hq; exact .inr ⟨rfl, Nat.le_refl _⟩
  · left
    rcases h with ⟨h1, h2⟩ | ⟨bn, h1, h2, p', h3, h4⟩
    · rw [h2 k (by omega)] at hq; cases hq
    · rcases hb with hb | ⟨bn', e, hb⟩
      · omega
      · obtain rfl : bn' = bn := by omega
        have := hb p' h3
        have := h4 k (by omega) q hq
        omega
theorem bestV_keep {V : Vg} {b : Int} {i : Nat} (h : bestV V b i) {p : Int} (hm : mayV V i = some p) {bn : Nat} (e : b = bn) (hb : ∀ q, mayV V bn = some q → ¬ p < q) : bestV V b (i + 1) := by
  rcases h with ⟨h1, h2⟩ | ⟨bn', h1, h2, p', h3, h4⟩
  · omega
  · obtain rfl : bn' = bn := by omega
    refine .inr ⟨bn', h1, by omega, p', h3, fun k hk q hq => ?_⟩
    by_cases z : k = i
    · subst z; rw [hm] at hq; cases hq
      have := hb p' h3
      omega
    · exact h4 k (by omega) q hq
theorem bestV_next {V : Vg} (ok : V.ok) {b : Int} (h : bestV V b 64) : nextV V = if b < 0 then none else some b := by
  rcases h with ⟨h1, h2⟩ | ⟨bn, h1, h2, p, h3, h4⟩
  · rw [nextV_none ok h2, if_pos (by omega)]
  · rw [nextV_some ok h2 h3 h4, if_neg (by omega), h1]
theorem mayV_of {V : Vg} {k : Int} {o : One} (r : relO V k o) : mayV V k = if o.Pe = true ∧ o.Ac = false ∧ o.P < V.mask ∧ o.P < runV V 64 then some o.P else none := by
  unfold mayV
  rw [r.pe, r.ac]
  cases hA : V.A k with
  | some a => simp
  | none =>
    cases hP : V.P k with
    | none => simp
    | some y =>
      obtain ⟨p, l⟩ := y
      obtain ⟨e, -⟩ := r.p p l hP
      simp [e]
section
variable {h : Heap} {F : List SP} {wv : Value} {V : Vg}
theorem rnext_S (hs : Sat h (rvS wv (some V) :: F)) : HCalls Tryz.prog 109 #[wv] h fun v h' => v = .tuple #[.int .i64 ((nextV V).getD 0), .bool (nextV V).isSome] ∧ Sat h' (rvS wv (some V) :: F) := by
  refine HCalls.via fun R hR => ?_
  obtain ⟨wb, x, rfl, rel, s⟩ := rvS_some.1 hs
  refine HCalls.of_dev T109 Tryz.func109 rfl mixed (by kernel_rfl) ?_; rw [Tryz.results109]
  simp (maxSteps := 2000000) (disch := first | (simp only [go_sem, simprocAttr] <;> omega) | omega) only [go_sem, simprocAttr]
  refine (rrunning_S hs).mono ?_
  rintro v h1 ⟨rfl, rfl⟩
  simp (maxSteps := 2000000) (disch := first | (simp only [go_sem, simprocAttr] <;> omega) | omega) only [go_sem, simprocAttr]
  refine loopH.intro (fun t : Nat × Int => (.cons 0 (.pointer (some ⟨wb, 0, none⟩)) true (.cons 4 (.int .i64 (runV V 64)) true (.cons 5 (.int .i64 t.2) true (.cons 6 (.int .i64 t.1) true .nil))))) (fun t h' => t.1 ≤ 64 ∧ bestV V t.2 t.1 ∧ Sat h' (cellAt wb (.cells (rvL x.D x.lr V.mask x.a x.b x.c).toArray x.ty (0, 0)) :: F)) (fun t _ => 65 - t.1) (0, -1) ?_ ⟨by simp, .inl ⟨rfl, fun k hk => by omega⟩, s⟩ ?_
  · simp (maxSteps := 2000000) (disch := first | (simp only [go_sem, simprocAttr] <;> omega) | omega) only [go_sem, simprocAttr]
    try rfl
  clear s
  rintro ⟨i, b⟩ h2 ⟨hi, hb, s⟩
  simp only at hi hb s
  by_cases q : i < 64
  case neg =>
    have q1 : ¬ (i : Int) < 64 := by omega
    obtain rfl : i = 64 := by omega
    rw [bestV_next rel.ok hb] at hR
    by_cases z : b < 0
    · rw [if_pos z] at hR
      simp (maxSteps := 2000000) (disch := first | (simp only [go_sem, simprocAttr, q1, z] <;> omega) | omega) only [go_sem, simprocAttr, q1, z]
      exact hR _ _ ⟨rfl, rvS_some.2 ⟨wb, x, rfl, rel, s⟩⟩
    · rw [if_neg z] at hR
      simp (maxSteps := 2000000) (disch := first | (simp only [go_sem, simprocAttr, q1, z] <;> omega) | omega) only [go_sem, simprocAttr, q1, z]
      exact hR _ _ ⟨rfl, rvS_some.2 ⟨wb, x, rfl, rel, s⟩⟩
  have q1 : (i : Int) < 64 := by omega
  obtain ⟨o, ho⟩ : ∃ o, x.D[i]? = some o := ⟨_, List.getElem?_eq_getElem (by rw [rel.len]; exact q)⟩
  have ro := rel.one i o ho
  have mo := mayV_of ro
  have g := s.get
  have rd : hreadO h2[wb]? (i * 7) 7 = some o.cells.toArray := by rw [g]; exact rvL_read ho
  have s1 := s.push (.cells #[.bool false, .bool false, .bool false, .int .i64 0, .int .i64 0, .bool false, .bool false] 150 (0, 0))
  have s2 := s.push (.cells o.cells.toArray 150 (0, 0))
  simp only [One.cells_eq] at s2
  have gm : hcellO (h2.push (.cells #[.bool false, .bool o.Pe, .bool o.Ac, .int .i64 o.P, .int .i64 o.A, .bool o.L, .bool o.Fl] 150 (0, 0)))[wb]? 449 = some (.int .i64 V.mask) := by
    rw [(s2.front 1).get, hcellO_arr, List.getElem?_toArray, show 449 = 448 + 1 from rfl, rvL_tail rel.len]; rfl
  cases mt : (o.Pe && !o.Ac && decide (o.P < V.mask) && decide (o.P < runV V 64)) with
  | false =>
    rw [if_neg (fun w => by rw [w.1, w.2.1, decide_eq_true w.2.2.1, decide_eq_true w.2.2.2] at mt; cases mt)] at mo
    simp (maxSteps := 2000000) (disch := first | (simp only [go_sem, simprocAttr, q1, rd, s1.get, gm, mt] <;> omega) | omega) only [go_sem, simprocAttr, q1, rd, s1.get, gm, mt]
    first
      | exact ⟨(i + 1, b), rfl, ⟨by simp only; omega, bestV_skip hb mo, s2.tail⟩, by simp only; omega⟩
      | (refine rdK_any fun _ => rdK_any fun _ => rdK_any fun _ => rdK_any fun _ => ?_
         exact ⟨(i + 1, b), rfl, ⟨by simp only; omega, bestV_skip hb mo, s2.tail⟩, by simp only; omega⟩)
  | true =>
    have mt' := mt
    simp only [Bool.and_eq_true, Bool.not_eq_true', decide_eq_true_eq] at mt'
    rw [if_pos ⟨mt'.1.1.1, mt'.1.1.2, mt'.1.2, mt'.2⟩] at mo
    by_cases z : b < 0
    · simp (maxSteps := 2000000) (disch := first | (simp only [go_sem, simprocAttr, q1, rd, s1.get, gm, mt, z] <;> omega) | omega) only [go_sem, simprocAttr, q1, rd, s1.get, gm, mt, z]
      first
        | exact ⟨(i + 1, i), rfl, ⟨by simp only; omega, bestV_take hb mo (.inl z), s2.tail⟩, by simp only; omega⟩
        | (refine rdK_any fun _ => rdK_any fun _ => rdK_any fun _ => rdK_any fun _ => ?_
           exact ⟨(i + 1, i), rfl, ⟨by simp only; omega, bestV_take hb mo (.inl z), s2.tail⟩, by simp only; omega⟩)
    · obtain ⟨bn, rfl, hbn, p, hp, hmin⟩ : ∃ bn : Nat, b = bn ∧ bn < i ∧ ∃ p, mayV V bn = some p ∧ ∀ k : Nat, k < i → ∀ q, mayV V k = some q → p < q ∨ (p = q ∧ bn ≤ k) := by
        rcases hb with ⟨w, -⟩ | w
        · omega
        · exact w
      obtain ⟨o2, ho2⟩ : ∃ o, x.D[bn]? = some o := ⟨_, List.getElem?_eq_getElem (by rw [rel.len]; omega)⟩
      have mo2 := mayV_of (rel.one bn o2 ho2)
      rw [hp] at mo2
      have hp2 : p = o2.P := by
        by_cases w : o2.Pe = true ∧ o2.Ac = false ∧ o2.P < V.mask ∧ o2.P < runV V 64
        · rw [if_pos w] at mo2; cases mo2; rfl
        · rw [if_neg w] at mo2; cases mo2
      have c3 : hcellO (h2.push (.cells #[.bool false, .bool o.Pe, .bool o.Ac, .int .i64 o.P, .int .i64 o.A, .bool o.L, .bool o.Fl] 150 (0, 0)))[wb]? (bn * 7 + 3) = some (.int .i64 o2.P) := by
        rw [(s2.front 1).get]; exact rvL_at ho2 (by decide)
      have b64 : (bn : Int) < 64 := by omega
      by_cases w : o.P < o2.P
      · simp (maxSteps := 2000000) (disch := first | (simp only [go_sem, simprocAttr, q1, rd, s1.get, gm, mt, z, c3, b64, w] <;> omega) | omega) only [go_sem, simprocAttr, q1, rd, s1.get, gm, mt, z, c3, b64, w]
        exact ⟨(i + 1, i), rfl, ⟨by simp only; omega, bestV_take hb mo (.inr ⟨bn, rfl, fun q hq => by rw [hp] at hq; cases hq; omega⟩), s2.tail⟩, by simp only; omega⟩
      · simp (maxSteps := 2000000) (disch := first | (simp only [go_sem, simprocAttr, q1, rd, s1.get, gm, mt, z, c3, b64, w] <;> omega) | omega) only [go_sem, simprocAttr, q1, rd, s1.get, gm, mt, z, c3, b64, w]
        exact ⟨(i + 1, bn), rfl, ⟨by simp only; omega, bestV_keep hb mo rfl (fun q hq => by rw [hp] at hq; cases hq; omega), s2.tail⟩, by simp only; omega⟩
end
end Go.Eng
