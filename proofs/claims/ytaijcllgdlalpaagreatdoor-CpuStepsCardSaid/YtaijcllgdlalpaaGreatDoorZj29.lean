/-
  viceroyref03: at, Find, Evict.
-/
import Derived.Test.YtaijcllgdlalpaaGreatDoorZj12
import Derived.Test.YtaijcllgdlalpaaGreatDoorZj22
set_option linter.unusedSimpArgs false
set_option linter.unusedVariables false
set_option maxRecDepth 16000
set_option maxHeartbeats 4000000
namespace Go.Eng
open Go Go.Proofs
theorem okL_v {l : Ln} (h : okL l) : l.Vmid = 0 ↔ l = zeroL := by
  rcases h with rfl | h
  · exact ⟨fun _ => rfl, fun _ => rfl⟩
  · refine ⟨fun e => ?_, fun e => by rw [e]; rfl⟩
    exfalso
    unfold rightL inR at h
    simp only [Bool.and_eq_true, decide_eq_true_eq] at h
    omega
theorem linesL_get {T : List Ln} {tl : List Value} {i : Nat} (hi : i < T.length) {j : Nat} (hj : j < 5) : nthL (linesL T ++ tl) (i * 5 + j) = T[i].cells[j]? := by
  rw [nthL_eq, List.getElem?_append_left (by rw [linesL_len]; omega)]
  unfold linesL
  rw [flat_get Ln.cells_len _ _ _ hj, List.getElem?_eq_getElem hi]
  rfl
section
variable {h : Heap} {F : List SP} {tb : Nat} {T : List Ln}
theorem rat_S (hs : Sat h (tlbS tb T :: F)) (v a p : Int) : HCalls Tryz.prog 148 #[.pointer (some ⟨tb, 0, none⟩), .int .i64 v, .int .i64 a, .int .i64 p] h fun r h' => h' = h ∧
    ((∃ i, ∃ hi : i < T.length, r = .int .i64 i ∧ keyL v a p T[i] = true ∧ ∀ j, ∀ hj : j < i, keyL v a p (T[j]'(by omega)) = false) ∨ (r = .int .i64 (-1) ∧ ∀ l ∈ T, keyL v a p l = false)) := by
  refine HCalls.via fun R hR => ?_
  obtain ⟨⟨hT, hok⟩, f, m, ty, s⟩ := tlbS_iff.1 hs
  refine HCalls.of_dev T148 Tryz.func148 rfl mixed (by kernel_rfl) ?_; rw [Tryz.results148]
  simp (maxSteps := 2000000) (disch := first | (simp only [go_sem, simprocAttr] <;> omega) | omega) only [go_sem, simprocAttr]
  refine loopH.intro (fun i : Nat => (.cons 0 (.pointer (some ⟨tb, 0, none⟩)) true (.cons 1 (.int .i64 v) true (.cons 2 (.int .i64 a) true (.cons 3 (.int .i64 p) true (.cons 9 (.int .i64 i) true .nil)))))) (fun i h' => h' = h ∧ i ≤ 8 ∧ ∀ j, ∀ hj : j < i, ∀ hj2 : j < T.length, keyL v a p T[j] = false) (fun i _ => 9 - i) 0 ?_ ⟨rfl, by omega, fun j hj => absurd hj (by omega)⟩ ?_
  · rfl
  rintro i h2 ⟨rfl, hi, hj⟩
  have g := s.get
  by_cases q : (i : Int) < 8
  · have hi8 : i < T.length := by omega
    have n0 : nthL (linesL T ++ [Value.int .i64 f, Value.int .i64 m]) (i * 5) = some (.int .i64 T[i].Vmid) := linesL_get hi8 (j := 0) (by decide)
    have n1 : nthL (linesL T ++ [Value.int .i64 f, Value.int .i64 m]) (i * 5 + 1) = some (.int .i64 T[i].Asid) := linesL_get hi8 (j := 1) (by decide)
    have n2 : nthL (linesL T ++ [Value.int .i64 f, Value.int .i64 m]) (i * 5 + 2) = some (.int .i64 T[i].Page) := linesL_get hi8 (j := 2) (by decide)
    have j0 : (0 : Int) ≤ i := by omega
    simp (maxSteps := 2000000) (disch := first | (simp only [go_sem, simprocAttr, q, j0, g, n0, n1, n2] <;> omega) | omega) only [go_sem, simprocAttr, q, j0, g, n0, n1, n2]
    have hz := okL_v (hok T[i] (List.getElem_mem hi8))
    have hk : keyL v a p T[i] = (decide ¬T[i].Vmid = 0 && decide (T[i].Vmid = v) && decide (T[i].Asid = a) && decide (T[i].Page = p)) := by
      unfold keyL
      congr 3
      rw [decide_not]
      congr 1
      rw [decide_eq_decide]
      exact hz.symm
    rw [← hk]
    refine ⟨fun z => hR _ _ ⟨rfl, .inl ⟨i, hi8, rfl, z, fun j h1 => hj j h1 (by omega)⟩⟩, fun z => ⟨i + 1, rfl, ⟨rfl, by omega, fun j h1 h3 => ?_⟩, by simp only; omega⟩⟩
    by_cases e : j = i
    · subst e; exact z
    · exact hj j (by omega) h3
  · simp (maxSteps := 2000000) (disch := first | (simp only [go_sem, simprocAttr, q] <;> omega) | omega) only [go_sem, simprocAttr, q]
    refine hR _ _ ⟨rfl, .inr ⟨rfl, fun l hl => ?_⟩⟩
    obtain ⟨j, h1, rfl⟩ := List.getElem_of_mem hl
    exact hj j (by omega) h1
theorem find_first {i : Nat} {v a p : Int} (hi : i < T.length) (k : keyL v a p T[i] = true) (n : ∀ j, ∀ hj : j < i, keyL v a p (T[j]'(by omega)) = false) : findT T v a p = some T[i] := by
  unfold findT
  rw [List.find?_eq_some_iff_getElem]
  exact ⟨k, i, hi, rfl, fun j hj => by rw [n j hj]; rfl⟩
theorem rfind_S (hs : Sat h (tlbS tb T :: F)) (v a p : Int) : HCalls Tryz.prog 133 #[.pointer (some ⟨tb, 0, none⟩), .int .i64 v, .int .i64 a, .int .i64 p] h fun r h' =>
    r = (match findT T v a p with | some l => .tuple #[.int .i64 l.Frame, .int .i64 l.Rights, .bool true] | none => .tuple #[.int .i64 0, .int .i64 0, .bool false]) ∧ Sat h' (tlbS tb T :: F) := by
  refine HCalls.via fun R hR => ?_
  obtain ⟨⟨hT, hok⟩, f, m, ty, s⟩ := tlbS_iff.1 hs
  have g := s.get
  refine HCalls.of_dev T133 Tryz.func133 rfl mixed (by kernel_rfl) ?_; rw [Tryz.results133]
  simp (maxSteps := 2000000) (disch := first | (simp only [go_sem, simprocAttr] <;> omega) | omega) only [go_sem, simprocAttr]
  refine (rat_S hs v a p).mono ?_
  rintro r h1 ⟨rfl, (⟨i, hi, rfl, k, n⟩ | ⟨rfl, n⟩)⟩
  · rw [find_first hi k n] at hR
    have j0 : (0 : Int) ≤ i := by omega
    have j1 : (i : Int) < 8 := by omega
    have j2 : ¬ (i : Int) < 0 := by omega
    have l40 : 40 < (linesL T ++ [Value.int .i64 f, Value.int .i64 m]).length := by rw [List.length_append, linesL_len]; simp; omega
    have n40 : nthL (linesL T ++ [Value.int .i64 f, Value.int .i64 m]) 40 = some (.int .i64 f) := by rw [nthL_eq, List.getElem?_append_right (by rw [linesL_len]; omega), linesL_len, hT]; rfl
    have sf := fun g => set_found (T := T) (f := f) (m := m) (g := g) hT
    have n3 : ∀ f m : Int, nthL (linesL T ++ [Value.int .i64 f, Value.int .i64 m]) (i * 5 + 3) = some (.int .i64 T[i].Frame) := fun f m => linesL_get hi (j := 3) (by decide)
    have n4 : ∀ f m : Int, nthL (linesL T ++ [Value.int .i64 f, Value.int .i64 m]) (i * 5 + 4) = some (.int .i64 T[i].Rights) := fun f m => linesL_get hi (j := 4) (by decide)
    have s2 := fun g : Int => s.set (.cells (linesL T ++ [Value.int .i64 g, Value.int .i64 m]).toArray ty (0, 0))
    have g2 := fun g : Int => (s2 g).get
    simp (maxSteps := 2000000) (disch := first | (simp only [go_sem, simprocAttr, j0, j1, j2, g, l40, n40, sf, n3, n4, g2] <;> omega) | omega) only [go_sem, simprocAttr, j0, j1, j2, g, l40, n40, sf, n3, n4, g2]
    exact hR _ _ ⟨rfl, tlbS_iff.2 ⟨⟨hT, hok⟩, _, _, _, s2 _⟩⟩
  · have e : findT T v a p = none := by
      unfold findT
      rw [List.find?_eq_none]
      exact fun l hl => by rw [n l hl]; simp
    rw [e] at hR
    have l41 : 41 < (linesL T ++ [Value.int .i64 f, Value.int .i64 m]).length := by rw [List.length_append, linesL_len]; simp; omega
    have n41 : nthL (linesL T ++ [Value.int .i64 f, Value.int .i64 m]) 41 = some (.int .i64 m) := by rw [nthL_eq, List.getElem?_append_right (by rw [linesL_len]; omega), linesL_len, hT]; rfl
    have sf := fun g => set_missed (T := T) (f := f) (m := m) (g := g) hT
    have s2 := fun g : Int => s.set (.cells (linesL T ++ [Value.int .i64 f, Value.int .i64 g]).toArray ty (0, 0))
    simp (maxSteps := 2000000) (disch := first | (simp only [go_sem, simprocAttr, g, l41, n41, sf] <;> omega) | omega) only [go_sem, simprocAttr, g, l41, n41, sf]
    exact hR _ _ ⟨rfl, tlbS_iff.2 ⟨⟨hT, hok⟩, _, _, _, s2 _⟩⟩
end
end Go.Eng
/-
  viceroyref03: Right, Fill, Evict; a buffer has a page once.
-/
namespace Go.Eng
open Go Go.Proofs
/-- A page stands in one line at most. -/
def uniqT (T : List Ln) : Prop := ∀ i j, ∀ hi : i < T.length, ∀ hj : j < T.length, i ≠ j → T[i] ≠ zeroL → T[j] ≠ zeroL → keyT T[i] T[j] = false
theorem keyL_keyT {l x : Ln} : keyL l.Vmid l.Asid l.Page x = (!decide (x = zeroL) && keyT l x) := by
  unfold keyL keyT
  simp only [Bool.and_assoc]
theorem keyT_swap {l x y : Ln} (h1 : keyT l x = true) (h2 : keyT l y = true) : keyT x y = true := by
  unfold keyT at *
  simp only [Bool.and_eq_true, decide_eq_true_eq] at *
  omega
theorem flush_one {T : List Ln} (u : uniqT T) {l : Ln} {i : Nat} (hi : i < T.length) (k : keyL l.Vmid l.Asid l.Page T[i] = true) : flushT T (keyT l) = T.set i zeroL := by
  rw [keyL_keyT] at k
  simp only [Bool.and_eq_true, Bool.not_eq_true', decide_eq_false_iff_not] at k
  unfold flushT
  apply List.ext_getElem
  · simp
  · intro j h1 h2
    rw [List.getElem_map, List.getElem_set]
    have hj : j < T.length := by simpa using h1
    by_cases e : i = j
    · subst e
      rw [if_pos rfl, if_pos (by simp [k.1, k.2])]
    · rw [if_neg e]
      split
      · rename_i z
        simp only [Bool.and_eq_true, Bool.not_eq_true', decide_eq_false_iff_not] at z
        have := u i j hi hj e k.1 z.1
        rw [keyT_swap k.2 z.2] at this
        cases this
      · rfl
theorem flush_none {T : List Ln} {l : Ln} (k : ∀ x ∈ T, keyL l.Vmid l.Asid l.Page x = false) : flushT T (keyT l) = T := by
  unfold flushT
  conv => rhs; rw [← List.map_id T]
  apply List.map_congr_left
  intro x hx
  have := k x hx
  rw [keyL_keyT] at this
  rw [this]
  rfl
theorem uniqT_flush {T : List Ln} (u : uniqT T) (p : Ln → Bool) : uniqT (flushT T p) := by
  intro i j hi hj e h1 h2
  unfold flushT at *
  rw [List.getElem_map] at h1 h2 ⊢
  rw [List.getElem_map]
  have hi2 : i < T.length := by simpa using hi
  have hj2 : j < T.length := by simpa using hj
  split at h1
  · exact absurd rfl h1
  · split at h2
    · exact absurd rfl h2
    · rename_i z1 z2
      rw [if_neg z1, if_neg z2]
      exact u i j hi2 hj2 e h1 h2
theorem uniqT_set {T : List Ln} (u : uniqT T) {k : Nat} {l : Ln} (h : ∀ x ∈ T, x ≠ zeroL → keyT l x = false ∧ keyT x l = false) : uniqT (T.set k l) := by
  intro i j hi hj e h1 h2
  rw [List.getElem_set] at h1 h2 ⊢
  rw [List.getElem_set]
  have hi2 : i < T.length := by simpa using hi
  have hj2 : j < T.length := by simpa using hj
  by_cases a : k = i
  · by_cases b : k = j
    · exact absurd (a.symm.trans b) e
    · rw [if_pos a, if_neg b]
      rw [if_neg b] at h2
      exact (h _ (List.getElem_mem hj2) h2).1
  · by_cases b : k = j
    · rw [if_neg a, if_pos b]
      rw [if_neg a] at h1
      exact (h _ (List.getElem_mem hi2) h1).2
    · rw [if_neg a, if_neg b]
      rw [if_neg a] at h1
      rw [if_neg b] at h2
      exact u i j hi2 hj2 e h1 h2
theorem uniqT_fill {T : List Ln} (u : uniqT T) (at_ : Int) (l : Ln) : uniqT (fillT T at_ l) := by
  unfold fillT
  split
  · refine uniqT_set (uniqT_flush u _) fun x hx hz => ?_
    unfold flushT at hx
    obtain ⟨y, hy, e⟩ := List.mem_map.1 hx
    split at e
    · exact absurd e.symm hz
    · rename_i z
      subst e
      have : keyT l y = false := by
        cases h : keyT l y with
        | false => rfl
        | true => exact absurd (by simp [h, hz]) z
      refine ⟨this, ?_⟩
      unfold keyT at this ⊢
      rw [← this]
      congr 1
      · congr 1 <;> rw [decide_eq_decide] <;> exact eq_comm
      · rw [decide_eq_decide]; exact eq_comm
  · exact u
theorem uniqT_no : uniqT noT := by
  intro i j hi hj e h1
  exact absurd (List.eq_of_mem_replicate (n := 8) (show noT[i] ∈ List.replicate 8 zeroL from List.getElem_mem hi)) h1
section
variable {h : Heap} {F : List SP} {tb : Nat} {T : List Ln}
theorem rtlRight_S (l : Ln) : HCalls Tryz.prog 151 #[.agg l.cells.toArray] h fun v h' => v = .bool (rightL l) ∧ Ext h h' := by
  refine HCalls.via fun R hR => ?_
  have e0 := (Sat.init h).push (.cells l.cells.toArray 98 (0, 0))
  simp only [Ln.cells_eq] at e0
  refine HCalls.of_dev T151 Tryz.func151 rfl mixed (by kernel_rfl) ?_; rw [Tryz.results151]
  simp (maxSteps := 2000000) (disch := first | (simp only [go_sem, simprocAttr, e0.get] <;> omega) | omega) only [go_sem, simprocAttr, e0.get]
  exact hR _ _ ⟨by unfold rightL inR; simp only [Bool.and_assoc], (e0.front 1).ext⟩
theorem rfill_S (hs : Sat h (tlbS tb T :: F)) (u : uniqT T) (a : Int) (l : Ln) : HCalls Tryz.prog 135 #[.pointer (some ⟨tb, 0, none⟩), .int .i64 a, .agg l.cells.toArray] h fun r h' => (∃ n, r = .int .i64 n) ∧ Sat h' (tlbS tb (fillT T a l) :: F) := by
  refine HCalls.via fun R hR => ?_
  refine HCalls.of_dev T135 Tryz.func135 rfl mixed (by kernel_rfl) ?_; rw [Tryz.results135]
  have s1 := (hs.push (.cells l.cells.toArray 98 (0, 0))).swap
  simp only [Ln.cells_eq] at s1
  by_cases c0 : a < 0
  · have e : fillT T a l = T := by unfold fillT inR; rw [if_neg (by simp; omega)]
    rw [e] at hR
    simp (maxSteps := 2000000) (disch := first | (simp only [go_sem, simprocAttr, c0] <;> omega) | omega) only [go_sem, simprocAttr, c0]
    exact hR _ _ ⟨⟨_, rfl⟩, s1.drop1⟩
  by_cases c1 : 8 ≤ a
  · have e : fillT T a l = T := by unfold fillT inR; rw [if_neg (by simp; omega)]
    rw [e] at hR
    simp (maxSteps := 2000000) (disch := first | (simp only [go_sem, simprocAttr, c0, c1] <;> omega) | omega) only [go_sem, simprocAttr, c0, c1]
    exact hR _ _ ⟨⟨_, rfl⟩, s1.drop1⟩
  simp (maxSteps := 2000000) (disch := first | (simp only [go_sem, simprocAttr, c0, c1, (s1.front 1).get] <;> omega) | omega) only [go_sem, simprocAttr, c0, c1, (s1.front 1).get]
  refine (rtlRight_S l).mono ?_
  rintro v h2 ⟨rfl, x2⟩
  have s2 := s1.grow x2
  have gl := (s2.front 1).get
  cases r : rightL l with
  | false =>
    have e : fillT T a l = T := by unfold fillT; rw [r, if_neg (by simp)]
    rw [e] at hR
    simp (maxSteps := 2000000) (disch := first | (simp only [go_sem, simprocAttr] <;> omega) | omega) only [go_sem, simprocAttr]
    exact hR _ _ ⟨⟨_, rfl⟩, s2.drop1⟩
  | true =>
    have e : fillT T a l = (flushT T (keyT l)).set a.toNat l := by unfold fillT; rw [r, if_pos (by unfold inR; simp; omega)]
    rw [e] at hR
    have a0 : 0 ≤ a := by omega
    have a1 : a < 8 := by omega
    obtain ⟨⟨hT, hok⟩, -⟩ := tlbS_iff.1 s2
    have fin : ∀ i, okL (zeroL) ∧ (∀ x ∈ T.set i zeroL, okL x) := fun i => ⟨.inl rfl, fun x hx => by
      rcases List.mem_or_eq_of_mem_set hx with q | q
      · exact hok x q
      · exact .inl q⟩
    simp (maxSteps := 2000000) (disch := first | (simp only [go_sem, simprocAttr, gl] <;> omega) | omega) only [go_sem, simprocAttr, gl]
    refine (rat_S s2 l.Vmid l.Asid l.Page).mono ?_
    rintro v h3 ⟨rfl, (⟨i, hi, rfl, k, n⟩ | ⟨rfl, n⟩)⟩
    · rw [flush_one u hi k] at hR
      obtain ⟨-, f, m, ty, s⟩ := tlbS_iff.1 s2
      have j0 : (0 : Int) ≤ i := by omega
      have j1 : (i : Int) < 8 := by omega
      have j2 : ¬ (i : Int) < 0 := by omega
      simp (maxSteps := 2000000) (disch := first | (simp only [go_sem, simprocAttr, j0, j1, j2] <;> omega) | omega) only [go_sem, simprocAttr, j0, j1, j2]
      refine store_line (l := zeroL) s.get hi ?_
      have s3 := s.set (.cells (linesL (T.set i zeroL) ++ [Value.int .i64 f, Value.int .i64 m]).toArray ty (0, 0))
      have gl3 := (s3.front 1).get
      simp (maxSteps := 2000000) (disch := first | (simp only [go_sem, simprocAttr, gl3, a0, a1] <;> omega) | omega) only [go_sem, simprocAttr, gl3, a0, a1]
      refine store_line (l := l) s3.get (by simp; omega) ?_
      have s4 := s3.set (.cells (linesL ((T.set i zeroL).set a.toNat l) ++ [Value.int .i64 f, Value.int .i64 m]).toArray ty (0, 0))
      refine hR _ _ ⟨⟨_, rfl⟩, tlbS_iff.2 ⟨⟨by simpa using hT, fun x hx => ?_⟩, _, _, _, s4.drop1⟩⟩
      rcases List.mem_or_eq_of_mem_set hx with q | q
      · exact (fin i).2 x q
      · rw [q]; exact .inr r
    · rw [flush_none n] at hR
      obtain ⟨-, f, m, ty, s⟩ := tlbS_iff.1 s2
      simp (maxSteps := 2000000) (disch := first | (simp only [go_sem, simprocAttr, gl, a0, a1] <;> omega) | omega) only [go_sem, simprocAttr, gl, a0, a1]
      refine store_line (l := l) s.get (by omega) ?_
      have s4 := s.set (.cells (linesL (T.set a.toNat l) ++ [Value.int .i64 f, Value.int .i64 m]).toArray ty (0, 0))
      refine hR _ _ ⟨⟨_, rfl⟩, tlbS_iff.2 ⟨⟨by simpa using hT, fun x hx => ?_⟩, _, _, _, s4.drop1⟩⟩
      rcases List.mem_or_eq_of_mem_set hx with q | q
      · exact hok x q
      · rw [q]; exact .inr r
/-- A line is forgotten. -/
def evictT (T : List Ln) (a : Int) : List Ln := if inR a 0 7 then T.set a.toNat zeroL else T
theorem evict_ok {T : List Ln} (h : ∀ l ∈ T, okL l) (k : Nat) : ∀ x ∈ T.set k zeroL, okL x := fun x hx => by
  rcases List.mem_or_eq_of_mem_set hx with q | q
  · exact h x q
  · exact .inl q
theorem uniqT_evict {T : List Ln} (u : uniqT T) (a : Int) : uniqT (evictT T a) := by
  unfold evictT
  split
  · intro i j hi hj e h1 h2
    rw [List.getElem_set] at h1 h2 ⊢
    rw [List.getElem_set]
    split at h1
    · exact absurd rfl h1
    · split at h2
      · exact absurd rfl h2
      · rename_i z1 z2
        rw [if_neg z1, if_neg z2]
        exact u i j _ _ e h1 h2
  · exact u
theorem revict_S (hs : Sat h (tlbS tb T :: F)) (a : Int) : HCalls Tryz.prog 22 #[.pointer (some ⟨tb, 0, none⟩), .int .i64 a] h fun r h' => (∃ n, r = .int .i64 n) ∧ Sat h' (tlbS tb (evictT T a) :: F) := by
  refine HCalls.via fun R hR => ?_
  obtain ⟨⟨hT, hok⟩, f, m, ty, s⟩ := tlbS_iff.1 hs
  unfold evictT inR at hR
  refine HCalls.of_dev T22 Tryz.func22 rfl mixed (by kernel_rfl) ?_; rw [Tryz.results22]
  by_cases c0 : a < 0
  · rw [if_neg (by simp; omega)] at hR
    simp (maxSteps := 2000000) (disch := first | (simp only [go_sem, simprocAttr, c0] <;> omega) | omega) only [go_sem, simprocAttr, c0]
    exact hR _ _ ⟨⟨_, rfl⟩, hs⟩
  by_cases c1 : 8 ≤ a
  · rw [if_neg (by simp; omega)] at hR
    simp (maxSteps := 2000000) (disch := first | (simp only [go_sem, simprocAttr, c0, c1] <;> omega) | omega) only [go_sem, simprocAttr, c0, c1]
    exact hR _ _ ⟨⟨_, rfl⟩, hs⟩
  · rw [if_pos (by simp; omega)] at hR
    have a0 : 0 ≤ a := by omega
    have a1 : a < 8 := by omega
    simp (maxSteps := 2000000) (disch := first | (simp only [go_sem, simprocAttr, c0, c1, a0, a1] <;> omega) | omega) only [go_sem, simprocAttr, c0, c1, a0, a1]
    refine store_line (l := zeroL) s.get (by omega) ?_
    have s3 := s.set (.cells (linesL (T.set a.toNat zeroL) ++ [Value.int .i64 f, Value.int .i64 m]).toArray ty (0, 0))
    exact hR _ _ ⟨⟨_, rfl⟩, tlbS_iff.2 ⟨⟨by simpa using hT, evict_ok hok _⟩, _, _, _, s3⟩⟩
theorem tlbEvict_S (hs : Sat h (tlbS tb T :: F)) (a : Int) : HCalls Tryz.prog 21 #[.pointer (some ⟨tb, 0, none⟩), .int .i64 a] h fun r h' => (∃ n, r = .int .i64 n) ∧ Sat h' (tlbS tb (evictT T a) :: F) := by
  refine HCalls.via fun R hR => ?_
  obtain ⟨⟨hT, hok⟩, f, m, ty, s⟩ := tlbS_iff.1 hs
  unfold evictT inR at hR
  refine HCalls.of_dev T21 Tryz.func21 rfl mixed (by kernel_rfl) ?_; rw [Tryz.results21]
  simp (maxSteps := 2000000) (disch := first | (simp only [go_sem, simprocAttr] <;> omega) | omega) only [go_sem, simprocAttr]
  refine (tlbWithin_S a 0 7).mono ?_
  rintro v h1 ⟨rfl, rfl⟩
  cases c : inR a 0 7 with
  | false =>
    unfold inR at c
    rw [c] at hR
    simp (maxSteps := 2000000) (disch := first | (simp only [go_sem, simprocAttr] <;> omega) | omega) only [go_sem, simprocAttr]
    exact hR _ _ ⟨⟨_, rfl⟩, hs⟩
  | true =>
    unfold inR at c
    rw [c] at hR
    simp only [Bool.and_eq_true, decide_eq_true_eq] at c
    have a0 : 0 ≤ a := c.1
    have a1 : a < 8 := by omega
    simp (maxSteps := 2000000) (disch := first | (simp only [go_sem, simprocAttr, a0, a1] <;> omega) | omega) only [go_sem, simprocAttr, a0, a1]
    refine store_line (l := zeroL) s.get (by omega) ?_
    have s3 := s.set (.cells (linesL (T.set a.toNat zeroL) ++ [Value.int .i64 f, Value.int .i64 m]).toArray ty (0, 0))
    exact hR _ _ ⟨⟨_, rfl⟩, tlbS_iff.2 ⟨⟨by simpa using hT, evict_ok hok _⟩, _, _, _, s3⟩⟩
end
end Go.Eng
/-
  Steps and runs of a machine with a guest's interrupts: plain.
-/
namespace Go.Eng
open Go Go.Proofs
theorem low7 (x : Int) : ((BitVec.ofInt 64 x &&& BitVec.ofInt 64 7).toNat : Int) = x % 8 := by
  rw [show (BitVec.ofInt 64 7) = BitVec.ofNat 64 7 from rfl, BitVec.toNat_and, BitVec.toNat_ofInt, BitVec.toNat_ofNat]
  have : (x % ((2 ^ 64 : Nat) : Int)).toNat &&& 7 = (x % ((2 ^ 64 : Nat) : Int)).toNat % 8 := Nat.and_two_pow_sub_one_eq_mod _ 3
  rw [show (7 % 2 ^ 64) = 7 from rfl, this]
  omega
theorem tdiv4_bd {x : Int} (h1 : -9223372036854775808 ≤ x) (h2 : x ≤ 9223372036854775807) : -9223372036854775808 ≤ x.tdiv 4 ∧ x.tdiv 4 ≤ 9223372036854775807 := by
  rw [Int.tdiv_eq_ediv, show (4 : Int).sign = 1 from rfl]
  split <;> omega
/-- Where a line is filled. -/
def atP (pc : Int) : Int := (pc.tdiv 4) % 8
theorem at_low (pc : Int) : IntKind.i64.wrap ((BitVec.ofInt 64 (pc.tdiv 4) &&& BitVec.ofInt 64 7).toNat : Int) = atP pc := by
  rw [low7]
  unfold atP
  exact w64_id (by omega) (by omega)
theorem at_mod (pc : Int) : (if (pc.tdiv 4).tmod 8 < 0 then (pc.tdiv 4).tmod 8 + 8 else (pc.tdiv 4).tmod 8) = atP pc := by
  unfold atP
  generalize pc.tdiv 4 = y
  rw [Int.tmod_eq_emod]
  split <;> split <;> omega
theorem atP_bd (pc : Int) : 0 ≤ atP pc ∧ atP pc < 8 := by
  unfold atP
  omega
structure Run4 where
  M : Mch
  c : Cp
  t : Trp
  k : Nat
def runP (n : Nat) (vm se : Int) : Nat → Mch → Cp → Nat → Run4
  | 0, M, c, k => ⟨M, c, okT, k⟩
  | f + 1, M, c, k => if (stepP n M c vm se (atP c.Pc)).t.C ≠ 0 then ⟨(stepP n M c vm se (atP c.Pc)).M, (stepP n M c vm se (atP c.Pc)).c, (stepP n M c vm se (atP c.Pc)).t, k⟩ else runP n vm se f (stepP n M c vm se (atP c.Pc)).M (stepP n M c vm se (atP c.Pc)).c (k + 1)
/-- A run, one step further. -/
theorem runP_go {n : Nat} {vm se : Int} {f : Nat} {M : Mch} {c : Cp} {k : Nat} (h : (stepP n M c vm se (atP c.Pc)).t.C = 0) : runP n vm se (f + 1) M c k = runP n vm se f (stepP n M c vm se (atP c.Pc)).M (stepP n M c vm se (atP c.Pc)).c (k + 1) := by
  rw [runP, if_neg (by simpa using h)]
theorem runP_stop {n : Nat} {vm se : Int} {f : Nat} {M : Mch} {c : Cp} {k : Nat} (h : (stepP n M c vm se (atP c.Pc)).t.C ≠ 0) : runP n vm se (f + 1) M c k = ⟨(stepP n M c vm se (atP c.Pc)).M, (stepP n M c vm se (atP c.Pc)).c, (stepP n M c vm se (atP c.Pc)).t, k⟩ := by
  rw [runP, if_pos h]
/-- What a step leaves: no trap is the empty one; a page stands once in the buffer. -/
structure Fine (o : Out) : Prop where
  t : o.t.C = 0 → o.t = okT
  u : uniqT o.M.T
theorem Fine.ite {p : Prop} [Decidable p] {a b : Out} (ha : Fine a) (hb : Fine b) : Fine (if p then a else b) := by split; exact ha; exact hb
theorem Fine.bad {M : Mch} {c : Cp} {t : Trp} (h : t.C ≠ 0) (u : uniqT M.T) : Fine ⟨M, c, t⟩ := ⟨fun z => absurd z h, u⟩
theorem Fine.ok {M : Mch} {c : Cp} (u : uniqT M.T) : Fine ⟨M, c, okT⟩ := ⟨fun _ => rfl, u⟩
theorem uniqT_reach {n : Nat} {mem : Nat → Int} {T : List Ln} (u : uniqT T) (s : Spc) (page want at_ : Int) : uniqT (reach n mem T s page want at_).T := by
  have hw : uniqT (reachW n mem T s page want at_).T := by
    unfold reachW
    split
    · exact u
    · exact uniqT_fill u _ _
  unfold reach
  split
  · split
    · exact u
    · exact hw
  · exact hw
theorem uniqT_reachC {n : Nat} {mem : Nat → Int} {T : List Ln} (u : uniqT T) (s : Spc) (addr want at_ : Int) : uniqT (reachC n mem T s addr want at_).T := uniqT_reach u _ _ _ _
theorem touch_fine {n : Nat} {M : Mch} {c : Cp} {i : Ins} {s : Spc} {at_ size want cause : Int} (hc : cause ≠ 0) (u : uniqT M.T) : Fine (touch n M c i s at_ size want cause) := by
  unfold touch
  have u2 := uniqT_reachC (n := n) (mem := M.mem) u s ((rg c i.B + i.I) % 65536) want at_
  exact Fine.ite (.bad (by simp) u) (Fine.ite (.bad hc u2) (Fine.ite (.ok u2) (.ok u2)))
theorem doP_fine {n : Nat} {M : Mch} {c : Cp} {i : Ins} {s : Spc} {at_ : Int} (u : uniqT M.T) : Fine (doP n M c i s at_) := by
  unfold doP
  refine Fine.ite (.ok u) (Fine.ite (touch_fine (by decide) u) (Fine.ite (touch_fine (by decide) u) (Fine.ite (touch_fine (by decide) u) (Fine.ite (touch_fine (by decide) u) ?_))))
  refine Fine.ite (.ok u) (Fine.ite (.ok u) (Fine.ite (.ok u) (Fine.ite (.ok u) (Fine.ite (.ok u) (Fine.ite (.ok u) ?_)))))
  refine Fine.ite (.bad (by simp) u) (Fine.ite (.bad (by simp) u) ?_)
  refine Fine.ite (Fine.ite (.bad (by simp) u) (.ok u)) (Fine.ite (Fine.ite (.bad (by simp) u) (.ok u)) ?_)
  refine Fine.ite (Fine.ite (.ok u) (.bad (by simp) u)) (Fine.ite (.ok u) (Fine.ite ?_ (Fine.ite (.ok (uniqT_flush u _)) (.ok u))))
  split
  · exact .bad (by simp) u
  · exact .ok u
def Zt (o : Out) : Prop := o.t.C = 0 → o.t = okT
theorem Zt.ite {p : Prop} [Decidable p] {a b : Out} (ha : Zt a) (hb : Zt b) : Zt (if p then a else b) := by split; exact ha; exact hb
theorem Zt.bad {M : Mch} {c : Cp} {t : Trp} (h : t.C ≠ 0) : Zt ⟨M, c, t⟩ := fun z => absurd z h
theorem Zt.ok {M : Mch} {c : Cp} : Zt ⟨M, c, okT⟩ := fun _ => rfl
theorem touch_zt {n : Nat} {M : Mch} {c : Cp} {i : Ins} {s : Spc} {at_ size want cause : Int} (hc : cause ≠ 0) : Zt (touch n M c i s at_ size want cause) := by
  unfold touch
  exact Zt.ite (.bad (by simp)) (Zt.ite (.bad hc) (Zt.ite .ok .ok))
theorem doP_zt {n : Nat} {M : Mch} {c : Cp} {i : Ins} {s : Spc} {at_ : Int} : Zt (doP n M c i s at_) := by
  unfold doP
  refine Zt.ite .ok (Zt.ite (touch_zt (by decide)) (Zt.ite (touch_zt (by decide)) (Zt.ite (touch_zt (by decide)) (Zt.ite (touch_zt (by decide)) ?_))))
  refine Zt.ite .ok (Zt.ite .ok (Zt.ite .ok (Zt.ite .ok (Zt.ite .ok (Zt.ite .ok ?_)))))
  refine Zt.ite (.bad (by simp)) (Zt.ite (.bad (by simp)) ?_)
  refine Zt.ite (Zt.ite (.bad (by simp)) .ok) (Zt.ite (Zt.ite (.bad (by simp)) .ok) ?_)
  refine Zt.ite (Zt.ite .ok (.bad (by simp))) (Zt.ite .ok (Zt.ite ?_ (Zt.ite .ok .ok)))
  split
  · exact .bad (by simp)
  · exact .ok
theorem stepP_okT {n : Nat} {M : Mch} {c : Cp} {vm se at_ : Int} : Zt (stepP n M c vm se at_) := by
  unfold stepP
  refine Zt.ite (.bad (by simp)) ?_
  unfold stepF
  exact Zt.ite (.bad (by simp)) (Zt.ite (.bad (by simp)) doP_zt)
theorem stepP_fine (n : Nat) (M : Mch) (c : Cp) (vm se at_ : Int) (u : uniqT M.T) : Fine (stepP n M c vm se at_) := by
  unfold stepP
  refine Fine.ite (.bad (by simp) u) ?_
  unfold stepF
  have u2 := uniqT_reachC (n := n) (mem := M.mem) u (spaceP M.V.isSome c vm se) c.Pc 4 at_
  exact Fine.ite (.bad (by simp) u2) (Fine.ite (.bad (by simp) u2) (doP_fine u2))
theorem runP_fine (n : Nat) (vm se : Int) : ∀ (f : Nat) (M : Mch) (c : Cp) (k : Nat), uniqT M.T → uniqT (runP n vm se f M c k).M.T
  | 0, M, c, k, u => u
  | f + 1, M, c, k, u => by
    unfold runP
    have h := stepP_fine n M c vm se (atP c.Pc) u
    split
    · exact h.u
    · exact runP_fine n vm se f _ _ _ h.u
end Go.Eng
/-
  All lines of a buffer are of one space: plain.
-/
namespace Go.Eng
open Go Go.Proofs
/-- Each line is of that space. -/
def vmT (vm : Int) (T : List Ln) : Prop := ∀ l ∈ T, l = zeroL ∨ l.Vmid = vm
theorem vmT_neg {vm : Int} {T : List Ln} (hv : vmT vm T) (hok : ∀ l ∈ T, okL l) (h : vm < 0) : ∀ l ∈ T, l = zeroL := by
  intro l hl
  rcases hv l hl with e | e
  · exact e
  · rcases hok l hl with z | z
    · exact z
    · exfalso
      unfold rightL inR at z
      simp only [Bool.and_eq_true, decide_eq_true_eq] at z
      omega
theorem vmT_flush {vm : Int} {T : List Ln} (h : vmT vm T) (p : Ln → Bool) : vmT vm (flushT T p) := by
  intro l hl
  unfold flushT at hl
  obtain ⟨x, hx, rfl⟩ := List.mem_map.1 hl
  split
  · exact .inl rfl
  · exact h x hx
theorem vmT_set {vm : Int} {T : List Ln} (h : vmT vm T) (k : Nat) {l : Ln} (hl : l = zeroL ∨ l.Vmid = vm) : vmT vm (T.set k l) := by
  intro x hx
  rcases List.mem_or_eq_of_mem_set hx with q | q
  · exact h x q
  · rw [q]; exact hl
theorem vmT_fill {vm : Int} {T : List Ln} (h : vmT vm T) (a : Int) {l : Ln} (hl : l.Vmid = vm) : vmT vm (fillT T a l) := by
  unfold fillT
  split
  · exact vmT_set (vmT_flush h _) _ (.inr hl)
  · exact h
theorem vmT_evict {vm : Int} {T : List Ln} (h : vmT vm T) (a : Int) : vmT vm (evictT T a) := by
  unfold evictT
  split
  · exact vmT_set h _ (.inl rfl)
  · exact h
theorem vmT_no {vm : Int} : vmT vm noT := by
  intro l hl
  exact .inl (List.eq_of_mem_replicate hl)
theorem vmT_reachC {n : Nat} {mem : Nat → Int} {T : List Ln} {vm : Int} (h : vmT vm T) {s : Spc} (hs : s.Vmid = vm) (addr want at_ : Int) : vmT vm (reachC n mem T s addr want at_).T := by
  have hw : ∀ page, vmT vm (reachW n mem T s page want at_).T := by
    intro page
    unfold reachW
    split
    · exact h
    · exact vmT_fill h _ hs
  show vmT vm (reach n mem T s (addr / 64) want at_).T
  unfold reach
  split
  · split
    · exact h
    · exact hw _
  · exact hw _
def Vt (vm : Int) (o : Out) : Prop := vmT vm o.M.T
theorem Vt.ite {vm : Int} {p : Prop} [Decidable p] {a b : Out} (ha : Vt vm a) (hb : Vt vm b) : Vt vm (if p then a else b) := by split; exact ha; exact hb
theorem touch_vt {vm : Int} {n : Nat} {M : Mch} {c : Cp} {i : Ins} {s : Spc} {at_ size want cause : Int} (h : vmT vm M.T) (hs : s.Vmid = vm) : Vt vm (touch n M c i s at_ size want cause) := by
  unfold touch
  have u2 := vmT_reachC (n := n) (mem := M.mem) h hs ((rg c i.B + i.I) % 65536) want at_
  exact Vt.ite h (Vt.ite u2 (Vt.ite u2 u2))
theorem doP_vt {vm : Int} {n : Nat} {M : Mch} {c : Cp} {i : Ins} {s : Spc} {at_ : Int} (h : vmT vm M.T) (hs : s.Vmid = vm) : Vt vm (doP n M c i s at_) := by
  unfold doP
  refine Vt.ite h (Vt.ite (touch_vt h hs) (Vt.ite (touch_vt h hs) (Vt.ite (touch_vt h hs) (Vt.ite (touch_vt h hs) ?_))))
  refine Vt.ite h (Vt.ite h (Vt.ite h (Vt.ite h (Vt.ite h (Vt.ite h ?_)))))
  refine Vt.ite h (Vt.ite h ?_)
  refine Vt.ite (Vt.ite h h) (Vt.ite (Vt.ite h h) ?_)
  exact Vt.ite (Vt.ite h h) (Vt.ite h (Vt.ite h (Vt.ite (vmT_flush h _) h)))
theorem stepP_vt {vm : Int} (n : Nat) (M : Mch) (c : Cp) (se at_ : Int) (h : vmT vm M.T) : Vt vm (stepP n M c vm se at_) := by
  unfold stepP
  refine Vt.ite h ?_
  unfold stepF
  have hs : (spaceP M.V.isSome c vm se).Vmid = vm := by unfold spaceP; split <;> rfl
  have u2 := vmT_reachC (n := n) (mem := M.mem) h hs c.Pc 4 at_
  exact Vt.ite u2 (Vt.ite u2 (doP_vt u2 hs))
theorem runP_vt (n : Nat) {vm : Int} (se : Int) : ∀ (f : Nat) (M : Mch) (c : Cp) (k : Nat), vmT vm M.T → vmT vm (runP n vm se f M c k).M.T
  | 0, M, c, k, u => u
  | f + 1, M, c, k, u => by
    unfold runP
    have h := stepP_vt n M c se (atP c.Pc) u
    split
    · exact h
    · exact runP_vt n se f _ _ _ h
end Go.Eng
