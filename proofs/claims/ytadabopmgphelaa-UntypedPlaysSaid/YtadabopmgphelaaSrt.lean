/-
  THE ENGINE: slices.SortFunc by the shelf's contract, over parts of memory.
-/
import Derived.Test.YtadabopmgphelaaMapD
import Derived.Shelf.SlSortCmp.NoneTotal
namespace Go.Eng
set_option linter.unusedSimpArgs false
set_option linter.unusedVariables false
set_option maxRecDepth 16000
set_option maxHeartbeats 4000000
open Go Go.Proofs Go.Sort Go.Shelf
theorem grow_of {W w' : World} (s : Same W w') (e : Ext W.heap w'.heap) : ∃ q os', w' = Go.Sort.grow (W.drewN q) os' := by
  refine ⟨w'.drawn - W.drawn, w'.heap.extract W.heap.size w'.heap.size, ?_⟩
  have h1 := s.drawn
  have h2 : W.heap ++ w'.heap.extract W.heap.size w'.heap.size = w'.heap := by
    apply Array.ext_getElem?
    intro i
    by_cases hi : i < W.heap.size
    · rw [Array.getElem?_append_left hi, e.get i hi]
    · rw [Array.getElem?_append_right (by omega), Array.getElem?_extract]
      split
      · congr 1; omega
      · rw [Array.getElem?_eq_none (by omega)]
  obtain ⟨hp, tp, dr, o, out⟩ := w'
  have a := s.os; have b := s.tape; have c := s.output
  simp only at a b c h1 h2
  simp only [Go.Sort.grow, World.drewN, World.mk.injEq]
  exact ⟨h2.symm, b, by omega, a, c⟩
section
variable {P : Program} {ρ : Ren} {α : Type} [Inhabited α]
theorem cmpLays_of {g : Nat} {enc : α → List Value} {k : Nat} {cf : α → α → Int} {blk off size : Nat} {w : World} (hc : ∀ x y h, HCalls P g #[.agg (enc x).toArray, .agg (enc y).toArray] h fun v h' => v = .int .i64 (cf x y) ∧ Ext h h') :
    CmpLays P g #[] enc k cf blk off size w := by
  intro m os dk _ x y
  refine (hc x y _ _ rfl).mono ?_
  rintro e w' ⟨hs, v, rfl, rfl, he⟩
  exact ⟨rfl, grow_of hs he⟩
theorem flatK_get {enc : α → List Value} {k : Nat} (hk : ∀ x, (enc x).length = k) (Y : List α) (j : Nat) (hj : j < Y.length * k) : (Y.flatMap enc)[j]? = some ((Go.Sort.flatK enc k Y.toArray)[j]!) := by
  have k0 : 0 < k := by
    rcases Nat.eq_zero_or_pos k with h | h
    · subst h; simp at hj
    · exact h
  have e : j = j / k * k + j % k := by rw [Nat.mul_comm]; exact (Nat.div_add_mod j k).symm
  have hq : j / k < Y.length := Nat.div_lt_of_lt_mul (by rw [Nat.mul_comm]; exact hj)
  have hr : j % k < k := Nat.mod_lt _ k0
  rw [get_flatK _ _ _ _ (by simpa using hj)]
  conv => lhs; rw [e]
  rw [flat_get hk Y (j / k) (j % k) hr, List.getElem?_eq_getElem hq]
  simp only [Option.bind_some]
  have h1 : Y.toArray[j / k]! = Y[j / k] := by simp [hq]
  rw [h1]
  have h2 : j % k < (enc Y[j / k]).length := by rw [hk]; exact hr
  rw [List.getElem?_eq_getElem h2, List.getElem!_eq_getElem?_getD, List.getElem?_eq_getElem h2]
  rfl
/-- The sort, of a list in memory. -/
theorem Sat.sort {h : Heap} {F : List SP} (L : SlLaysF0.n6 P ρ) {k : Nat} (k0 : 0 < k) (aE : ∀ w, (isAgg (ρ.t 24)).run P w = .ok true w) (zE : ∀ w, (Go.sizeOf (ρ.t 24)).run P w = .ok k w) (enc : α → List Value) (hk : ∀ x, (enc x).length = k)
    (h1 : ∀ x, ∀ v ∈ enc x, v.oneCell' = true) (hsing : ∀ x, ∀ v ∈ enc x, single v = true) (cf : α → α → Int) (hO : SWO (ltOf cf)) (g : Nat) (hg : okFn P g = true) (hc : ∀ x y h, HCalls P g #[.agg (enc x).toArray, .agg (enc y).toArray] h fun v h' => v = .int .i64 (cf x y) ∧ Ext h h')
    {v : Value} {Y : List α} (hs : Sat h (sliceS k Y.length v (Y.flatMap enc) :: F)) (hlen : Y.length < 4611686018427387904) :
    HCalls P (ρ.f 6) #[v, .func (.func g) #[] #[]] h fun r h' => r = .tuple #[] ∧ ∃ Z : List α, Z.Perm Y ∧ Z.Pairwise (fun x y => ltOf cf y x = false) ∧ Sat h' (sliceS k Z.length v (Z.flatMap enc) :: F) := by
  intro w hw
  subst hw
  obtain ⟨a, c, p1, p2, p3, ⟨r1, r2, r3⟩, p5⟩ := hs
  rcases r3 with ⟨hY, rfl⟩ | ⟨lb, cap, cs, ty, rfl, w1, w2, w3, w4⟩
  · have : Y = [] := List.eq_nil_of_length_eq_zero hY
    subst this
    refine (AnyF.slices_SortFunc_none L none 0 _ w).mono ?_
    rintro e w' ⟨rfl, rfl⟩
    exact ⟨Same.refl _, _, rfl, rfl, [], List.Perm.refl _, List.Pairwise.nil, a, c, p1, p2, p3, ⟨r1, r2, .inl ⟨rfl, rfl⟩⟩, p5⟩
  · by_cases hY : Y.length = 0
    · have : Y = [] := List.eq_nil_of_length_eq_zero hY
      subst this
      refine (AnyF.slices_SortFunc_none L (some ⟨lb, 0, none⟩) cap _ w).mono ?_
      rintro e w' ⟨rfl, rfl⟩
      exact ⟨Same.refl _, _, rfl, rfl, [], List.Perm.refl _, List.Pairwise.nil, a, c, p1, p2, p3, ⟨r1, r2, .inr ⟨lb, cap, cs, ty, rfl, w1, w2, w3, w4⟩⟩, p5⟩
    have hlb : w.heap[lb]? = some (.cells cs ty (0, 0)) := p2 lb _ w3
    have hH : HoldsK enc k w lb 0 Y.toArray := by
      intro j hj
      rw [size_flatK, List.size_toArray] at hj
      have e1 := flatK_get hk Y j hj
      have e2 := w4 j (by rw [r1]; exact hj)
      rw [e1] at e2
      refine ⟨?_, ?_⟩
      · rw [cell_eq]
        unfold hcell
        simp only [Nat.zero_add, hlb, Option.isSome_none, Bool.false_eq_true, if_false]
        exact e2
      · rw [frozen_eq]
        unfold hfrozen
        simp only [hlb]
        simp
    have eg : ∀ args w, (callFunc g args).run P w = .ok (.enter g args) w := fun args w => runD_sound _ (runD_callFunc hg)
    have hcon := AnyQ.slices_SortFunc L k aE zE enc hk h1 cf hO g #[] lb 0 cap Y.toArray w eg (cmpLays_of hc) hH (lt_of_get hlb) (by simpa using hlen)
    rw [List.size_toArray] at hcon
    refine hcon.mono ?_
    rintro e w' ⟨rfl, d', n, os, hp, hso, rfl⟩
    obtain ⟨q1, -, q3⟩ := hp
    have q1 : d'.size = Y.length := by simpa using q1
    have hsame : Same w (sortWorldK enc k w lb 0 n d' os) := ⟨rfl, rfl, rfl, Nat.le_add_right _ _⟩
    have hperm : d'.toList.Perm Y := by
      have e1 : (d'.extract 0 Y.length).toList = d'.toList := by rw [← q1]; simp
      have e2 : (Y.toArray.extract 0 Y.length).toList = Y := by simp
      rw [e1, e2] at q3
      exact q3
    have hln : d'.toList.length = Y.length := hperm.length_eq
    refine ⟨hsame, _, rfl, rfl, d'.toList, hperm, ?_, ?_⟩
    · rw [List.pairwise_iff_getElem]
      intro i j hi hj hij
      have := hso i j (Nat.zero_le _) hij (by omega)
      rw [getElem!_pos d' j (by simpa using hj), getElem!_pos d' i (by simpa using hi)] at this
      simpa using this
    · have base : Sat w.heap (cellAt lb (.cells cs ty (0, 0)) :: F) := ⟨a, c, p1, p2, p3, w3, p5⟩
      have s2 := base.set (.cells (putCells id 0 (Go.Sort.flatK enc k d') cs) ty (0, 0))
      have hheap : (sortWorldK enc k w lb 0 n d' os).heap = w.heap.setIfInBounds lb (.cells (putCells id 0 (Go.Sort.flatK enc k d') cs) ty (0, 0)) ++ os := by
        unfold sortWorldK Go.Sort.grow putRowK putRow mapBlock
        simp only
        congr 1
        apply Array.ext_getElem?
        intro i
        simp only [Array.getElem?_modify, Array.getElem?_setIfInBounds, Go.Sort.ahead]
        by_cases hi : lb = i
        · subst hi
          have hlt := lt_of_get hlb
          simp only [if_true, hlt, hlb, Option.map_some]
          rfl
        · simp only [hi, if_false]
      rw [hheap]
      have s3 := s2.grow (h' := w.heap.setIfInBounds lb (.cells (putCells id 0 (Go.Sort.flatK enc k d') cs) ty (0, 0)) ++ os) ⟨by simp, fun b hb => by rw [Array.getElem?_append_left hb]⟩
      have hfl : (d'.toList.flatMap enc).length = d'.toList.length * k := flat_len hk _
      rw [hln] at hfl ⊢
      have hle : Y.length * k ≤ cap * k := Nat.mul_le_mul_right _ w1
      refine s3.toSlice hfl ?_ w1 ?_ ?_
      · intro x hx
        obtain ⟨y, -, hy⟩ := List.mem_flatMap.1 hx
        exact hsing y x hy
      · unfold putCells; rw [Array.size_mapIdx, w2]
      · intro j hj
        rw [hfl] at hj
        have e1 := flatK_get hk d'.toList j (by rw [hln]; exact hj)
        rw [Array.toArray_toList] at e1
        rw [e1]
        unfold putCells
        rw [Array.getElem?_mapIdx, Array.getElem?_eq_getElem (by omega), size_flatK]
        simp only [Option.map_some]
        rw [if_pos ⟨Nat.zero_le _, by rw [q1]; omega⟩]
        rfl
end
end Go.Eng
