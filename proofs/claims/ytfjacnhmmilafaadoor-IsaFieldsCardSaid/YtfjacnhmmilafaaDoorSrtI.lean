/-
  THE ENGINE: slices.Sort and slices.Compact of ints, by the shelf's contracts, over parts of memory.
-/
import Derived.Test.YtfjacnhmmilafaaDoorFromC
import Derived.Test.YtfjacnhmmilafaaDoorEng16
import Derived.Test.YtfjacnhmmilafaaDoorShfIsa
import Derived.Lib.RowBridge
namespace Go.Eng
set_option linter.unusedSimpArgs false
set_option linter.unusedVariables false
set_option maxRecDepth 16000
set_option maxHeartbeats 4000000
open Go Go.Proofs Go.Sort
theorem holdsI {w : World} {lb : Nat} {cs : Array Value} {ty : TypeId} {zs : List Int} (hlb : w.heap[lb]? = some (.cells cs ty (0, 0))) (h : ∀ k, k < (zs.map (Value.int .i64)).length → cs[k]? = (zs.map (Value.int .i64))[k]?) :
    Go.Sort.Holds (Value.int .i64) w lb 0 zs.toArray := by
  intro j hj
  have hj2 : j < zs.length := by simpa using hj
  have e2 := h j (by simpa using hj2)
  have e1 : (zs.map (Value.int .i64))[j]? = some (Value.int .i64 zs.toArray[j]!) := by
    rw [List.getElem?_map, List.getElem?_eq_getElem hj2]
    simp [hj2]
  refine ⟨?_, ?_⟩
  · rw [cell_eq]
    unfold hcell
    simp only [Nat.zero_add, hlb, Option.isSome_none, Bool.false_eq_true, if_false]
    rw [e2, e1]
  · rw [frozen_eq]
    unfold hfrozen
    simp only [hlb]
    simp
theorem putRow_heapI {w : World} {lb n : Nat} {cs : Array Value} {ty : TypeId} {d : Array Int} (hlb : w.heap[lb]? = some (.cells cs ty (0, 0))) :
    (putRow (Value.int .i64) (Go.Sort.ahead w n) lb 0 d).heap = w.heap.setIfInBounds lb (.cells (putCells (Value.int .i64) 0 d cs) ty (0, 0)) := by
  unfold putRow mapBlock
  simp only
  apply Array.ext_getElem?
  intro i
  simp only [Array.getElem?_modify, Array.getElem?_setIfInBounds, Go.Sort.ahead]
  by_cases hi : lb = i
  · subst hi
    have hlt := lt_of_get hlb
    simp only [if_true, hlt, hlb, Option.map_some]
    rfl
  · simp only [hi, if_false]
theorem putCells_getI {d : List Int} {cs : Array Value} {j : Nat} (hj : j < d.length) (hc : j < cs.size) : (putCells (Value.int .i64) 0 d.toArray cs)[j]? = some (.int .i64 d[j]) := by
  unfold putCells
  rw [Array.getElem?_mapIdx, Array.getElem?_eq_getElem hc]
  simp only [Option.map_some]
  rw [if_pos ⟨Nat.zero_le _, by simpa using hj⟩]
  simp [hj]
section
variable {h : Heap} {F : List SP}
theorem Sat.sortI {v : Value} {zs : List Int} (hs : Sat h (sliceS 1 zs.length v (zs.map (Value.int .i64)) :: F)) (hlen : zs.length < 1000) :
    HCalls Tryd.prog 27 #[v] h fun r h' => r = .tuple #[] ∧ Sat h' (sliceS 1 zs.length v ((zs.mergeSort fun x y => decide (x ≤ y)).map (Value.int .i64)) :: F) := by
  intro w hw
  subst hw
  obtain ⟨a, c, p1, p2, p3, ⟨r1, r2, r3⟩, p5⟩ := hs
  by_cases hY : zs.length = 0
  · have : zs = [] := List.eq_nil_of_length_eq_zero hY
    subst this
    have hv : ∃ p cap, v = .slice p 0 cap := by
      rcases r3 with ⟨-, rfl⟩ | ⟨lb, cap, cs, ty, rfl, -⟩
      · exact ⟨_, _, rfl⟩
      · exact ⟨_, _, rfl⟩
    obtain ⟨p, cap, rfl⟩ := hv
    refine (Tryd.slices_Sort_int_none p cap w).mono ?_
    rintro e w' ⟨rfl, rfl⟩
    rw [List.mergeSort_nil]
    exact ⟨Same.refl _, _, rfl, rfl, a, c, p1, p2, p3, ⟨r1, r2, r3⟩, p5⟩
  rcases r3 with ⟨hY2, rfl⟩ | ⟨lb, cap, cs, ty, rfl, w1, w2, w3, w4⟩
  · exact absurd hY2 hY
  have hlb : w.heap[lb]? = some (.cells cs ty (0, 0)) := p2 lb _ w3
  refine (Tryd.slices_Sort_int lb 0 cap zs w (holdsI hlb w4) (lt_of_get hlb) (by omega)).mono ?_
  rintro e w' ⟨rfl, n, os, rfl⟩
  refine ⟨⟨rfl, rfl, rfl, Nat.le_add_right _ _⟩, _, rfl, rfl, ?_⟩
  have base : Sat w.heap (cellAt lb (.cells cs ty (0, 0)) :: F) := ⟨a, c, p1, p2, p3, w3, p5⟩
  have s2 := base.set (.cells (putCells (Value.int .i64) 0 (zs.mergeSort fun x y => decide (x ≤ y)).toArray cs) ty (0, 0))
  rw [← putRow_heapI (n := n) hlb] at s2
  have s3 := s2.grow (h' := (Go.Sort.grow (putRow (Value.int .i64) (Go.Sort.ahead w n) lb 0 (zs.mergeSort fun x y => decide (x ≤ y)).toArray) os).heap) ⟨by simp [Go.Sort.grow], fun b hb => by simp only [Go.Sort.grow]; rw [Array.getElem?_append_left hb]⟩
  refine s3.toSlice (by simp) (by simp [single]) w1 (by unfold putCells; rw [Array.size_mapIdx, w2]) ?_
  intro j hj
  have hj2 : j < (zs.mergeSort fun x y => decide (x ≤ y)).length := by simpa using hj
  have hj3 : j < zs.length := by simpa using hj
  rw [putCells_getI hj2 (by omega), List.getElem?_map, List.getElem?_eq_getElem hj2]
  rfl
theorem Sat.compactI {v : Value} {zs : List Int} (hs : Sat h (sliceS 1 zs.length v (zs.map (Value.int .i64)) :: F)) (hlen : zs.length < 1000) :
    HCalls Tryd.prog 28 #[v] h fun r h' => Sat h' (sliceS 1 (Lib.compact zs).length r ((Lib.compact zs).map (Value.int .i64)) :: F) := by
  intro w hw
  subst hw
  obtain ⟨a, c, p1, p2, p3, ⟨r1, r2, r3⟩, p5⟩ := hs
  have hcl := Lib.compact_length_le zs
  by_cases hY : zs.length = 0
  · have : zs = [] := List.eq_nil_of_length_eq_zero hY
    subst this
    have hv : ∃ p cap, v = .slice p 0 cap := by
      rcases r3 with ⟨-, rfl⟩ | ⟨lb, cap, cs, ty, rfl, -⟩
      · exact ⟨_, _, rfl⟩
      · exact ⟨_, _, rfl⟩
    obtain ⟨p, cap, rfl⟩ := hv
    refine (Tryd.slices_Compact_int_empty p cap w).mono ?_
    rintro e w' ⟨rfl, rfl⟩
    have : Lib.compact ([] : List Int) = [] := List.eq_nil_of_length_eq_zero (by omega)
    rw [this]
    exact ⟨Same.refl _, _, rfl, a, c, p1, p2, p3, ⟨r1, r2, r3⟩, p5⟩
  rcases r3 with ⟨hY2, rfl⟩ | ⟨lb, cap, cs, ty, rfl, w1, w2, w3, w4⟩
  · exact absurd hY2 hY
  have hlb : w.heap[lb]? = some (.cells cs ty (0, 0)) := p2 lb _ w3
  refine (Tryd.slices_Compact_int lb 0 cap zs w (holdsI hlb w4) (by omega) w1).mono ?_
  rintro e w' ⟨rfl, n, rfl⟩
  refine ⟨⟨rfl, rfl, rfl, Nat.le_add_right _ _⟩, _, rfl, ?_⟩
  have base : Sat w.heap (cellAt lb (.cells cs ty (0, 0)) :: F) := ⟨a, c, p1, p2, p3, w3, p5⟩
  have s2 := base.set (.cells (putCells (Value.int .i64) 0 (Lib.compact zs ++ List.replicate (zs.length - (Lib.compact zs).length) 0).toArray cs) ty (0, 0))
  rw [← putRow_heapI (n := n) hlb] at s2
  refine s2.toSlice (by simp) (by simp [single]) (by omega) (by unfold putCells; rw [Array.size_mapIdx, w2]) ?_
  intro j hj
  have hj2 : j < (Lib.compact zs).length := by simpa using hj
  rw [putCells_getI (by rw [List.length_append]; omega) (by omega), List.getElem?_map, List.getElem?_eq_getElem hj2, List.getElem_append_left hj2]
  rfl
end
end Go.Eng
