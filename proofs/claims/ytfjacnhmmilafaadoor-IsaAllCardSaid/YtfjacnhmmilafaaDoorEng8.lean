/-
  THE ENGINE, PART 8: slices and arrays.
-/
import Derived.Test.YtfjacnhmmilafaaDoorEng7
namespace Go.Eng
set_option linter.unusedSimpArgs false
set_option linter.unusedVariables false
set_option maxRecDepth 16000
set_option maxHeartbeats 4000000
open Go

def sliceElem (P : Program) (t : TypeId) : TypeId := match P.underlying t with | some (.slice e) => e | _ => 0
/-- A new row of noughts. -/
def zrow (P : Program) (t : TypeId) (n : Nat) : Array Value := (Array.range (n * sliceSz P t)).map fun i => (tzeroD P (sliceElem P t)).cells[i % (tzeroD P (sliceElem P t)).cells.size]!
def zeroOkB (P : Program) (t : TypeId) : Bool := (tzero P t).isSome && decide ((tzeroD P t).cells.size = tszD P t)
def isArrB (P : Program) (t : TypeId) : Bool := match P.underlying t with | some (.array _ e) => (tsz P e).isSome | _ => false
def arrLen (P : Program) (t : TypeId) : Nat := match P.underlying t with | some (.array n _) => n | _ => 0
def arrSz (P : Program) (t : TypeId) : Nat := match P.underlying t with | some (.array _ e) => tszD P e | _ => 0
theorem isArrB_of {P : Program} {t : TypeId} (h : isArrB P t = true) : ∃ e n s, P.underlying t = some (.array n e) ∧ tsz P e = some s ∧ arrSz P t = s ∧ arrLen P t = n := by
  unfold isArrB at h; split at h
  · rename_i n e he
    obtain ⟨s, hs⟩ := Option.isSome_iff_exists.1 h
    exact ⟨e, n, s, he, hs, by simp [arrSz, he, tszD, hs], by simp [arrLen, he]⟩
  · cases h

section
variable {P : Program} {h : Heap} {t : TypeId} {α : Type}

theorem zrow_size {n : Nat} : (zrow P t n).size = n * sliceSz P t := by simp [zrow]
theorem zrow_get {n i : Nat} (hi : i < n * sliceSz P t) : (zrow P t n)[i]? = some ((tzeroD P (sliceElem P t)).cells[i % (tzeroD P (sliceElem P t)).cells.size]!) := by
  simp [zrow, hi]

theorem runH_mark {m : Mark} {K : Unit → Heap → Prop} : runH P (mark m) h K = K () h := (rfl)
theorem runH_askRoom {n : Nat} {K : Unit → Heap → Prop} : runH P (askRoom n) h K = K () h := by unfold askRoom; split <;> rfl

theorem runH_makeSlice {n : Nat} {K : Value → Heap → Prop} (hsl : isSliceB P t = true) (hz : (tzero P (sliceElem P t)).isSome = true) (hb' : (tbytes P (sliceElem P t)).getD 0 * n ≤ 281474976710656) (hn : n ≤ 9223372036854775807) :
    runH P (iMakeSlice t (.int .i64 n) (.int .i64 n)) h K = K (.slice (some ⟨h.size, 0, none⟩) n n) (h.push (.cells (zrow P t n) (sliceElem P t))) := by
  obtain ⟨e, s, ht, hs, hsz⟩ := isSliceB_of hsl
  have he : sliceElem P t = e := by simp [sliceElem, ht]
  rw [he] at hz hb'
  obtain ⟨z, hz'⟩ := Option.isSome_iff_exists.1 hz
  cases hi : P.info? e with
  | none => simp [tsz, hi] at hs
  | some i =>
    have hby : (tbytes P e).getD 0 = i.bytes := by simp [tbytes, hi]
    rw [hby] at hb'
    have hb : (i.bytes : Int) * n ≤ 281474976710656 := by rw [← Int.natCast_mul]; omega
    have hw : IntKind.i64.wrap (n : Int) = n := by
      have e1 : (2 : Int) ^ 64 = 18446744073709551616 := by decide
      have e2 : (2 : Int) ^ (64 - 1) = 9223372036854775808 := by decide
      simp only [IntKind.wrap, IntKind.bits, IntKind.signed, e1, e2, Bool.true_and]
      split
      · rename_i hh; simp only [decide_eq_true_eq] at hh; omega
      · omega
    unfold iMakeSlice Instr.makeSlice
    rw [runH_bind, runH_underlying ht]
    simp only [asInt, asIntOf, pure_bind]
    rw [runH_bind, runH_of_runD _ (runD_typeInfo hi)]
    simp only [hw]
    have e2 : (2 : Int) ^ 48 = 281474976710656 := by decide
    have c1 : (decide ((n : Int) < 0) || decide ((i.bytes : Int) * (n : Int) > 2 ^ 48)) = false := by
      rw [e2]; simp only [Bool.or_eq_false_iff, decide_eq_false_iff_not]; omega
    have c2 : ((decide ((n : Int) < 0) || decide ((i.bytes : Int) * (n : Int) > 2 ^ 48)) = true ∨ (n : Int) < 0 ∨ (n : Int) > n) ↔ False := by
      rw [c1]; simp only [Bool.false_eq_true, false_or, iff_false]; omega
    have c3 : ((decide ((n : Int) < 0) || decide ((i.bytes : Int) * (n : Int) > 2 ^ 48) || decide ((n : Int) < 0) || decide ((n : Int) > n))) = false := by
      rw [c1]; simp only [Bool.false_or, Bool.or_eq_false_iff, decide_eq_false_iff_not]; omega
    rw [if_neg (by rw [c3]; decide)]
    rw [Int.toNat_natCast, runH_bind, runH_askRoom, runH_bind, runH_of_runD _ (runD_sizeOf hs)]
    have hzd : tzeroD P e = z := by simp [tzeroD, hz']
    by_cases h0 : n * s = 0
    · rw [if_pos h0]
      have hz0 : zrow P t n = #[] := by apply Array.eq_empty_of_size_eq_zero; rw [zrow_size, hsz, h0]
      have hm : Array.map (fun x => (#[] : Array Value)[x % (#[] : Array Value).size]!) (Array.range 0) = #[] := by simp
      rw [hz0, h0, he, hm]
      rfl
    · rw [if_neg h0]
      rw [runH_bind, runH_of_runD _ (runD_zero hz')]
      unfold zrow
      rw [he, hsz, hzd]
      rfl

/-- A row's cells, written by a list. -/
theorem storeCells_arr {b o : Nat} {e : TypeId} {K : Unit → Heap → Prop} : ∀ (l : List Value) (i : Nat) (h : Heap) (c : Array Value), h[b]? = some (.cells c e (0, 0)) → (∀ v ∈ l, single v = true) → o + i + l.length ≤ c.size →
    (∀ c', c'.size = c.size → (∀ j, c'[j]? = if o + i ≤ j ∧ j < o + i + l.length then l[j - (o + i)]? else c[j]?) → K () (h.setIfInBounds b (.cells c' e (0, 0)))) → runH P (storeCells ⟨b, o, none⟩ l i) h K
  | [], i, h, c, hb, _, _, hK => by
    have hs : h.setIfInBounds b (.cells c e (0, 0)) = h := by
      apply Array.ext_getElem?
      intro j
      rw [Array.getElem?_setIfInBounds]
      split
      · rename_i hj; subst hj
        split
        · exact hb.symm
        · rename_i hlt; exact (hlt (Array.getElem?_eq_some_iff.1 hb).1).elim
      · rfl
    have := hK c rfl (fun j => by rw [if_neg (by simp only [List.length_nil]; omega)])
    rw [hs] at this
    exact this
  | v :: l, i, h, c, hb, hl, hle, hK => by
    have hlt : b < h.size := (Array.getElem?_eq_some_iff.1 hb).1
    simp only [List.length_cons] at hle hK
    simp only [storeCells]
    rw [runH_bind, add_mk]
    refine ⟨hl v (by simp), ?_⟩
    simp only [hb]
    refine ⟨trivial, by omega, by simp, ?_⟩
    show runH P (storeCells ⟨b, o, none⟩ l (i + 1)) _ K
    refine storeCells_arr l (i + 1) _ (c.setIfInBounds (o + i) v) (by rw [Array.getElem?_setIfInBounds, if_pos rfl, if_pos hlt]) (fun u hu => hl u (by simp [hu])) (by simp; omega) ?_
    intro c' hc' hget
    rw [Array.setIfInBounds_setIfInBounds]
    refine hK c' (by simpa using hc') fun j => ?_
    rw [hget j]
    by_cases h1 : o + (i + 1) ≤ j ∧ j < o + (i + 1) + l.length
    · rw [if_pos h1, if_pos (by omega)]
      rw [show j - (o + i) = (j - (o + (i + 1))) + 1 by omega, List.getElem?_cons_succ]
    · rw [if_neg h1]
      by_cases h2 : j = o + i
      · subst h2
        rw [if_pos (by omega), Array.getElem?_setIfInBounds, if_pos rfl, if_pos (by omega)]
        simp
      · rw [if_neg (by omega), Array.getElem?_setIfInBounds, if_neg (fun e => h2 e.symm)]

theorem runD_sliceBound {k : IntKind} {i : Int} {y : Nat} {c : BoundsCode} (h0 : 0 ≤ i) (h1 : i ≤ y) : runD P (Instr.sliceBound (.int k i) y c) h = some i.toNat := by
  unfold Instr.sliceBound
  simp only [asIntOf, pure_bind, h0, h1, and_self, if_true]
  rfl

theorem runD_slice_arr_all {b o : Nat} (ha : isArrB P t = true) : runD P (iSliceAt t (.pointer (some ⟨b, o, none⟩)) none none none) h = some (.slice (some ⟨b, o, none⟩) (arrLen P t) (arrLen P t)) := by
  obtain ⟨e, n, s, ht, hs, hsz, hl⟩ := isArrB_of ha
  unfold iSliceAt Instr.sliceAt
  rw [runD_bind, runD_underlying ht]
  simp only [Option.bind_some, Instr.sureAddr, pure_bind, Instr.sliceBounds]
  rw [runD_bind, runD_sizeOf hs, hl]
  simp only [Option.bind_some, runD_pure, Nat.sub_zero, Nat.zero_mul, add_mk, Nat.add_zero, ite_self]

theorem runD_slice_arr {b o : Nat} {k k' : IntKind} {l u : Int} (ha : isArrB P t = true) (h0 : 0 ≤ l) (h1 : l ≤ u) (h2 : u ≤ arrLen P t) (h3 : l < arrLen P t) : runD P (iSliceAt t (.pointer (some ⟨b, o, none⟩)) (some (.int k l)) (some (.int k' u)) none) h =
    some (.slice (some ⟨b, o + l.toNat * arrSz P t, none⟩) (u.toNat - l.toNat) (arrLen P t - l.toNat)) := by
  obtain ⟨e, n, s, ht, hs, hsz, hl⟩ := isArrB_of ha
  rw [hl] at h2 h3
  unfold iSliceAt Instr.sliceAt
  rw [runD_bind, runD_underlying ht]
  simp only [Option.bind_some, Instr.sureAddr, pure_bind, Instr.sliceBounds]
  rw [runD_bind, runD_bind, runD_sliceBound (by omega) h2]
  simp only [Option.bind_some]
  rw [runD_bind, runD_sliceBound h0 (by omega)]
  simp only [Option.bind_some, runD_pure]
  rw [runD_bind, runD_sizeOf hs, hl, hsz]
  simp only [Option.bind_some, runD_pure, add_mk]
  rw [if_neg (by omega)]

theorem runH_clear_arr {b o n m : Nat} {cs : Array Value} {e u : TypeId} {z : Value} {K : Value → Heap → Prop} (hsl : isSliceB P t = true) (hz : tzero P (sliceElem P t) = some z) (h1 : single z = true) (hn : n ≠ 0)
    (hb : h[b]? = some (.cells cs e (0, 0))) (hle : o + n ≤ cs.size)
    (hK : ∀ c', c'.size = cs.size → (∀ j, c'[j]? = if o ≤ j ∧ j < o + n then some z else cs[j]?) → K (.tuple #[]) (h.setIfInBounds b (.cells c' e (0, 0)))) :
    runH P (iClear #[t] u #[.slice (some ⟨b, o, none⟩) n m]) h K := by
  obtain ⟨el, s, ht, hs, hsz⟩ := isSliceB_of hsl
  have he : sliceElem P t = el := by simp [sliceElem, ht]
  rw [he] at hz
  have hc : z.cells = #[z] := by cases z <;> first | rfl | (simp [single] at h1)
  unfold iClear Builtin.clear_
  simp only [List.getElem?_toArray, List.getElem?_cons_zero]
  rw [runH_bind, runH_underlying ht]
  obtain ⟨n', rfl⟩ : ∃ n', n = n' + 1 := ⟨n - 1, by omega⟩
  simp only
  rw [runH_bind, runH_of_runD _ (runD_zero hz)]
  have hcells : (Builtin.zeroCells z.cells (n' + 1)).toList = List.replicate (n' + 1) z := by
    rw [hc]
    apply List.ext_getElem?
    intro i
    simp only [Builtin.zeroCells, Array.toList_map, List.getElem?_map, Array.getElem?_toList, List.getElem?_replicate]
    by_cases hi : i < n' + 1
    · simp [hi, Nat.mod_one]
    · simp [hi]
  rw [hcells, runH_bind]
  refine storeCells_arr _ 0 h cs hb (fun v hv => by rw [List.eq_of_mem_replicate hv]; exact h1) (by simp; omega) ?_
  intro c' hc' hget
  refine hK c' hc' fun j => ?_
  rw [hget j]
  simp only [List.length_replicate, Nat.add_zero]
  by_cases hj : o ≤ j ∧ j < o + (n' + 1)
  · rw [if_pos hj, if_pos hj, List.getElem?_replicate, if_pos (by omega)]
  · rw [if_neg hj, if_neg hj]

end

attribute [go_sem ↓] runH_makeSlice runD_slice_arr_all runD_slice_arr
attribute [go_sem] hputO_lit
attribute [go_sem low] hcellO_arr hputO_arr
end Go.Eng
