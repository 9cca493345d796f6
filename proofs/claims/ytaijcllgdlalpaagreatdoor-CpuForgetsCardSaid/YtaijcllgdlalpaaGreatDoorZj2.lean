/-
  THE ENGINE: strings: length, bytes, parts, comparison, range.
-/
import Derived.Test.YtaijcllgdlalpaaGreatDoorZj1
import Derived.Test.YtaijcllgdlalpaaGreatDoorProg
import Derived.KernelRfl
namespace Go.Eng
set_option linter.unusedSimpArgs false
set_option linter.unusedVariables false
set_option maxRecDepth 16000
set_option maxHeartbeats 4000000
open Go
def isStrB (P : Program) (t : TypeId) : Bool := match P.underlying t with | some .string => true | _ => false
section
variable {P : Program} {h : Heap} {t u : TypeId} {s : ByteArray}
theorem isStrB_of (ht : isStrB P t = true) : P.underlying t = some .string := by
  unfold isStrB at ht
  split at ht
  · assumption
  · cases ht
theorem runD_len_str (ht : isStrB P t = true) : runD P (iLen #[t] u #[.string s]) h = some (.int .i64 s.size) := by
  unfold iLen Builtin.len_
  simp only [List.getElem?_toArray, List.getElem?_cons_zero]
  rw [runD_bind, runD_underlying (isStrB_of ht)]
  rfl
theorem runD_index_str {k : IntKind} {i : Nat} {b : UInt8} (ht : isStrB P t = true) (hb : s[i]? = some b) : runD P (iIndex t (.string s) (.int k i)) h = some (.int .u8 b.toNat) := by
  unfold iIndex Instr.index
  simp only [asIntOf, pure_bind]
  rw [runD_bind, runD_underlying (isStrB_of ht)]
  simp only [Option.bind_some]
  rw [if_pos (Int.natCast_nonneg i), Int.toNat_natCast, hb]
  rfl
theorem runD_slice_str {lo hi : Option Value} {l m : Nat} (ht : isStrB P t = true) (hb : runD P (Instr.sliceBounds false s.size s.size lo hi none) h = some (l, m, s.size)) : runD P (iSliceAt t (.string s) lo hi none) h = some (.string (s.extract l m)) := by
  unfold iSliceAt Instr.sliceAt
  rw [runD_bind, runD_underlying (isStrB_of ht)]
  simp only [Option.bind_some]
  unfold Instr.slice
  rw [runD_bind, runD_underlying (isStrB_of ht)]
  simp only [Option.bind_some, Option.isSome_none, Bool.false_eq_true, if_false]
  rw [runD_bind, hb]
  rfl
theorem binD_str_eq {x y : Operand} {a b : ByteArray} : binD P h .eql t x y (.string a) (.string b) = some (.bool (a.toList == b.toList)) := rfl
theorem binD_str_ne {x y : Operand} {a b : ByteArray} : binD P h .neq t x y (.string a) (.string b) = some (.bool (!(a.toList == b.toList))) := rfl
theorem runH_rangeStr {K : Value → Heap → Prop} (ht : isStrB P t = true) : runH P (iRange t (.string s)) h K = K (.pointer (some ⟨h.size, 0, none⟩)) (h.push (.stringIter s 0)) := by
  unfold iRange Instr.range
  rw [runH_bind, runH_underlying (isStrB_of ht)]
  rfl
theorem runH_nextStr {r pos : Nat} {ty : TypeId} {K : Value → Heap → Prop} (hr : h[r]? = some (.stringIter s pos))
    (h0 : s.size ≤ pos → K (.tuple #[.bool false]) h)
    (h1 : pos < s.size → K (.tuple #[.bool true, .int .i64 pos, .int .i32 (Utf8.decode s pos).1]) (h.setIfInBounds r (.stringIter s (pos + (Utf8.decode s pos).2)))) :
    runH P (iNext (.pointer (some ⟨r, 0, none⟩)) true ty) h K := by
  unfold iNext Instr.next
  try simp only
  rw [runH_bind, runH_of_runD _ (runD_getObj hr (by simp))]
  try simp only
  have hset : ∀ (o : Obj) (K : Unit → Heap → Prop), (∀ c e f, o ≠ .cells c e f) → runH P (setObj r o) h K = K () (h.setIfInBounds r o) := fun o K _ => by
    simp only [setObj, runH, hr]
  by_cases hp : pos < s.size
  · rw [if_pos hp]
    rw [runH_bind, hset _ _ (by simp)]
    exact h1 hp
  · rw [if_neg hp]
    exact h0 (by omega)
attribute [go_sem ↓] runD_len_str
attribute [go_sem] binD_str_eq binD_str_ne
end
end Go.Eng
/-
  FACTS ON THE PROGRAM: types, fields, functions (closed, each reckoned by the kernel), and each function's table of live slots. Printed by mk.py.
-/
namespace Go.Eng
open Go Go.Proofs
theorem tsz_0 : tsz Tryz.prog 0 = some 1 := by kernel_rfl
theorem aggB_0 : aggB Tryz.prog 0 = some false := by kernel_rfl
theorem tszD_0 : tszD Tryz.prog 0 = 1 := by kernel_rfl
theorem tbytes_0 : tbytes Tryz.prog 0 = some 0 := by kernel_rfl
theorem tzeroD_0 : tzeroD Tryz.prog 0 = .tuple #[] := by kernel_rfl
theorem tzero_0 : tzero Tryz.prog 0 = some (.tuple #[]) := by kernel_rfl
theorem tsz_3 : tsz Tryz.prog 3 = some 1 := by kernel_rfl
theorem aggB_3 : aggB Tryz.prog 3 = some false := by kernel_rfl
theorem tszD_3 : tszD Tryz.prog 3 = 1 := by kernel_rfl
theorem tbytes_3 : tbytes Tryz.prog 3 = some 8 := by kernel_rfl
theorem isInt_3 : isIntB Tryz.prog 3 = true := by kernel_rfl
theorem intK_3 : intKD Tryz.prog 3 = .i64 := by kernel_rfl
theorem tzeroD_3 : tzeroD Tryz.prog 3 = .int .i64 0 := by kernel_rfl
theorem tzero_3 : tzero Tryz.prog 3 = some (.int .i64 0) := by kernel_rfl
theorem tsz_4 : tsz Tryz.prog 4 = some 1 := by kernel_rfl
theorem aggB_4 : aggB Tryz.prog 4 = some false := by kernel_rfl
theorem tszD_4 : tszD Tryz.prog 4 = 1 := by kernel_rfl
theorem tbytes_4 : tbytes Tryz.prog 4 = some 1 := by kernel_rfl
theorem tzeroD_4 : tzeroD Tryz.prog 4 = .bool false := by kernel_rfl
theorem tzero_4 : tzero Tryz.prog 4 = some (.bool false) := by kernel_rfl
theorem tsz_5 : tsz Tryz.prog 5 = some 1 := by kernel_rfl
theorem aggB_5 : aggB Tryz.prog 5 = some false := by kernel_rfl
theorem tszD_5 : tszD Tryz.prog 5 = 1 := by kernel_rfl
theorem tbytes_5 : tbytes Tryz.prog 5 = some 1 := by kernel_rfl
theorem isInt_5 : isIntB Tryz.prog 5 = true := by kernel_rfl
theorem intK_5 : intKD Tryz.prog 5 = .u8 := by kernel_rfl
theorem tzeroD_5 : tzeroD Tryz.prog 5 = .int .u8 0 := by kernel_rfl
theorem tzero_5 : tzero Tryz.prog 5 = some (.int .u8 0) := by kernel_rfl
theorem tsz_9 : tsz Tryz.prog 9 = some 1 := by kernel_rfl
theorem aggB_9 : aggB Tryz.prog 9 = some false := by kernel_rfl
theorem tszD_9 : tszD Tryz.prog 9 = 1 := by kernel_rfl
theorem tbytes_9 : tbytes Tryz.prog 9 = some 16 := by kernel_rfl
theorem isStr_9 : isStrB Tryz.prog 9 = true := by kernel_rfl
theorem tzeroD_9 : tzeroD Tryz.prog 9 = .string ByteArray.empty := by kernel_rfl
theorem tzero_9 : tzero Tryz.prog 9 = some (.string ByteArray.empty) := by kernel_rfl
theorem tsz_21 : tsz Tryz.prog 21 = some 1 := by kernel_rfl
theorem aggB_21 : aggB Tryz.prog 21 = some false := by kernel_rfl
theorem tszD_21 : tszD Tryz.prog 21 = 1 := by kernel_rfl
theorem tbytes_21 : tbytes Tryz.prog 21 = some 4 := by kernel_rfl
theorem isInt_21 : isIntB Tryz.prog 21 = true := by kernel_rfl
theorem intK_21 : intKD Tryz.prog 21 = .i32 := by kernel_rfl
theorem tzeroD_21 : tzeroD Tryz.prog 21 = .int .i32 0 := by kernel_rfl
theorem tzero_21 : tzero Tryz.prog 21 = some (.int .i32 0) := by kernel_rfl
theorem tsz_22 : tsz Tryz.prog 22 = some 1 := by kernel_rfl
theorem aggB_22 : aggB Tryz.prog 22 = some false := by kernel_rfl
theorem tszD_22 : tszD Tryz.prog 22 = 1 := by kernel_rfl
theorem tbytes_22 : tbytes Tryz.prog 22 = some 24 := by kernel_rfl
theorem isSlice_22 : isSliceB Tryz.prog 22 = true := by kernel_rfl
theorem ssz_22 : sliceSz Tryz.prog 22 = 6 := by kernel_rfl
theorem selem_22 : sliceElem Tryz.prog 22 = 92 := by kernel_rfl
theorem tzeroD_22 : tzeroD Tryz.prog 22 = .slice none 0 0 := by kernel_rfl
theorem tzero_22 : tzero Tryz.prog 22 = some (.slice none 0 0) := by kernel_rfl
theorem tsz_23 : tsz Tryz.prog 23 = some 1 := by kernel_rfl
theorem aggB_23 : aggB Tryz.prog 23 = some false := by kernel_rfl
theorem tszD_23 : tszD Tryz.prog 23 = 1 := by kernel_rfl
theorem tbytes_23 : tbytes Tryz.prog 23 = some 24 := by kernel_rfl
theorem isSlice_23 : isSliceB Tryz.prog 23 = true := by kernel_rfl
theorem ssz_23 : sliceSz Tryz.prog 23 = 2 := by kernel_rfl
theorem selem_23 : sliceElem Tryz.prog 23 = 96 := by kernel_rfl
theorem tzeroD_23 : tzeroD Tryz.prog 23 = .slice none 0 0 := by kernel_rfl
theorem tzero_23 : tzero Tryz.prog 23 = some (.slice none 0 0) := by kernel_rfl
theorem tsz_24 : tsz Tryz.prog 24 = some 5 := by kernel_rfl
theorem aggB_24 : aggB Tryz.prog 24 = some true := by kernel_rfl
theorem tszD_24 : tszD Tryz.prog 24 = 5 := by kernel_rfl
theorem tbytes_24 : tbytes Tryz.prog 24 = some 72 := by kernel_rfl
theorem tzeroD_24 : tzeroD Tryz.prog 24 = .agg #[.slice none 0 0, .slice none 0 0, .bool false, .int .i64 0, .int .i64 0] := by kernel_rfl
theorem tzero_24 : tzero Tryz.prog 24 = some (.agg #[.slice none 0 0, .slice none 0 0, .bool false, .int .i64 0, .int .i64 0]) := by kernel_rfl
theorem tsz_25 : tsz Tryz.prog 25 = some 5 := by kernel_rfl
theorem aggB_25 : aggB Tryz.prog 25 = some true := by kernel_rfl
theorem tszD_25 : tszD Tryz.prog 25 = 5 := by kernel_rfl
theorem tbytes_25 : tbytes Tryz.prog 25 = some 72 := by kernel_rfl
theorem tzeroD_25 : tzeroD Tryz.prog 25 = .agg #[.slice none 0 0, .slice none 0 0, .bool false, .int .i64 0, .int .i64 0] := by kernel_rfl
theorem tzero_25 : tzero Tryz.prog 25 = some (.agg #[.slice none 0 0, .slice none 0 0, .bool false, .int .i64 0, .int .i64 0]) := by kernel_rfl
theorem tsz_26 : tsz Tryz.prog 26 = some 1 := by kernel_rfl
theorem aggB_26 : aggB Tryz.prog 26 = some false := by kernel_rfl
theorem tszD_26 : tszD Tryz.prog 26 = 1 := by kernel_rfl
theorem tbytes_26 : tbytes Tryz.prog 26 = some 4 := by kernel_rfl
theorem isInt_26 : isIntB Tryz.prog 26 = true := by kernel_rfl
theorem intK_26 : intKD Tryz.prog 26 = .u32 := by kernel_rfl
theorem tzeroD_26 : tzeroD Tryz.prog 26 = .int .u32 0 := by kernel_rfl
theorem tzero_26 : tzero Tryz.prog 26 = some (.int .u32 0) := by kernel_rfl
theorem tsz_27 : tsz Tryz.prog 27 = some 16 := by kernel_rfl
theorem aggB_27 : aggB Tryz.prog 27 = some true := by kernel_rfl
theorem tszD_27 : tszD Tryz.prog 27 = 16 := by kernel_rfl
theorem tbytes_27 : tbytes Tryz.prog 27 = some 64 := by kernel_rfl
theorem isArr_27 : isArrB Tryz.prog 27 = true := by kernel_rfl
theorem arrLen_27 : arrLen Tryz.prog 27 = 16 := by kernel_rfl
theorem arrSz_27 : arrSz Tryz.prog 27 = 1 := by kernel_rfl
theorem tzeroD_27 : tzeroD Tryz.prog 27 = .agg #[.int .u32 0, .int .u32 0, .int .u32 0, .int .u32 0, .int .u32 0, .int .u32 0, .int .u32 0, .int .u32 0, .int .u32 0, .int .u32 0, .int .u32 0, .int .u32 0, .int .u32 0, .int .u32 0, .int .u32 0, .int .u32 0] := by kernel_rfl
theorem tzero_27 : tzero Tryz.prog 27 = some (.agg #[.int .u32 0, .int .u32 0, .int .u32 0, .int .u32 0, .int .u32 0, .int .u32 0, .int .u32 0, .int .u32 0, .int .u32 0, .int .u32 0, .int .u32 0, .int .u32 0, .int .u32 0, .int .u32 0, .int .u32 0, .int .u32 0]) := by kernel_rfl
theorem tsz_28 : tsz Tryz.prog 28 = some 8 := by kernel_rfl
theorem aggB_28 : aggB Tryz.prog 28 = some true := by kernel_rfl
theorem tszD_28 : tszD Tryz.prog 28 = 8 := by kernel_rfl
theorem tbytes_28 : tbytes Tryz.prog 28 = some 32 := by kernel_rfl
theorem isArr_28 : isArrB Tryz.prog 28 = true := by kernel_rfl
theorem arrLen_28 : arrLen Tryz.prog 28 = 8 := by kernel_rfl
theorem arrSz_28 : arrSz Tryz.prog 28 = 1 := by kernel_rfl
theorem tzeroD_28 : tzeroD Tryz.prog 28 = .agg #[.int .u32 0, .int .u32 0, .int .u32 0, .int .u32 0, .int .u32 0, .int .u32 0, .int .u32 0, .int .u32 0] := by kernel_rfl
theorem tzero_28 : tzero Tryz.prog 28 = some (.agg #[.int .u32 0, .int .u32 0, .int .u32 0, .int .u32 0, .int .u32 0, .int .u32 0, .int .u32 0, .int .u32 0]) := by kernel_rfl
theorem tsz_29 : tsz Tryz.prog 29 = some 25 := by kernel_rfl
theorem aggB_29 : aggB Tryz.prog 29 = some true := by kernel_rfl
theorem tszD_29 : tszD Tryz.prog 29 = 25 := by kernel_rfl
theorem tbytes_29 : tbytes Tryz.prog 29 = some 104 := by kernel_rfl
theorem tzeroD_29 : tzeroD Tryz.prog 29 = .agg #[.int .u32 0, .int .u32 0, .int .u32 0, .int .u32 0, .int .u32 0, .int .u32 0, .int .u32 0, .int .u32 0, .int .u32 0, .int .u32 0, .int .u32 0, .int .u32 0, .int .u32 0, .int .u32 0, .int .u32 0, .int .u32 0, .int .i64 0, .int .u32 0, .int .u32 0, .int .u32 0, .int .u32 0, .int .u32 0, .int .u32 0, .int .u32 0, .int .u32 0] := by kernel_rfl
theorem tzero_29 : tzero Tryz.prog 29 = some (.agg #[.int .u32 0, .int .u32 0, .int .u32 0, .int .u32 0, .int .u32 0, .int .u32 0, .int .u32 0, .int .u32 0, .int .u32 0, .int .u32 0, .int .u32 0, .int .u32 0, .int .u32 0, .int .u32 0, .int .u32 0, .int .u32 0, .int .i64 0, .int .u32 0, .int .u32 0, .int .u32 0, .int .u32 0, .int .u32 0, .int .u32 0, .int .u32 0, .int .u32 0]) := by kernel_rfl
theorem tsz_30 : tsz Tryz.prog 30 = some 25 := by kernel_rfl
theorem aggB_30 : aggB Tryz.prog 30 = some true := by kernel_rfl
theorem tszD_30 : tszD Tryz.prog 30 = 25 := by kernel_rfl
theorem tbytes_30 : tbytes Tryz.prog 30 = some 104 := by kernel_rfl
theorem tzeroD_30 : tzeroD Tryz.prog 30 = .agg #[.int .u32 0, .int .u32 0, .int .u32 0, .int .u32 0, .int .u32 0, .int .u32 0, .int .u32 0, .int .u32 0, .int .u32 0, .int .u32 0, .int .u32 0, .int .u32 0, .int .u32 0, .int .u32 0, .int .u32 0, .int .u32 0, .int .i64 0, .int .u32 0, .int .u32 0, .int .u32 0, .int .u32 0, .int .u32 0, .int .u32 0, .int .u32 0, .int .u32 0] := by kernel_rfl
theorem tzero_30 : tzero Tryz.prog 30 = some (.agg #[.int .u32 0, .int .u32 0, .int .u32 0, .int .u32 0, .int .u32 0, .int .u32 0, .int .u32 0, .int .u32 0, .int .u32 0, .int .u32 0, .int .u32 0, .int .u32 0, .int .u32 0, .int .u32 0, .int .u32 0, .int .u32 0, .int .i64 0, .int .u32 0, .int .u32 0, .int .u32 0, .int .u32 0, .int .u32 0, .int .u32 0, .int .u32 0, .int .u32 0]) := by kernel_rfl
theorem tsz_32 : tsz Tryz.prog 32 = some 1 := by kernel_rfl
theorem aggB_32 : aggB Tryz.prog 32 = some false := by kernel_rfl
theorem tszD_32 : tszD Tryz.prog 32 = 1 := by kernel_rfl
theorem tbytes_32 : tbytes Tryz.prog 32 = some 8 := by kernel_rfl
theorem isPtr_32 : isPtrB Tryz.prog 32 = true := by kernel_rfl
theorem tzeroD_32 : tzeroD Tryz.prog 32 = .pointer none := by kernel_rfl
theorem tzero_32 : tzero Tryz.prog 32 = some (.pointer none) := by kernel_rfl
theorem tsz_33 : tsz Tryz.prog 33 = some 1 := by kernel_rfl
theorem aggB_33 : aggB Tryz.prog 33 = some false := by kernel_rfl
theorem tszD_33 : tszD Tryz.prog 33 = 1 := by kernel_rfl
theorem tbytes_33 : tbytes Tryz.prog 33 = some 8 := by kernel_rfl
theorem isPtr_33 : isPtrB Tryz.prog 33 = true := by kernel_rfl
theorem tzeroD_33 : tzeroD Tryz.prog 33 = .pointer none := by kernel_rfl
theorem tzero_33 : tzero Tryz.prog 33 = some (.pointer none) := by kernel_rfl
theorem tsz_34 : tsz Tryz.prog 34 = some 1 := by kernel_rfl
theorem aggB_34 : aggB Tryz.prog 34 = some false := by kernel_rfl
theorem tszD_34 : tszD Tryz.prog 34 = 1 := by kernel_rfl
theorem tbytes_34 : tbytes Tryz.prog 34 = some 8 := by kernel_rfl
theorem isPtr_34 : isPtrB Tryz.prog 34 = true := by kernel_rfl
theorem tzeroD_34 : tzeroD Tryz.prog 34 = .pointer none := by kernel_rfl
theorem tzero_34 : tzero Tryz.prog 34 = some (.pointer none) := by kernel_rfl
theorem tsz_35 : tsz Tryz.prog 35 = some 3 := by kernel_rfl
theorem aggB_35 : aggB Tryz.prog 35 = some true := by kernel_rfl
theorem tszD_35 : tszD Tryz.prog 35 = 3 := by kernel_rfl
theorem tbytes_35 : tbytes Tryz.prog 35 = some 24 := by kernel_rfl
theorem tzeroD_35 : tzeroD Tryz.prog 35 = .agg #[.pointer none, .pointer none, .pointer none] := by kernel_rfl
theorem tzero_35 : tzero Tryz.prog 35 = some (.agg #[.pointer none, .pointer none, .pointer none]) := by kernel_rfl
theorem tsz_36 : tsz Tryz.prog 36 = some 3 := by kernel_rfl
theorem aggB_36 : aggB Tryz.prog 36 = some true := by kernel_rfl
theorem tszD_36 : tszD Tryz.prog 36 = 3 := by kernel_rfl
theorem tbytes_36 : tbytes Tryz.prog 36 = some 24 := by kernel_rfl
theorem tzeroD_36 : tzeroD Tryz.prog 36 = .agg #[.pointer none, .pointer none, .pointer none] := by kernel_rfl
theorem tzero_36 : tzero Tryz.prog 36 = some (.agg #[.pointer none, .pointer none, .pointer none]) := by kernel_rfl
theorem tsz_37 : tsz Tryz.prog 37 = some 1 := by kernel_rfl
theorem aggB_37 : aggB Tryz.prog 37 = some false := by kernel_rfl
theorem tszD_37 : tszD Tryz.prog 37 = 1 := by kernel_rfl
theorem tbytes_37 : tbytes Tryz.prog 37 = some 8 := by kernel_rfl
theorem isPtr_37 : isPtrB Tryz.prog 37 = true := by kernel_rfl
theorem tzeroD_37 : tzeroD Tryz.prog 37 = .pointer none := by kernel_rfl
theorem tzero_37 : tzero Tryz.prog 37 = some (.pointer none) := by kernel_rfl
theorem tsz_38 : tsz Tryz.prog 38 = some 1 := by kernel_rfl
theorem aggB_38 : aggB Tryz.prog 38 = some false := by kernel_rfl
theorem tszD_38 : tszD Tryz.prog 38 = 1 := by kernel_rfl
theorem tbytes_38 : tbytes Tryz.prog 38 = some 8 := by kernel_rfl
theorem isPtr_38 : isPtrB Tryz.prog 38 = true := by kernel_rfl
theorem tzeroD_38 : tzeroD Tryz.prog 38 = .pointer none := by kernel_rfl
theorem tzero_38 : tzero Tryz.prog 38 = some (.pointer none) := by kernel_rfl
theorem tsz_39 : tsz Tryz.prog 39 = some 1 := by kernel_rfl
theorem aggB_39 : aggB Tryz.prog 39 = some false := by kernel_rfl
theorem tszD_39 : tszD Tryz.prog 39 = 1 := by kernel_rfl
theorem tbytes_39 : tbytes Tryz.prog 39 = some 8 := by kernel_rfl
theorem isPtr_39 : isPtrB Tryz.prog 39 = true := by kernel_rfl
theorem tzeroD_39 : tzeroD Tryz.prog 39 = .pointer none := by kernel_rfl
theorem tzero_39 : tzero Tryz.prog 39 = some (.pointer none) := by kernel_rfl
theorem tsz_40 : tsz Tryz.prog 40 = some 3 := by kernel_rfl
theorem aggB_40 : aggB Tryz.prog 40 = some true := by kernel_rfl
theorem tszD_40 : tszD Tryz.prog 40 = 3 := by kernel_rfl
theorem tbytes_40 : tbytes Tryz.prog 40 = some 24 := by kernel_rfl
theorem tzeroD_40 : tzeroD Tryz.prog 40 = .agg #[.pointer none, .pointer none, .pointer none] := by kernel_rfl
theorem tzero_40 : tzero Tryz.prog 40 = some (.agg #[.pointer none, .pointer none, .pointer none]) := by kernel_rfl
theorem tsz_41 : tsz Tryz.prog 41 = some 3 := by kernel_rfl
theorem aggB_41 : aggB Tryz.prog 41 = some true := by kernel_rfl
theorem tszD_41 : tszD Tryz.prog 41 = 3 := by kernel_rfl
theorem tbytes_41 : tbytes Tryz.prog 41 = some 24 := by kernel_rfl
theorem tzeroD_41 : tzeroD Tryz.prog 41 = .agg #[.pointer none, .pointer none, .pointer none] := by kernel_rfl
theorem tzero_41 : tzero Tryz.prog 41 = some (.agg #[.pointer none, .pointer none, .pointer none]) := by kernel_rfl
theorem tsz_42 : tsz Tryz.prog 42 = some 6 := by kernel_rfl
theorem aggB_42 : aggB Tryz.prog 42 = some true := by kernel_rfl
theorem tszD_42 : tszD Tryz.prog 42 = 6 := by kernel_rfl
theorem tbytes_42 : tbytes Tryz.prog 42 = some 48 := by kernel_rfl
theorem tzeroD_42 : tzeroD Tryz.prog 42 = .agg #[.pointer none, .pointer none, .pointer none, .pointer none, .pointer none, .pointer none] := by kernel_rfl
theorem tzero_42 : tzero Tryz.prog 42 = some (.agg #[.pointer none, .pointer none, .pointer none, .pointer none, .pointer none, .pointer none]) := by kernel_rfl
theorem tsz_43 : tsz Tryz.prog 43 = some 6 := by kernel_rfl
theorem aggB_43 : aggB Tryz.prog 43 = some true := by kernel_rfl
theorem tszD_43 : tszD Tryz.prog 43 = 6 := by kernel_rfl
theorem tbytes_43 : tbytes Tryz.prog 43 = some 48 := by kernel_rfl
theorem tzeroD_43 : tzeroD Tryz.prog 43 = .agg #[.pointer none, .pointer none, .pointer none, .pointer none, .pointer none, .pointer none] := by kernel_rfl
theorem tzero_43 : tzero Tryz.prog 43 = some (.agg #[.pointer none, .pointer none, .pointer none, .pointer none, .pointer none, .pointer none]) := by kernel_rfl
theorem tsz_44 : tsz Tryz.prog 44 = some 1 := by kernel_rfl
theorem aggB_44 : aggB Tryz.prog 44 = some false := by kernel_rfl
theorem tszD_44 : tszD Tryz.prog 44 = 1 := by kernel_rfl
theorem tbytes_44 : tbytes Tryz.prog 44 = some 0 := by kernel_rfl
theorem tzeroD_44 : tzeroD Tryz.prog 44 = .tuple #[.agg #[.pointer none, .pointer none, .pointer none, .pointer none, .pointer none, .pointer none], .bool false] := by kernel_rfl
theorem tzero_44 : tzero Tryz.prog 44 = some (.tuple #[.agg #[.pointer none, .pointer none, .pointer none, .pointer none, .pointer none, .pointer none], .bool false]) := by kernel_rfl
theorem tsz_46 : tsz Tryz.prog 46 = some 5 := by kernel_rfl
theorem aggB_46 : aggB Tryz.prog 46 = some true := by kernel_rfl
theorem tszD_46 : tszD Tryz.prog 46 = 5 := by kernel_rfl
theorem tbytes_46 : tbytes Tryz.prog 46 = some 40 := by kernel_rfl
theorem tzeroD_46 : tzeroD Tryz.prog 46 = .agg #[.int .i64 0, .int .i64 0, .int .i64 0, .bool false, .int .i64 0] := by kernel_rfl
theorem tzero_46 : tzero Tryz.prog 46 = some (.agg #[.int .i64 0, .int .i64 0, .int .i64 0, .bool false, .int .i64 0]) := by kernel_rfl
theorem tsz_47 : tsz Tryz.prog 47 = some 5 := by kernel_rfl
theorem aggB_47 : aggB Tryz.prog 47 = some true := by kernel_rfl
theorem tszD_47 : tszD Tryz.prog 47 = 5 := by kernel_rfl
theorem tbytes_47 : tbytes Tryz.prog 47 = some 40 := by kernel_rfl
theorem tzeroD_47 : tzeroD Tryz.prog 47 = .agg #[.int .i64 0, .int .i64 0, .int .i64 0, .bool false, .int .i64 0] := by kernel_rfl
theorem tzero_47 : tzero Tryz.prog 47 = some (.agg #[.int .i64 0, .int .i64 0, .int .i64 0, .bool false, .int .i64 0]) := by kernel_rfl
theorem tsz_48 : tsz Tryz.prog 48 = some 1 := by kernel_rfl
theorem aggB_48 : aggB Tryz.prog 48 = some false := by kernel_rfl
theorem tszD_48 : tszD Tryz.prog 48 = 1 := by kernel_rfl
theorem tbytes_48 : tbytes Tryz.prog 48 = some 0 := by kernel_rfl
theorem tzeroD_48 : tzeroD Tryz.prog 48 = .tuple #[.int .i64 0, .int .i64 0, .agg #[.int .i64 0, .int .i64 0, .int .i64 0, .bool false, .int .i64 0]] := by kernel_rfl
theorem tzero_48 : tzero Tryz.prog 48 = some (.tuple #[.int .i64 0, .int .i64 0, .agg #[.int .i64 0, .int .i64 0, .int .i64 0, .bool false, .int .i64 0]]) := by kernel_rfl
theorem tsz_50 : tsz Tryz.prog 50 = some 4 := by kernel_rfl
theorem aggB_50 : aggB Tryz.prog 50 = some true := by kernel_rfl
theorem tszD_50 : tszD Tryz.prog 50 = 4 := by kernel_rfl
theorem tbytes_50 : tbytes Tryz.prog 50 = some 24 := by kernel_rfl
theorem tzeroD_50 : tzeroD Tryz.prog 50 = .agg #[.bool false, .bool false, .int .i64 0, .int .i64 0] := by kernel_rfl
theorem tzero_50 : tzero Tryz.prog 50 = some (.agg #[.bool false, .bool false, .int .i64 0, .int .i64 0]) := by kernel_rfl
theorem tsz_51 : tsz Tryz.prog 51 = some 4 := by kernel_rfl
theorem aggB_51 : aggB Tryz.prog 51 = some true := by kernel_rfl
theorem tszD_51 : tszD Tryz.prog 51 = 4 := by kernel_rfl
theorem tbytes_51 : tbytes Tryz.prog 51 = some 24 := by kernel_rfl
theorem tzeroD_51 : tzeroD Tryz.prog 51 = .agg #[.bool false, .bool false, .int .i64 0, .int .i64 0] := by kernel_rfl
theorem tzero_51 : tzero Tryz.prog 51 = some (.agg #[.bool false, .bool false, .int .i64 0, .int .i64 0]) := by kernel_rfl
theorem tsz_52 : tsz Tryz.prog 52 = some 1 := by kernel_rfl
theorem aggB_52 : aggB Tryz.prog 52 = some false := by kernel_rfl
theorem tszD_52 : tszD Tryz.prog 52 = 1 := by kernel_rfl
theorem tbytes_52 : tbytes Tryz.prog 52 = some 8 := by kernel_rfl
theorem isInt_52 : isIntB Tryz.prog 52 = true := by kernel_rfl
theorem intK_52 : intKD Tryz.prog 52 = .i64 := by kernel_rfl
theorem tzeroD_52 : tzeroD Tryz.prog 52 = .int .i64 0 := by kernel_rfl
theorem tzero_52 : tzero Tryz.prog 52 = some (.int .i64 0) := by kernel_rfl
theorem tsz_53 : tsz Tryz.prog 53 = some 1 := by kernel_rfl
theorem aggB_53 : aggB Tryz.prog 53 = some false := by kernel_rfl
theorem tszD_53 : tszD Tryz.prog 53 = 1 := by kernel_rfl
theorem tbytes_53 : tbytes Tryz.prog 53 = some 0 := by kernel_rfl
theorem tzeroD_53 : tzeroD Tryz.prog 53 = .tuple #[.agg #[.bool false, .bool false, .int .i64 0, .int .i64 0], .int .i64 0] := by kernel_rfl
theorem tzero_53 : tzero Tryz.prog 53 = some (.tuple #[.agg #[.bool false, .bool false, .int .i64 0, .int .i64 0], .int .i64 0]) := by kernel_rfl
theorem tsz_55 : tsz Tryz.prog 55 = some 8 := by kernel_rfl
theorem aggB_55 : aggB Tryz.prog 55 = some true := by kernel_rfl
theorem tszD_55 : tszD Tryz.prog 55 = 8 := by kernel_rfl
theorem tbytes_55 : tbytes Tryz.prog 55 = some 64 := by kernel_rfl
theorem tzeroD_55 : tzeroD Tryz.prog 55 = .agg #[.int .i64 0, .int .i64 0, .int .i64 0, .int .i64 0, .int .i64 0, .int .i64 0, .bool false, .int .i64 0] := by kernel_rfl
theorem tzero_55 : tzero Tryz.prog 55 = some (.agg #[.int .i64 0, .int .i64 0, .int .i64 0, .int .i64 0, .int .i64 0, .int .i64 0, .bool false, .int .i64 0]) := by kernel_rfl
theorem tsz_56 : tsz Tryz.prog 56 = some 8 := by kernel_rfl
theorem aggB_56 : aggB Tryz.prog 56 = some true := by kernel_rfl
theorem tszD_56 : tszD Tryz.prog 56 = 8 := by kernel_rfl
theorem tbytes_56 : tbytes Tryz.prog 56 = some 64 := by kernel_rfl
theorem tzeroD_56 : tzeroD Tryz.prog 56 = .agg #[.int .i64 0, .int .i64 0, .int .i64 0, .int .i64 0, .int .i64 0, .int .i64 0, .bool false, .int .i64 0] := by kernel_rfl
theorem tzero_56 : tzero Tryz.prog 56 = some (.agg #[.int .i64 0, .int .i64 0, .int .i64 0, .int .i64 0, .int .i64 0, .int .i64 0, .bool false, .int .i64 0]) := by kernel_rfl
theorem tsz_57 : tsz Tryz.prog 57 = some 1 := by kernel_rfl
theorem aggB_57 : aggB Tryz.prog 57 = some false := by kernel_rfl
theorem tszD_57 : tszD Tryz.prog 57 = 1 := by kernel_rfl
theorem tbytes_57 : tbytes Tryz.prog 57 = some 0 := by kernel_rfl
theorem tzeroD_57 : tzeroD Tryz.prog 57 = .tuple #[.agg #[.int .u32 0, .int .u32 0, .int .u32 0, .int .u32 0, .int .u32 0, .int .u32 0, .int .u32 0, .int .u32 0, .int .u32 0, .int .u32 0, .int .u32 0, .int .u32 0, .int .u32 0, .int .u32 0, .int .u32 0, .int .u32 0, .int .i64 0, .int .u32 0, .int .u32 0, .int .u32 0, .int .u32 0, .int .u32 0, .int .u32 0, .int .u32 0, .int .u32 0], .agg #[.int .i64 0, .int .i64 0, .int .i64 0, .int .i64 0, .int .i64 0, .int .i64 0, .bool false, .int .i64 0]] := by kernel_rfl
theorem tzero_57 : tzero Tryz.prog 57 = some (.tuple #[.agg #[.int .u32 0, .int .u32 0, .int .u32 0, .int .u32 0, .int .u32 0, .int .u32 0, .int .u32 0, .int .u32 0, .int .u32 0, .int .u32 0, .int .u32 0, .int .u32 0, .int .u32 0, .int .u32 0, .int .u32 0, .int .u32 0, .int .i64 0, .int .u32 0, .int .u32 0, .int .u32 0, .int .u32 0, .int .u32 0, .int .u32 0, .int .u32 0, .int .u32 0], .agg #[.int .i64 0, .int .i64 0, .int .i64 0, .int .i64 0, .int .i64 0, .int .i64 0, .bool false, .int .i64 0]]) := by kernel_rfl
theorem tsz_60 : tsz Tryz.prog 60 = some 1 := by kernel_rfl
theorem aggB_60 : aggB Tryz.prog 60 = some false := by kernel_rfl
theorem tszD_60 : tszD Tryz.prog 60 = 1 := by kernel_rfl
theorem tbytes_60 : tbytes Tryz.prog 60 = some 24 := by kernel_rfl
theorem isSlice_60 : isSliceB Tryz.prog 60 = true := by kernel_rfl
theorem ssz_60 : sliceSz Tryz.prog 60 = 1 := by kernel_rfl
theorem selem_60 : sliceElem Tryz.prog 60 = 5 := by kernel_rfl
theorem tzeroD_60 : tzeroD Tryz.prog 60 = .slice none 0 0 := by kernel_rfl
theorem tzero_60 : tzero Tryz.prog 60 = some (.slice none 0 0) := by kernel_rfl
theorem tsz_61 : tsz Tryz.prog 61 = some 1 := by kernel_rfl
theorem aggB_61 : aggB Tryz.prog 61 = some false := by kernel_rfl
theorem tszD_61 : tszD Tryz.prog 61 = 1 := by kernel_rfl
theorem tbytes_61 : tbytes Tryz.prog 61 = some 0 := by kernel_rfl
theorem tzeroD_61 : tzeroD Tryz.prog 61 = .tuple #[.slice none 0 0, .int .i64 0] := by kernel_rfl
theorem tzero_61 : tzero Tryz.prog 61 = some (.tuple #[.slice none 0 0, .int .i64 0]) := by kernel_rfl
theorem tsz_65 : tsz Tryz.prog 65 = some 16 := by kernel_rfl
theorem aggB_65 : aggB Tryz.prog 65 = some true := by kernel_rfl
theorem tszD_65 : tszD Tryz.prog 65 = 16 := by kernel_rfl
theorem tbytes_65 : tbytes Tryz.prog 65 = some 16 := by kernel_rfl
theorem isArr_65 : isArrB Tryz.prog 65 = true := by kernel_rfl
theorem arrLen_65 : arrLen Tryz.prog 65 = 16 := by kernel_rfl
theorem arrSz_65 : arrSz Tryz.prog 65 = 1 := by kernel_rfl
theorem tzeroD_65 : tzeroD Tryz.prog 65 = .agg #[.bool false, .bool false, .bool false, .bool false, .bool false, .bool false, .bool false, .bool false, .bool false, .bool false, .bool false, .bool false, .bool false, .bool false, .bool false, .bool false] := by kernel_rfl
theorem tzero_65 : tzero Tryz.prog 65 = some (.agg #[.bool false, .bool false, .bool false, .bool false, .bool false, .bool false, .bool false, .bool false, .bool false, .bool false, .bool false, .bool false, .bool false, .bool false, .bool false, .bool false]) := by kernel_rfl
theorem tsz_67 : tsz Tryz.prog 67 = some 16 := by kernel_rfl
theorem aggB_67 : aggB Tryz.prog 67 = some true := by kernel_rfl
theorem tszD_67 : tszD Tryz.prog 67 = 16 := by kernel_rfl
theorem tbytes_67 : tbytes Tryz.prog 67 = some 384 := by kernel_rfl
theorem isArr_67 : isArrB Tryz.prog 67 = true := by kernel_rfl
theorem arrLen_67 : arrLen Tryz.prog 67 = 16 := by kernel_rfl
theorem arrSz_67 : arrSz Tryz.prog 67 = 1 := by kernel_rfl
theorem tzeroD_67 : tzeroD Tryz.prog 67 = .agg #[.slice none 0 0, .slice none 0 0, .slice none 0 0, .slice none 0 0, .slice none 0 0, .slice none 0 0, .slice none 0 0, .slice none 0 0, .slice none 0 0, .slice none 0 0, .slice none 0 0, .slice none 0 0, .slice none 0 0, .slice none 0 0, .slice none 0 0, .slice none 0 0] := by kernel_rfl
theorem tzero_67 : tzero Tryz.prog 67 = some (.agg #[.slice none 0 0, .slice none 0 0, .slice none 0 0, .slice none 0 0, .slice none 0 0, .slice none 0 0, .slice none 0 0, .slice none 0 0, .slice none 0 0, .slice none 0 0, .slice none 0 0, .slice none 0 0, .slice none 0 0, .slice none 0 0, .slice none 0 0, .slice none 0 0]) := by kernel_rfl
theorem tsz_68 : tsz Tryz.prog 68 = some 1 := by kernel_rfl
theorem aggB_68 : aggB Tryz.prog 68 = some false := by kernel_rfl
theorem tszD_68 : tszD Tryz.prog 68 = 1 := by kernel_rfl
theorem tbytes_68 : tbytes Tryz.prog 68 = some 0 := by kernel_rfl
theorem tzeroD_68 : tzeroD Tryz.prog 68 = .tuple #[.agg #[.int .u32 0, .int .u32 0, .int .u32 0, .int .u32 0, .int .u32 0, .int .u32 0, .int .u32 0, .int .u32 0, .int .u32 0, .int .u32 0, .int .u32 0, .int .u32 0, .int .u32 0, .int .u32 0, .int .u32 0, .int .u32 0, .int .i64 0, .int .u32 0, .int .u32 0, .int .u32 0, .int .u32 0, .int .u32 0, .int .u32 0, .int .u32 0, .int .u32 0], .agg #[.int .i64 0, .int .i64 0, .int .i64 0, .int .i64 0, .int .i64 0, .int .i64 0, .bool false, .int .i64 0], .int .i64 0] := by kernel_rfl
theorem tzero_68 : tzero Tryz.prog 68 = some (.tuple #[.agg #[.int .u32 0, .int .u32 0, .int .u32 0, .int .u32 0, .int .u32 0, .int .u32 0, .int .u32 0, .int .u32 0, .int .u32 0, .int .u32 0, .int .u32 0, .int .u32 0, .int .u32 0, .int .u32 0, .int .u32 0, .int .u32 0, .int .i64 0, .int .u32 0, .int .u32 0, .int .u32 0, .int .u32 0, .int .u32 0, .int .u32 0, .int .u32 0, .int .u32 0], .agg #[.int .i64 0, .int .i64 0, .int .i64 0, .int .i64 0, .int .i64 0, .int .i64 0, .bool false, .int .i64 0], .int .i64 0]) := by kernel_rfl
theorem tsz_70 : tsz Tryz.prog 70 = some 1 := by kernel_rfl
theorem aggB_70 : aggB Tryz.prog 70 = some false := by kernel_rfl
theorem tszD_70 : tszD Tryz.prog 70 = 1 := by kernel_rfl
theorem tbytes_70 : tbytes Tryz.prog 70 = some 24 := by kernel_rfl
theorem isSlice_70 : isSliceB Tryz.prog 70 = true := by kernel_rfl
theorem ssz_70 : sliceSz Tryz.prog 70 = 4 := by kernel_rfl
theorem selem_70 : sliceElem Tryz.prog 70 = 72 := by kernel_rfl
theorem tzeroD_70 : tzeroD Tryz.prog 70 = .slice none 0 0 := by kernel_rfl
theorem tzero_70 : tzero Tryz.prog 70 = some (.slice none 0 0) := by kernel_rfl
theorem tsz_71 : tsz Tryz.prog 71 = some 4 := by kernel_rfl
theorem aggB_71 : aggB Tryz.prog 71 = some true := by kernel_rfl
theorem tszD_71 : tszD Tryz.prog 71 = 4 := by kernel_rfl
theorem tbytes_71 : tbytes Tryz.prog 71 = some 32 := by kernel_rfl
theorem tzeroD_71 : tzeroD Tryz.prog 71 = .agg #[.int .i64 0, .int .i64 0, .int .i64 0, .bool false] := by kernel_rfl
theorem tzero_71 : tzero Tryz.prog 71 = some (.agg #[.int .i64 0, .int .i64 0, .int .i64 0, .bool false]) := by kernel_rfl
theorem tsz_72 : tsz Tryz.prog 72 = some 4 := by kernel_rfl
theorem aggB_72 : aggB Tryz.prog 72 = some true := by kernel_rfl
theorem tszD_72 : tszD Tryz.prog 72 = 4 := by kernel_rfl
theorem tbytes_72 : tbytes Tryz.prog 72 = some 32 := by kernel_rfl
theorem tzeroD_72 : tzeroD Tryz.prog 72 = .agg #[.int .i64 0, .int .i64 0, .int .i64 0, .bool false] := by kernel_rfl
theorem tzero_72 : tzero Tryz.prog 72 = some (.agg #[.int .i64 0, .int .i64 0, .int .i64 0, .bool false]) := by kernel_rfl
theorem tsz_77 : tsz Tryz.prog 77 = some 4 := by kernel_rfl
theorem aggB_77 : aggB Tryz.prog 77 = some true := by kernel_rfl
theorem tszD_77 : tszD Tryz.prog 77 = 4 := by kernel_rfl
theorem tbytes_77 : tbytes Tryz.prog 77 = some 32 := by kernel_rfl
theorem tzeroD_77 : tzeroD Tryz.prog 77 = .agg #[.int .i64 0, .int .i64 0, .int .i64 0, .int .i64 0] := by kernel_rfl
theorem tzero_77 : tzero Tryz.prog 77 = some (.agg #[.int .i64 0, .int .i64 0, .int .i64 0, .int .i64 0]) := by kernel_rfl
theorem tsz_78 : tsz Tryz.prog 78 = some 4 := by kernel_rfl
theorem aggB_78 : aggB Tryz.prog 78 = some true := by kernel_rfl
theorem tszD_78 : tszD Tryz.prog 78 = 4 := by kernel_rfl
theorem tbytes_78 : tbytes Tryz.prog 78 = some 32 := by kernel_rfl
theorem tzeroD_78 : tzeroD Tryz.prog 78 = .agg #[.int .i64 0, .int .i64 0, .int .i64 0, .int .i64 0] := by kernel_rfl
theorem tzero_78 : tzero Tryz.prog 78 = some (.agg #[.int .i64 0, .int .i64 0, .int .i64 0, .int .i64 0]) := by kernel_rfl
theorem tsz_83 : tsz Tryz.prog 83 = some 5 := by kernel_rfl
theorem aggB_83 : aggB Tryz.prog 83 = some true := by kernel_rfl
theorem tszD_83 : tszD Tryz.prog 83 = 5 := by kernel_rfl
theorem tbytes_83 : tbytes Tryz.prog 83 = some 40 := by kernel_rfl
theorem tzeroD_83 : tzeroD Tryz.prog 83 = .agg #[.int .i64 0, .int .i64 0, .int .i64 0, .int .i64 0, .int .i64 0] := by kernel_rfl
theorem tzero_83 : tzero Tryz.prog 83 = some (.agg #[.int .i64 0, .int .i64 0, .int .i64 0, .int .i64 0, .int .i64 0]) := by kernel_rfl
theorem tsz_84 : tsz Tryz.prog 84 = some 5 := by kernel_rfl
theorem aggB_84 : aggB Tryz.prog 84 = some true := by kernel_rfl
theorem tszD_84 : tszD Tryz.prog 84 = 5 := by kernel_rfl
theorem tbytes_84 : tbytes Tryz.prog 84 = some 40 := by kernel_rfl
theorem tzeroD_84 : tzeroD Tryz.prog 84 = .agg #[.int .i64 0, .int .i64 0, .int .i64 0, .int .i64 0, .int .i64 0] := by kernel_rfl
theorem tzero_84 : tzero Tryz.prog 84 = some (.agg #[.int .i64 0, .int .i64 0, .int .i64 0, .int .i64 0, .int .i64 0]) := by kernel_rfl
theorem tsz_85 : tsz Tryz.prog 85 = some 1 := by kernel_rfl
theorem aggB_85 : aggB Tryz.prog 85 = some false := by kernel_rfl
theorem tszD_85 : tszD Tryz.prog 85 = 1 := by kernel_rfl
theorem tbytes_85 : tbytes Tryz.prog 85 = some 0 := by kernel_rfl
theorem tzeroD_85 : tzeroD Tryz.prog 85 = .tuple #[.pointer none, .int .i64 0] := by kernel_rfl
theorem tzero_85 : tzero Tryz.prog 85 = some (.tuple #[.pointer none, .int .i64 0]) := by kernel_rfl
theorem tsz_87 : tsz Tryz.prog 87 = some 1 := by kernel_rfl
theorem aggB_87 : aggB Tryz.prog 87 = some false := by kernel_rfl
theorem tszD_87 : tszD Tryz.prog 87 = 1 := by kernel_rfl
theorem tbytes_87 : tbytes Tryz.prog 87 = some 0 := by kernel_rfl
theorem tzeroD_87 : tzeroD Tryz.prog 87 = .tuple #[.pointer none, .int .i64 0] := by kernel_rfl
theorem tzero_87 : tzero Tryz.prog 87 = some (.tuple #[.pointer none, .int .i64 0]) := by kernel_rfl
theorem tsz_91 : tsz Tryz.prog 91 = some 6 := by kernel_rfl
theorem aggB_91 : aggB Tryz.prog 91 = some true := by kernel_rfl
theorem tszD_91 : tszD Tryz.prog 91 = 6 := by kernel_rfl
theorem tbytes_91 : tbytes Tryz.prog 91 = some 40 := by kernel_rfl
theorem tzeroD_91 : tzeroD Tryz.prog 91 = .agg #[.int .i64 0, .int .i64 0, .bool false, .bool false, .int .i64 0, .int .i64 0] := by kernel_rfl
theorem tzero_91 : tzero Tryz.prog 91 = some (.agg #[.int .i64 0, .int .i64 0, .bool false, .bool false, .int .i64 0, .int .i64 0]) := by kernel_rfl
theorem tsz_92 : tsz Tryz.prog 92 = some 6 := by kernel_rfl
theorem aggB_92 : aggB Tryz.prog 92 = some true := by kernel_rfl
theorem tszD_92 : tszD Tryz.prog 92 = 6 := by kernel_rfl
theorem tbytes_92 : tbytes Tryz.prog 92 = some 40 := by kernel_rfl
theorem tzeroD_92 : tzeroD Tryz.prog 92 = .agg #[.int .i64 0, .int .i64 0, .bool false, .bool false, .int .i64 0, .int .i64 0] := by kernel_rfl
theorem tzero_92 : tzero Tryz.prog 92 = some (.agg #[.int .i64 0, .int .i64 0, .bool false, .bool false, .int .i64 0, .int .i64 0]) := by kernel_rfl
theorem tsz_95 : tsz Tryz.prog 95 = some 2 := by kernel_rfl
theorem aggB_95 : aggB Tryz.prog 95 = some true := by kernel_rfl
theorem tszD_95 : tszD Tryz.prog 95 = 2 := by kernel_rfl
theorem tbytes_95 : tbytes Tryz.prog 95 = some 16 := by kernel_rfl
theorem tzeroD_95 : tzeroD Tryz.prog 95 = .agg #[.int .i64 0, .int .u32 0] := by kernel_rfl
theorem tzero_95 : tzero Tryz.prog 95 = some (.agg #[.int .i64 0, .int .u32 0]) := by kernel_rfl
theorem tsz_96 : tsz Tryz.prog 96 = some 2 := by kernel_rfl
theorem aggB_96 : aggB Tryz.prog 96 = some true := by kernel_rfl
theorem tszD_96 : tszD Tryz.prog 96 = 2 := by kernel_rfl
theorem tbytes_96 : tbytes Tryz.prog 96 = some 16 := by kernel_rfl
theorem tzeroD_96 : tzeroD Tryz.prog 96 = .agg #[.int .i64 0, .int .u32 0] := by kernel_rfl
theorem tzero_96 : tzero Tryz.prog 96 = some (.agg #[.int .i64 0, .int .u32 0]) := by kernel_rfl
theorem tsz_97 : tsz Tryz.prog 97 = some 5 := by kernel_rfl
theorem aggB_97 : aggB Tryz.prog 97 = some true := by kernel_rfl
theorem tszD_97 : tszD Tryz.prog 97 = 5 := by kernel_rfl
theorem tbytes_97 : tbytes Tryz.prog 97 = some 40 := by kernel_rfl
theorem tzeroD_97 : tzeroD Tryz.prog 97 = .agg #[.int .i64 0, .int .i64 0, .int .i64 0, .int .i64 0, .int .i64 0] := by kernel_rfl
theorem tzero_97 : tzero Tryz.prog 97 = some (.agg #[.int .i64 0, .int .i64 0, .int .i64 0, .int .i64 0, .int .i64 0]) := by kernel_rfl
theorem tsz_98 : tsz Tryz.prog 98 = some 5 := by kernel_rfl
theorem aggB_98 : aggB Tryz.prog 98 = some true := by kernel_rfl
theorem tszD_98 : tszD Tryz.prog 98 = 5 := by kernel_rfl
theorem tbytes_98 : tbytes Tryz.prog 98 = some 40 := by kernel_rfl
theorem tzeroD_98 : tzeroD Tryz.prog 98 = .agg #[.int .i64 0, .int .i64 0, .int .i64 0, .int .i64 0, .int .i64 0] := by kernel_rfl
theorem tzero_98 : tzero Tryz.prog 98 = some (.agg #[.int .i64 0, .int .i64 0, .int .i64 0, .int .i64 0, .int .i64 0]) := by kernel_rfl
theorem tsz_99 : tsz Tryz.prog 99 = some 40 := by kernel_rfl
theorem aggB_99 : aggB Tryz.prog 99 = some true := by kernel_rfl
theorem tszD_99 : tszD Tryz.prog 99 = 40 := by kernel_rfl
theorem tbytes_99 : tbytes Tryz.prog 99 = some 320 := by kernel_rfl
theorem isArr_99 : isArrB Tryz.prog 99 = true := by kernel_rfl
theorem arrLen_99 : arrLen Tryz.prog 99 = 8 := by kernel_rfl
theorem arrSz_99 : arrSz Tryz.prog 99 = 5 := by kernel_rfl
theorem tzeroD_99 : tzeroD Tryz.prog 99 = .agg #[.int .i64 0, .int .i64 0, .int .i64 0, .int .i64 0, .int .i64 0, .int .i64 0, .int .i64 0, .int .i64 0, .int .i64 0, .int .i64 0, .int .i64 0, .int .i64 0, .int .i64 0, .int .i64 0, .int .i64 0, .int .i64 0, .int .i64 0, .int .i64 0, .int .i64 0, .int .i64 0, .int .i64 0, .int .i64 0, .int .i64 0, .int .i64 0, .int .i64 0, .int .i64 0, .int .i64 0, .int .i64 0, .int .i64 0, .int .i64 0, .int .i64 0, .int .i64 0, .int .i64 0, .int .i64 0, .int .i64 0, .int .i64 0, .int .i64 0, .int .i64 0, .int .i64 0, .int .i64 0] := by kernel_rfl
theorem tzero_99 : tzero Tryz.prog 99 = some (.agg #[.int .i64 0, .int .i64 0, .int .i64 0, .int .i64 0, .int .i64 0, .int .i64 0, .int .i64 0, .int .i64 0, .int .i64 0, .int .i64 0, .int .i64 0, .int .i64 0, .int .i64 0, .int .i64 0, .int .i64 0, .int .i64 0, .int .i64 0, .int .i64 0, .int .i64 0, .int .i64 0, .int .i64 0, .int .i64 0, .int .i64 0, .int .i64 0, .int .i64 0, .int .i64 0, .int .i64 0, .int .i64 0, .int .i64 0, .int .i64 0, .int .i64 0, .int .i64 0, .int .i64 0, .int .i64 0, .int .i64 0, .int .i64 0, .int .i64 0, .int .i64 0, .int .i64 0, .int .i64 0]) := by kernel_rfl
theorem tsz_100 : tsz Tryz.prog 100 = some 42 := by kernel_rfl
theorem aggB_100 : aggB Tryz.prog 100 = some true := by kernel_rfl
theorem tszD_100 : tszD Tryz.prog 100 = 42 := by kernel_rfl
theorem tbytes_100 : tbytes Tryz.prog 100 = some 336 := by kernel_rfl
theorem tzeroD_100 : tzeroD Tryz.prog 100 = .agg #[.int .i64 0, .int .i64 0, .int .i64 0, .int .i64 0, .int .i64 0, .int .i64 0, .int .i64 0, .int .i64 0, .int .i64 0, .int .i64 0, .int .i64 0, .int .i64 0, .int .i64 0, .int .i64 0, .int .i64 0, .int .i64 0, .int .i64 0, .int .i64 0, .int .i64 0, .int .i64 0, .int .i64 0, .int .i64 0, .int .i64 0, .int .i64 0, .int .i64 0, .int .i64 0, .int .i64 0, .int .i64 0, .int .i64 0, .int .i64 0, .int .i64 0, .int .i64 0, .int .i64 0, .int .i64 0, .int .i64 0, .int .i64 0, .int .i64 0, .int .i64 0, .int .i64 0, .int .i64 0, .int .i64 0, .int .i64 0] := by kernel_rfl
theorem tzero_100 : tzero Tryz.prog 100 = some (.agg #[.int .i64 0, .int .i64 0, .int .i64 0, .int .i64 0, .int .i64 0, .int .i64 0, .int .i64 0, .int .i64 0, .int .i64 0, .int .i64 0, .int .i64 0, .int .i64 0, .int .i64 0, .int .i64 0, .int .i64 0, .int .i64 0, .int .i64 0, .int .i64 0, .int .i64 0, .int .i64 0, .int .i64 0, .int .i64 0, .int .i64 0, .int .i64 0, .int .i64 0, .int .i64 0, .int .i64 0, .int .i64 0, .int .i64 0, .int .i64 0, .int .i64 0, .int .i64 0, .int .i64 0, .int .i64 0, .int .i64 0, .int .i64 0, .int .i64 0, .int .i64 0, .int .i64 0, .int .i64 0, .int .i64 0, .int .i64 0]) := by kernel_rfl
theorem tsz_101 : tsz Tryz.prog 101 = some 42 := by kernel_rfl
theorem aggB_101 : aggB Tryz.prog 101 = some true := by kernel_rfl
theorem tszD_101 : tszD Tryz.prog 101 = 42 := by kernel_rfl
theorem tbytes_101 : tbytes Tryz.prog 101 = some 336 := by kernel_rfl
theorem tzeroD_101 : tzeroD Tryz.prog 101 = .agg #[.int .i64 0, .int .i64 0, .int .i64 0, .int .i64 0, .int .i64 0, .int .i64 0, .int .i64 0, .int .i64 0, .int .i64 0, .int .i64 0, .int .i64 0, .int .i64 0, .int .i64 0, .int .i64 0, .int .i64 0, .int .i64 0, .int .i64 0, .int .i64 0, .int .i64 0, .int .i64 0, .int .i64 0, .int .i64 0, .int .i64 0, .int .i64 0, .int .i64 0, .int .i64 0, .int .i64 0, .int .i64 0, .int .i64 0, .int .i64 0, .int .i64 0, .int .i64 0, .int .i64 0, .int .i64 0, .int .i64 0, .int .i64 0, .int .i64 0, .int .i64 0, .int .i64 0, .int .i64 0, .int .i64 0, .int .i64 0] := by kernel_rfl
theorem tzero_101 : tzero Tryz.prog 101 = some (.agg #[.int .i64 0, .int .i64 0, .int .i64 0, .int .i64 0, .int .i64 0, .int .i64 0, .int .i64 0, .int .i64 0, .int .i64 0, .int .i64 0, .int .i64 0, .int .i64 0, .int .i64 0, .int .i64 0, .int .i64 0, .int .i64 0, .int .i64 0, .int .i64 0, .int .i64 0, .int .i64 0, .int .i64 0, .int .i64 0, .int .i64 0, .int .i64 0, .int .i64 0, .int .i64 0, .int .i64 0, .int .i64 0, .int .i64 0, .int .i64 0, .int .i64 0, .int .i64 0, .int .i64 0, .int .i64 0, .int .i64 0, .int .i64 0, .int .i64 0, .int .i64 0, .int .i64 0, .int .i64 0, .int .i64 0, .int .i64 0]) := by kernel_rfl
theorem tsz_102 : tsz Tryz.prog 102 = some 1 := by kernel_rfl
theorem aggB_102 : aggB Tryz.prog 102 = some false := by kernel_rfl
theorem tszD_102 : tszD Tryz.prog 102 = 1 := by kernel_rfl
theorem tbytes_102 : tbytes Tryz.prog 102 = some 0 := by kernel_rfl
theorem tzeroD_102 : tzeroD Tryz.prog 102 = .tuple #[.pointer none, .int .i64 0] := by kernel_rfl
theorem tzero_102 : tzero Tryz.prog 102 = some (.tuple #[.pointer none, .int .i64 0]) := by kernel_rfl
theorem tsz_104 : tsz Tryz.prog 104 = some 1 := by kernel_rfl
theorem aggB_104 : aggB Tryz.prog 104 = some false := by kernel_rfl
theorem tszD_104 : tszD Tryz.prog 104 = 1 := by kernel_rfl
theorem tbytes_104 : tbytes Tryz.prog 104 = some 0 := by kernel_rfl
theorem tzeroD_104 : tzeroD Tryz.prog 104 = .tuple #[.pointer none, .int .i64 0] := by kernel_rfl
theorem tzero_104 : tzero Tryz.prog 104 = some (.tuple #[.pointer none, .int .i64 0]) := by kernel_rfl
theorem tsz_106 : tsz Tryz.prog 106 = some 1 := by kernel_rfl
theorem aggB_106 : aggB Tryz.prog 106 = some false := by kernel_rfl
theorem tszD_106 : tszD Tryz.prog 106 = 1 := by kernel_rfl
theorem tbytes_106 : tbytes Tryz.prog 106 = some 0 := by kernel_rfl
theorem tzeroD_106 : tzeroD Tryz.prog 106 = .tuple #[.agg #[.bool false, .bool false, .int .i64 0, .int .i64 0], .int .i64 0] := by kernel_rfl
theorem tzero_106 : tzero Tryz.prog 106 = some (.tuple #[.agg #[.bool false, .bool false, .int .i64 0, .int .i64 0], .int .i64 0]) := by kernel_rfl
theorem tsz_109 : tsz Tryz.prog 109 = some 1 := by kernel_rfl
theorem aggB_109 : aggB Tryz.prog 109 = some false := by kernel_rfl
theorem tszD_109 : tszD Tryz.prog 109 = 1 := by kernel_rfl
theorem tbytes_109 : tbytes Tryz.prog 109 = some 0 := by kernel_rfl
theorem tzeroD_109 : tzeroD Tryz.prog 109 = .tuple #[.int .u32 0, .int .i64 0] := by kernel_rfl
theorem tzero_109 : tzero Tryz.prog 109 = some (.tuple #[.int .u32 0, .int .i64 0]) := by kernel_rfl
theorem tsz_112 : tsz Tryz.prog 112 = some 1 := by kernel_rfl
theorem aggB_112 : aggB Tryz.prog 112 = some false := by kernel_rfl
theorem tszD_112 : tszD Tryz.prog 112 = 1 := by kernel_rfl
theorem tbytes_112 : tbytes Tryz.prog 112 = some 2 := by kernel_rfl
theorem isInt_112 : isIntB Tryz.prog 112 = true := by kernel_rfl
theorem intK_112 : intKD Tryz.prog 112 = .u16 := by kernel_rfl
theorem tzeroD_112 : tzeroD Tryz.prog 112 = .int .u16 0 := by kernel_rfl
theorem tzero_112 : tzero Tryz.prog 112 = some (.int .u16 0) := by kernel_rfl
theorem tsz_113 : tsz Tryz.prog 113 = some 1 := by kernel_rfl
theorem aggB_113 : aggB Tryz.prog 113 = some false := by kernel_rfl
theorem tszD_113 : tszD Tryz.prog 113 = 1 := by kernel_rfl
theorem tbytes_113 : tbytes Tryz.prog 113 = some 8 := by kernel_rfl
theorem isPtr_113 : isPtrB Tryz.prog 113 = true := by kernel_rfl
theorem tzeroD_113 : tzeroD Tryz.prog 113 = .pointer none := by kernel_rfl
theorem tzero_113 : tzero Tryz.prog 113 = some (.pointer none) := by kernel_rfl
theorem tsz_114 : tsz Tryz.prog 114 = some 1 := by kernel_rfl
theorem aggB_114 : aggB Tryz.prog 114 = some false := by kernel_rfl
theorem tszD_114 : tszD Tryz.prog 114 = 1 := by kernel_rfl
theorem tbytes_114 : tbytes Tryz.prog 114 = some 8 := by kernel_rfl
theorem isPtr_114 : isPtrB Tryz.prog 114 = true := by kernel_rfl
theorem tzeroD_114 : tzeroD Tryz.prog 114 = .pointer none := by kernel_rfl
theorem tzero_114 : tzero Tryz.prog 114 = some (.pointer none) := by kernel_rfl
theorem tsz_115 : tsz Tryz.prog 115 = some 17 := by kernel_rfl
theorem aggB_115 : aggB Tryz.prog 115 = some true := by kernel_rfl
theorem tszD_115 : tszD Tryz.prog 115 = 17 := by kernel_rfl
theorem tbytes_115 : tbytes Tryz.prog 115 = some 136 := by kernel_rfl
theorem tzeroD_115 : tzeroD Tryz.prog 115 = .agg #[.pointer none, .pointer none, .pointer none, .pointer none, .int .i64 0, .int .i64 0, .int .i64 0, .int .i64 0, .int .i64 0, .int .u32 0, .int .i64 0, .int .i64 0, .int .i64 0, .int .i64 0, .int .i64 0, .int .i64 0, .bool false] := by kernel_rfl
theorem tzero_115 : tzero Tryz.prog 115 = some (.agg #[.pointer none, .pointer none, .pointer none, .pointer none, .int .i64 0, .int .i64 0, .int .i64 0, .int .i64 0, .int .i64 0, .int .u32 0, .int .i64 0, .int .i64 0, .int .i64 0, .int .i64 0, .int .i64 0, .int .i64 0, .bool false]) := by kernel_rfl
theorem tsz_116 : tsz Tryz.prog 116 = some 17 := by kernel_rfl
theorem aggB_116 : aggB Tryz.prog 116 = some true := by kernel_rfl
theorem tszD_116 : tszD Tryz.prog 116 = 17 := by kernel_rfl
theorem tbytes_116 : tbytes Tryz.prog 116 = some 136 := by kernel_rfl
theorem tzeroD_116 : tzeroD Tryz.prog 116 = .agg #[.pointer none, .pointer none, .pointer none, .pointer none, .int .i64 0, .int .i64 0, .int .i64 0, .int .i64 0, .int .i64 0, .int .u32 0, .int .i64 0, .int .i64 0, .int .i64 0, .int .i64 0, .int .i64 0, .int .i64 0, .bool false] := by kernel_rfl
theorem tzero_116 : tzero Tryz.prog 116 = some (.agg #[.pointer none, .pointer none, .pointer none, .pointer none, .int .i64 0, .int .i64 0, .int .i64 0, .int .i64 0, .int .i64 0, .int .u32 0, .int .i64 0, .int .i64 0, .int .i64 0, .int .i64 0, .int .i64 0, .int .i64 0, .bool false]) := by kernel_rfl
theorem tsz_118 : tsz Tryz.prog 118 = some 1 := by kernel_rfl
theorem aggB_118 : aggB Tryz.prog 118 = some false := by kernel_rfl
theorem tszD_118 : tszD Tryz.prog 118 = 1 := by kernel_rfl
theorem tbytes_118 : tbytes Tryz.prog 118 = some 8 := by kernel_rfl
theorem tzeroD_118 : tzeroD Tryz.prog 118 = .nilFunc := by kernel_rfl
theorem tzero_118 : tzero Tryz.prog 118 = some (.nilFunc) := by kernel_rfl
theorem tsz_119 : tsz Tryz.prog 119 = some 2 := by kernel_rfl
theorem aggB_119 : aggB Tryz.prog 119 = some true := by kernel_rfl
theorem tszD_119 : tszD Tryz.prog 119 = 2 := by kernel_rfl
theorem tbytes_119 : tbytes Tryz.prog 119 = some 16 := by kernel_rfl
theorem tzeroD_119 : tzeroD Tryz.prog 119 = .agg #[.bool false, .nilFunc] := by kernel_rfl
theorem tzero_119 : tzero Tryz.prog 119 = some (.agg #[.bool false, .nilFunc]) := by kernel_rfl
theorem tsz_120 : tsz Tryz.prog 120 = some 2 := by kernel_rfl
theorem aggB_120 : aggB Tryz.prog 120 = some true := by kernel_rfl
theorem tszD_120 : tszD Tryz.prog 120 = 2 := by kernel_rfl
theorem tbytes_120 : tbytes Tryz.prog 120 = some 16 := by kernel_rfl
theorem tzeroD_120 : tzeroD Tryz.prog 120 = .agg #[.bool false, .nilFunc] := by kernel_rfl
theorem tzero_120 : tzero Tryz.prog 120 = some (.agg #[.bool false, .nilFunc]) := by kernel_rfl
theorem tsz_121 : tsz Tryz.prog 121 = some 52 := by kernel_rfl
theorem aggB_121 : aggB Tryz.prog 121 = some true := by kernel_rfl
theorem tszD_121 : tszD Tryz.prog 121 = 52 := by kernel_rfl
theorem tbytes_121 : tbytes Tryz.prog 121 = some 416 := by kernel_rfl
theorem isArr_121 : isArrB Tryz.prog 121 = true := by kernel_rfl
theorem arrLen_121 : arrLen Tryz.prog 121 = 26 := by kernel_rfl
theorem arrSz_121 : arrSz Tryz.prog 121 = 2 := by kernel_rfl
theorem tzeroD_121 : tzeroD Tryz.prog 121 = .agg #[.bool false, .nilFunc, .bool false, .nilFunc, .bool false, .nilFunc, .bool false, .nilFunc, .bool false, .nilFunc, .bool false, .nilFunc, .bool false, .nilFunc, .bool false, .nilFunc, .bool false, .nilFunc, .bool false, .nilFunc, .bool false, .nilFunc, .bool false, .nilFunc, .bool false, .nilFunc, .bool false, .nilFunc, .bool false, .nilFunc, .bool false, .nilFunc, .bool false, .nilFunc, .bool false, .nilFunc, .bool false, .nilFunc, .bool false, .nilFunc, .bool false, .nilFunc, .bool false, .nilFunc, .bool false, .nilFunc, .bool false, .nilFunc, .bool false, .nilFunc, .bool false, .nilFunc] := by kernel_rfl
theorem tzero_121 : tzero Tryz.prog 121 = some (.agg #[.bool false, .nilFunc, .bool false, .nilFunc, .bool false, .nilFunc, .bool false, .nilFunc, .bool false, .nilFunc, .bool false, .nilFunc, .bool false, .nilFunc, .bool false, .nilFunc, .bool false, .nilFunc, .bool false, .nilFunc, .bool false, .nilFunc, .bool false, .nilFunc, .bool false, .nilFunc, .bool false, .nilFunc, .bool false, .nilFunc, .bool false, .nilFunc, .bool false, .nilFunc, .bool false, .nilFunc, .bool false, .nilFunc, .bool false, .nilFunc, .bool false, .nilFunc, .bool false, .nilFunc, .bool false, .nilFunc, .bool false, .nilFunc, .bool false, .nilFunc, .bool false, .nilFunc]) := by kernel_rfl
theorem tsz_124 : tsz Tryz.prog 124 = some 1 := by kernel_rfl
theorem aggB_124 : aggB Tryz.prog 124 = some false := by kernel_rfl
theorem tszD_124 : tszD Tryz.prog 124 = 1 := by kernel_rfl
theorem tbytes_124 : tbytes Tryz.prog 124 = some 8 := by kernel_rfl
theorem tzeroD_124 : tzeroD Tryz.prog 124 = .nilFunc := by kernel_rfl
theorem tzero_124 : tzero Tryz.prog 124 = some (.nilFunc) := by kernel_rfl
theorem tsz_126 : tsz Tryz.prog 126 = some 64 := by kernel_rfl
theorem aggB_126 : aggB Tryz.prog 126 = some true := by kernel_rfl
theorem tszD_126 : tszD Tryz.prog 126 = 64 := by kernel_rfl
theorem tbytes_126 : tbytes Tryz.prog 126 = some 64 := by kernel_rfl
theorem isArr_126 : isArrB Tryz.prog 126 = true := by kernel_rfl
theorem arrLen_126 : arrLen Tryz.prog 126 = 64 := by kernel_rfl
theorem arrSz_126 : arrSz Tryz.prog 126 = 1 := by kernel_rfl
theorem tzeroD_126 : tzeroD Tryz.prog 126 = .agg #[.int .u8 0, .int .u8 0, .int .u8 0, .int .u8 0, .int .u8 0, .int .u8 0, .int .u8 0, .int .u8 0, .int .u8 0, .int .u8 0, .int .u8 0, .int .u8 0, .int .u8 0, .int .u8 0, .int .u8 0, .int .u8 0, .int .u8 0, .int .u8 0, .int .u8 0, .int .u8 0, .int .u8 0, .int .u8 0, .int .u8 0, .int .u8 0, .int .u8 0, .int .u8 0, .int .u8 0, .int .u8 0, .int .u8 0, .int .u8 0, .int .u8 0, .int .u8 0, .int .u8 0, .int .u8 0, .int .u8 0, .int .u8 0, .int .u8 0, .int .u8 0, .int .u8 0, .int .u8 0, .int .u8 0, .int .u8 0, .int .u8 0, .int .u8 0, .int .u8 0, .int .u8 0, .int .u8 0, .int .u8 0, .int .u8 0, .int .u8 0, .int .u8 0, .int .u8 0, .int .u8 0, .int .u8 0, .int .u8 0, .int .u8 0, .int .u8 0, .int .u8 0, .int .u8 0, .int .u8 0, .int .u8 0, .int .u8 0, .int .u8 0, .int .u8 0] := by kernel_rfl
theorem tzero_126 : tzero Tryz.prog 126 = some (.agg #[.int .u8 0, .int .u8 0, .int .u8 0, .int .u8 0, .int .u8 0, .int .u8 0, .int .u8 0, .int .u8 0, .int .u8 0, .int .u8 0, .int .u8 0, .int .u8 0, .int .u8 0, .int .u8 0, .int .u8 0, .int .u8 0, .int .u8 0, .int .u8 0, .int .u8 0, .int .u8 0, .int .u8 0, .int .u8 0, .int .u8 0, .int .u8 0, .int .u8 0, .int .u8 0, .int .u8 0, .int .u8 0, .int .u8 0, .int .u8 0, .int .u8 0, .int .u8 0, .int .u8 0, .int .u8 0, .int .u8 0, .int .u8 0, .int .u8 0, .int .u8 0, .int .u8 0, .int .u8 0, .int .u8 0, .int .u8 0, .int .u8 0, .int .u8 0, .int .u8 0, .int .u8 0, .int .u8 0, .int .u8 0, .int .u8 0, .int .u8 0, .int .u8 0, .int .u8 0, .int .u8 0, .int .u8 0, .int .u8 0, .int .u8 0, .int .u8 0, .int .u8 0, .int .u8 0, .int .u8 0, .int .u8 0, .int .u8 0, .int .u8 0, .int .u8 0]) := by kernel_rfl
theorem tsz_127 : tsz Tryz.prog 127 = some 1 := by kernel_rfl
theorem aggB_127 : aggB Tryz.prog 127 = some false := by kernel_rfl
theorem tszD_127 : tszD Tryz.prog 127 = 1 := by kernel_rfl
theorem tbytes_127 : tbytes Tryz.prog 127 = some 24 := by kernel_rfl
theorem isSlice_127 : isSliceB Tryz.prog 127 = true := by kernel_rfl
theorem ssz_127 : sliceSz Tryz.prog 127 = 64 := by kernel_rfl
theorem selem_127 : sliceElem Tryz.prog 127 = 126 := by kernel_rfl
theorem tzeroD_127 : tzeroD Tryz.prog 127 = .slice none 0 0 := by kernel_rfl
theorem tzero_127 : tzero Tryz.prog 127 = some (.slice none 0 0) := by kernel_rfl
theorem tsz_128 : tsz Tryz.prog 128 = some 1 := by kernel_rfl
theorem aggB_128 : aggB Tryz.prog 128 = some true := by kernel_rfl
theorem tszD_128 : tszD Tryz.prog 128 = 1 := by kernel_rfl
theorem tbytes_128 : tbytes Tryz.prog 128 = some 24 := by kernel_rfl
theorem tzeroD_128 : tzeroD Tryz.prog 128 = .agg #[.slice none 0 0] := by kernel_rfl
theorem tzero_128 : tzero Tryz.prog 128 = some (.agg #[.slice none 0 0]) := by kernel_rfl
theorem tsz_129 : tsz Tryz.prog 129 = some 1 := by kernel_rfl
theorem aggB_129 : aggB Tryz.prog 129 = some true := by kernel_rfl
theorem tszD_129 : tszD Tryz.prog 129 = 1 := by kernel_rfl
theorem tbytes_129 : tbytes Tryz.prog 129 = some 24 := by kernel_rfl
theorem tzeroD_129 : tzeroD Tryz.prog 129 = .agg #[.slice none 0 0] := by kernel_rfl
theorem tzero_129 : tzero Tryz.prog 129 = some (.agg #[.slice none 0 0]) := by kernel_rfl
theorem tsz_130 : tsz Tryz.prog 130 = some 1 := by kernel_rfl
theorem aggB_130 : aggB Tryz.prog 130 = some true := by kernel_rfl
theorem tszD_130 : tszD Tryz.prog 130 = 1 := by kernel_rfl
theorem tbytes_130 : tbytes Tryz.prog 130 = some 8 := by kernel_rfl
theorem tzeroD_130 : tzeroD Tryz.prog 130 = .agg #[.pointer none] := by kernel_rfl
theorem tzero_130 : tzero Tryz.prog 130 = some (.agg #[.pointer none]) := by kernel_rfl
theorem tsz_131 : tsz Tryz.prog 131 = some 1 := by kernel_rfl
theorem aggB_131 : aggB Tryz.prog 131 = some true := by kernel_rfl
theorem tszD_131 : tszD Tryz.prog 131 = 1 := by kernel_rfl
theorem tbytes_131 : tbytes Tryz.prog 131 = some 8 := by kernel_rfl
theorem tzeroD_131 : tzeroD Tryz.prog 131 = .agg #[.pointer none] := by kernel_rfl
theorem tzero_131 : tzero Tryz.prog 131 = some (.agg #[.pointer none]) := by kernel_rfl
theorem tsz_133 : tsz Tryz.prog 133 = some 1 := by kernel_rfl
theorem aggB_133 : aggB Tryz.prog 133 = some false := by kernel_rfl
theorem tszD_133 : tszD Tryz.prog 133 = 1 := by kernel_rfl
theorem tbytes_133 : tbytes Tryz.prog 133 = some 0 := by kernel_rfl
theorem tzeroD_133 : tzeroD Tryz.prog 133 = .tuple #[.int .i64 0, .agg #[.int .i64 0, .int .i64 0, .int .i64 0, .bool false, .int .i64 0]] := by kernel_rfl
theorem tzero_133 : tzero Tryz.prog 133 = some (.tuple #[.int .i64 0, .agg #[.int .i64 0, .int .i64 0, .int .i64 0, .bool false, .int .i64 0]]) := by kernel_rfl
theorem tsz_135 : tsz Tryz.prog 135 = some 1 := by kernel_rfl
theorem aggB_135 : aggB Tryz.prog 135 = some false := by kernel_rfl
theorem tszD_135 : tszD Tryz.prog 135 = 1 := by kernel_rfl
theorem tbytes_135 : tbytes Tryz.prog 135 = some 0 := by kernel_rfl
theorem tzeroD_135 : tzeroD Tryz.prog 135 = .tuple #[.agg #[.int .i64 0, .int .i64 0, .int .i64 0, .int .i64 0, .int .i64 0], .int .i64 0] := by kernel_rfl
theorem tzero_135 : tzero Tryz.prog 135 = some (.tuple #[.agg #[.int .i64 0, .int .i64 0, .int .i64 0, .int .i64 0, .int .i64 0], .int .i64 0]) := by kernel_rfl
theorem tsz_142 : tsz Tryz.prog 142 = some 2 := by kernel_rfl
theorem aggB_142 : aggB Tryz.prog 142 = some true := by kernel_rfl
theorem tszD_142 : tszD Tryz.prog 142 = 2 := by kernel_rfl
theorem tbytes_142 : tbytes Tryz.prog 142 = some 16 := by kernel_rfl
theorem tzeroD_142 : tzeroD Tryz.prog 142 = .agg #[.int .i64 0, .bool false] := by kernel_rfl
theorem tzero_142 : tzero Tryz.prog 142 = some (.agg #[.int .i64 0, .bool false]) := by kernel_rfl
theorem tsz_143 : tsz Tryz.prog 143 = some 2 := by kernel_rfl
theorem aggB_143 : aggB Tryz.prog 143 = some true := by kernel_rfl
theorem tszD_143 : tszD Tryz.prog 143 = 2 := by kernel_rfl
theorem tbytes_143 : tbytes Tryz.prog 143 = some 16 := by kernel_rfl
theorem tzeroD_143 : tzeroD Tryz.prog 143 = .agg #[.int .i64 0, .bool false] := by kernel_rfl
theorem tzero_143 : tzero Tryz.prog 143 = some (.agg #[.int .i64 0, .bool false]) := by kernel_rfl
theorem tsz_144 : tsz Tryz.prog 144 = some 1 := by kernel_rfl
theorem aggB_144 : aggB Tryz.prog 144 = some false := by kernel_rfl
theorem tszD_144 : tszD Tryz.prog 144 = 1 := by kernel_rfl
theorem tbytes_144 : tbytes Tryz.prog 144 = some 0 := by kernel_rfl
theorem tzeroD_144 : tzeroD Tryz.prog 144 = .tuple #[.agg #[.int .i64 0, .bool false], .bool false] := by kernel_rfl
theorem tzero_144 : tzero Tryz.prog 144 = some (.tuple #[.agg #[.int .i64 0, .bool false], .bool false]) := by kernel_rfl
theorem tsz_145 : tsz Tryz.prog 145 = some 64 := by kernel_rfl
theorem aggB_145 : aggB Tryz.prog 145 = some true := by kernel_rfl
theorem tszD_145 : tszD Tryz.prog 145 = 64 := by kernel_rfl
theorem tbytes_145 : tbytes Tryz.prog 145 = some 64 := by kernel_rfl
theorem isArr_145 : isArrB Tryz.prog 145 = true := by kernel_rfl
theorem arrLen_145 : arrLen Tryz.prog 145 = 64 := by kernel_rfl
theorem arrSz_145 : arrSz Tryz.prog 145 = 1 := by kernel_rfl
theorem tzeroD_145 : tzeroD Tryz.prog 145 = .agg #[.bool false, .bool false, .bool false, .bool false, .bool false, .bool false, .bool false, .bool false, .bool false, .bool false, .bool false, .bool false, .bool false, .bool false, .bool false, .bool false, .bool false, .bool false, .bool false, .bool false, .bool false, .bool false, .bool false, .bool false, .bool false, .bool false, .bool false, .bool false, .bool false, .bool false, .bool false, .bool false, .bool false, .bool false, .bool false, .bool false, .bool false, .bool false, .bool false, .bool false, .bool false, .bool false, .bool false, .bool false, .bool false, .bool false, .bool false, .bool false, .bool false, .bool false, .bool false, .bool false, .bool false, .bool false, .bool false, .bool false, .bool false, .bool false, .bool false, .bool false, .bool false, .bool false, .bool false, .bool false] := by kernel_rfl
theorem tzero_145 : tzero Tryz.prog 145 = some (.agg #[.bool false, .bool false, .bool false, .bool false, .bool false, .bool false, .bool false, .bool false, .bool false, .bool false, .bool false, .bool false, .bool false, .bool false, .bool false, .bool false, .bool false, .bool false, .bool false, .bool false, .bool false, .bool false, .bool false, .bool false, .bool false, .bool false, .bool false, .bool false, .bool false, .bool false, .bool false, .bool false, .bool false, .bool false, .bool false, .bool false, .bool false, .bool false, .bool false, .bool false, .bool false, .bool false, .bool false, .bool false, .bool false, .bool false, .bool false, .bool false, .bool false, .bool false, .bool false, .bool false, .bool false, .bool false, .bool false, .bool false, .bool false, .bool false, .bool false, .bool false, .bool false, .bool false, .bool false, .bool false]) := by kernel_rfl
theorem tsz_146 : tsz Tryz.prog 146 = some 1 := by kernel_rfl
theorem aggB_146 : aggB Tryz.prog 146 = some false := by kernel_rfl
theorem tszD_146 : tszD Tryz.prog 146 = 1 := by kernel_rfl
theorem tbytes_146 : tbytes Tryz.prog 146 = some 8 := by kernel_rfl
theorem intMap_146 : intMapB Tryz.prog 146 = true := by kernel_rfl
theorem elemT_146 : elemT Tryz.prog 146 = 143 := by kernel_rfl
theorem tzeroD_146 : tzeroD Tryz.prog 146 = .map none := by kernel_rfl
theorem tzero_146 : tzero Tryz.prog 146 = some (.map none) := by kernel_rfl
theorem tsz_147 : tsz Tryz.prog 147 = some 71 := by kernel_rfl
theorem aggB_147 : aggB Tryz.prog 147 = some true := by kernel_rfl
theorem tszD_147 : tszD Tryz.prog 147 = 71 := by kernel_rfl
theorem tbytes_147 : tbytes Tryz.prog 147 = some 120 := by kernel_rfl
theorem tsz_148 : tsz Tryz.prog 148 = some 71 := by kernel_rfl
theorem aggB_148 : aggB Tryz.prog 148 = some true := by kernel_rfl
theorem tszD_148 : tszD Tryz.prog 148 = 71 := by kernel_rfl
theorem tbytes_148 : tbytes Tryz.prog 148 = some 120 := by kernel_rfl
theorem tsz_149 : tsz Tryz.prog 149 = some 7 := by kernel_rfl
theorem aggB_149 : aggB Tryz.prog 149 = some true := by kernel_rfl
theorem tszD_149 : tszD Tryz.prog 149 = 7 := by kernel_rfl
theorem tbytes_149 : tbytes Tryz.prog 149 = some 32 := by kernel_rfl
theorem tzeroD_149 : tzeroD Tryz.prog 149 = .agg #[.bool false, .bool false, .bool false, .int .i64 0, .int .i64 0, .bool false, .bool false] := by kernel_rfl
theorem tzero_149 : tzero Tryz.prog 149 = some (.agg #[.bool false, .bool false, .bool false, .int .i64 0, .int .i64 0, .bool false, .bool false]) := by kernel_rfl
theorem tsz_150 : tsz Tryz.prog 150 = some 7 := by kernel_rfl
theorem aggB_150 : aggB Tryz.prog 150 = some true := by kernel_rfl
theorem tszD_150 : tszD Tryz.prog 150 = 7 := by kernel_rfl
theorem tbytes_150 : tbytes Tryz.prog 150 = some 32 := by kernel_rfl
theorem tzeroD_150 : tzeroD Tryz.prog 150 = .agg #[.bool false, .bool false, .bool false, .int .i64 0, .int .i64 0, .bool false, .bool false] := by kernel_rfl
theorem tzero_150 : tzero Tryz.prog 150 = some (.agg #[.bool false, .bool false, .bool false, .int .i64 0, .int .i64 0, .bool false, .bool false]) := by kernel_rfl
theorem tsz_151 : tsz Tryz.prog 151 = some 448 := by kernel_rfl
theorem aggB_151 : aggB Tryz.prog 151 = some true := by kernel_rfl
theorem tszD_151 : tszD Tryz.prog 151 = 448 := by kernel_rfl
theorem tbytes_151 : tbytes Tryz.prog 151 = some 2048 := by kernel_rfl
theorem isArr_151 : isArrB Tryz.prog 151 = true := by kernel_rfl
theorem arrLen_151 : arrLen Tryz.prog 151 = 64 := by kernel_rfl
theorem arrSz_151 : arrSz Tryz.prog 151 = 7 := by kernel_rfl
theorem tsz_152 : tsz Tryz.prog 152 = some 453 := by kernel_rfl
theorem aggB_152 : aggB Tryz.prog 152 = some true := by kernel_rfl
theorem tszD_152 : tszD Tryz.prog 152 = 453 := by kernel_rfl
theorem tbytes_152 : tbytes Tryz.prog 152 = some 2088 := by kernel_rfl
theorem tsz_153 : tsz Tryz.prog 153 = some 453 := by kernel_rfl
theorem aggB_153 : aggB Tryz.prog 153 = some true := by kernel_rfl
theorem tszD_153 : tszD Tryz.prog 153 = 453 := by kernel_rfl
theorem tbytes_153 : tbytes Tryz.prog 153 = some 2088 := by kernel_rfl
theorem tsz_155 : tsz Tryz.prog 155 = some 42 := by kernel_rfl
theorem aggB_155 : aggB Tryz.prog 155 = some true := by kernel_rfl
theorem tszD_155 : tszD Tryz.prog 155 = 42 := by kernel_rfl
theorem tbytes_155 : tbytes Tryz.prog 155 = some 336 := by kernel_rfl
theorem tzeroD_155 : tzeroD Tryz.prog 155 = .agg #[.int .i64 0, .int .i64 0, .int .i64 0, .int .i64 0, .int .i64 0, .int .i64 0, .int .i64 0, .int .i64 0, .int .i64 0, .int .i64 0, .int .i64 0, .int .i64 0, .int .i64 0, .int .i64 0, .int .i64 0, .int .i64 0, .int .i64 0, .int .i64 0, .int .i64 0, .int .i64 0, .int .i64 0, .int .i64 0, .int .i64 0, .int .i64 0, .int .i64 0, .int .i64 0, .int .i64 0, .int .i64 0, .int .i64 0, .int .i64 0, .int .i64 0, .int .i64 0, .int .i64 0, .int .i64 0, .int .i64 0, .int .i64 0, .int .i64 0, .int .i64 0, .int .i64 0, .int .i64 0, .int .i64 0, .int .i64 0] := by kernel_rfl
theorem tzero_155 : tzero Tryz.prog 155 = some (.agg #[.int .i64 0, .int .i64 0, .int .i64 0, .int .i64 0, .int .i64 0, .int .i64 0, .int .i64 0, .int .i64 0, .int .i64 0, .int .i64 0, .int .i64 0, .int .i64 0, .int .i64 0, .int .i64 0, .int .i64 0, .int .i64 0, .int .i64 0, .int .i64 0, .int .i64 0, .int .i64 0, .int .i64 0, .int .i64 0, .int .i64 0, .int .i64 0, .int .i64 0, .int .i64 0, .int .i64 0, .int .i64 0, .int .i64 0, .int .i64 0, .int .i64 0, .int .i64 0, .int .i64 0, .int .i64 0, .int .i64 0, .int .i64 0, .int .i64 0, .int .i64 0, .int .i64 0, .int .i64 0, .int .i64 0, .int .i64 0]) := by kernel_rfl
theorem tsz_156 : tsz Tryz.prog 156 = some 42 := by kernel_rfl
theorem aggB_156 : aggB Tryz.prog 156 = some true := by kernel_rfl
theorem tszD_156 : tszD Tryz.prog 156 = 42 := by kernel_rfl
theorem tbytes_156 : tbytes Tryz.prog 156 = some 336 := by kernel_rfl
theorem tzeroD_156 : tzeroD Tryz.prog 156 = .agg #[.int .i64 0, .int .i64 0, .int .i64 0, .int .i64 0, .int .i64 0, .int .i64 0, .int .i64 0, .int .i64 0, .int .i64 0, .int .i64 0, .int .i64 0, .int .i64 0, .int .i64 0, .int .i64 0, .int .i64 0, .int .i64 0, .int .i64 0, .int .i64 0, .int .i64 0, .int .i64 0, .int .i64 0, .int .i64 0, .int .i64 0, .int .i64 0, .int .i64 0, .int .i64 0, .int .i64 0, .int .i64 0, .int .i64 0, .int .i64 0, .int .i64 0, .int .i64 0, .int .i64 0, .int .i64 0, .int .i64 0, .int .i64 0, .int .i64 0, .int .i64 0, .int .i64 0, .int .i64 0, .int .i64 0, .int .i64 0] := by kernel_rfl
theorem tzero_156 : tzero Tryz.prog 156 = some (.agg #[.int .i64 0, .int .i64 0, .int .i64 0, .int .i64 0, .int .i64 0, .int .i64 0, .int .i64 0, .int .i64 0, .int .i64 0, .int .i64 0, .int .i64 0, .int .i64 0, .int .i64 0, .int .i64 0, .int .i64 0, .int .i64 0, .int .i64 0, .int .i64 0, .int .i64 0, .int .i64 0, .int .i64 0, .int .i64 0, .int .i64 0, .int .i64 0, .int .i64 0, .int .i64 0, .int .i64 0, .int .i64 0, .int .i64 0, .int .i64 0, .int .i64 0, .int .i64 0, .int .i64 0, .int .i64 0, .int .i64 0, .int .i64 0, .int .i64 0, .int .i64 0, .int .i64 0, .int .i64 0, .int .i64 0, .int .i64 0]) := by kernel_rfl
theorem tsz_157 : tsz Tryz.prog 157 = some 1 := by kernel_rfl
theorem aggB_157 : aggB Tryz.prog 157 = some false := by kernel_rfl
theorem tszD_157 : tszD Tryz.prog 157 = 1 := by kernel_rfl
theorem tbytes_157 : tbytes Tryz.prog 157 = some 8 := by kernel_rfl
theorem isInt_157 : isIntB Tryz.prog 157 = true := by kernel_rfl
theorem intK_157 : intKD Tryz.prog 157 = .u64 := by kernel_rfl
theorem tzeroD_157 : tzeroD Tryz.prog 157 = .int .u64 0 := by kernel_rfl
theorem tzero_157 : tzero Tryz.prog 157 = some (.int .u64 0) := by kernel_rfl
theorem tsz_158 : tsz Tryz.prog 158 = some 1 := by kernel_rfl
theorem aggB_158 : aggB Tryz.prog 158 = some false := by kernel_rfl
theorem tszD_158 : tszD Tryz.prog 158 = 1 := by kernel_rfl
theorem tbytes_158 : tbytes Tryz.prog 158 = some 24 := by kernel_rfl
theorem isSlice_158 : isSliceB Tryz.prog 158 = true := by kernel_rfl
theorem ssz_158 : sliceSz Tryz.prog 158 = 5 := by kernel_rfl
theorem selem_158 : sliceElem Tryz.prog 158 = 98 := by kernel_rfl
theorem tzeroD_158 : tzeroD Tryz.prog 158 = .slice none 0 0 := by kernel_rfl
theorem tzero_158 : tzero Tryz.prog 158 = some (.slice none 0 0) := by kernel_rfl
theorem tsz_160 : tsz Tryz.prog 160 = some 1 := by kernel_rfl
theorem aggB_160 : aggB Tryz.prog 160 = some false := by kernel_rfl
theorem tszD_160 : tszD Tryz.prog 160 = 1 := by kernel_rfl
theorem tbytes_160 : tbytes Tryz.prog 160 = some 24 := by kernel_rfl
theorem isSlice_160 : isSliceB Tryz.prog 160 = true := by kernel_rfl
theorem ssz_160 : sliceSz Tryz.prog 160 = 5 := by kernel_rfl
theorem selem_160 : sliceElem Tryz.prog 160 = 163 := by kernel_rfl
theorem tzeroD_160 : tzeroD Tryz.prog 160 = .slice none 0 0 := by kernel_rfl
theorem tzero_160 : tzero Tryz.prog 160 = some (.slice none 0 0) := by kernel_rfl
theorem tsz_162 : tsz Tryz.prog 162 = some 5 := by kernel_rfl
theorem aggB_162 : aggB Tryz.prog 162 = some true := by kernel_rfl
theorem tszD_162 : tszD Tryz.prog 162 = 5 := by kernel_rfl
theorem tbytes_162 : tbytes Tryz.prog 162 = some 24 := by kernel_rfl
theorem tzeroD_162 : tzeroD Tryz.prog 162 = .agg #[.int .i64 0, .int .i64 0, .bool false, .bool false, .bool false] := by kernel_rfl
theorem tzero_162 : tzero Tryz.prog 162 = some (.agg #[.int .i64 0, .int .i64 0, .bool false, .bool false, .bool false]) := by kernel_rfl
theorem tsz_163 : tsz Tryz.prog 163 = some 5 := by kernel_rfl
theorem aggB_163 : aggB Tryz.prog 163 = some true := by kernel_rfl
theorem tszD_163 : tszD Tryz.prog 163 = 5 := by kernel_rfl
theorem tbytes_163 : tbytes Tryz.prog 163 = some 24 := by kernel_rfl
theorem tzeroD_163 : tzeroD Tryz.prog 163 = .agg #[.int .i64 0, .int .i64 0, .bool false, .bool false, .bool false] := by kernel_rfl
theorem tzero_163 : tzero Tryz.prog 163 = some (.agg #[.int .i64 0, .int .i64 0, .bool false, .bool false, .bool false]) := by kernel_rfl
theorem tsz_166 : tsz Tryz.prog 166 = some 1 := by kernel_rfl
theorem aggB_166 : aggB Tryz.prog 166 = some true := by kernel_rfl
theorem tszD_166 : tszD Tryz.prog 166 = 1 := by kernel_rfl
theorem tbytes_166 : tbytes Tryz.prog 166 = some 24 := by kernel_rfl
theorem tzeroD_166 : tzeroD Tryz.prog 166 = .agg #[.slice none 0 0] := by kernel_rfl
theorem tzero_166 : tzero Tryz.prog 166 = some (.agg #[.slice none 0 0]) := by kernel_rfl
theorem tsz_167 : tsz Tryz.prog 167 = some 1 := by kernel_rfl
theorem aggB_167 : aggB Tryz.prog 167 = some true := by kernel_rfl
theorem tszD_167 : tszD Tryz.prog 167 = 1 := by kernel_rfl
theorem tbytes_167 : tbytes Tryz.prog 167 = some 24 := by kernel_rfl
theorem tzeroD_167 : tzeroD Tryz.prog 167 = .agg #[.slice none 0 0] := by kernel_rfl
theorem tzero_167 : tzero Tryz.prog 167 = some (.agg #[.slice none 0 0]) := by kernel_rfl
theorem tsz_168 : tsz Tryz.prog 168 = some 1 := by kernel_rfl
theorem aggB_168 : aggB Tryz.prog 168 = some false := by kernel_rfl
theorem tszD_168 : tszD Tryz.prog 168 = 1 := by kernel_rfl
theorem tbytes_168 : tbytes Tryz.prog 168 = some 0 := by kernel_rfl
theorem tzeroD_168 : tzeroD Tryz.prog 168 = .tuple #[.int .i64 0, .int .i64 0] := by kernel_rfl
theorem tzero_168 : tzero Tryz.prog 168 = some (.tuple #[.int .i64 0, .int .i64 0]) := by kernel_rfl
theorem tsz_170 : tsz Tryz.prog 170 = some 1 := by kernel_rfl
theorem aggB_170 : aggB Tryz.prog 170 = some false := by kernel_rfl
theorem tszD_170 : tszD Tryz.prog 170 = 1 := by kernel_rfl
theorem tbytes_170 : tbytes Tryz.prog 170 = some 0 := by kernel_rfl
theorem tzeroD_170 : tzeroD Tryz.prog 170 = .tuple #[.int .u16 0, .int .i64 0] := by kernel_rfl
theorem tzero_170 : tzero Tryz.prog 170 = some (.tuple #[.int .u16 0, .int .i64 0]) := by kernel_rfl
theorem tsz_178 : tsz Tryz.prog 178 = some 1 := by kernel_rfl
theorem aggB_178 : aggB Tryz.prog 178 = some false := by kernel_rfl
theorem tszD_178 : tszD Tryz.prog 178 = 1 := by kernel_rfl
theorem tbytes_178 : tbytes Tryz.prog 178 = some 8 := by kernel_rfl
theorem tzeroD_178 : tzeroD Tryz.prog 178 = .nilFunc := by kernel_rfl
theorem tzero_178 : tzero Tryz.prog 178 = some (.nilFunc) := by kernel_rfl
theorem tsz_181 : tsz Tryz.prog 181 = some 1 := by kernel_rfl
theorem aggB_181 : aggB Tryz.prog 181 = some false := by kernel_rfl
theorem tszD_181 : tszD Tryz.prog 181 = 1 := by kernel_rfl
theorem tbytes_181 : tbytes Tryz.prog 181 = some 8 := by kernel_rfl
theorem tzeroD_181 : tzeroD Tryz.prog 181 = .nilFunc := by kernel_rfl
theorem tzero_181 : tzero Tryz.prog 181 = some (.nilFunc) := by kernel_rfl
theorem tsz_187 : tsz Tryz.prog 187 = some 1 := by kernel_rfl
theorem aggB_187 : aggB Tryz.prog 187 = some false := by kernel_rfl
theorem tszD_187 : tszD Tryz.prog 187 = 1 := by kernel_rfl
theorem tbytes_187 : tbytes Tryz.prog 187 = some 0 := by kernel_rfl
theorem tzeroD_187 : tzeroD Tryz.prog 187 = .tuple #[.int .i64 0, .bool false] := by kernel_rfl
theorem tzero_187 : tzero Tryz.prog 187 = some (.tuple #[.int .i64 0, .bool false]) := by kernel_rfl
theorem tsz_189 : tsz Tryz.prog 189 = some 1 := by kernel_rfl
theorem aggB_189 : aggB Tryz.prog 189 = some false := by kernel_rfl
theorem tszD_189 : tszD Tryz.prog 189 = 1 := by kernel_rfl
theorem tbytes_189 : tbytes Tryz.prog 189 = some 0 := by kernel_rfl
theorem tzeroD_189 : tzeroD Tryz.prog 189 = .tuple #[.bool false, .int .i64 0] := by kernel_rfl
theorem tzero_189 : tzero Tryz.prog 189 = some (.tuple #[.bool false, .int .i64 0]) := by kernel_rfl
theorem tsz_193 : tsz Tryz.prog 193 = some 1 := by kernel_rfl
theorem aggB_193 : aggB Tryz.prog 193 = some false := by kernel_rfl
theorem tszD_193 : tszD Tryz.prog 193 = 1 := by kernel_rfl
theorem tbytes_193 : tbytes Tryz.prog 193 = some 8 := by kernel_rfl
theorem tzeroD_193 : tzeroD Tryz.prog 193 = .nilFunc := by kernel_rfl
theorem tzero_193 : tzero Tryz.prog 193 = some (.nilFunc) := by kernel_rfl
theorem tsz_198 : tsz Tryz.prog 198 = some 1 := by kernel_rfl
theorem aggB_198 : aggB Tryz.prog 198 = some false := by kernel_rfl
theorem tszD_198 : tszD Tryz.prog 198 = 1 := by kernel_rfl
theorem tbytes_198 : tbytes Tryz.prog 198 = some 8 := by kernel_rfl
theorem isPtr_198 : isPtrB Tryz.prog 198 = true := by kernel_rfl
theorem tzeroD_198 : tzeroD Tryz.prog 198 = .pointer none := by kernel_rfl
theorem tzero_198 : tzero Tryz.prog 198 = some (.pointer none) := by kernel_rfl
theorem tsz_199 : tsz Tryz.prog 199 = some 1 := by kernel_rfl
theorem aggB_199 : aggB Tryz.prog 199 = some false := by kernel_rfl
theorem tszD_199 : tszD Tryz.prog 199 = 1 := by kernel_rfl
theorem tbytes_199 : tbytes Tryz.prog 199 = some 0 := by kernel_rfl
theorem tzeroD_199 : tzeroD Tryz.prog 199 = .tuple #[.pointer none, .int .u32 0, .int .u32 0] := by kernel_rfl
theorem tzero_199 : tzero Tryz.prog 199 = some (.tuple #[.pointer none, .int .u32 0, .int .u32 0]) := by kernel_rfl
theorem tsz_201 : tsz Tryz.prog 201 = some 1 := by kernel_rfl
theorem aggB_201 : aggB Tryz.prog 201 = some false := by kernel_rfl
theorem tszD_201 : tszD Tryz.prog 201 = 1 := by kernel_rfl
theorem tbytes_201 : tbytes Tryz.prog 201 = some 0 := by kernel_rfl
theorem tzeroD_201 : tzeroD Tryz.prog 201 = .tuple #[.int .i64 0, .int .i64 0, .bool false] := by kernel_rfl
theorem tzero_201 : tzero Tryz.prog 201 = some (.tuple #[.int .i64 0, .int .i64 0, .bool false]) := by kernel_rfl
theorem tsz_208 : tsz Tryz.prog 208 = some 1 := by kernel_rfl
theorem aggB_208 : aggB Tryz.prog 208 = some false := by kernel_rfl
theorem tszD_208 : tszD Tryz.prog 208 = 1 := by kernel_rfl
theorem tbytes_208 : tbytes Tryz.prog 208 = some 0 := by kernel_rfl
theorem tzeroD_208 : tzeroD Tryz.prog 208 = .tuple #[.string ByteArray.empty, .string ByteArray.empty, .string ByteArray.empty] := by kernel_rfl
theorem tzero_208 : tzero Tryz.prog 208 = some (.tuple #[.string ByteArray.empty, .string ByteArray.empty, .string ByteArray.empty]) := by kernel_rfl
theorem tsz_211 : tsz Tryz.prog 211 = some 1 := by kernel_rfl
theorem aggB_211 : aggB Tryz.prog 211 = some false := by kernel_rfl
theorem tszD_211 : tszD Tryz.prog 211 = 1 := by kernel_rfl
theorem tbytes_211 : tbytes Tryz.prog 211 = some 0 := by kernel_rfl
theorem tzeroD_211 : tzeroD Tryz.prog 211 = .tuple #[.agg #[.bool false, .bool false, .int .i64 0, .int .i64 0], .agg #[.int .i64 0, .int .i64 0, .int .i64 0, .bool false, .int .i64 0]] := by kernel_rfl
theorem tzero_211 : tzero Tryz.prog 211 = some (.tuple #[.agg #[.bool false, .bool false, .int .i64 0, .int .i64 0], .agg #[.int .i64 0, .int .i64 0, .int .i64 0, .bool false, .int .i64 0]]) := by kernel_rfl
theorem tsz_218 : tsz Tryz.prog 218 = some 1 := by kernel_rfl
theorem aggB_218 : aggB Tryz.prog 218 = some false := by kernel_rfl
theorem tszD_218 : tszD Tryz.prog 218 = 1 := by kernel_rfl
theorem tbytes_218 : tbytes Tryz.prog 218 = some 24 := by kernel_rfl
theorem isSlice_218 : isSliceB Tryz.prog 218 = true := by kernel_rfl
theorem ssz_218 : sliceSz Tryz.prog 218 = 1 := by kernel_rfl
theorem selem_218 : sliceElem Tryz.prog 218 = 9 := by kernel_rfl
theorem tzeroD_218 : tzeroD Tryz.prog 218 = .slice none 0 0 := by kernel_rfl
theorem tzero_218 : tzero Tryz.prog 218 = some (.slice none 0 0) := by kernel_rfl
theorem tsz_223 : tsz Tryz.prog 223 = some 256 := by kernel_rfl
theorem aggB_223 : aggB Tryz.prog 223 = some true := by kernel_rfl
theorem tszD_223 : tszD Tryz.prog 223 = 256 := by kernel_rfl
theorem tbytes_223 : tbytes Tryz.prog 223 = some 256 := by kernel_rfl
theorem isArr_223 : isArrB Tryz.prog 223 = true := by kernel_rfl
theorem arrLen_223 : arrLen Tryz.prog 223 = 256 := by kernel_rfl
theorem arrSz_223 : arrSz Tryz.prog 223 = 1 := by kernel_rfl
theorem tsz_224 : tsz Tryz.prog 224 = some 256 := by kernel_rfl
theorem aggB_224 : aggB Tryz.prog 224 = some true := by kernel_rfl
theorem tszD_224 : tszD Tryz.prog 224 = 256 := by kernel_rfl
theorem tbytes_224 : tbytes Tryz.prog 224 = some 256 := by kernel_rfl
theorem isArr_224 : isArrB Tryz.prog 224 = true := by kernel_rfl
theorem arrLen_224 : arrLen Tryz.prog 224 = 256 := by kernel_rfl
theorem arrSz_224 : arrSz Tryz.prog 224 = 1 := by kernel_rfl
theorem tsz_225 : tsz Tryz.prog 225 = some 1 := by kernel_rfl
theorem aggB_225 : aggB Tryz.prog 225 = some false := by kernel_rfl
theorem tszD_225 : tszD Tryz.prog 225 = 1 := by kernel_rfl
theorem tbytes_225 : tbytes Tryz.prog 225 = some 0 := by kernel_rfl
theorem tzeroD_225 : tzeroD Tryz.prog 225 = .tuple #[.agg #[.bool false, .bool false, .bool false, .bool false, .bool false, .bool false, .bool false, .bool false, .bool false, .bool false, .bool false, .bool false, .bool false, .bool false, .bool false, .bool false, .bool false, .bool false, .bool false, .bool false, .bool false, .bool false, .bool false, .bool false, .bool false, .bool false, .bool false, .bool false, .bool false, .bool false, .bool false, .bool false, .bool false, .bool false, .bool false, .bool false, .bool false, .bool false, .bool false, .bool false, .bool false, .bool false, .bool false, .bool false, .bool false, .bool false, .bool false, .bool false, .bool false, .bool false, .bool false, .bool false, .bool false, .bool false, .bool false, .bool false, .bool false, .bool false, .bool false, .bool false, .bool false, .bool false, .bool false, .bool false, .bool false, .bool false, .bool false, .bool false, .bool false, .bool false, .bool false, .bool false, .bool false, .bool false, .bool false, .bool false, .bool false, .bool false, .bool false, .bool false, .bool false, .bool false, .bool false, .bool false, .bool false, .bool false, .bool false, .bool false, .bool false, .bool false, .bool false, .bool false, .bool false, .bool false, .bool false, .bool false, .bool false, .bool false, .bool false, .bool false, .bool false, .bool false, .bool false, .bool false, .bool false, .bool false, .bool false, .bool false, .bool false, .bool false, .bool false, .bool false, .bool false, .bool false, .bool false, .bool false, .bool false, .bool false, .bool false, .bool false, .bool false, .bool false, .bool false, .bool false, .bool false, .bool false, .bool false, .bool false, .bool false, .bool false, .bool false, .bool false, .bool false, .bool false, .bool false, .bool false, .bool false, .bool false, .bool false, .bool false, .bool false, .bool false, .bool false, .bool false, .bool false, .bool false, .bool false, .bool false, .bool false, .bool false, .bool false, .bool false, .bool false, .bool false, .bool false, .bool false, .bool false, .bool false, .bool false, .bool false, .bool false, .bool false, .bool false, .bool false, .bool false, .bool false, .bool false, .bool false, .bool false, .bool false, .bool false, .bool false, .bool false, .bool false, .bool false, .bool false, .bool false, .bool false, .bool false, .bool false, .bool false, .bool false, .bool false, .bool false, .bool false, .bool false, .bool false, .bool false, .bool false, .bool false, .bool false, .bool false, .bool false, .bool false, .bool false, .bool false, .bool false, .bool false, .bool false, .bool false, .bool false, .bool false, .bool false, .bool false, .bool false, .bool false, .bool false, .bool false, .bool false, .bool false, .bool false, .bool false, .bool false, .bool false, .bool false, .bool false, .bool false, .bool false, .bool false, .bool false, .bool false, .bool false, .bool false, .bool false, .bool false, .bool false, .bool false, .bool false, .bool false, .bool false, .bool false, .bool false, .bool false, .bool false, .bool false, .bool false, .bool false, .bool false, .bool false, .bool false, .bool false, .bool false, .bool false, .bool false, .bool false, .bool false, .bool false, .bool false, .bool false, .bool false, .bool false, .bool false, .bool false, .bool false, .bool false, .bool false], .bool false] := by kernel_rfl
theorem tzero_225 : tzero Tryz.prog 225 = some (.tuple #[.agg #[.bool false, .bool false, .bool false, .bool false, .bool false, .bool false, .bool false, .bool false, .bool false, .bool false, .bool false, .bool false, .bool false, .bool false, .bool false, .bool false, .bool false, .bool false, .bool false, .bool false, .bool false, .bool false, .bool false, .bool false, .bool false, .bool false, .bool false, .bool false, .bool false, .bool false, .bool false, .bool false, .bool false, .bool false, .bool false, .bool false, .bool false, .bool false, .bool false, .bool false, .bool false, .bool false, .bool false, .bool false, .bool false, .bool false, .bool false, .bool false, .bool false, .bool false, .bool false, .bool false, .bool false, .bool false, .bool false, .bool false, .bool false, .bool false, .bool false, .bool false, .bool false, .bool false, .bool false, .bool false, .bool false, .bool false, .bool false, .bool false, .bool false, .bool false, .bool false, .bool false, .bool false, .bool false, .bool false, .bool false, .bool false, .bool false, .bool false, .bool false, .bool false, .bool false, .bool false, .bool false, .bool false, .bool false, .bool false, .bool false, .bool false, .bool false, .bool false, .bool false, .bool false, .bool false, .bool false, .bool false, .bool false, .bool false, .bool false, .bool false, .bool false, .bool false, .bool false, .bool false, .bool false, .bool false, .bool false, .bool false, .bool false, .bool false, .bool false, .bool false, .bool false, .bool false, .bool false, .bool false, .bool false, .bool false, .bool false, .bool false, .bool false, .bool false, .bool false, .bool false, .bool false, .bool false, .bool false, .bool false, .bool false, .bool false, .bool false, .bool false, .bool false, .bool false, .bool false, .bool false, .bool false, .bool false, .bool false, .bool false, .bool false, .bool false, .bool false, .bool false, .bool false, .bool false, .bool false, .bool false, .bool false, .bool false, .bool false, .bool false, .bool false, .bool false, .bool false, .bool false, .bool false, .bool false, .bool false, .bool false, .bool false, .bool false, .bool false, .bool false, .bool false, .bool false, .bool false, .bool false, .bool false, .bool false, .bool false, .bool false, .bool false, .bool false, .bool false, .bool false, .bool false, .bool false, .bool false, .bool false, .bool false, .bool false, .bool false, .bool false, .bool false, .bool false, .bool false, .bool false, .bool false, .bool false, .bool false, .bool false, .bool false, .bool false, .bool false, .bool false, .bool false, .bool false, .bool false, .bool false, .bool false, .bool false, .bool false, .bool false, .bool false, .bool false, .bool false, .bool false, .bool false, .bool false, .bool false, .bool false, .bool false, .bool false, .bool false, .bool false, .bool false, .bool false, .bool false, .bool false, .bool false, .bool false, .bool false, .bool false, .bool false, .bool false, .bool false, .bool false, .bool false, .bool false, .bool false, .bool false, .bool false, .bool false, .bool false, .bool false, .bool false, .bool false, .bool false, .bool false, .bool false, .bool false, .bool false, .bool false, .bool false, .bool false, .bool false, .bool false, .bool false, .bool false, .bool false, .bool false, .bool false, .bool false, .bool false, .bool false], .bool false]) := by kernel_rfl
theorem tsz_231 : tsz Tryz.prog 231 = some 1 := by kernel_rfl
theorem aggB_231 : aggB Tryz.prog 231 = some false := by kernel_rfl
theorem tszD_231 : tszD Tryz.prog 231 = 1 := by kernel_rfl
theorem tbytes_231 : tbytes Tryz.prog 231 = some 8 := by kernel_rfl
theorem isPtr_231 : isPtrB Tryz.prog 231 = true := by kernel_rfl
theorem tzeroD_231 : tzeroD Tryz.prog 231 = .pointer none := by kernel_rfl
theorem tzero_231 : tzero Tryz.prog 231 = some (.pointer none) := by kernel_rfl
theorem tsz_233 : tsz Tryz.prog 233 = some 1 := by kernel_rfl
theorem aggB_233 : aggB Tryz.prog 233 = some false := by kernel_rfl
theorem tszD_233 : tszD Tryz.prog 233 = 1 := by kernel_rfl
theorem tbytes_233 : tbytes Tryz.prog 233 = some 0 := by kernel_rfl
theorem tzeroD_233 : tzeroD Tryz.prog 233 = .tuple #[.int .i32 0, .int .i64 0] := by kernel_rfl
theorem tzero_233 : tzero Tryz.prog 233 = some (.tuple #[.int .i32 0, .int .i64 0]) := by kernel_rfl
theorem tsz_235 : tsz Tryz.prog 235 = some 256 := by kernel_rfl
theorem aggB_235 : aggB Tryz.prog 235 = some true := by kernel_rfl
theorem tszD_235 : tszD Tryz.prog 235 = 256 := by kernel_rfl
theorem tbytes_235 : tbytes Tryz.prog 235 = some 256 := by kernel_rfl
theorem isArr_235 : isArrB Tryz.prog 235 = true := by kernel_rfl
theorem arrLen_235 : arrLen Tryz.prog 235 = 256 := by kernel_rfl
theorem arrSz_235 : arrSz Tryz.prog 235 = 1 := by kernel_rfl
theorem tsz_236 : tsz Tryz.prog 236 = some 2 := by kernel_rfl
theorem aggB_236 : aggB Tryz.prog 236 = some true := by kernel_rfl
theorem tszD_236 : tszD Tryz.prog 236 = 2 := by kernel_rfl
theorem tbytes_236 : tbytes Tryz.prog 236 = some 2 := by kernel_rfl
theorem tzeroD_236 : tzeroD Tryz.prog 236 = .agg #[.int .u8 0, .int .u8 0] := by kernel_rfl
theorem tzero_236 : tzero Tryz.prog 236 = some (.agg #[.int .u8 0, .int .u8 0]) := by kernel_rfl
theorem tsz_237 : tsz Tryz.prog 237 = some 2 := by kernel_rfl
theorem aggB_237 : aggB Tryz.prog 237 = some true := by kernel_rfl
theorem tszD_237 : tszD Tryz.prog 237 = 2 := by kernel_rfl
theorem tbytes_237 : tbytes Tryz.prog 237 = some 2 := by kernel_rfl
theorem tzeroD_237 : tzeroD Tryz.prog 237 = .agg #[.int .u8 0, .int .u8 0] := by kernel_rfl
theorem tzero_237 : tzero Tryz.prog 237 = some (.agg #[.int .u8 0, .int .u8 0]) := by kernel_rfl
theorem tsz_238 : tsz Tryz.prog 238 = some 32 := by kernel_rfl
theorem aggB_238 : aggB Tryz.prog 238 = some true := by kernel_rfl
theorem tszD_238 : tszD Tryz.prog 238 = 32 := by kernel_rfl
theorem tbytes_238 : tbytes Tryz.prog 238 = some 32 := by kernel_rfl
theorem isArr_238 : isArrB Tryz.prog 238 = true := by kernel_rfl
theorem arrLen_238 : arrLen Tryz.prog 238 = 16 := by kernel_rfl
theorem arrSz_238 : arrSz Tryz.prog 238 = 2 := by kernel_rfl
theorem tzeroD_238 : tzeroD Tryz.prog 238 = .agg #[.int .u8 0, .int .u8 0, .int .u8 0, .int .u8 0, .int .u8 0, .int .u8 0, .int .u8 0, .int .u8 0, .int .u8 0, .int .u8 0, .int .u8 0, .int .u8 0, .int .u8 0, .int .u8 0, .int .u8 0, .int .u8 0, .int .u8 0, .int .u8 0, .int .u8 0, .int .u8 0, .int .u8 0, .int .u8 0, .int .u8 0, .int .u8 0, .int .u8 0, .int .u8 0, .int .u8 0, .int .u8 0, .int .u8 0, .int .u8 0, .int .u8 0, .int .u8 0] := by kernel_rfl
theorem tzero_238 : tzero Tryz.prog 238 = some (.agg #[.int .u8 0, .int .u8 0, .int .u8 0, .int .u8 0, .int .u8 0, .int .u8 0, .int .u8 0, .int .u8 0, .int .u8 0, .int .u8 0, .int .u8 0, .int .u8 0, .int .u8 0, .int .u8 0, .int .u8 0, .int .u8 0, .int .u8 0, .int .u8 0, .int .u8 0, .int .u8 0, .int .u8 0, .int .u8 0, .int .u8 0, .int .u8 0, .int .u8 0, .int .u8 0, .int .u8 0, .int .u8 0, .int .u8 0, .int .u8 0, .int .u8 0, .int .u8 0]) := by kernel_rfl
theorem tsz_239 : tsz Tryz.prog 239 = some 1 := by kernel_rfl
theorem aggB_239 : aggB Tryz.prog 239 = some false := by kernel_rfl
theorem tszD_239 : tszD Tryz.prog 239 = 1 := by kernel_rfl
theorem tbytes_239 : tbytes Tryz.prog 239 = some 0 := by kernel_rfl
theorem tzeroD_239 : tzeroD Tryz.prog 239 = .tuple #[.int .u32 0, .int .u32 0] := by kernel_rfl
theorem tzero_239 : tzero Tryz.prog 239 = some (.tuple #[.int .u32 0, .int .u32 0]) := by kernel_rfl
theorem fa_25_0 {b o : Nat} {h : Heap} : runD Tryz.prog (iFieldAt 25 (.pointer (some ⟨b, o, none⟩)) 0) h = some (.pointer (some ⟨b, o + 0, none⟩)) := by kernel_rfl
theorem fa_25_1 {b o : Nat} {h : Heap} : runD Tryz.prog (iFieldAt 25 (.pointer (some ⟨b, o, none⟩)) 1) h = some (.pointer (some ⟨b, o + 1, none⟩)) := by kernel_rfl
theorem fa_25_2 {b o : Nat} {h : Heap} : runD Tryz.prog (iFieldAt 25 (.pointer (some ⟨b, o, none⟩)) 2) h = some (.pointer (some ⟨b, o + 2, none⟩)) := by kernel_rfl
theorem fa_25_3 {b o : Nat} {h : Heap} : runD Tryz.prog (iFieldAt 25 (.pointer (some ⟨b, o, none⟩)) 3) h = some (.pointer (some ⟨b, o + 3, none⟩)) := by kernel_rfl
theorem fa_25_4 {b o : Nat} {h : Heap} : runD Tryz.prog (iFieldAt 25 (.pointer (some ⟨b, o, none⟩)) 4) h = some (.pointer (some ⟨b, o + 4, none⟩)) := by kernel_rfl
theorem fa_30_0 {b o : Nat} {h : Heap} : runD Tryz.prog (iFieldAt 30 (.pointer (some ⟨b, o, none⟩)) 0) h = some (.pointer (some ⟨b, o + 0, none⟩)) := by kernel_rfl
theorem fa_30_1 {b o : Nat} {h : Heap} : runD Tryz.prog (iFieldAt 30 (.pointer (some ⟨b, o, none⟩)) 1) h = some (.pointer (some ⟨b, o + 16, none⟩)) := by kernel_rfl
theorem fa_30_2 {b o : Nat} {h : Heap} : runD Tryz.prog (iFieldAt 30 (.pointer (some ⟨b, o, none⟩)) 2) h = some (.pointer (some ⟨b, o + 17, none⟩)) := by kernel_rfl
theorem fa_36_0 {b o : Nat} {h : Heap} : runD Tryz.prog (iFieldAt 36 (.pointer (some ⟨b, o, none⟩)) 0) h = some (.pointer (some ⟨b, o + 0, none⟩)) := by kernel_rfl
theorem fa_36_1 {b o : Nat} {h : Heap} : runD Tryz.prog (iFieldAt 36 (.pointer (some ⟨b, o, none⟩)) 1) h = some (.pointer (some ⟨b, o + 1, none⟩)) := by kernel_rfl
theorem fa_36_2 {b o : Nat} {h : Heap} : runD Tryz.prog (iFieldAt 36 (.pointer (some ⟨b, o, none⟩)) 2) h = some (.pointer (some ⟨b, o + 2, none⟩)) := by kernel_rfl
theorem fa_41_0 {b o : Nat} {h : Heap} : runD Tryz.prog (iFieldAt 41 (.pointer (some ⟨b, o, none⟩)) 0) h = some (.pointer (some ⟨b, o + 0, none⟩)) := by kernel_rfl
theorem fa_41_1 {b o : Nat} {h : Heap} : runD Tryz.prog (iFieldAt 41 (.pointer (some ⟨b, o, none⟩)) 1) h = some (.pointer (some ⟨b, o + 1, none⟩)) := by kernel_rfl
theorem fa_41_2 {b o : Nat} {h : Heap} : runD Tryz.prog (iFieldAt 41 (.pointer (some ⟨b, o, none⟩)) 2) h = some (.pointer (some ⟨b, o + 2, none⟩)) := by kernel_rfl
theorem fa_43_0 {b o : Nat} {h : Heap} : runD Tryz.prog (iFieldAt 43 (.pointer (some ⟨b, o, none⟩)) 0) h = some (.pointer (some ⟨b, o + 0, none⟩)) := by kernel_rfl
theorem fa_43_1 {b o : Nat} {h : Heap} : runD Tryz.prog (iFieldAt 43 (.pointer (some ⟨b, o, none⟩)) 1) h = some (.pointer (some ⟨b, o + 3, none⟩)) := by kernel_rfl
theorem fa_47_0 {b o : Nat} {h : Heap} : runD Tryz.prog (iFieldAt 47 (.pointer (some ⟨b, o, none⟩)) 0) h = some (.pointer (some ⟨b, o + 0, none⟩)) := by kernel_rfl
theorem fa_47_3 {b o : Nat} {h : Heap} : runD Tryz.prog (iFieldAt 47 (.pointer (some ⟨b, o, none⟩)) 3) h = some (.pointer (some ⟨b, o + 3, none⟩)) := by kernel_rfl
theorem fa_51_0 {b o : Nat} {h : Heap} : runD Tryz.prog (iFieldAt 51 (.pointer (some ⟨b, o, none⟩)) 0) h = some (.pointer (some ⟨b, o + 0, none⟩)) := by kernel_rfl
theorem fa_51_1 {b o : Nat} {h : Heap} : runD Tryz.prog (iFieldAt 51 (.pointer (some ⟨b, o, none⟩)) 1) h = some (.pointer (some ⟨b, o + 1, none⟩)) := by kernel_rfl
theorem fa_51_2 {b o : Nat} {h : Heap} : runD Tryz.prog (iFieldAt 51 (.pointer (some ⟨b, o, none⟩)) 2) h = some (.pointer (some ⟨b, o + 2, none⟩)) := by kernel_rfl
theorem fa_51_3 {b o : Nat} {h : Heap} : runD Tryz.prog (iFieldAt 51 (.pointer (some ⟨b, o, none⟩)) 3) h = some (.pointer (some ⟨b, o + 3, none⟩)) := by kernel_rfl
theorem fa_56_0 {b o : Nat} {h : Heap} : runD Tryz.prog (iFieldAt 56 (.pointer (some ⟨b, o, none⟩)) 0) h = some (.pointer (some ⟨b, o + 0, none⟩)) := by kernel_rfl
theorem fa_72_0 {b o : Nat} {h : Heap} : runD Tryz.prog (iFieldAt 72 (.pointer (some ⟨b, o, none⟩)) 0) h = some (.pointer (some ⟨b, o + 0, none⟩)) := by kernel_rfl
theorem fa_72_1 {b o : Nat} {h : Heap} : runD Tryz.prog (iFieldAt 72 (.pointer (some ⟨b, o, none⟩)) 1) h = some (.pointer (some ⟨b, o + 1, none⟩)) := by kernel_rfl
theorem fa_72_2 {b o : Nat} {h : Heap} : runD Tryz.prog (iFieldAt 72 (.pointer (some ⟨b, o, none⟩)) 2) h = some (.pointer (some ⟨b, o + 2, none⟩)) := by kernel_rfl
theorem fa_72_3 {b o : Nat} {h : Heap} : runD Tryz.prog (iFieldAt 72 (.pointer (some ⟨b, o, none⟩)) 3) h = some (.pointer (some ⟨b, o + 3, none⟩)) := by kernel_rfl
theorem fa_78_0 {b o : Nat} {h : Heap} : runD Tryz.prog (iFieldAt 78 (.pointer (some ⟨b, o, none⟩)) 0) h = some (.pointer (some ⟨b, o + 0, none⟩)) := by kernel_rfl
theorem fa_78_1 {b o : Nat} {h : Heap} : runD Tryz.prog (iFieldAt 78 (.pointer (some ⟨b, o, none⟩)) 1) h = some (.pointer (some ⟨b, o + 1, none⟩)) := by kernel_rfl
theorem fa_78_2 {b o : Nat} {h : Heap} : runD Tryz.prog (iFieldAt 78 (.pointer (some ⟨b, o, none⟩)) 2) h = some (.pointer (some ⟨b, o + 2, none⟩)) := by kernel_rfl
theorem fa_78_3 {b o : Nat} {h : Heap} : runD Tryz.prog (iFieldAt 78 (.pointer (some ⟨b, o, none⟩)) 3) h = some (.pointer (some ⟨b, o + 3, none⟩)) := by kernel_rfl
theorem fa_84_0 {b o : Nat} {h : Heap} : runD Tryz.prog (iFieldAt 84 (.pointer (some ⟨b, o, none⟩)) 0) h = some (.pointer (some ⟨b, o + 0, none⟩)) := by kernel_rfl
theorem fa_84_1 {b o : Nat} {h : Heap} : runD Tryz.prog (iFieldAt 84 (.pointer (some ⟨b, o, none⟩)) 1) h = some (.pointer (some ⟨b, o + 1, none⟩)) := by kernel_rfl
theorem fa_84_2 {b o : Nat} {h : Heap} : runD Tryz.prog (iFieldAt 84 (.pointer (some ⟨b, o, none⟩)) 2) h = some (.pointer (some ⟨b, o + 2, none⟩)) := by kernel_rfl
theorem fa_84_3 {b o : Nat} {h : Heap} : runD Tryz.prog (iFieldAt 84 (.pointer (some ⟨b, o, none⟩)) 3) h = some (.pointer (some ⟨b, o + 3, none⟩)) := by kernel_rfl
theorem fa_84_4 {b o : Nat} {h : Heap} : runD Tryz.prog (iFieldAt 84 (.pointer (some ⟨b, o, none⟩)) 4) h = some (.pointer (some ⟨b, o + 4, none⟩)) := by kernel_rfl
theorem fa_92_0 {b o : Nat} {h : Heap} : runD Tryz.prog (iFieldAt 92 (.pointer (some ⟨b, o, none⟩)) 0) h = some (.pointer (some ⟨b, o + 0, none⟩)) := by kernel_rfl
theorem fa_92_1 {b o : Nat} {h : Heap} : runD Tryz.prog (iFieldAt 92 (.pointer (some ⟨b, o, none⟩)) 1) h = some (.pointer (some ⟨b, o + 1, none⟩)) := by kernel_rfl
theorem fa_92_2 {b o : Nat} {h : Heap} : runD Tryz.prog (iFieldAt 92 (.pointer (some ⟨b, o, none⟩)) 2) h = some (.pointer (some ⟨b, o + 2, none⟩)) := by kernel_rfl
theorem fa_96_0 {b o : Nat} {h : Heap} : runD Tryz.prog (iFieldAt 96 (.pointer (some ⟨b, o, none⟩)) 0) h = some (.pointer (some ⟨b, o + 0, none⟩)) := by kernel_rfl
theorem fa_96_1 {b o : Nat} {h : Heap} : runD Tryz.prog (iFieldAt 96 (.pointer (some ⟨b, o, none⟩)) 1) h = some (.pointer (some ⟨b, o + 1, none⟩)) := by kernel_rfl
theorem fa_98_0 {b o : Nat} {h : Heap} : runD Tryz.prog (iFieldAt 98 (.pointer (some ⟨b, o, none⟩)) 0) h = some (.pointer (some ⟨b, o + 0, none⟩)) := by kernel_rfl
theorem fa_98_1 {b o : Nat} {h : Heap} : runD Tryz.prog (iFieldAt 98 (.pointer (some ⟨b, o, none⟩)) 1) h = some (.pointer (some ⟨b, o + 1, none⟩)) := by kernel_rfl
theorem fa_98_2 {b o : Nat} {h : Heap} : runD Tryz.prog (iFieldAt 98 (.pointer (some ⟨b, o, none⟩)) 2) h = some (.pointer (some ⟨b, o + 2, none⟩)) := by kernel_rfl
theorem fa_98_3 {b o : Nat} {h : Heap} : runD Tryz.prog (iFieldAt 98 (.pointer (some ⟨b, o, none⟩)) 3) h = some (.pointer (some ⟨b, o + 3, none⟩)) := by kernel_rfl
theorem fa_98_4 {b o : Nat} {h : Heap} : runD Tryz.prog (iFieldAt 98 (.pointer (some ⟨b, o, none⟩)) 4) h = some (.pointer (some ⟨b, o + 4, none⟩)) := by kernel_rfl
theorem fa_101_0 {b o : Nat} {h : Heap} : runD Tryz.prog (iFieldAt 101 (.pointer (some ⟨b, o, none⟩)) 0) h = some (.pointer (some ⟨b, o + 0, none⟩)) := by kernel_rfl
theorem fa_101_1 {b o : Nat} {h : Heap} : runD Tryz.prog (iFieldAt 101 (.pointer (some ⟨b, o, none⟩)) 1) h = some (.pointer (some ⟨b, o + 40, none⟩)) := by kernel_rfl
theorem fa_101_2 {b o : Nat} {h : Heap} : runD Tryz.prog (iFieldAt 101 (.pointer (some ⟨b, o, none⟩)) 2) h = some (.pointer (some ⟨b, o + 41, none⟩)) := by kernel_rfl
theorem fa_116_0 {b o : Nat} {h : Heap} : runD Tryz.prog (iFieldAt 116 (.pointer (some ⟨b, o, none⟩)) 0) h = some (.pointer (some ⟨b, o + 0, none⟩)) := by kernel_rfl
theorem fa_116_1 {b o : Nat} {h : Heap} : runD Tryz.prog (iFieldAt 116 (.pointer (some ⟨b, o, none⟩)) 1) h = some (.pointer (some ⟨b, o + 3, none⟩)) := by kernel_rfl
theorem fa_116_2 {b o : Nat} {h : Heap} : runD Tryz.prog (iFieldAt 116 (.pointer (some ⟨b, o, none⟩)) 2) h = some (.pointer (some ⟨b, o + 4, none⟩)) := by kernel_rfl
theorem fa_116_3 {b o : Nat} {h : Heap} : runD Tryz.prog (iFieldAt 116 (.pointer (some ⟨b, o, none⟩)) 3) h = some (.pointer (some ⟨b, o + 9, none⟩)) := by kernel_rfl
theorem fa_116_4 {b o : Nat} {h : Heap} : runD Tryz.prog (iFieldAt 116 (.pointer (some ⟨b, o, none⟩)) 4) h = some (.pointer (some ⟨b, o + 10, none⟩)) := by kernel_rfl
theorem fa_116_5 {b o : Nat} {h : Heap} : runD Tryz.prog (iFieldAt 116 (.pointer (some ⟨b, o, none⟩)) 5) h = some (.pointer (some ⟨b, o + 14, none⟩)) := by kernel_rfl
theorem fa_116_6 {b o : Nat} {h : Heap} : runD Tryz.prog (iFieldAt 116 (.pointer (some ⟨b, o, none⟩)) 6) h = some (.pointer (some ⟨b, o + 15, none⟩)) := by kernel_rfl
theorem fa_116_7 {b o : Nat} {h : Heap} : runD Tryz.prog (iFieldAt 116 (.pointer (some ⟨b, o, none⟩)) 7) h = some (.pointer (some ⟨b, o + 16, none⟩)) := by kernel_rfl
theorem fa_120_0 {b o : Nat} {h : Heap} : runD Tryz.prog (iFieldAt 120 (.pointer (some ⟨b, o, none⟩)) 0) h = some (.pointer (some ⟨b, o + 0, none⟩)) := by kernel_rfl
theorem fa_120_1 {b o : Nat} {h : Heap} : runD Tryz.prog (iFieldAt 120 (.pointer (some ⟨b, o, none⟩)) 1) h = some (.pointer (some ⟨b, o + 1, none⟩)) := by kernel_rfl
theorem fa_129_0 {b o : Nat} {h : Heap} : runD Tryz.prog (iFieldAt 129 (.pointer (some ⟨b, o, none⟩)) 0) h = some (.pointer (some ⟨b, o + 0, none⟩)) := by kernel_rfl
theorem fa_131_0 {b o : Nat} {h : Heap} : runD Tryz.prog (iFieldAt 131 (.pointer (some ⟨b, o, none⟩)) 0) h = some (.pointer (some ⟨b, o + 0, none⟩)) := by kernel_rfl
theorem fa_143_0 {b o : Nat} {h : Heap} : runD Tryz.prog (iFieldAt 143 (.pointer (some ⟨b, o, none⟩)) 0) h = some (.pointer (some ⟨b, o + 0, none⟩)) := by kernel_rfl
theorem fa_143_1 {b o : Nat} {h : Heap} : runD Tryz.prog (iFieldAt 143 (.pointer (some ⟨b, o, none⟩)) 1) h = some (.pointer (some ⟨b, o + 1, none⟩)) := by kernel_rfl
theorem fa_148_1 {b o : Nat} {h : Heap} : runD Tryz.prog (iFieldAt 148 (.pointer (some ⟨b, o, none⟩)) 1) h = some (.pointer (some ⟨b, o + 1, none⟩)) := by kernel_rfl
theorem fa_148_2 {b o : Nat} {h : Heap} : runD Tryz.prog (iFieldAt 148 (.pointer (some ⟨b, o, none⟩)) 2) h = some (.pointer (some ⟨b, o + 2, none⟩)) := by kernel_rfl
theorem fa_148_3 {b o : Nat} {h : Heap} : runD Tryz.prog (iFieldAt 148 (.pointer (some ⟨b, o, none⟩)) 3) h = some (.pointer (some ⟨b, o + 66, none⟩)) := by kernel_rfl
theorem fa_148_4 {b o : Nat} {h : Heap} : runD Tryz.prog (iFieldAt 148 (.pointer (some ⟨b, o, none⟩)) 4) h = some (.pointer (some ⟨b, o + 67, none⟩)) := by kernel_rfl
theorem fa_148_5 {b o : Nat} {h : Heap} : runD Tryz.prog (iFieldAt 148 (.pointer (some ⟨b, o, none⟩)) 5) h = some (.pointer (some ⟨b, o + 68, none⟩)) := by kernel_rfl
theorem fa_148_6 {b o : Nat} {h : Heap} : runD Tryz.prog (iFieldAt 148 (.pointer (some ⟨b, o, none⟩)) 6) h = some (.pointer (some ⟨b, o + 69, none⟩)) := by kernel_rfl
theorem fa_148_7 {b o : Nat} {h : Heap} : runD Tryz.prog (iFieldAt 148 (.pointer (some ⟨b, o, none⟩)) 7) h = some (.pointer (some ⟨b, o + 70, none⟩)) := by kernel_rfl
theorem fa_150_0 {b o : Nat} {h : Heap} : runD Tryz.prog (iFieldAt 150 (.pointer (some ⟨b, o, none⟩)) 0) h = some (.pointer (some ⟨b, o + 0, none⟩)) := by kernel_rfl
theorem fa_150_1 {b o : Nat} {h : Heap} : runD Tryz.prog (iFieldAt 150 (.pointer (some ⟨b, o, none⟩)) 1) h = some (.pointer (some ⟨b, o + 1, none⟩)) := by kernel_rfl
theorem fa_150_2 {b o : Nat} {h : Heap} : runD Tryz.prog (iFieldAt 150 (.pointer (some ⟨b, o, none⟩)) 2) h = some (.pointer (some ⟨b, o + 2, none⟩)) := by kernel_rfl
theorem fa_150_3 {b o : Nat} {h : Heap} : runD Tryz.prog (iFieldAt 150 (.pointer (some ⟨b, o, none⟩)) 3) h = some (.pointer (some ⟨b, o + 3, none⟩)) := by kernel_rfl
theorem fa_150_4 {b o : Nat} {h : Heap} : runD Tryz.prog (iFieldAt 150 (.pointer (some ⟨b, o, none⟩)) 4) h = some (.pointer (some ⟨b, o + 4, none⟩)) := by kernel_rfl
theorem fa_150_5 {b o : Nat} {h : Heap} : runD Tryz.prog (iFieldAt 150 (.pointer (some ⟨b, o, none⟩)) 5) h = some (.pointer (some ⟨b, o + 5, none⟩)) := by kernel_rfl
theorem fa_150_6 {b o : Nat} {h : Heap} : runD Tryz.prog (iFieldAt 150 (.pointer (some ⟨b, o, none⟩)) 6) h = some (.pointer (some ⟨b, o + 6, none⟩)) := by kernel_rfl
theorem fa_153_0 {b o : Nat} {h : Heap} : runD Tryz.prog (iFieldAt 153 (.pointer (some ⟨b, o, none⟩)) 0) h = some (.pointer (some ⟨b, o + 0, none⟩)) := by kernel_rfl
theorem fa_153_2 {b o : Nat} {h : Heap} : runD Tryz.prog (iFieldAt 153 (.pointer (some ⟨b, o, none⟩)) 2) h = some (.pointer (some ⟨b, o + 449, none⟩)) := by kernel_rfl
theorem fa_153_3 {b o : Nat} {h : Heap} : runD Tryz.prog (iFieldAt 153 (.pointer (some ⟨b, o, none⟩)) 3) h = some (.pointer (some ⟨b, o + 450, none⟩)) := by kernel_rfl
theorem fa_153_4 {b o : Nat} {h : Heap} : runD Tryz.prog (iFieldAt 153 (.pointer (some ⟨b, o, none⟩)) 4) h = some (.pointer (some ⟨b, o + 451, none⟩)) := by kernel_rfl
theorem fa_153_5 {b o : Nat} {h : Heap} : runD Tryz.prog (iFieldAt 153 (.pointer (some ⟨b, o, none⟩)) 5) h = some (.pointer (some ⟨b, o + 452, none⟩)) := by kernel_rfl
theorem fa_156_0 {b o : Nat} {h : Heap} : runD Tryz.prog (iFieldAt 156 (.pointer (some ⟨b, o, none⟩)) 0) h = some (.pointer (some ⟨b, o + 0, none⟩)) := by kernel_rfl
theorem fa_156_1 {b o : Nat} {h : Heap} : runD Tryz.prog (iFieldAt 156 (.pointer (some ⟨b, o, none⟩)) 1) h = some (.pointer (some ⟨b, o + 40, none⟩)) := by kernel_rfl
theorem fa_156_2 {b o : Nat} {h : Heap} : runD Tryz.prog (iFieldAt 156 (.pointer (some ⟨b, o, none⟩)) 2) h = some (.pointer (some ⟨b, o + 41, none⟩)) := by kernel_rfl
theorem fa_163_0 {b o : Nat} {h : Heap} : runD Tryz.prog (iFieldAt 163 (.pointer (some ⟨b, o, none⟩)) 0) h = some (.pointer (some ⟨b, o + 0, none⟩)) := by kernel_rfl
theorem fa_163_1 {b o : Nat} {h : Heap} : runD Tryz.prog (iFieldAt 163 (.pointer (some ⟨b, o, none⟩)) 1) h = some (.pointer (some ⟨b, o + 1, none⟩)) := by kernel_rfl
theorem fa_163_4 {b o : Nat} {h : Heap} : runD Tryz.prog (iFieldAt 163 (.pointer (some ⟨b, o, none⟩)) 4) h = some (.pointer (some ⟨b, o + 4, none⟩)) := by kernel_rfl
theorem fa_167_0 {b o : Nat} {h : Heap} : runD Tryz.prog (iFieldAt 167 (.pointer (some ⟨b, o, none⟩)) 0) h = some (.pointer (some ⟨b, o + 0, none⟩)) := by kernel_rfl
theorem fa_237_0 {b o : Nat} {h : Heap} : runD Tryz.prog (iFieldAt 237 (.pointer (some ⟨b, o, none⟩)) 0) h = some (.pointer (some ⟨b, o + 0, none⟩)) := by kernel_rfl
theorem fa_237_1 {b o : Nat} {h : Heap} : runD Tryz.prog (iFieldAt 237 (.pointer (some ⟨b, o, none⟩)) 1) h = some (.pointer (some ⟨b, o + 1, none⟩)) := by kernel_rfl
theorem bd_25_0_1_2_3_4 (x0 : Option Addr) (x0l x0c : Nat) (x1 : Option Addr) (x1l x1c : Nat) (x2 : Bool) (x3 : Int) (x4 : Int) {h : Heap} : runD Tryz.prog (iBuild 25 #[(0, .slice x0 x0l x0c), (1, .slice x1 x1l x1c), (2, .bool x2), (3, .int .i64 x3), (4, .int .i64 x4)]) h = some (.agg #[.slice x0 x0l x0c, .slice x1 x1l x1c, .bool x2, .int .i64 x3, .int .i64 x4]) := by kernel_rfl
theorem bd_30_  {h : Heap} : runD Tryz.prog (iBuild 30 #[]) h = some (.agg #[.int .u32 0, .int .u32 0, .int .u32 0, .int .u32 0, .int .u32 0, .int .u32 0, .int .u32 0, .int .u32 0, .int .u32 0, .int .u32 0, .int .u32 0, .int .u32 0, .int .u32 0, .int .u32 0, .int .u32 0, .int .u32 0, .int .i64 0, .int .u32 0, .int .u32 0, .int .u32 0, .int .u32 0, .int .u32 0, .int .u32 0, .int .u32 0, .int .u32 0]) := by kernel_rfl
theorem bd_36_0_1 (x0 : Option Addr) (x1 : Option Addr) {h : Heap} : runD Tryz.prog (iBuild 36 #[(0, .pointer x0), (1, .pointer x1)]) h = some (.agg #[.pointer x0, .pointer x1, .pointer none]) := by kernel_rfl
theorem bd_41_0_1 (x0 : Option Addr) (x1 : Option Addr) {h : Heap} : runD Tryz.prog (iBuild 41 #[(0, .pointer x0), (1, .pointer x1)]) h = some (.agg #[.pointer x0, .pointer x1, .pointer none]) := by kernel_rfl
theorem bd_43_  {h : Heap} : runD Tryz.prog (iBuild 43 #[]) h = some (.agg #[.pointer none, .pointer none, .pointer none, .pointer none, .pointer none, .pointer none]) := by kernel_rfl
theorem bd_43_0_1 (x0 : Option Addr) (x1 : Option Addr) (x2 : Option Addr) (x3 : Option Addr) (x4 : Option Addr) (x5 : Option Addr) {h : Heap} : runD Tryz.prog (iBuild 43 #[(0, .agg #[.pointer x0, .pointer x1, .pointer x2]), (1, .agg #[.pointer x3, .pointer x4, .pointer x5])]) h = some (.agg #[.pointer x0, .pointer x1, .pointer x2, .pointer x3, .pointer x4, .pointer x5]) := by kernel_rfl
theorem bd_47_  {h : Heap} : runD Tryz.prog (iBuild 47 #[]) h = some (.agg #[.int .i64 0, .int .i64 0, .int .i64 0, .bool false, .int .i64 0]) := by kernel_rfl
theorem bd_47_0 (x0 : Int) {h : Heap} : runD Tryz.prog (iBuild 47 #[(0, .int .i64 x0)]) h = some (.agg #[.int .i64 x0, .int .i64 0, .int .i64 0, .bool false, .int .i64 0]) := by kernel_rfl
theorem bd_47_0_1_2_4 (x0 : Int) (x1 : Int) (x2 : Int) (x3 : Int) {h : Heap} : runD Tryz.prog (iBuild 47 #[(0, .int .i64 x0), (1, .int .i64 x1), (2, .int .i64 x2), (4, .int .i64 x3)]) h = some (.agg #[.int .i64 x0, .int .i64 x1, .int .i64 x2, .bool false, .int .i64 x3]) := by kernel_rfl
theorem bd_51_  {h : Heap} : runD Tryz.prog (iBuild 51 #[]) h = some (.agg #[.bool false, .bool false, .int .i64 0, .int .i64 0]) := by kernel_rfl
theorem bd_51_0_1_2_3 (x0 : Bool) (x1 : Bool) (x2 : Int) (x3 : Int) {h : Heap} : runD Tryz.prog (iBuild 51 #[(0, .bool x0), (1, .bool x1), (2, .int .i64 x2), (3, .int .i64 x3)]) h = some (.agg #[.bool x0, .bool x1, .int .i64 x2, .int .i64 x3]) := by kernel_rfl
theorem bd_51_0_3 (x0 : Bool) (x1 : Int) {h : Heap} : runD Tryz.prog (iBuild 51 #[(0, .bool x0), (3, .int .i64 x1)]) h = some (.agg #[.bool x0, .bool false, .int .i64 0, .int .i64 x1]) := by kernel_rfl
theorem bd_56_  {h : Heap} : runD Tryz.prog (iBuild 56 #[]) h = some (.agg #[.int .i64 0, .int .i64 0, .int .i64 0, .int .i64 0, .int .i64 0, .int .i64 0, .bool false, .int .i64 0]) := by kernel_rfl
theorem bd_56_0_1 (x0 : Int) (x1 : Int) {h : Heap} : runD Tryz.prog (iBuild 56 #[(0, .int .i64 x0), (1, .int .i64 x1)]) h = some (.agg #[.int .i64 x0, .int .i64 x1, .int .i64 0, .int .i64 0, .int .i64 0, .int .i64 0, .bool false, .int .i64 0]) := by kernel_rfl
theorem bd_56_0_1_2 (x0 : Int) (x1 : Int) (x2 : Int) {h : Heap} : runD Tryz.prog (iBuild 56 #[(0, .int .i64 x0), (1, .int .i64 x1), (2, .int .i64 x2)]) h = some (.agg #[.int .i64 x0, .int .i64 x1, .int .i64 x2, .int .i64 0, .int .i64 0, .int .i64 0, .bool false, .int .i64 0]) := by kernel_rfl
theorem bd_56_0_2 (x0 : Int) (x1 : Int) {h : Heap} : runD Tryz.prog (iBuild 56 #[(0, .int .i64 x0), (2, .int .i64 x1)]) h = some (.agg #[.int .i64 x0, .int .i64 0, .int .i64 x1, .int .i64 0, .int .i64 0, .int .i64 0, .bool false, .int .i64 0]) := by kernel_rfl
theorem bd_56_0_2_3 (x0 : Int) (x1 : Int) (x2 : Int) (x3 : Int) (x4 : Int) (x5 : Bool) (x6 : Int) {h : Heap} : runD Tryz.prog (iBuild 56 #[(0, .int .i64 x0), (2, .int .i64 x1), (3, .agg #[.int .i64 x2, .int .i64 x3, .int .i64 x4, .bool x5, .int .i64 x6])]) h = some (.agg #[.int .i64 x0, .int .i64 0, .int .i64 x1, .int .i64 x2, .int .i64 x3, .int .i64 x4, .bool x5, .int .i64 x6]) := by kernel_rfl
theorem bd_78_0_2_3 (x0 : Int) (x1 : Int) (x2 : Int) {h : Heap} : runD Tryz.prog (iBuild 78 #[(0, .int .i64 x0), (2, .int .i64 x1), (3, .int .i64 x2)]) h = some (.agg #[.int .i64 x0, .int .i64 0, .int .i64 x1, .int .i64 x2]) := by kernel_rfl
theorem bd_84_  {h : Heap} : runD Tryz.prog (iBuild 84 #[]) h = some (.agg #[.int .i64 0, .int .i64 0, .int .i64 0, .int .i64 0, .int .i64 0]) := by kernel_rfl
theorem bd_84_0_1_2 (x0 : Int) (x1 : Int) (x2 : Int) {h : Heap} : runD Tryz.prog (iBuild 84 #[(0, .int .i64 x0), (1, .int .i64 x1), (2, .int .i64 x2)]) h = some (.agg #[.int .i64 x0, .int .i64 x1, .int .i64 x2, .int .i64 0, .int .i64 0]) := by kernel_rfl
theorem bd_84_0_1_4 (x0 : Int) (x1 : Int) (x2 : Int) {h : Heap} : runD Tryz.prog (iBuild 84 #[(0, .int .i64 x0), (1, .int .i64 x1), (4, .int .i64 x2)]) h = some (.agg #[.int .i64 x0, .int .i64 x1, .int .i64 0, .int .i64 0, .int .i64 x2]) := by kernel_rfl
theorem bd_84_0_4 (x0 : Int) (x1 : Int) {h : Heap} : runD Tryz.prog (iBuild 84 #[(0, .int .i64 x0), (4, .int .i64 x1)]) h = some (.agg #[.int .i64 x0, .int .i64 0, .int .i64 0, .int .i64 0, .int .i64 x1]) := by kernel_rfl
theorem bd_92_0_1_2 (x0 : Int) (x1 : Int) (x2 : Bool) (x3 : Bool) (x4 : Int) (x5 : Int) {h : Heap} : runD Tryz.prog (iBuild 92 #[(0, .int .i64 x0), (1, .int .i64 x1), (2, .agg #[.bool x2, .bool x3, .int .i64 x4, .int .i64 x5])]) h = some (.agg #[.int .i64 x0, .int .i64 x1, .bool x2, .bool x3, .int .i64 x4, .int .i64 x5]) := by kernel_rfl
theorem bd_96_0_1 (x0 : Int) (x1 : Int) {h : Heap} : runD Tryz.prog (iBuild 96 #[(0, .int .i64 x0), (1, .int .u32 x1)]) h = some (.agg #[.int .i64 x0, .int .u32 x1]) := by kernel_rfl
theorem bd_98_  {h : Heap} : runD Tryz.prog (iBuild 98 #[]) h = some (.agg #[.int .i64 0, .int .i64 0, .int .i64 0, .int .i64 0, .int .i64 0]) := by kernel_rfl
theorem bd_98_0_1_2_3_4 (x0 : Int) (x1 : Int) (x2 : Int) (x3 : Int) (x4 : Int) {h : Heap} : runD Tryz.prog (iBuild 98 #[(0, .int .i64 x0), (1, .int .i64 x1), (2, .int .i64 x2), (3, .int .i64 x3), (4, .int .i64 x4)]) h = some (.agg #[.int .i64 x0, .int .i64 x1, .int .i64 x2, .int .i64 x3, .int .i64 x4]) := by kernel_rfl
theorem bd_101_  {h : Heap} : runD Tryz.prog (iBuild 101 #[]) h = some (.agg #[.int .i64 0, .int .i64 0, .int .i64 0, .int .i64 0, .int .i64 0, .int .i64 0, .int .i64 0, .int .i64 0, .int .i64 0, .int .i64 0, .int .i64 0, .int .i64 0, .int .i64 0, .int .i64 0, .int .i64 0, .int .i64 0, .int .i64 0, .int .i64 0, .int .i64 0, .int .i64 0, .int .i64 0, .int .i64 0, .int .i64 0, .int .i64 0, .int .i64 0, .int .i64 0, .int .i64 0, .int .i64 0, .int .i64 0, .int .i64 0, .int .i64 0, .int .i64 0, .int .i64 0, .int .i64 0, .int .i64 0, .int .i64 0, .int .i64 0, .int .i64 0, .int .i64 0, .int .i64 0, .int .i64 0, .int .i64 0]) := by kernel_rfl
theorem bd_116_0_1_4_5 (x0 : Option Addr) (x1 : Option Addr) (x2 : Option Addr) (x3 : Option Addr) (x4 : Int) (x5 : Int) (x6 : Int) (x7 : Int) (x8 : Int) {h : Heap} : runD Tryz.prog (iBuild 116 #[(0, .agg #[.pointer x0, .pointer x1, .pointer x2]), (1, .pointer x3), (4, .agg #[.int .i64 x4, .int .i64 x5, .int .i64 x6, .int .i64 x7]), (5, .int .i64 x8)]) h = some (.agg #[.pointer x0, .pointer x1, .pointer x2, .pointer x3, .int .i64 0, .int .i64 0, .int .i64 0, .int .i64 0, .int .i64 0, .int .u32 0, .int .i64 x4, .int .i64 x5, .int .i64 x6, .int .i64 x7, .int .i64 x8, .int .i64 0, .bool false]) := by kernel_rfl
theorem bd_129_0 (x0 : Option Addr) (x0l x0c : Nat) {h : Heap} : runD Tryz.prog (iBuild 129 #[(0, .slice x0 x0l x0c)]) h = some (.agg #[.slice x0 x0l x0c]) := by kernel_rfl
theorem bd_131_0 (x0 : Option Addr) {h : Heap} : runD Tryz.prog (iBuild 131 #[(0, .pointer x0)]) h = some (.agg #[.pointer x0]) := by kernel_rfl
theorem bd_143_0_1 (x0 : Int) (x1 : Bool) {h : Heap} : runD Tryz.prog (iBuild 143 #[(0, .int .i64 x0), (1, .bool x1)]) h = some (.agg #[.int .i64 x0, .bool x1]) := by kernel_rfl
theorem bd_156_  {h : Heap} : runD Tryz.prog (iBuild 156 #[]) h = some (.agg #[.int .i64 0, .int .i64 0, .int .i64 0, .int .i64 0, .int .i64 0, .int .i64 0, .int .i64 0, .int .i64 0, .int .i64 0, .int .i64 0, .int .i64 0, .int .i64 0, .int .i64 0, .int .i64 0, .int .i64 0, .int .i64 0, .int .i64 0, .int .i64 0, .int .i64 0, .int .i64 0, .int .i64 0, .int .i64 0, .int .i64 0, .int .i64 0, .int .i64 0, .int .i64 0, .int .i64 0, .int .i64 0, .int .i64 0, .int .i64 0, .int .i64 0, .int .i64 0, .int .i64 0, .int .i64 0, .int .i64 0, .int .i64 0, .int .i64 0, .int .i64 0, .int .i64 0, .int .i64 0, .int .i64 0, .int .i64 0]) := by kernel_rfl
theorem bd_163_0_1_2_3 (x0 : Int) (x1 : Int) (x2 : Bool) (x3 : Bool) {h : Heap} : runD Tryz.prog (iBuild 163 #[(0, .int .i64 x0), (1, .int .i64 x1), (2, .bool x2), (3, .bool x3)]) h = some (.agg #[.int .i64 x0, .int .i64 x1, .bool x2, .bool x3, .bool false]) := by kernel_rfl
theorem bd_163_0_1_2_3_4 (x0 : Int) (x1 : Int) (x2 : Bool) (x3 : Bool) (x4 : Bool) {h : Heap} : runD Tryz.prog (iBuild 163 #[(0, .int .i64 x0), (1, .int .i64 x1), (2, .bool x2), (3, .bool x3), (4, .bool x4)]) h = some (.agg #[.int .i64 x0, .int .i64 x1, .bool x2, .bool x3, .bool x4]) := by kernel_rfl
theorem bd_167_0 (x0 : Option Addr) (x0l x0c : Nat) {h : Heap} : runD Tryz.prog (iBuild 167 #[(0, .slice x0 x0l x0c)]) h = some (.agg #[.slice x0 x0l x0c]) := by kernel_rfl
theorem bd_237_0_1 (x0 : Int) (x1 : Int) {h : Heap} : runD Tryz.prog (iBuild 237 #[(0, .int .u8 x0), (1, .int .u8 x1)]) h = some (.agg #[.int .u8 x0, .int .u8 x1]) := by kernel_rfl
theorem flatOk_30 : flatOk Tryz.prog 30 [.int .u32, .int .u32, .int .u32, .int .u32, .int .u32, .int .u32, .int .u32, .int .u32, .int .u32, .int .u32, .int .u32, .int .u32, .int .u32, .int .u32, .int .u32, .int .u32, .int .i64, .int .u32, .int .u32, .int .u32, .int .u32, .int .u32, .int .u32, .int .u32, .int .u32] = true := by kernel_rfl
theorem eqls_30 {h : Heap} {x y : Operand} {xs ys : List Value} (h1 : fitL [.int .u32, .int .u32, .int .u32, .int .u32, .int .u32, .int .u32, .int .u32, .int .u32, .int .u32, .int .u32, .int .u32, .int .u32, .int .u32, .int .u32, .int .u32, .int .u32, .int .i64, .int .u32, .int .u32, .int .u32, .int .u32, .int .u32, .int .u32, .int .u32, .int .u32] xs) (h2 : fitL [.int .u32, .int .u32, .int .u32, .int .u32, .int .u32, .int .u32, .int .u32, .int .u32, .int .u32, .int .u32, .int .u32, .int .u32, .int .u32, .int .u32, .int .u32, .int .u32, .int .i64, .int .u32, .int .u32, .int .u32, .int .u32, .int .u32, .int .u32, .int .u32, .int .u32] ys) : binD Tryz.prog h .eql 30 x y (.agg xs.toArray) (.agg ys.toArray) = some (.bool (eqL xs ys)) := binD_eql_flat flatOk_30 h1 h2
theorem neqs_30 {h : Heap} {x y : Operand} {xs ys : List Value} (h1 : fitL [.int .u32, .int .u32, .int .u32, .int .u32, .int .u32, .int .u32, .int .u32, .int .u32, .int .u32, .int .u32, .int .u32, .int .u32, .int .u32, .int .u32, .int .u32, .int .u32, .int .i64, .int .u32, .int .u32, .int .u32, .int .u32, .int .u32, .int .u32, .int .u32, .int .u32] xs) (h2 : fitL [.int .u32, .int .u32, .int .u32, .int .u32, .int .u32, .int .u32, .int .u32, .int .u32, .int .u32, .int .u32, .int .u32, .int .u32, .int .u32, .int .u32, .int .u32, .int .u32, .int .i64, .int .u32, .int .u32, .int .u32, .int .u32, .int .u32, .int .u32, .int .u32, .int .u32] ys) : binD Tryz.prog h .neq 30 x y (.agg xs.toArray) (.agg ys.toArray) = some (.bool (!eqL xs ys)) := binD_neq_flat flatOk_30 h1 h2
theorem flatOk_51 : flatOk Tryz.prog 51 [.bool, .bool, .int .i64, .int .i64] = true := by kernel_rfl
theorem eqls_51 {h : Heap} {x y : Operand} {xs ys : List Value} (h1 : fitL [.bool, .bool, .int .i64, .int .i64] xs) (h2 : fitL [.bool, .bool, .int .i64, .int .i64] ys) : binD Tryz.prog h .eql 51 x y (.agg xs.toArray) (.agg ys.toArray) = some (.bool (eqL xs ys)) := binD_eql_flat flatOk_51 h1 h2
theorem neqs_51 {h : Heap} {x y : Operand} {xs ys : List Value} (h1 : fitL [.bool, .bool, .int .i64, .int .i64] xs) (h2 : fitL [.bool, .bool, .int .i64, .int .i64] ys) : binD Tryz.prog h .neq 51 x y (.agg xs.toArray) (.agg ys.toArray) = some (.bool (!eqL xs ys)) := binD_neq_flat flatOk_51 h1 h2
theorem flatOk_56 : flatOk Tryz.prog 56 [.int .i64, .int .i64, .int .i64, .int .i64, .int .i64, .int .i64, .bool, .int .i64] = true := by kernel_rfl
theorem eqls_56 {h : Heap} {x y : Operand} {xs ys : List Value} (h1 : fitL [.int .i64, .int .i64, .int .i64, .int .i64, .int .i64, .int .i64, .bool, .int .i64] xs) (h2 : fitL [.int .i64, .int .i64, .int .i64, .int .i64, .int .i64, .int .i64, .bool, .int .i64] ys) : binD Tryz.prog h .eql 56 x y (.agg xs.toArray) (.agg ys.toArray) = some (.bool (eqL xs ys)) := binD_eql_flat flatOk_56 h1 h2
theorem neqs_56 {h : Heap} {x y : Operand} {xs ys : List Value} (h1 : fitL [.int .i64, .int .i64, .int .i64, .int .i64, .int .i64, .int .i64, .bool, .int .i64] xs) (h2 : fitL [.int .i64, .int .i64, .int .i64, .int .i64, .int .i64, .int .i64, .bool, .int .i64] ys) : binD Tryz.prog h .neq 56 x y (.agg xs.toArray) (.agg ys.toArray) = some (.bool (!eqL xs ys)) := binD_neq_flat flatOk_56 h1 h2
theorem flatOk_78 : flatOk Tryz.prog 78 [.int .i64, .int .i64, .int .i64, .int .i64] = true := by kernel_rfl
theorem eqls_78 {h : Heap} {x y : Operand} {xs ys : List Value} (h1 : fitL [.int .i64, .int .i64, .int .i64, .int .i64] xs) (h2 : fitL [.int .i64, .int .i64, .int .i64, .int .i64] ys) : binD Tryz.prog h .eql 78 x y (.agg xs.toArray) (.agg ys.toArray) = some (.bool (eqL xs ys)) := binD_eql_flat flatOk_78 h1 h2
theorem neqs_78 {h : Heap} {x y : Operand} {xs ys : List Value} (h1 : fitL [.int .i64, .int .i64, .int .i64, .int .i64] xs) (h2 : fitL [.int .i64, .int .i64, .int .i64, .int .i64] ys) : binD Tryz.prog h .neq 78 x y (.agg xs.toArray) (.agg ys.toArray) = some (.bool (!eqL xs ys)) := binD_neq_flat flatOk_78 h1 h2
theorem flatOk_84 : flatOk Tryz.prog 84 [.int .i64, .int .i64, .int .i64, .int .i64, .int .i64] = true := by kernel_rfl
theorem eqls_84 {h : Heap} {x y : Operand} {xs ys : List Value} (h1 : fitL [.int .i64, .int .i64, .int .i64, .int .i64, .int .i64] xs) (h2 : fitL [.int .i64, .int .i64, .int .i64, .int .i64, .int .i64] ys) : binD Tryz.prog h .eql 84 x y (.agg xs.toArray) (.agg ys.toArray) = some (.bool (eqL xs ys)) := binD_eql_flat flatOk_84 h1 h2
theorem neqs_84 {h : Heap} {x y : Operand} {xs ys : List Value} (h1 : fitL [.int .i64, .int .i64, .int .i64, .int .i64, .int .i64] xs) (h2 : fitL [.int .i64, .int .i64, .int .i64, .int .i64, .int .i64] ys) : binD Tryz.prog h .neq 84 x y (.agg xs.toArray) (.agg ys.toArray) = some (.bool (!eqL xs ys)) := binD_neq_flat flatOk_84 h1 h2
theorem flatOk_98 : flatOk Tryz.prog 98 [.int .i64, .int .i64, .int .i64, .int .i64, .int .i64] = true := by kernel_rfl
theorem eqls_98 {h : Heap} {x y : Operand} {xs ys : List Value} (h1 : fitL [.int .i64, .int .i64, .int .i64, .int .i64, .int .i64] xs) (h2 : fitL [.int .i64, .int .i64, .int .i64, .int .i64, .int .i64] ys) : binD Tryz.prog h .eql 98 x y (.agg xs.toArray) (.agg ys.toArray) = some (.bool (eqL xs ys)) := binD_eql_flat flatOk_98 h1 h2
theorem neqs_98 {h : Heap} {x y : Operand} {xs ys : List Value} (h1 : fitL [.int .i64, .int .i64, .int .i64, .int .i64, .int .i64] xs) (h2 : fitL [.int .i64, .int .i64, .int .i64, .int .i64, .int .i64] ys) : binD Tryz.prog h .neq 98 x y (.agg xs.toArray) (.agg ys.toArray) = some (.bool (!eqL xs ys)) := binD_neq_flat flatOk_98 h1 h2
theorem flatOk_163 : flatOk Tryz.prog 163 [.int .i64, .int .i64, .bool, .bool, .bool] = true := by kernel_rfl
theorem eqls_163 {h : Heap} {x y : Operand} {xs ys : List Value} (h1 : fitL [.int .i64, .int .i64, .bool, .bool, .bool] xs) (h2 : fitL [.int .i64, .int .i64, .bool, .bool, .bool] ys) : binD Tryz.prog h .eql 163 x y (.agg xs.toArray) (.agg ys.toArray) = some (.bool (eqL xs ys)) := binD_eql_flat flatOk_163 h1 h2
theorem neqs_163 {h : Heap} {x y : Operand} {xs ys : List Value} (h1 : fitL [.int .i64, .int .i64, .bool, .bool, .bool] xs) (h2 : fitL [.int .i64, .int .i64, .bool, .bool, .bool] ys) : binD Tryz.prog h .neq 163 x y (.agg xs.toArray) (.agg ys.toArray) = some (.bool (!eqL xs ys)) := binD_neq_flat flatOk_163 h1 h2
theorem okFn_7 : okFn Tryz.prog 7 = true := by kernel_rfl
theorem okFn_8 : okFn Tryz.prog 8 = true := by kernel_rfl
theorem okFn_9 : okFn Tryz.prog 9 = true := by kernel_rfl
theorem okFn_10 : okFn Tryz.prog 10 = true := by kernel_rfl
theorem okFn_11 : okFn Tryz.prog 11 = true := by kernel_rfl
theorem okFn_12 : okFn Tryz.prog 12 = true := by kernel_rfl
theorem okFn_13 : okFn Tryz.prog 13 = true := by kernel_rfl
theorem okFn_14 : okFn Tryz.prog 14 = true := by kernel_rfl
theorem okFn_15 : okFn Tryz.prog 15 = true := by kernel_rfl
theorem okFn_16 : okFn Tryz.prog 16 = true := by kernel_rfl
theorem okFn_17 : okFn Tryz.prog 17 = true := by kernel_rfl
theorem okFn_18 : okFn Tryz.prog 18 = true := by kernel_rfl
theorem okFn_19 : okFn Tryz.prog 19 = true := by kernel_rfl
theorem okFn_20 : okFn Tryz.prog 20 = true := by kernel_rfl
theorem okFn_21 : okFn Tryz.prog 21 = true := by kernel_rfl
theorem okFn_22 : okFn Tryz.prog 22 = true := by kernel_rfl
theorem okFn_23 : okFn Tryz.prog 23 = true := by kernel_rfl
theorem okFn_24 : okFn Tryz.prog 24 = true := by kernel_rfl
theorem okFn_25 : okFn Tryz.prog 25 = true := by kernel_rfl
theorem okFn_26 : okFn Tryz.prog 26 = true := by kernel_rfl
theorem okFn_27 : okFn Tryz.prog 27 = true := by kernel_rfl
theorem okFn_28 : okFn Tryz.prog 28 = true := by kernel_rfl
theorem okFn_29 : okFn Tryz.prog 29 = true := by kernel_rfl
theorem okFn_30 : okFn Tryz.prog 30 = true := by kernel_rfl
theorem okFn_31 : okFn Tryz.prog 31 = true := by kernel_rfl
theorem okFn_32 : okFn Tryz.prog 32 = true := by kernel_rfl
theorem okFn_33 : okFn Tryz.prog 33 = true := by kernel_rfl
theorem okFn_34 : okFn Tryz.prog 34 = true := by kernel_rfl
theorem okFn_35 : okFn Tryz.prog 35 = true := by kernel_rfl
theorem okFn_36 : okFn Tryz.prog 36 = true := by kernel_rfl
theorem okFn_37 : okFn Tryz.prog 37 = true := by kernel_rfl
theorem okFn_38 : okFn Tryz.prog 38 = true := by kernel_rfl
theorem okFn_39 : okFn Tryz.prog 39 = true := by kernel_rfl
theorem okFn_40 : okFn Tryz.prog 40 = true := by kernel_rfl
theorem okFn_41 : okFn Tryz.prog 41 = true := by kernel_rfl
theorem okFn_42 : okFn Tryz.prog 42 = true := by kernel_rfl
theorem okFn_43 : okFn Tryz.prog 43 = true := by kernel_rfl
theorem okFn_45 : okFn Tryz.prog 45 = true := by kernel_rfl
theorem okFn_46 : okFn Tryz.prog 46 = true := by kernel_rfl
theorem okFn_47 : okFn Tryz.prog 47 = true := by kernel_rfl
theorem okFn_48 : okFn Tryz.prog 48 = true := by kernel_rfl
theorem okFn_49 : okFn Tryz.prog 49 = true := by kernel_rfl
theorem okFn_50 : okFn Tryz.prog 50 = true := by kernel_rfl
theorem okFn_51 : okFn Tryz.prog 51 = true := by kernel_rfl
theorem okFn_52 : okFn Tryz.prog 52 = true := by kernel_rfl
theorem okFn_53 : okFn Tryz.prog 53 = true := by kernel_rfl
theorem okFn_54 : okFn Tryz.prog 54 = true := by kernel_rfl
theorem okFn_55 : okFn Tryz.prog 55 = true := by kernel_rfl
theorem okFn_56 : okFn Tryz.prog 56 = true := by kernel_rfl
theorem okFn_57 : okFn Tryz.prog 57 = true := by kernel_rfl
theorem okFn_58 : okFn Tryz.prog 58 = true := by kernel_rfl
theorem okFn_59 : okFn Tryz.prog 59 = true := by kernel_rfl
theorem okFn_60 : okFn Tryz.prog 60 = true := by kernel_rfl
theorem okFn_61 : okFn Tryz.prog 61 = true := by kernel_rfl
theorem okFn_62 : okFn Tryz.prog 62 = true := by kernel_rfl
theorem okFn_63 : okFn Tryz.prog 63 = true := by kernel_rfl
theorem okFn_64 : okFn Tryz.prog 64 = true := by kernel_rfl
theorem okFn_65 : okFn Tryz.prog 65 = true := by kernel_rfl
theorem okFn_66 : okFn Tryz.prog 66 = true := by kernel_rfl
theorem okFn_67 : okFn Tryz.prog 67 = true := by kernel_rfl
theorem okFn_68 : okFn Tryz.prog 68 = true := by kernel_rfl
theorem okFn_69 : okFn Tryz.prog 69 = true := by kernel_rfl
theorem okFn_70 : okFn Tryz.prog 70 = true := by kernel_rfl
theorem okFn_71 : okFn Tryz.prog 71 = true := by kernel_rfl
theorem okFn_72 : okFn Tryz.prog 72 = true := by kernel_rfl
theorem okFn_73 : okFn Tryz.prog 73 = true := by kernel_rfl
theorem okFn_74 : okFn Tryz.prog 74 = true := by kernel_rfl
theorem okFn_75 : okFn Tryz.prog 75 = true := by kernel_rfl
theorem okFn_77 : okFn Tryz.prog 77 = true := by kernel_rfl
theorem okFn_83 : okFn Tryz.prog 83 = true := by kernel_rfl
theorem okFn_84 : okFn Tryz.prog 84 = true := by kernel_rfl
theorem okFn_91 : okFn Tryz.prog 91 = true := by kernel_rfl
theorem okFn_96 : okFn Tryz.prog 96 = true := by kernel_rfl
theorem okFn_99 : okFn Tryz.prog 99 = true := by kernel_rfl
theorem okFn_101 : okFn Tryz.prog 101 = true := by kernel_rfl
theorem okFn_102 : okFn Tryz.prog 102 = true := by kernel_rfl
theorem okFn_103 : okFn Tryz.prog 103 = true := by kernel_rfl
theorem okFn_104 : okFn Tryz.prog 104 = true := by kernel_rfl
theorem okFn_105 : okFn Tryz.prog 105 = true := by kernel_rfl
theorem okFn_106 : okFn Tryz.prog 106 = true := by kernel_rfl
theorem okFn_107 : okFn Tryz.prog 107 = true := by kernel_rfl
theorem okFn_108 : okFn Tryz.prog 108 = true := by kernel_rfl
theorem okFn_109 : okFn Tryz.prog 109 = true := by kernel_rfl
theorem okFn_110 : okFn Tryz.prog 110 = true := by kernel_rfl
theorem okFn_111 : okFn Tryz.prog 111 = true := by kernel_rfl
theorem okFn_112 : okFn Tryz.prog 112 = true := by kernel_rfl
theorem okFn_113 : okFn Tryz.prog 113 = true := by kernel_rfl
theorem okFn_114 : okFn Tryz.prog 114 = true := by kernel_rfl
theorem okFn_116 : okFn Tryz.prog 116 = true := by kernel_rfl
theorem okFn_117 : okFn Tryz.prog 117 = true := by kernel_rfl
theorem okFn_118 : okFn Tryz.prog 118 = true := by kernel_rfl
theorem okFn_119 : okFn Tryz.prog 119 = true := by kernel_rfl
theorem okFn_120 : okFn Tryz.prog 120 = true := by kernel_rfl
theorem okFn_121 : okFn Tryz.prog 121 = true := by kernel_rfl
theorem okFn_122 : okFn Tryz.prog 122 = true := by kernel_rfl
theorem okFn_123 : okFn Tryz.prog 123 = true := by kernel_rfl
theorem okFn_124 : okFn Tryz.prog 124 = true := by kernel_rfl
theorem okFn_125 : okFn Tryz.prog 125 = true := by kernel_rfl
theorem okFn_126 : okFn Tryz.prog 126 = true := by kernel_rfl
theorem okFn_127 : okFn Tryz.prog 127 = true := by kernel_rfl
theorem okFn_128 : okFn Tryz.prog 128 = true := by kernel_rfl
theorem okFn_129 : okFn Tryz.prog 129 = true := by kernel_rfl
theorem okFn_130 : okFn Tryz.prog 130 = true := by kernel_rfl
theorem okFn_131 : okFn Tryz.prog 131 = true := by kernel_rfl
theorem okFn_132 : okFn Tryz.prog 132 = true := by kernel_rfl
theorem okFn_133 : okFn Tryz.prog 133 = true := by kernel_rfl
theorem okFn_134 : okFn Tryz.prog 134 = true := by kernel_rfl
theorem okFn_135 : okFn Tryz.prog 135 = true := by kernel_rfl
theorem okFn_136 : okFn Tryz.prog 136 = true := by kernel_rfl
theorem okFn_137 : okFn Tryz.prog 137 = true := by kernel_rfl
theorem okFn_138 : okFn Tryz.prog 138 = true := by kernel_rfl
theorem okFn_139 : okFn Tryz.prog 139 = true := by kernel_rfl
theorem okFn_140 : okFn Tryz.prog 140 = true := by kernel_rfl
theorem okFn_141 : okFn Tryz.prog 141 = true := by kernel_rfl
theorem okFn_142 : okFn Tryz.prog 142 = true := by kernel_rfl
theorem okFn_143 : okFn Tryz.prog 143 = true := by kernel_rfl
theorem okFn_144 : okFn Tryz.prog 144 = true := by kernel_rfl
theorem okFn_145 : okFn Tryz.prog 145 = true := by kernel_rfl
theorem okFn_146 : okFn Tryz.prog 146 = true := by kernel_rfl
theorem okFn_147 : okFn Tryz.prog 147 = true := by kernel_rfl
theorem okFn_148 : okFn Tryz.prog 148 = true := by kernel_rfl
theorem okFn_149 : okFn Tryz.prog 149 = true := by kernel_rfl
theorem okFn_150 : okFn Tryz.prog 150 = true := by kernel_rfl
theorem okFn_151 : okFn Tryz.prog 151 = true := by kernel_rfl
theorem okFn_152 : okFn Tryz.prog 152 = true := by kernel_rfl
theorem okFn_153 : okFn Tryz.prog 153 = true := by kernel_rfl
theorem okFn_154 : okFn Tryz.prog 154 = true := by kernel_rfl
theorem okFn_155 : okFn Tryz.prog 155 = true := by kernel_rfl
theorem okFn_156 : okFn Tryz.prog 156 = true := by kernel_rfl
theorem okFn_157 : okFn Tryz.prog 157 = true := by kernel_rfl
theorem okFn_158 : okFn Tryz.prog 158 = true := by kernel_rfl
theorem okFn_160 : okFn Tryz.prog 160 = true := by kernel_rfl
theorem okFn_161 : okFn Tryz.prog 161 = true := by kernel_rfl
theorem okFn_162 : okFn Tryz.prog 162 = true := by kernel_rfl
theorem okFn_163 : okFn Tryz.prog 163 = true := by kernel_rfl
theorem okFn_164 : okFn Tryz.prog 164 = true := by kernel_rfl
theorem okFn_165 : okFn Tryz.prog 165 = true := by kernel_rfl
theorem okFn_166 : okFn Tryz.prog 166 = true := by kernel_rfl
theorem okFn_167 : okFn Tryz.prog 167 = true := by kernel_rfl
theorem okFn_168 : okFn Tryz.prog 168 = true := by kernel_rfl
theorem okFn_169 : okFn Tryz.prog 169 = true := by kernel_rfl
theorem okFn_170 : okFn Tryz.prog 170 = true := by kernel_rfl
theorem okFn_171 : okFn Tryz.prog 171 = true := by kernel_rfl
theorem okFn_172 : okFn Tryz.prog 172 = true := by kernel_rfl
theorem okFn_173 : okFn Tryz.prog 173 = true := by kernel_rfl
theorem okFn_175 : okFn Tryz.prog 175 = true := by kernel_rfl
theorem okFn_176 : okFn Tryz.prog 176 = true := by kernel_rfl
theorem okFn_178 : okFn Tryz.prog 178 = true := by kernel_rfl
theorem okFn_179 : okFn Tryz.prog 179 = true := by kernel_rfl
theorem okFn_180 : okFn Tryz.prog 180 = true := by kernel_rfl
theorem okFn_181 : okFn Tryz.prog 181 = true := by kernel_rfl
attribute [go_sem ↓] fa_25_0 fa_25_1 fa_25_2 fa_25_3 fa_25_4 fa_30_0 fa_30_1 fa_30_2 fa_36_0 fa_36_1 fa_36_2 fa_41_0 fa_41_1 fa_41_2 fa_43_0 fa_43_1 fa_47_0 fa_47_3 fa_51_0 fa_51_1
attribute [go_sem ↓] fa_51_2 fa_51_3 fa_56_0 fa_72_0 fa_72_1 fa_72_2 fa_72_3 fa_78_0 fa_78_1 fa_78_2 fa_78_3 fa_84_0 fa_84_1 fa_84_2 fa_84_3 fa_84_4 fa_92_0 fa_92_1 fa_92_2 fa_96_0
attribute [go_sem ↓] fa_96_1 fa_98_0 fa_98_1 fa_98_2 fa_98_3 fa_98_4 fa_101_0 fa_101_1 fa_101_2 fa_116_0 fa_116_1 fa_116_2 fa_116_3 fa_116_4 fa_116_5 fa_116_6 fa_116_7 fa_120_0 fa_120_1 fa_129_0
attribute [go_sem ↓] fa_131_0 fa_143_0 fa_143_1 fa_148_1 fa_148_2 fa_148_3 fa_148_4 fa_148_5 fa_148_6 fa_148_7 fa_150_0 fa_150_1 fa_150_2 fa_150_3 fa_150_4 fa_150_5 fa_150_6 fa_153_0 fa_153_2 fa_153_3
attribute [go_sem ↓] fa_153_4 fa_153_5 fa_156_0 fa_156_1 fa_156_2 fa_163_0 fa_163_1 fa_163_4 fa_167_0 fa_237_0 fa_237_1 bd_25_0_1_2_3_4 bd_30_ bd_36_0_1 bd_41_0_1 bd_43_ bd_43_0_1 bd_47_ bd_47_0 bd_47_0_1_2_4
attribute [go_sem ↓] bd_51_ bd_51_0_1_2_3 bd_51_0_3 bd_56_ bd_56_0_1 bd_56_0_1_2 bd_56_0_2 bd_56_0_2_3 bd_78_0_2_3 bd_84_ bd_84_0_1_2 bd_84_0_1_4 bd_84_0_4 bd_92_0_1_2 bd_96_0_1 bd_98_ bd_98_0_1_2_3_4 bd_101_ bd_116_0_1_4_5 bd_129_0
attribute [go_sem ↓] bd_131_0 bd_143_0_1 bd_156_ bd_163_0_1_2_3 bd_163_0_1_2_3_4 bd_167_0 bd_237_0_1
attribute [go_sem] tsz_0 aggB_0 tszD_0 tbytes_0 tzeroD_0 tzero_0 tsz_3 aggB_3 tszD_3 tbytes_3 isInt_3 intK_3 tzeroD_3 tzero_3 tsz_4 aggB_4 tszD_4 tbytes_4 tzeroD_4 tzero_4
attribute [go_sem] tsz_5 aggB_5 tszD_5 tbytes_5 isInt_5 intK_5 tzeroD_5 tzero_5 tsz_9 aggB_9 tszD_9 tbytes_9 isStr_9 tzeroD_9 tzero_9 tsz_21 aggB_21 tszD_21 tbytes_21 isInt_21
attribute [go_sem] intK_21 tzeroD_21 tzero_21 tsz_22 aggB_22 tszD_22 tbytes_22 isSlice_22 ssz_22 selem_22 tzeroD_22 tzero_22 tsz_23 aggB_23 tszD_23 tbytes_23 isSlice_23 ssz_23 selem_23 tzeroD_23
attribute [go_sem] tzero_23 tsz_24 aggB_24 tszD_24 tbytes_24 tzeroD_24 tzero_24 tsz_25 aggB_25 tszD_25 tbytes_25 tzeroD_25 tzero_25 tsz_26 aggB_26 tszD_26 tbytes_26 isInt_26 intK_26 tzeroD_26
attribute [go_sem] tzero_26 tsz_27 aggB_27 tszD_27 tbytes_27 isArr_27 arrLen_27 arrSz_27 tzeroD_27 tzero_27 tsz_28 aggB_28 tszD_28 tbytes_28 isArr_28 arrLen_28 arrSz_28 tzeroD_28 tzero_28 tsz_29
attribute [go_sem] aggB_29 tszD_29 tbytes_29 tzeroD_29 tzero_29 tsz_30 aggB_30 tszD_30 tbytes_30 tzeroD_30 tzero_30 tsz_32 aggB_32 tszD_32 tbytes_32 isPtr_32 tzeroD_32 tzero_32 tsz_33 aggB_33
attribute [go_sem] tszD_33 tbytes_33 isPtr_33 tzeroD_33 tzero_33 tsz_34 aggB_34 tszD_34 tbytes_34 isPtr_34 tzeroD_34 tzero_34 tsz_35 aggB_35 tszD_35 tbytes_35 tzeroD_35 tzero_35 tsz_36 aggB_36
attribute [go_sem] tszD_36 tbytes_36 tzeroD_36 tzero_36 tsz_37 aggB_37 tszD_37 tbytes_37 isPtr_37 tzeroD_37 tzero_37 tsz_38 aggB_38 tszD_38 tbytes_38 isPtr_38 tzeroD_38 tzero_38 tsz_39 aggB_39
attribute [go_sem] tszD_39 tbytes_39 isPtr_39 tzeroD_39 tzero_39 tsz_40 aggB_40 tszD_40 tbytes_40 tzeroD_40 tzero_40 tsz_41 aggB_41 tszD_41 tbytes_41 tzeroD_41 tzero_41 tsz_42 aggB_42 tszD_42
attribute [go_sem] tbytes_42 tzeroD_42 tzero_42 tsz_43 aggB_43 tszD_43 tbytes_43 tzeroD_43 tzero_43 tsz_44 aggB_44 tszD_44 tbytes_44 tzeroD_44 tzero_44 tsz_46 aggB_46 tszD_46 tbytes_46 tzeroD_46
attribute [go_sem] tzero_46 tsz_47 aggB_47 tszD_47 tbytes_47 tzeroD_47 tzero_47 tsz_48 aggB_48 tszD_48 tbytes_48 tzeroD_48 tzero_48 tsz_50 aggB_50 tszD_50 tbytes_50 tzeroD_50 tzero_50 tsz_51
attribute [go_sem] aggB_51 tszD_51 tbytes_51 tzeroD_51 tzero_51 tsz_52 aggB_52 tszD_52 tbytes_52 isInt_52 intK_52 tzeroD_52 tzero_52 tsz_53 aggB_53 tszD_53 tbytes_53 tzeroD_53 tzero_53 tsz_55
attribute [go_sem] aggB_55 tszD_55 tbytes_55 tzeroD_55 tzero_55 tsz_56 aggB_56 tszD_56 tbytes_56 tzeroD_56 tzero_56 tsz_57 aggB_57 tszD_57 tbytes_57 tzeroD_57 tzero_57 tsz_60 aggB_60 tszD_60
attribute [go_sem] tbytes_60 isSlice_60 ssz_60 selem_60 tzeroD_60 tzero_60 tsz_61 aggB_61 tszD_61 tbytes_61 tzeroD_61 tzero_61 tsz_65 aggB_65 tszD_65 tbytes_65 isArr_65 arrLen_65 arrSz_65 tzeroD_65
attribute [go_sem] tzero_65 tsz_67 aggB_67 tszD_67 tbytes_67 isArr_67 arrLen_67 arrSz_67 tzeroD_67 tzero_67 tsz_68 aggB_68 tszD_68 tbytes_68 tzeroD_68 tzero_68 tsz_70 aggB_70 tszD_70 tbytes_70
attribute [go_sem] isSlice_70 ssz_70 selem_70 tzeroD_70 tzero_70 tsz_71 aggB_71 tszD_71 tbytes_71 tzeroD_71 tzero_71 tsz_72 aggB_72 tszD_72 tbytes_72 tzeroD_72 tzero_72 tsz_77 aggB_77 tszD_77
attribute [go_sem] tbytes_77 tzeroD_77 tzero_77 tsz_78 aggB_78 tszD_78 tbytes_78 tzeroD_78 tzero_78 tsz_83 aggB_83 tszD_83 tbytes_83 tzeroD_83 tzero_83 tsz_84 aggB_84 tszD_84 tbytes_84 tzeroD_84
attribute [go_sem] tzero_84 tsz_85 aggB_85 tszD_85 tbytes_85 tzeroD_85 tzero_85 tsz_87 aggB_87 tszD_87 tbytes_87 tzeroD_87 tzero_87 tsz_91 aggB_91 tszD_91 tbytes_91 tzeroD_91 tzero_91 tsz_92
attribute [go_sem] aggB_92 tszD_92 tbytes_92 tzeroD_92 tzero_92 tsz_95 aggB_95 tszD_95 tbytes_95 tzeroD_95 tzero_95 tsz_96 aggB_96 tszD_96 tbytes_96 tzeroD_96 tzero_96 tsz_97 aggB_97 tszD_97
attribute [go_sem] tbytes_97 tzeroD_97 tzero_97 tsz_98 aggB_98 tszD_98 tbytes_98 tzeroD_98 tzero_98 tsz_99 aggB_99 tszD_99 tbytes_99 isArr_99 arrLen_99 arrSz_99 tzeroD_99 tzero_99 tsz_100 aggB_100
attribute [go_sem] tszD_100 tbytes_100 tzeroD_100 tzero_100 tsz_101 aggB_101 tszD_101 tbytes_101 tzeroD_101 tzero_101 tsz_102 aggB_102 tszD_102 tbytes_102 tzeroD_102 tzero_102 tsz_104 aggB_104 tszD_104 tbytes_104
attribute [go_sem] tzeroD_104 tzero_104 tsz_106 aggB_106 tszD_106 tbytes_106 tzeroD_106 tzero_106 tsz_109 aggB_109 tszD_109 tbytes_109 tzeroD_109 tzero_109 tsz_112 aggB_112 tszD_112 tbytes_112 isInt_112 intK_112
attribute [go_sem] tzeroD_112 tzero_112 tsz_113 aggB_113 tszD_113 tbytes_113 isPtr_113 tzeroD_113 tzero_113 tsz_114 aggB_114 tszD_114 tbytes_114 isPtr_114 tzeroD_114 tzero_114 tsz_115 aggB_115 tszD_115 tbytes_115
attribute [go_sem] tzeroD_115 tzero_115 tsz_116 aggB_116 tszD_116 tbytes_116 tzeroD_116 tzero_116 tsz_118 aggB_118 tszD_118 tbytes_118 tzeroD_118 tzero_118 tsz_119 aggB_119 tszD_119 tbytes_119 tzeroD_119 tzero_119
attribute [go_sem] tsz_120 aggB_120 tszD_120 tbytes_120 tzeroD_120 tzero_120 tsz_121 aggB_121 tszD_121 tbytes_121 isArr_121 arrLen_121 arrSz_121 tzeroD_121 tzero_121 tsz_124 aggB_124 tszD_124 tbytes_124 tzeroD_124
attribute [go_sem] tzero_124 tsz_126 aggB_126 tszD_126 tbytes_126 isArr_126 arrLen_126 arrSz_126 tzeroD_126 tzero_126 tsz_127 aggB_127 tszD_127 tbytes_127 isSlice_127 ssz_127 selem_127 tzeroD_127 tzero_127 tsz_128
attribute [go_sem] aggB_128 tszD_128 tbytes_128 tzeroD_128 tzero_128 tsz_129 aggB_129 tszD_129 tbytes_129 tzeroD_129 tzero_129 tsz_130 aggB_130 tszD_130 tbytes_130 tzeroD_130 tzero_130 tsz_131 aggB_131 tszD_131
attribute [go_sem] tbytes_131 tzeroD_131 tzero_131 tsz_133 aggB_133 tszD_133 tbytes_133 tzeroD_133 tzero_133 tsz_135 aggB_135 tszD_135 tbytes_135 tzeroD_135 tzero_135 tsz_142 aggB_142 tszD_142 tbytes_142 tzeroD_142
attribute [go_sem] tzero_142 tsz_143 aggB_143 tszD_143 tbytes_143 tzeroD_143 tzero_143 tsz_144 aggB_144 tszD_144 tbytes_144 tzeroD_144 tzero_144 tsz_145 aggB_145 tszD_145 tbytes_145 isArr_145 arrLen_145 arrSz_145
attribute [go_sem] tzeroD_145 tzero_145 tsz_146 aggB_146 tszD_146 tbytes_146 intMap_146 elemT_146 tzeroD_146 tzero_146 tsz_147 aggB_147 tszD_147 tbytes_147 tsz_148 aggB_148 tszD_148 tbytes_148 tsz_149 aggB_149
attribute [go_sem] tszD_149 tbytes_149 tzeroD_149 tzero_149 tsz_150 aggB_150 tszD_150 tbytes_150 tzeroD_150 tzero_150 tsz_151 aggB_151 tszD_151 tbytes_151 isArr_151 arrLen_151 arrSz_151 tsz_152 aggB_152 tszD_152
attribute [go_sem] tbytes_152 tsz_153 aggB_153 tszD_153 tbytes_153 tsz_155 aggB_155 tszD_155 tbytes_155 tzeroD_155 tzero_155 tsz_156 aggB_156 tszD_156 tbytes_156 tzeroD_156 tzero_156 tsz_157 aggB_157 tszD_157
attribute [go_sem] tbytes_157 isInt_157 intK_157 tzeroD_157 tzero_157 tsz_158 aggB_158 tszD_158 tbytes_158 isSlice_158 ssz_158 selem_158 tzeroD_158 tzero_158 tsz_160 aggB_160 tszD_160 tbytes_160 isSlice_160 ssz_160
attribute [go_sem] selem_160 tzeroD_160 tzero_160 tsz_162 aggB_162 tszD_162 tbytes_162 tzeroD_162 tzero_162 tsz_163 aggB_163 tszD_163 tbytes_163 tzeroD_163 tzero_163 tsz_166 aggB_166 tszD_166 tbytes_166 tzeroD_166
attribute [go_sem] tzero_166 tsz_167 aggB_167 tszD_167 tbytes_167 tzeroD_167 tzero_167 tsz_168 aggB_168 tszD_168 tbytes_168 tzeroD_168 tzero_168 tsz_170 aggB_170 tszD_170 tbytes_170 tzeroD_170 tzero_170 tsz_178
attribute [go_sem] aggB_178 tszD_178 tbytes_178 tzeroD_178 tzero_178 tsz_181 aggB_181 tszD_181 tbytes_181 tzeroD_181 tzero_181 tsz_187 aggB_187 tszD_187 tbytes_187 tzeroD_187 tzero_187 tsz_189 aggB_189 tszD_189
attribute [go_sem] tbytes_189 tzeroD_189 tzero_189 tsz_193 aggB_193 tszD_193 tbytes_193 tzeroD_193 tzero_193 tsz_198 aggB_198 tszD_198 tbytes_198 isPtr_198 tzeroD_198 tzero_198 tsz_199 aggB_199 tszD_199 tbytes_199
attribute [go_sem] tzeroD_199 tzero_199 tsz_201 aggB_201 tszD_201 tbytes_201 tzeroD_201 tzero_201 tsz_208 aggB_208 tszD_208 tbytes_208 tzeroD_208 tzero_208 tsz_211 aggB_211 tszD_211 tbytes_211 tzeroD_211 tzero_211
attribute [go_sem] tsz_218 aggB_218 tszD_218 tbytes_218 isSlice_218 ssz_218 selem_218 tzeroD_218 tzero_218 tsz_223 aggB_223 tszD_223 tbytes_223 isArr_223 arrLen_223 arrSz_223 tsz_224 aggB_224 tszD_224 tbytes_224
attribute [go_sem] isArr_224 arrLen_224 arrSz_224 tsz_225 aggB_225 tszD_225 tbytes_225 tzeroD_225 tzero_225 tsz_231 aggB_231 tszD_231 tbytes_231 isPtr_231 tzeroD_231 tzero_231 tsz_233 aggB_233 tszD_233 tbytes_233
attribute [go_sem] tzeroD_233 tzero_233 tsz_235 aggB_235 tszD_235 tbytes_235 isArr_235 arrLen_235 arrSz_235 tsz_236 aggB_236 tszD_236 tbytes_236 tzeroD_236 tzero_236 tsz_237 aggB_237 tszD_237 tbytes_237 tzeroD_237
attribute [go_sem] tzero_237 tsz_238 aggB_238 tszD_238 tbytes_238 isArr_238 arrLen_238 arrSz_238 tzeroD_238 tzero_238 tsz_239 aggB_239 tszD_239 tbytes_239 tzeroD_239 tzero_239 eqls_30 neqs_30 eqls_51 neqs_51
attribute [go_sem] eqls_56 neqs_56 eqls_78 neqs_78 eqls_84 neqs_84 eqls_98 neqs_98 eqls_163 neqs_163 okFn_7 okFn_8 okFn_9 okFn_10 okFn_11 okFn_12 okFn_13 okFn_14 okFn_15 okFn_16
attribute [go_sem] okFn_17 okFn_18 okFn_19 okFn_20 okFn_21 okFn_22 okFn_23 okFn_24 okFn_25 okFn_26 okFn_27 okFn_28 okFn_29 okFn_30 okFn_31 okFn_32 okFn_33 okFn_34 okFn_35 okFn_36
attribute [go_sem] okFn_37 okFn_38 okFn_39 okFn_40 okFn_41 okFn_42 okFn_43 okFn_45 okFn_46 okFn_47 okFn_48 okFn_49 okFn_50 okFn_51 okFn_52 okFn_53 okFn_54 okFn_55 okFn_56 okFn_57
attribute [go_sem] okFn_58 okFn_59 okFn_60 okFn_61 okFn_62 okFn_63 okFn_64 okFn_65 okFn_66 okFn_67 okFn_68 okFn_69 okFn_70 okFn_71 okFn_72 okFn_73 okFn_74 okFn_75 okFn_77 okFn_83
attribute [go_sem] okFn_84 okFn_91 okFn_96 okFn_99 okFn_101 okFn_102 okFn_103 okFn_104 okFn_105 okFn_106 okFn_107 okFn_108 okFn_109 okFn_110 okFn_111 okFn_112 okFn_113 okFn_114 okFn_116 okFn_117
attribute [go_sem] okFn_118 okFn_119 okFn_120 okFn_121 okFn_122 okFn_123 okFn_124 okFn_125 okFn_126 okFn_127 okFn_128 okFn_129 okFn_130 okFn_131 okFn_132 okFn_133 okFn_134 okFn_135 okFn_136 okFn_137
attribute [go_sem] okFn_138 okFn_139 okFn_140 okFn_141 okFn_142 okFn_143 okFn_144 okFn_145 okFn_146 okFn_147 okFn_148 okFn_149 okFn_150 okFn_151 okFn_152 okFn_153 okFn_154 okFn_155 okFn_156 okFn_157
attribute [go_sem] okFn_158 okFn_160 okFn_161 okFn_162 okFn_163 okFn_164 okFn_165 okFn_166 okFn_167 okFn_168 okFn_169 okFn_170 okFn_171 okFn_172 okFn_173 okFn_175 okFn_176 okFn_178 okFn_179 okFn_180
attribute [go_sem] okFn_181 Tryz.underlying0 Tryz.underlying3 Tryz.underlying4 Tryz.underlying5 Tryz.underlying9 Tryz.underlying21 Tryz.underlying22 Tryz.underlying23 Tryz.underlying24 Tryz.underlying25 Tryz.underlying26 Tryz.underlying27 Tryz.underlying28 Tryz.underlying29 Tryz.underlying30 Tryz.underlying32 Tryz.underlying33 Tryz.underlying34 Tryz.underlying35
attribute [go_sem] Tryz.underlying36 Tryz.underlying37 Tryz.underlying38 Tryz.underlying39 Tryz.underlying40 Tryz.underlying41 Tryz.underlying42 Tryz.underlying43 Tryz.underlying44 Tryz.underlying46 Tryz.underlying47 Tryz.underlying48 Tryz.underlying50 Tryz.underlying51 Tryz.underlying52 Tryz.underlying53 Tryz.underlying55 Tryz.underlying56 Tryz.underlying57 Tryz.underlying60
attribute [go_sem] Tryz.underlying61 Tryz.underlying65 Tryz.underlying67 Tryz.underlying68 Tryz.underlying70 Tryz.underlying71 Tryz.underlying72 Tryz.underlying77 Tryz.underlying78 Tryz.underlying83 Tryz.underlying84 Tryz.underlying85 Tryz.underlying87 Tryz.underlying91 Tryz.underlying92 Tryz.underlying95 Tryz.underlying96 Tryz.underlying97 Tryz.underlying98 Tryz.underlying99
attribute [go_sem] Tryz.underlying100 Tryz.underlying101 Tryz.underlying102 Tryz.underlying104 Tryz.underlying106 Tryz.underlying109 Tryz.underlying112 Tryz.underlying113 Tryz.underlying114 Tryz.underlying115 Tryz.underlying116 Tryz.underlying118 Tryz.underlying119 Tryz.underlying120 Tryz.underlying121 Tryz.underlying124 Tryz.underlying126 Tryz.underlying127 Tryz.underlying128 Tryz.underlying129
attribute [go_sem] Tryz.underlying130 Tryz.underlying131 Tryz.underlying133 Tryz.underlying135 Tryz.underlying142 Tryz.underlying143 Tryz.underlying144 Tryz.underlying145 Tryz.underlying146 Tryz.underlying147 Tryz.underlying148 Tryz.underlying149 Tryz.underlying150 Tryz.underlying151 Tryz.underlying152 Tryz.underlying153 Tryz.underlying155 Tryz.underlying156 Tryz.underlying157 Tryz.underlying158
attribute [go_sem] Tryz.underlying160 Tryz.underlying162 Tryz.underlying163 Tryz.underlying166 Tryz.underlying167 Tryz.underlying168 Tryz.underlying170 Tryz.underlying178 Tryz.underlying181 Tryz.underlying187 Tryz.underlying189 Tryz.underlying193 Tryz.underlying198 Tryz.underlying199 Tryz.underlying201 Tryz.underlying208 Tryz.underlying211 Tryz.underlying218 Tryz.underlying223 Tryz.underlying224
attribute [go_sem] Tryz.underlying225 Tryz.underlying231 Tryz.underlying233 Tryz.underlying235 Tryz.underlying236 Tryz.underlying237 Tryz.underlying238 Tryz.underlying239
def T2 : Tab := ⟨[(0, [])], [], []⟩
theorem T2_sch : T2.sch = [] := (rfl)
theorem T2_reg : T2.reg = [(0, [])] := (rfl)
theorem T2_loops : T2.loops = [] := (rfl)
def T3 : Tab := ⟨[(0, [2, 3, 4]), (1, [2, 3, 4, 7]), (2, [2, 3, 4, 7, 45]), (3, [6]), (4, [2, 3, 4, 7, 8, 9]), (5, [2, 3, 4, 7, 8, 9, 10, 11]), (6, [2, 3, 4, 7, 8, 10, 62]), (7, [6]), (8, [2, 3, 4, 7, 8, 10, 12]), (9, [2, 3, 4, 7, 8, 10, 12, 64]), (10, [2, 3, 4, 7, 8, 10, 12]), (11, [2, 3, 4, 7, 8, 10, 12, 13, 14, 15]), (12, [2, 3, 4, 7, 8, 10, 12, 13, 14, 15, 16, 17]), (13, [2, 3, 4, 7, 8, 10, 12, 13, 14, 15, 112]), (14, [6]), (15, [2, 3, 4, 7, 8, 10, 12, 13, 14, 15, 18]), (16, [2, 3, 4, 7, 8, 10, 12, 13, 14, 15, 18, 125]), (17, [2, 3, 4, 7, 8, 10, 12, 13, 14, 15, 18]), (18, [2, 3, 4, 7, 8, 10, 12, 13, 14, 15, 18, 19, 20]), (19, [2, 3, 4, 7, 8, 10, 12, 13, 14, 15, 18, 149]), (20, [6]), (21, [2, 3, 4, 7, 8, 10, 21]), (22, [2, 3, 4, 7, 8, 10, 21, 22]), (23, [2, 3, 4, 7, 8, 10, 21, 22, 158]), (24, [2, 3, 4, 7, 8, 10, 21, 22]), (25, [2, 3, 4, 7, 8, 10, 21, 22, 23, 24]), (26, [2, 3, 4, 7, 8, 10, 21, 22, 23, 24]), (27, [2, 3, 4, 7, 8, 10, 21, 22, 23, 24, 25, 26]), (28, [2, 3, 4, 7, 8, 10, 21, 22, 23, 24, 25, 26]), (29, [2, 3, 4, 7, 8, 10, 21, 22, 23, 24, 25, 26]), (30, [2, 3, 4, 7, 8, 10, 21, 22, 24, 198]), (31, [6]), (32, [2, 3, 4, 7, 8, 10, 21, 22, 201]), (33, [7, 8, 10, 27]), (34, [7, 8, 10, 27, 203]), (35, [7, 8, 10, 27]), (36, [7, 8, 10, 27, 28]), (37, [7, 8, 10, 27, 28, 30]), (38, [7, 8, 10, 27, 32]), (39, [7, 8, 10, 27, 226]), (40, [6]), (41, [6])], [(0, [2, 3, 4, 7, 8, 10, 12]), (2, [2, 3, 4, 7, 8, 10, 12, 13, 14, 15, 18]), (4, [2, 3, 4, 7, 8, 10, 21, 22]), (6, [7, 8, 10, 27])], []⟩
theorem T3_sch : T3.sch = [] := (rfl)
theorem T3_reg : T3.reg = [(0, [2, 3, 4]), (1, [2, 3, 4, 7]), (2, [2, 3, 4, 7, 45]), (3, [6]), (4, [2, 3, 4, 7, 8, 9]), (5, [2, 3, 4, 7, 8, 9, 10, 11]), (6, [2, 3, 4, 7, 8, 10, 62]), (7, [6]), (8, [2, 3, 4, 7, 8, 10, 12]), (9, [2, 3, 4, 7, 8, 10, 12, 64]), (10, [2, 3, 4, 7, 8, 10, 12]), (11, [2, 3, 4, 7, 8, 10, 12, 13, 14, 15]), (12, [2, 3, 4, 7, 8, 10, 12, 13, 14, 15, 16, 17]), (13, [2, 3, 4, 7, 8, 10, 12, 13, 14, 15, 112]), (14, [6]), (15, [2, 3, 4, 7, 8, 10, 12, 13, 14, 15, 18]), (16, [2, 3, 4, 7, 8, 10, 12, 13, 14, 15, 18, 125]), (17, [2, 3, 4, 7, 8, 10, 12, 13, 14, 15, 18]), (18, [2, 3, 4, 7, 8, 10, 12, 13, 14, 15, 18, 19, 20]), (19, [2, 3, 4, 7, 8, 10, 12, 13, 14, 15, 18, 149]), (20, [6]), (21, [2, 3, 4, 7, 8, 10, 21]), (22, [2, 3, 4, 7, 8, 10, 21, 22]), (23, [2, 3, 4, 7, 8, 10, 21, 22, 158]), (24, [2, 3, 4, 7, 8, 10, 21, 22]), (25, [2, 3, 4, 7, 8, 10, 21, 22, 23, 24]), (26, [2, 3, 4, 7, 8, 10, 21, 22, 23, 24]), (27, [2, 3, 4, 7, 8, 10, 21, 22, 23, 24, 25, 26]), (28, [2, 3, 4, 7, 8, 10, 21, 22, 23, 24, 25, 26]), (29, [2, 3, 4, 7, 8, 10, 21, 22, 23, 24, 25, 26]), (30, [2, 3, 4, 7, 8, 10, 21, 22, 24, 198]), (31, [6]), (32, [2, 3, 4, 7, 8, 10, 21, 22, 201]), (33, [7, 8, 10, 27]), (34, [7, 8, 10, 27, 203]), (35, [7, 8, 10, 27]), (36, [7, 8, 10, 27, 28]), (37, [7, 8, 10, 27, 28, 30]), (38, [7, 8, 10, 27, 32]), (39, [7, 8, 10, 27, 226]), (40, [6]), (41, [6])] := (rfl)
theorem T3_loops : T3.loops = [(0, [2, 3, 4, 7, 8, 10, 12]), (2, [2, 3, 4, 7, 8, 10, 12, 13, 14, 15, 18]), (4, [2, 3, 4, 7, 8, 10, 21, 22]), (6, [7, 8, 10, 27])] := (rfl)
def T4 : Tab := ⟨[(0, [2, 3, 4]), (1, [2, 3, 4, 7]), (2, [2, 3, 4, 7, 8, 9]), (3, [2, 3, 4, 7, 8, 36]), (4, [6]), (5, [2, 3, 4, 7, 8, 10]), (6, [2, 3, 4, 7, 8, 10, 11]), (7, [2, 3, 4, 7, 8, 10, 11, 38]), (8, [2, 3, 4, 7, 8, 10, 11]), (9, [2, 3, 4, 7, 8, 10, 11, 12, 13, 14]), (10, [2, 3, 4, 7, 8, 10, 11, 12, 63]), (11, [2, 3, 4, 7, 8, 10, 11]), (12, [2, 3, 4, 7, 8, 10, 79]), (13, [6]), (14, [2, 3, 4, 7, 8, 10, 15]), (15, [2, 3, 4, 7, 8, 10, 15, 82]), (16, [2, 3, 4, 7, 8, 10, 15]), (17, [2, 3, 4, 7, 8, 10, 15, 16, 17]), (18, [2, 3, 4, 7, 8, 10, 15, 116]), (19, [6]), (20, [2, 3, 4, 7, 8, 10, 18]), (21, [2, 3, 4, 7, 8, 10, 18, 19]), (22, [2, 3, 4, 7, 8, 10, 18, 19, 119]), (23, [2, 3, 4, 7, 8, 10, 18, 19]), (24, [2, 3, 4, 7, 8, 10, 18, 19, 20]), (25, [2, 3, 4, 7, 8, 10, 18, 19]), (26, [7, 8, 10, 18, 24]), (27, [7, 8, 10, 18, 24, 25]), (28, [7, 8, 10, 18, 24, 25, 148]), (29, [7, 8, 10, 18, 24, 25]), (30, [7, 8, 10, 18, 24, 25, 26]), (31, [7, 8, 10, 18, 24, 25, 28]), (32, [7, 8, 10, 18, 24, 25, 171]), (33, [6]), (34, [6])], [(0, [2, 3, 4, 7, 8, 10, 11]), (2, [2, 3, 4, 7, 8, 10, 15]), (4, [2, 3, 4, 7, 8, 10, 18, 19]), (6, [7, 8, 10, 18, 24, 25])], []⟩
theorem T4_sch : T4.sch = [] := (rfl)
theorem T4_reg : T4.reg = [(0, [2, 3, 4]), (1, [2, 3, 4, 7]), (2, [2, 3, 4, 7, 8, 9]), (3, [2, 3, 4, 7, 8, 36]), (4, [6]), (5, [2, 3, 4, 7, 8, 10]), (6, [2, 3, 4, 7, 8, 10, 11]), (7, [2, 3, 4, 7, 8, 10, 11, 38]), (8, [2, 3, 4, 7, 8, 10, 11]), (9, [2, 3, 4, 7, 8, 10, 11, 12, 13, 14]), (10, [2, 3, 4, 7, 8, 10, 11, 12, 63]), (11, [2, 3, 4, 7, 8, 10, 11]), (12, [2, 3, 4, 7, 8, 10, 79]), (13, [6]), (14, [2, 3, 4, 7, 8, 10, 15]), (15, [2, 3, 4, 7, 8, 10, 15, 82]), (16, [2, 3, 4, 7, 8, 10, 15]), (17, [2, 3, 4, 7, 8, 10, 15, 16, 17]), (18, [2, 3, 4, 7, 8, 10, 15, 116]), (19, [6]), (20, [2, 3, 4, 7, 8, 10, 18]), (21, [2, 3, 4, 7, 8, 10, 18, 19]), (22, [2, 3, 4, 7, 8, 10, 18, 19, 119]), (23, [2, 3, 4, 7, 8, 10, 18, 19]), (24, [2, 3, 4, 7, 8, 10, 18, 19, 20]), (25, [2, 3, 4, 7, 8, 10, 18, 19]), (26, [7, 8, 10, 18, 24]), (27, [7, 8, 10, 18, 24, 25]), (28, [7, 8, 10, 18, 24, 25, 148]), (29, [7, 8, 10, 18, 24, 25]), (30, [7, 8, 10, 18, 24, 25, 26]), (31, [7, 8, 10, 18, 24, 25, 28]), (32, [7, 8, 10, 18, 24, 25, 171]), (33, [6]), (34, [6])] := (rfl)
theorem T4_loops : T4.loops = [(0, [2, 3, 4, 7, 8, 10, 11]), (2, [2, 3, 4, 7, 8, 10, 15]), (4, [2, 3, 4, 7, 8, 10, 18, 19]), (6, [7, 8, 10, 18, 24, 25])] := (rfl)
def T5 : Tab := ⟨[(0, [2, 3, 4]), (1, [2, 3, 4, 7]), (2, [2, 3, 4, 7, 8, 9]), (3, [2, 3, 4, 7, 8, 9, 10, 11]), (4, [2, 3, 4, 7, 8, 10, 43]), (5, [6]), (6, [2, 3, 4, 7, 8, 10, 49]), (7, [6]), (8, [2, 3, 4, 7, 8, 10, 12, 13, 14]), (9, [2, 3, 7, 8, 10, 12, 13, 14, 15]), (10, [2, 3, 7, 8, 10, 12, 13, 14, 15, 16]), (11, [2, 3, 7, 8, 10, 12, 13, 14, 15, 16, 17]), (12, [2, 3, 7, 8, 10, 12, 13, 14, 15, 16, 17, 73]), (13, [2, 3, 7, 8, 10, 12, 13, 14, 15, 16, 17, 18]), (14, [2, 3, 7, 8, 10, 12, 13, 14, 15, 16, 17, 18, 79]), (15, [2, 3, 7, 8, 10, 12, 13, 14, 15, 16, 17, 18]), (16, [2, 3, 7, 8, 10, 12, 13, 14, 15, 16, 17, 19, 20]), (17, [2, 3, 7, 8, 10, 12, 13, 14, 15, 16, 17, 20]), (18, [2, 3, 7, 8, 10, 12, 13, 14, 15, 16, 17, 20]), (19, [2, 3, 7, 8, 10, 12, 13, 14, 15, 16, 17, 98]), (20, [2, 3, 7, 8, 10, 12, 13, 14, 15, 16, 17]), (21, [7, 8, 10, 12, 13, 14, 15, 16, 17, 21]), (22, [7, 8, 10, 12, 13, 14, 15, 16, 17, 21, 102]), (23, [7, 8, 10, 12, 13, 14, 15, 16, 17, 21]), (24, [7, 8, 10, 12, 13, 14, 15, 16, 17, 21, 22]), (25, [7, 8, 10, 12, 13, 14, 15, 16, 17, 21, 22, 24]), (26, [7, 8, 10, 12, 13, 14, 15, 16, 17, 21, 26]), (27, [7, 8, 10, 12, 13, 14, 15, 16, 17, 21, 125]), (28, [6]), (29, [6])], [(0, [2, 3, 7, 8, 10, 12, 13, 14, 15, 16, 17]), (2, [7, 8, 10, 12, 13, 14, 15, 16, 17, 21])], []⟩
theorem T5_sch : T5.sch = [] := (rfl)
theorem T5_reg : T5.reg = [(0, [2, 3, 4]), (1, [2, 3, 4, 7]), (2, [2, 3, 4, 7, 8, 9]), (3, [2, 3, 4, 7, 8, 9, 10, 11]), (4, [2, 3, 4, 7, 8, 10, 43]), (5, [6]), (6, [2, 3, 4, 7, 8, 10, 49]), (7, [6]), (8, [2, 3, 4, 7, 8, 10, 12, 13, 14]), (9, [2, 3, 7, 8, 10, 12, 13, 14, 15]), (10, [2, 3, 7, 8, 10, 12, 13, 14, 15, 16]), (11, [2, 3, 7, 8, 10, 12, 13, 14, 15, 16, 17]), (12, [2, 3, 7, 8, 10, 12, 13, 14, 15, 16, 17, 73]), (13, [2, 3, 7, 8, 10, 12, 13, 14, 15, 16, 17, 18]), (14, [2, 3, 7, 8, 10, 12, 13, 14, 15, 16, 17, 18, 79]), (15, [2, 3, 7, 8, 10, 12, 13, 14, 15, 16, 17, 18]), (16, [2, 3, 7, 8, 10, 12, 13, 14, 15, 16, 17, 19, 20]), (17, [2, 3, 7, 8, 10, 12, 13, 14, 15, 16, 17, 20]), (18, [2, 3, 7, 8, 10, 12, 13, 14, 15, 16, 17, 20]), (19, [2, 3, 7, 8, 10, 12, 13, 14, 15, 16, 17, 98]), (20, [2, 3, 7, 8, 10, 12, 13, 14, 15, 16, 17]), (21, [7, 8, 10, 12, 13, 14, 15, 16, 17, 21]), (22, [7, 8, 10, 12, 13, 14, 15, 16, 17, 21, 102]), (23, [7, 8, 10, 12, 13, 14, 15, 16, 17, 21]), (24, [7, 8, 10, 12, 13, 14, 15, 16, 17, 21, 22]), (25, [7, 8, 10, 12, 13, 14, 15, 16, 17, 21, 22, 24]), (26, [7, 8, 10, 12, 13, 14, 15, 16, 17, 21, 26]), (27, [7, 8, 10, 12, 13, 14, 15, 16, 17, 21, 125]), (28, [6]), (29, [6])] := (rfl)
theorem T5_loops : T5.loops = [(0, [2, 3, 7, 8, 10, 12, 13, 14, 15, 16, 17]), (2, [7, 8, 10, 12, 13, 14, 15, 16, 17, 21])] := (rfl)
def T7 : Tab := ⟨[(0, []), (1, [1, 2]), (2, [1, 2, 3, 4]), (3, [1, 2, 3, 4, 5, 6]), (4, [1, 2, 3, 4, 5, 6, 7, 8]), (5, [1, 3, 5, 7, 55]), (6, [0]), (7, [3, 5, 7, 9, 10]), (8, [3, 5, 7, 9, 10, 11]), (9, [3, 5, 7, 9, 10, 11]), (10, [5, 7, 9, 10, 12, 13]), (11, [7, 9, 10, 12, 13, 15]), (12, [9, 10, 12, 13, 15, 17]), (13, [0])], [], []⟩
theorem T7_sch : T7.sch = [] := (rfl)
theorem T7_reg : T7.reg = [(0, []), (1, [1, 2]), (2, [1, 2, 3, 4]), (3, [1, 2, 3, 4, 5, 6]), (4, [1, 2, 3, 4, 5, 6, 7, 8]), (5, [1, 3, 5, 7, 55]), (6, [0]), (7, [3, 5, 7, 9, 10]), (8, [3, 5, 7, 9, 10, 11]), (9, [3, 5, 7, 9, 10, 11]), (10, [5, 7, 9, 10, 12, 13]), (11, [7, 9, 10, 12, 13, 15]), (12, [9, 10, 12, 13, 15, 17]), (13, [0])] := (rfl)
theorem T7_loops : T7.loops = [] := (rfl)
def T8 : Tab := ⟨[(0, [1, 2]), (1, [1, 2, 4, 5]), (2, [1, 2, 4, 5, 6]), (3, [1, 2, 4, 5, 6, 8]), (4, [1, 2, 4, 6, 8, 34]), (5, [2, 3]), (6, [1, 2, 4, 6, 8, 9]), (7, [1, 2, 4, 6, 8, 9, 44]), (8, [1, 2, 4, 6, 8, 9]), (9, [1, 2, 4, 6, 8, 9]), (10, [1, 2, 4, 6, 8, 9]), (11, [1, 2, 4, 6, 8, 10]), (12, [1, 2, 4, 6, 8, 10, 95]), (13, [1, 2, 4, 6, 8, 10]), (14, [1, 2, 4, 6, 8, 10]), (15, [1, 2, 4, 6, 8, 10]), (16, [1, 2, 11]), (17, [2, 11, 135]), (18, [2, 11, 12, 13]), (19, [2, 11, 12, 13, 14]), (20, [2, 11, 12, 14, 149]), (21, [2, 3]), (22, [2, 11, 14]), (23, [2, 11]), (24, [2, 3])], [(0, [1, 2, 4, 6, 8, 9]), (2, [1, 2, 4, 6, 8, 10])], []⟩
theorem T8_sch : T8.sch = [] := (rfl)
theorem T8_reg : T8.reg = [(0, [1, 2]), (1, [1, 2, 4, 5]), (2, [1, 2, 4, 5, 6]), (3, [1, 2, 4, 5, 6, 8]), (4, [1, 2, 4, 6, 8, 34]), (5, [2, 3]), (6, [1, 2, 4, 6, 8, 9]), (7, [1, 2, 4, 6, 8, 9, 44]), (8, [1, 2, 4, 6, 8, 9]), (9, [1, 2, 4, 6, 8, 9]), (10, [1, 2, 4, 6, 8, 9]), (11, [1, 2, 4, 6, 8, 10]), (12, [1, 2, 4, 6, 8, 10, 95]), (13, [1, 2, 4, 6, 8, 10]), (14, [1, 2, 4, 6, 8, 10]), (15, [1, 2, 4, 6, 8, 10]), (16, [1, 2, 11]), (17, [2, 11, 135]), (18, [2, 11, 12, 13]), (19, [2, 11, 12, 13, 14]), (20, [2, 11, 12, 14, 149]), (21, [2, 3]), (22, [2, 11, 14]), (23, [2, 11]), (24, [2, 3])] := (rfl)
theorem T8_loops : T8.loops = [(0, [1, 2, 4, 6, 8, 9]), (2, [1, 2, 4, 6, 8, 10])] := (rfl)
def T9 : Tab := ⟨[(0, [0, 1, 2, 8]), (1, [0, 1, 2, 8, 18]), (2, [6, 7, 8]), (3, [0, 2, 8, 9, 10]), (4, [0, 2, 8, 9, 10, 28]), (5, [6, 7, 8]), (6, [2, 8, 11, 12]), (7, [2, 8, 11, 12, 41]), (8, [6, 7, 8]), (9, [6, 7, 8])], [], []⟩
theorem T9_sch : T9.sch = [] := (rfl)
theorem T9_reg : T9.reg = [(0, [0, 1, 2, 8]), (1, [0, 1, 2, 8, 18]), (2, [6, 7, 8]), (3, [0, 2, 8, 9, 10]), (4, [0, 2, 8, 9, 10, 28]), (5, [6, 7, 8]), (6, [2, 8, 11, 12]), (7, [2, 8, 11, 12, 41]), (8, [6, 7, 8]), (9, [6, 7, 8])] := (rfl)
theorem T9_loops : T9.loops = [] := (rfl)
def T10 : Tab := ⟨[(0, [0, 1, 2, 6]), (1, [0, 1, 2, 6, 8]), (2, [0, 1, 2, 6, 8, 16]), (3, [6, 7]), (4, [6, 9]), (5, [6, 7])], [], []⟩
theorem T10_sch : T10.sch = [] := (rfl)
theorem T10_reg : T10.reg = [(0, [0, 1, 2, 6]), (1, [0, 1, 2, 6, 8]), (2, [0, 1, 2, 6, 8, 16]), (3, [6, 7]), (4, [6, 9]), (5, [6, 7])] := (rfl)
theorem T10_loops : T10.loops = [] := (rfl)
def T11 : Tab := ⟨[(0, [2, 3, 4, 5, 6, 10, 11]), (1, [2, 3, 4, 5, 6, 10, 11, 12]), (2, [5, 6, 10, 11, 12, 13]), (3, [5, 6, 10, 11, 12, 13, 14]), (4, [5, 6, 10, 11, 12, 13, 14, 31]), (5, [10, 11]), (6, [5, 6, 10, 11, 12, 13, 15]), (7, [6, 10, 11, 12, 13, 15, 47]), (8, [10, 11]), (9, [6, 10, 11, 12, 13, 16]), (10, [6, 10, 11, 12, 13, 16, 64]), (11, [10, 11]), (12, [6, 10, 11, 16]), (13, [10, 11])], [], [(2, ⟨928, 95, [0, 0, 0, 0, 0, 30, 0, 127, 255, 511], (.rd 0 false (.rd 1 false (.rd 2 false (.rd 3 false (.rd 4 false (.rd 6 false (.wr 5 (.rd 0 true (.rd 6 true (.wr 7 (.wr 8 (.wr 9 .done .no) .no) .no))) .no)))))))⟩), (5, ⟨12, 3, [0, 0, 1, 7], (.rd 0 false (.rd 1 false (.wr 2 (.rd 1 true (.wr 3 .done .no)) .no)))⟩), (6, ⟨385, 126, [0, 0, 2, 6, 14, 30, 63, 0, 255], (.rd 1 false (.rd 2 false (.rd 3 false (.rd 4 false (.rd 5 false (.wr 0 (.rd 1 true (.rd 2 true (.rd 3 true (.rd 4 true (.rd 5 true (.rd 6 false (.wr 7 (.rd 1 true (.rd 2 true (.rd 3 true (.rd 4 true (.rd 5 true (.rd 6 true (.wr 8 .done .no))))))) .no))))))) (.wr 7 (.rd 1 true (.rd 2 true (.rd 3 true (.rd 4 true (.rd 5 true (.wr 0 (.rd 1 true (.rd 2 true (.rd 3 true (.rd 4 true (.rd 5 true (.rd 6 false (.wr 8 .done .no))))))) .no)))))) .no)))))))⟩), (8, ⟨28, 3, [0, 0, 2, 7, 15], (.rd 0 false (.rd 1 false (.wr 2 (.rd 0 true (.wr 3 (.wr 4 .done .no) .no)) .no)))⟩), (11, ⟨12, 3, [0, 0, 1, 7], (.rd 0 false (.rd 1 false (.wr 2 (.rd 1 true (.wr 3 .done .no)) .no)))⟩), (13, ⟨12, 3, [0, 0, 1, 7], (.rd 0 false (.rd 1 false (.wr 2 (.rd 1 true (.wr 3 .done .no)) .no)))⟩)]⟩
theorem T11_sch : T11.sch = [(2, ⟨928, 95, [0, 0, 0, 0, 0, 30, 0, 127, 255, 511], (.rd 0 false (.rd 1 false (.rd 2 false (.rd 3 false (.rd 4 false (.rd 6 false (.wr 5 (.rd 0 true (.rd 6 true (.wr 7 (.wr 8 (.wr 9 .done .no) .no) .no))) .no)))))))⟩), (5, ⟨12, 3, [0, 0, 1, 7], (.rd 0 false (.rd 1 false (.wr 2 (.rd 1 true (.wr 3 .done .no)) .no)))⟩), (6, ⟨385, 126, [0, 0, 2, 6, 14, 30, 63, 0, 255], (.rd 1 false (.rd 2 false (.rd 3 false (.rd 4 false (.rd 5 false (.wr 0 (.rd 1 true (.rd 2 true (.rd 3 true (.rd 4 true (.rd 5 true (.rd 6 false (.wr 7 (.rd 1 true (.rd 2 true (.rd 3 true (.rd 4 true (.rd 5 true (.rd 6 true (.wr 8 .done .no))))))) .no))))))) (.wr 7 (.rd 1 true (.rd 2 true (.rd 3 true (.rd 4 true (.rd 5 true (.wr 0 (.rd 1 true (.rd 2 true (.rd 3 true (.rd 4 true (.rd 5 true (.rd 6 false (.wr 8 .done .no))))))) .no)))))) .no)))))))⟩), (8, ⟨28, 3, [0, 0, 2, 7, 15], (.rd 0 false (.rd 1 false (.wr 2 (.rd 0 true (.wr 3 (.wr 4 .done .no) .no)) .no)))⟩), (11, ⟨12, 3, [0, 0, 1, 7], (.rd 0 false (.rd 1 false (.wr 2 (.rd 1 true (.wr 3 .done .no)) .no)))⟩), (13, ⟨12, 3, [0, 0, 1, 7], (.rd 0 false (.rd 1 false (.wr 2 (.rd 1 true (.wr 3 .done .no)) .no)))⟩)] := (rfl)
theorem T11_reg : T11.reg = [(0, [2, 3, 4, 5, 6, 10, 11]), (1, [2, 3, 4, 5, 6, 10, 11, 12]), (2, [5, 6, 10, 11, 12, 13]), (3, [5, 6, 10, 11, 12, 13, 14]), (4, [5, 6, 10, 11, 12, 13, 14, 31]), (5, [10, 11]), (6, [5, 6, 10, 11, 12, 13, 15]), (7, [6, 10, 11, 12, 13, 15, 47]), (8, [10, 11]), (9, [6, 10, 11, 12, 13, 16]), (10, [6, 10, 11, 12, 13, 16, 64]), (11, [10, 11]), (12, [6, 10, 11, 16]), (13, [10, 11])] := (rfl)
theorem T11_loops : T11.loops = [] := (rfl)
def T12 : Tab := ⟨[(0, [0]), (1, [2])], [], []⟩
theorem T12_sch : T12.sch = [] := (rfl)
theorem T12_reg : T12.reg = [(0, [0]), (1, [2])] := (rfl)
theorem T12_loops : T12.loops = [] := (rfl)
def T13 : Tab := ⟨[(0, [0, 1]), (1, [0, 1, 10]), (2, [4, 5]), (3, [6]), (4, [4, 5])], [], []⟩
theorem T13_sch : T13.sch = [] := (rfl)
theorem T13_reg : T13.reg = [(0, [0, 1]), (1, [0, 1, 10]), (2, [4, 5]), (3, [6]), (4, [4, 5])] := (rfl)
theorem T13_loops : T13.loops = [] := (rfl)
def T14 : Tab := ⟨[(0, [0, 1]), (1, [0, 1, 10]), (2, [4]), (3, [0, 1, 5]), (4, [0, 1, 5, 14]), (5, [0, 1, 5]), (6, [0, 1, 5, 25]), (7, [4]), (8, [4])], [(0, [0, 1, 5])], []⟩
theorem T14_sch : T14.sch = [] := (rfl)
theorem T14_reg : T14.reg = [(0, [0, 1]), (1, [0, 1, 10]), (2, [4]), (3, [0, 1, 5]), (4, [0, 1, 5, 14]), (5, [0, 1, 5]), (6, [0, 1, 5, 25]), (7, [4]), (8, [4])] := (rfl)
theorem T14_loops : T14.loops = [(0, [0, 1, 5])] := (rfl)
def T15 : Tab := ⟨[(0, [0, 1, 2, 8]), (1, [0, 1, 2, 8, 16]), (2, [6, 7, 8]), (3, [2, 8, 9, 10]), (4, [2, 8, 9, 10, 11]), (5, [2, 8, 9, 10, 11, 12]), (6, [2, 8, 9, 10, 11, 12]), (7, [2, 8, 9, 10, 11, 12]), (8, [2, 8, 9, 11, 12, 13]), (9, [2, 8, 9, 11, 12, 13, 32]), (10, [6, 7, 8]), (11, [2, 8, 9, 11, 12, 38]), (12, [2, 8, 9, 10, 11, 12]), (13, [6, 7, 8])], [(0, [2, 8, 9, 10, 11, 12])], []⟩
theorem T15_sch : T15.sch = [] := (rfl)
theorem T15_reg : T15.reg = [(0, [0, 1, 2, 8]), (1, [0, 1, 2, 8, 16]), (2, [6, 7, 8]), (3, [2, 8, 9, 10]), (4, [2, 8, 9, 10, 11]), (5, [2, 8, 9, 10, 11, 12]), (6, [2, 8, 9, 10, 11, 12]), (7, [2, 8, 9, 10, 11, 12]), (8, [2, 8, 9, 11, 12, 13]), (9, [2, 8, 9, 11, 12, 13, 32]), (10, [6, 7, 8]), (11, [2, 8, 9, 11, 12, 38]), (12, [2, 8, 9, 10, 11, 12]), (13, [6, 7, 8])] := (rfl)
theorem T15_loops : T15.loops = [(0, [2, 8, 9, 10, 11, 12])] := (rfl)
def T16 : Tab := ⟨[(0, [2, 3, 4, 5, 6, 10, 11]), (1, [2, 3, 4, 5, 6, 10, 11, 13]), (2, [2, 3, 4, 5, 6, 10, 11, 13, 19]), (3, [2, 3, 4, 5, 6, 10, 11, 13, 14, 15]), (4, [2, 3, 4, 5, 6, 10, 11, 13, 15]), (5, [2, 3, 4, 5, 6, 10, 11, 13, 15, 35]), (6, [10, 11, 12]), (7, [2, 3, 4, 5, 6, 10, 11, 13]), (8, [10, 11, 12])], [(0, [2, 3, 4, 5, 6, 10, 11, 13])], [(6, ⟨56, 7, [0, 0, 0, 1, 11, 31], (.rd 0 false (.rd 1 false (.rd 2 false (.wr 3 (.rd 1 true (.rd 2 true (.wr 4 (.rd 2 true (.wr 5 .done .no)) .no))) .no))))⟩)]⟩
theorem T16_sch : T16.sch = [(6, ⟨56, 7, [0, 0, 0, 1, 11, 31], (.rd 0 false (.rd 1 false (.rd 2 false (.wr 3 (.rd 1 true (.rd 2 true (.wr 4 (.rd 2 true (.wr 5 .done .no)) .no))) .no))))⟩)] := (rfl)
theorem T16_reg : T16.reg = [(0, [2, 3, 4, 5, 6, 10, 11]), (1, [2, 3, 4, 5, 6, 10, 11, 13]), (2, [2, 3, 4, 5, 6, 10, 11, 13, 19]), (3, [2, 3, 4, 5, 6, 10, 11, 13, 14, 15]), (4, [2, 3, 4, 5, 6, 10, 11, 13, 15]), (5, [2, 3, 4, 5, 6, 10, 11, 13, 15, 35]), (6, [10, 11, 12]), (7, [2, 3, 4, 5, 6, 10, 11, 13]), (8, [10, 11, 12])] := (rfl)
theorem T16_loops : T16.loops = [(0, [2, 3, 4, 5, 6, 10, 11, 13])] := (rfl)
def T23 : Tab := ⟨[(0, [2, 3, 4, 5, 8]), (1, [4, 5, 8, 9]), (2, [5, 8, 9, 22]), (3, [8, 9]), (4, [8])], [], [(3, ⟨14336, 2047, [0, 1, 3, 7, 15, 0, 32, 96, 224, 480, 31, 1055, 4095, 8191], (.rd 0 false (.rd 1 false (.rd 2 false (.rd 3 false (.rd 4 false (.rd 5 false (.rd 6 false (.rd 7 false (.rd 8 false (.rd 9 false (.rd 10 false (.wr 11 (.rd 5 true (.rd 6 true (.rd 7 true (.rd 8 true (.rd 9 true (.wr 12 (.wr 13 .done .no) .no)))))) .no))))))))))))⟩)]⟩
theorem T23_sch : T23.sch = [(3, ⟨14336, 2047, [0, 1, 3, 7, 15, 0, 32, 96, 224, 480, 31, 1055, 4095, 8191], (.rd 0 false (.rd 1 false (.rd 2 false (.rd 3 false (.rd 4 false (.rd 5 false (.rd 6 false (.rd 7 false (.rd 8 false (.rd 9 false (.rd 10 false (.wr 11 (.rd 5 true (.rd 6 true (.rd 7 true (.rd 8 true (.rd 9 true (.wr 12 (.wr 13 .done .no) .no)))))) .no))))))))))))⟩)] := (rfl)
theorem T23_reg : T23.reg = [(0, [2, 3, 4, 5, 8]), (1, [4, 5, 8, 9]), (2, [5, 8, 9, 22]), (3, [8, 9]), (4, [8])] := (rfl)
theorem T23_loops : T23.loops = [] := (rfl)
def T26 : Tab := ⟨[(0, [1, 2, 4]), (1, [1, 4, 5]), (2, [4])], [], []⟩
theorem T26_sch : T26.sch = [] := (rfl)
theorem T26_reg : T26.reg = [(0, [1, 2, 4]), (1, [1, 4, 5]), (2, [4])] := (rfl)
theorem T26_loops : T26.loops = [] := (rfl)
def T27 : Tab := ⟨[(0, [0]), (1, [0, 9]), (2, [2, 3]), (3, [2, 3])], [], []⟩
theorem T27_sch : T27.sch = [] := (rfl)
theorem T27_reg : T27.reg = [(0, [0]), (1, [0, 9]), (2, [2, 3]), (3, [2, 3])] := (rfl)
theorem T27_loops : T27.loops = [] := (rfl)
def T28 : Tab := ⟨[(0, [0]), (1, [0, 9]), (2, [2, 3]), (3, [2, 3])], [], []⟩
theorem T28_sch : T28.sch = [] := (rfl)
theorem T28_reg : T28.reg = [(0, [0]), (1, [0, 9]), (2, [2, 3]), (3, [2, 3])] := (rfl)
theorem T28_loops : T28.loops = [] := (rfl)
def T29 : Tab := ⟨[(0, []), (1, [0])], [], []⟩
theorem T29_sch : T29.sch = [] := (rfl)
theorem T29_reg : T29.reg = [(0, []), (1, [0])] := (rfl)
theorem T29_loops : T29.loops = [] := (rfl)
def T30 : Tab := ⟨[(0, [0, 1, 2, 7]), (1, [0, 7, 9, 10]), (2, [0, 7, 9, 10, 20]), (3, [8]), (4, [0, 9, 10, 11]), (5, [0, 9, 10, 11, 28]), (6, [8]), (7, [8])], [], []⟩
theorem T30_sch : T30.sch = [] := (rfl)
theorem T30_reg : T30.reg = [(0, [0, 1, 2, 7]), (1, [0, 7, 9, 10]), (2, [0, 7, 9, 10, 20]), (3, [8]), (4, [0, 9, 10, 11]), (5, [0, 9, 10, 11, 28]), (6, [8]), (7, [8])] := (rfl)
theorem T30_loops : T30.loops = [] := (rfl)
def T31 : Tab := ⟨[(0, [0, 1, 2, 7]), (1, [0, 1, 2, 7, 9]), (2, [0, 1, 2, 7, 9, 17]), (3, [8]), (4, [0, 1, 2, 10, 11]), (5, [0, 1, 2, 10, 11, 25]), (6, [8]), (7, [8])], [], []⟩
theorem T31_sch : T31.sch = [] := (rfl)
theorem T31_reg : T31.reg = [(0, [0, 1, 2, 7]), (1, [0, 1, 2, 7, 9]), (2, [0, 1, 2, 7, 9, 17]), (3, [8]), (4, [0, 1, 2, 10, 11]), (5, [0, 1, 2, 10, 11, 25]), (6, [8]), (7, [8])] := (rfl)
theorem T31_loops : T31.loops = [] := (rfl)
def T32 : Tab := ⟨[(0, [0, 1, 2, 3]), (1, [3, 9, 10]), (2, [3, 9, 10, 20, 21]), (3, [3, 9, 10, 20, 21, 22]), (4, [3, 9, 10, 11, 20, 21]), (5, [3, 9, 10, 20, 21]), (6, [3, 9, 10, 20, 21]), (7, [8])], [(0, [3, 9, 10, 20, 21])], []⟩
theorem T32_sch : T32.sch = [] := (rfl)
theorem T32_reg : T32.reg = [(0, [0, 1, 2, 3]), (1, [3, 9, 10]), (2, [3, 9, 10, 20, 21]), (3, [3, 9, 10, 20, 21, 22]), (4, [3, 9, 10, 11, 20, 21]), (5, [3, 9, 10, 20, 21]), (6, [3, 9, 10, 20, 21]), (7, [8])] := (rfl)
theorem T32_loops : T32.loops = [(0, [3, 9, 10, 20, 21])] := (rfl)
def T33 : Tab := ⟨[(0, [0, 1, 2, 3]), (1, [0, 1, 2, 3, 9]), (2, [0, 1, 2, 3, 9, 16]), (3, [8]), (4, [0, 1, 2, 3, 10]), (5, [0, 1, 2, 3, 10, 20]), (6, [0, 1, 2, 3, 10]), (7, [0, 1, 2, 3, 10]), (8, [0, 1, 2, 3, 10]), (9, [8])], [(0, [0, 1, 2, 3, 10])], []⟩
theorem T33_sch : T33.sch = [] := (rfl)
theorem T33_reg : T33.reg = [(0, [0, 1, 2, 3]), (1, [0, 1, 2, 3, 9]), (2, [0, 1, 2, 3, 9, 16]), (3, [8]), (4, [0, 1, 2, 3, 10]), (5, [0, 1, 2, 3, 10, 20]), (6, [0, 1, 2, 3, 10]), (7, [0, 1, 2, 3, 10]), (8, [0, 1, 2, 3, 10]), (9, [8])] := (rfl)
theorem T33_loops : T33.loops = [(0, [0, 1, 2, 3, 10])] := (rfl)
def T34 : Tab := ⟨[(0, [0]), (1, [0, 9]), (2, [2, 3]), (3, [2, 3])], [], []⟩
theorem T34_sch : T34.sch = [] := (rfl)
theorem T34_reg : T34.reg = [(0, [0]), (1, [0, 9]), (2, [2, 3]), (3, [2, 3])] := (rfl)
theorem T34_loops : T34.loops = [] := (rfl)
def T35 : Tab := ⟨[(0, [0]), (1, [0, 9]), (2, [2, 3]), (3, [2, 3])], [], []⟩
theorem T35_sch : T35.sch = [] := (rfl)
theorem T35_reg : T35.reg = [(0, [0]), (1, [0, 9]), (2, [2, 3]), (3, [2, 3])] := (rfl)
theorem T35_loops : T35.loops = [] := (rfl)
def T36 : Tab := ⟨[(0, [0, 1, 2, 3, 8]), (1, [0, 1, 2, 3, 8, 20]), (2, [8, 9]), (3, [0, 1, 3, 8, 10]), (4, [3, 8, 11, 12]), (5, [8, 11, 55]), (6, [8, 9]), (7, [8, 9])], [], []⟩
theorem T36_sch : T36.sch = [] := (rfl)
theorem T36_reg : T36.reg = [(0, [0, 1, 2, 3, 8]), (1, [0, 1, 2, 3, 8, 20]), (2, [8, 9]), (3, [0, 1, 3, 8, 10]), (4, [3, 8, 11, 12]), (5, [8, 11, 55]), (6, [8, 9]), (7, [8, 9])] := (rfl)
theorem T36_loops : T36.loops = [] := (rfl)
def T37 : Tab := ⟨[(0, [0, 1, 2]), (1, [0, 1, 12]), (2, [6]), (3, [20]), (4, [6]), (5, [6])], [], []⟩
theorem T37_sch : T37.sch = [] := (rfl)
theorem T37_reg : T37.reg = [(0, [0, 1, 2]), (1, [0, 1, 12]), (2, [6]), (3, [20]), (4, [6]), (5, [6])] := (rfl)
theorem T37_loops : T37.loops = [] := (rfl)
def T38 : Tab := ⟨[(0, [0, 1, 2]), (1, [0, 1, 2, 8]), (2, [0, 1, 2, 8, 17]), (3, [6, 7]), (4, [0, 1, 2, 9]), (5, [0, 1, 2, 9, 10]), (6, [0, 1, 2, 9, 10, 11]), (7, [0, 1, 2, 9, 10, 11, 21]), (8, [0, 1, 2, 9, 10, 11]), (9, [0, 1, 2, 9, 10, 11]), (10, [0, 1, 2, 9, 10, 11]), (11, [6, 7])], [(0, [0, 1, 2, 9, 10, 11])], []⟩
theorem T38_sch : T38.sch = [] := (rfl)
theorem T38_reg : T38.reg = [(0, [0, 1, 2]), (1, [0, 1, 2, 8]), (2, [0, 1, 2, 8, 17]), (3, [6, 7]), (4, [0, 1, 2, 9]), (5, [0, 1, 2, 9, 10]), (6, [0, 1, 2, 9, 10, 11]), (7, [0, 1, 2, 9, 10, 11, 21]), (8, [0, 1, 2, 9, 10, 11]), (9, [0, 1, 2, 9, 10, 11]), (10, [0, 1, 2, 9, 10, 11]), (11, [6, 7])] := (rfl)
theorem T38_loops : T38.loops = [(0, [0, 1, 2, 9, 10, 11])] := (rfl)
def T39 : Tab := ⟨[(0, [0, 2]), (1, [0, 2, 4]), (2, [0, 2, 5]), (3, [0, 2, 5, 6, 7]), (4, [2, 5, 34]), (5, [2, 3]), (6, [2, 3])], [], []⟩
theorem T39_sch : T39.sch = [] := (rfl)
theorem T39_reg : T39.reg = [(0, [0, 2]), (1, [0, 2, 4]), (2, [0, 2, 5]), (3, [0, 2, 5, 6, 7]), (4, [2, 5, 34]), (5, [2, 3]), (6, [2, 3])] := (rfl)
theorem T39_loops : T39.loops = [] := (rfl)
def T40 : Tab := ⟨[(0, [0, 2]), (1, [0, 2, 3]), (2, [0, 2, 3, 25]), (3, [2]), (4, [0, 2, 3, 4, 5]), (5, [0, 2, 3, 4, 5, 36]), (6, [2]), (7, [0, 2, 3]), (8, [0, 2, 3, 6, 7]), (9, [0, 2, 3, 6, 62]), (10, [2]), (11, [2]), (12, [2])], [], [(11, ⟨7744, 447, [0, 0, 0, 0, 8, 24, 56, 125, 253, 509, 1023, 2047, 4095], (.rd 0 false (.rd 1 false (.rd 2 false (.rd 3 false (.rd 4 false (.rd 5 false (.wr 6 (.rd 0 true (.rd 1 true (.rd 2 true (.rd 7 false (.rd 8 false (.wr 9 (.rd 1 true (.wr 10 (.wr 11 (.wr 12 .done .no) .no) .no)) .no)))))) .no)))))))⟩)]⟩
theorem T40_sch : T40.sch = [(11, ⟨7744, 447, [0, 0, 0, 0, 8, 24, 56, 125, 253, 509, 1023, 2047, 4095], (.rd 0 false (.rd 1 false (.rd 2 false (.rd 3 false (.rd 4 false (.rd 5 false (.wr 6 (.rd 0 true (.rd 1 true (.rd 2 true (.rd 7 false (.rd 8 false (.wr 9 (.rd 1 true (.wr 10 (.wr 11 (.wr 12 .done .no) .no) .no)) .no)))))) .no)))))))⟩)] := (rfl)
theorem T40_reg : T40.reg = [(0, [0, 2]), (1, [0, 2, 3]), (2, [0, 2, 3, 25]), (3, [2]), (4, [0, 2, 3, 4, 5]), (5, [0, 2, 3, 4, 5, 36]), (6, [2]), (7, [0, 2, 3]), (8, [0, 2, 3, 6, 7]), (9, [0, 2, 3, 6, 62]), (10, [2]), (11, [2]), (12, [2])] := (rfl)
theorem T40_loops : T40.loops = [] := (rfl)
def T41 : Tab := ⟨[(0, [0]), (1, [0])], [], []⟩
theorem T41_sch : T41.sch = [] := (rfl)
theorem T41_reg : T41.reg = [(0, [0]), (1, [0])] := (rfl)
theorem T41_loops : T41.loops = [] := (rfl)
def T42 : Tab := ⟨[(0, [0, 2]), (1, [2])], [], []⟩
theorem T42_sch : T42.sch = [] := (rfl)
theorem T42_reg : T42.reg = [(0, [0, 2]), (1, [2])] := (rfl)
theorem T42_loops : T42.loops = [] := (rfl)
def T43 : Tab := ⟨[(0, [0, 1]), (1, [0, 1, 5]), (2, [0, 1, 5, 11, 12]), (3, [0, 1, 5, 11, 12, 13]), (4, [0, 1, 5, 6, 7, 11, 12]), (5, [0, 1, 5, 6, 11, 12, 23]), (6, [0, 1, 5, 11, 12]), (7, [0, 1, 5, 11, 12]), (8, [0, 1, 5, 11, 12]), (9, [4])], [(0, [0, 1, 5, 11, 12])], []⟩
theorem T43_sch : T43.sch = [] := (rfl)
theorem T43_reg : T43.reg = [(0, [0, 1]), (1, [0, 1, 5]), (2, [0, 1, 5, 11, 12]), (3, [0, 1, 5, 11, 12, 13]), (4, [0, 1, 5, 6, 7, 11, 12]), (5, [0, 1, 5, 6, 11, 12, 23]), (6, [0, 1, 5, 11, 12]), (7, [0, 1, 5, 11, 12]), (8, [0, 1, 5, 11, 12]), (9, [4])] := (rfl)
theorem T43_loops : T43.loops = [(0, [0, 1, 5, 11, 12])] := (rfl)
def T44 : Tab := ⟨[(0, []), (1, [2])], [], []⟩
theorem T44_sch : T44.sch = [] := (rfl)
theorem T44_reg : T44.reg = [(0, []), (1, [2])] := (rfl)
theorem T44_loops : T44.loops = [] := (rfl)
def T45 : Tab := ⟨[(0, [0, 1]), (1, [4])], [], []⟩
theorem T45_sch : T45.sch = [] := (rfl)
theorem T45_reg : T45.reg = [(0, [0, 1]), (1, [4])] := (rfl)
theorem T45_loops : T45.loops = [] := (rfl)
def T46 : Tab := ⟨[(0, [0]), (1, [2])], [], []⟩
theorem T46_sch : T46.sch = [] := (rfl)
theorem T46_reg : T46.reg = [(0, [0]), (1, [2])] := (rfl)
theorem T46_loops : T46.loops = [] := (rfl)
def T47 : Tab := ⟨[(0, [1, 2, 3, 4, 8]), (1, [1, 2, 3, 4, 8, 20]), (2, [8, 9]), (3, [3, 8, 10, 11]), (4, [8, 10, 45]), (5, [8, 9]), (6, [8, 9])], [], [(3, ⟨7264, 927, [0, 1, 0, 0, 0, 24, 63, 127, 255, 255, 0, 1535, 4095], (.rd 0 false (.rd 1 false (.rd 2 false (.rd 3 false (.rd 4 false (.wr 5 (.rd 0 true (.rd 1 true (.rd 2 true (.wr 6 (.rd 7 false (.rd 8 false (.rd 9 false (.wr 10 (.rd 7 true (.rd 8 true (.rd 9 true (.wr 11 (.rd 9 true (.wr 12 .done .no)) .no)))) .no)))) (.wr 10 (.rd 0 true (.rd 1 true (.rd 2 true (.wr 6 (.rd 7 false (.rd 8 false (.rd 9 false (.wr 11 (.rd 9 true (.wr 12 .done .no)) .no)))) .no)))) .no))))) (.wr 10 (.rd 0 true (.rd 1 true (.rd 2 true (.rd 3 true (.rd 4 true (.wr 5 (.rd 0 true (.rd 1 true (.rd 2 true (.wr 6 (.rd 7 false (.rd 8 false (.rd 9 false (.wr 11 (.rd 9 true (.wr 12 .done .no)) .no)))) .no)))) .no)))))) .no)))))))⟩)]⟩
theorem T47_sch : T47.sch = [(3, ⟨7264, 927, [0, 1, 0, 0, 0, 24, 63, 127, 255, 255, 0, 1535, 4095], (.rd 0 false (.rd 1 false (.rd 2 false (.rd 3 false (.rd 4 false (.wr 5 (.rd 0 true (.rd 1 true (.rd 2 true (.wr 6 (.rd 7 false (.rd 8 false (.rd 9 false (.wr 10 (.rd 7 true (.rd 8 true (.rd 9 true (.wr 11 (.rd 9 true (.wr 12 .done .no)) .no)))) .no)))) (.wr 10 (.rd 0 true (.rd 1 true (.rd 2 true (.wr 6 (.rd 7 false (.rd 8 false (.rd 9 false (.wr 11 (.rd 9 true (.wr 12 .done .no)) .no)))) .no)))) .no))))) (.wr 10 (.rd 0 true (.rd 1 true (.rd 2 true (.rd 3 true (.rd 4 true (.wr 5 (.rd 0 true (.rd 1 true (.rd 2 true (.wr 6 (.rd 7 false (.rd 8 false (.rd 9 false (.wr 11 (.rd 9 true (.wr 12 .done .no)) .no)))) .no)))) .no)))))) .no)))))))⟩)] := (rfl)
theorem T47_reg : T47.reg = [(0, [1, 2, 3, 4, 8]), (1, [1, 2, 3, 4, 8, 20]), (2, [8, 9]), (3, [3, 8, 10, 11]), (4, [8, 10, 45]), (5, [8, 9]), (6, [8, 9])] := (rfl)
theorem T47_loops : T47.loops = [] := (rfl)
def T49 : Tab := ⟨[(0, [0, 2]), (1, [0, 2, 4]), (2, [0, 2, 4, 5]), (3, [0, 2, 4, 5, 6]), (4, [0, 2, 4, 5, 7]), (5, [0, 2, 4, 5, 26]), (6, [0, 2, 5]), (7, [0, 2, 5]), (8, [0, 2, 5, 8, 9]), (9, [2, 5, 44]), (10, [2, 3]), (11, [2, 3])], [], []⟩
theorem T49_sch : T49.sch = [] := (rfl)
theorem T49_reg : T49.reg = [(0, [0, 2]), (1, [0, 2, 4]), (2, [0, 2, 4, 5]), (3, [0, 2, 4, 5, 6]), (4, [0, 2, 4, 5, 7]), (5, [0, 2, 4, 5, 26]), (6, [0, 2, 5]), (7, [0, 2, 5]), (8, [0, 2, 5, 8, 9]), (9, [2, 5, 44]), (10, [2, 3]), (11, [2, 3])] := (rfl)
theorem T49_loops : T49.loops = [] := (rfl)
def T56 : Tab := ⟨[(0, [0]), (1, [2])], [], []⟩
theorem T56_sch : T56.sch = [] := (rfl)
theorem T56_reg : T56.reg = [(0, [0]), (1, [2])] := (rfl)
theorem T56_loops : T56.loops = [] := (rfl)
def T58 : Tab := ⟨[(0, [0, 1, 2]), (1, [6])], [], []⟩
theorem T58_sch : T58.sch = [] := (rfl)
theorem T58_reg : T58.reg = [(0, [0, 1, 2]), (1, [6])] := (rfl)
theorem T58_loops : T58.loops = [] := (rfl)
def T59 : Tab := ⟨[(0, [0, 1]), (1, [0, 1, 6]), (2, [0, 1, 11]), (3, [4, 5]), (4, [4, 5])], [], []⟩
theorem T59_sch : T59.sch = [] := (rfl)
theorem T59_reg : T59.reg = [(0, [0, 1]), (1, [0, 1, 6]), (2, [0, 1, 11]), (3, [4, 5]), (4, [4, 5])] := (rfl)
theorem T59_loops : T59.loops = [] := (rfl)
def T61 : Tab := ⟨[(0, [0]), (1, [0, 3]), (2, [0, 3, 9]), (3, [0, 3, 9, 10]), (4, [0, 3, 4, 9]), (5, [0, 3, 4, 5, 6, 9]), (6, [0, 3, 4, 5, 6, 7, 8, 9]), (7, [0, 3, 4, 5, 6, 7, 9, 30]), (8, [0, 3, 9]), (9, [0, 3, 4, 5, 9, 42]), (10, [0, 3, 9]), (11, [0, 3, 9]), (12, [3]), (13, [2])], [(0, [0, 3, 9])], []⟩
theorem T61_sch : T61.sch = [] := (rfl)
theorem T61_reg : T61.reg = [(0, [0]), (1, [0, 3]), (2, [0, 3, 9]), (3, [0, 3, 9, 10]), (4, [0, 3, 4, 9]), (5, [0, 3, 4, 5, 6, 9]), (6, [0, 3, 4, 5, 6, 7, 8, 9]), (7, [0, 3, 4, 5, 6, 7, 9, 30]), (8, [0, 3, 9]), (9, [0, 3, 4, 5, 9, 42]), (10, [0, 3, 9]), (11, [0, 3, 9]), (12, [3]), (13, [2])] := (rfl)
theorem T61_loops : T61.loops = [(0, [0, 3, 9])] := (rfl)
def T63 : Tab := ⟨[(0, [1]), (1, [1, 6]), (2, [2, 3]), (3, [2, 3])], [], []⟩
theorem T63_sch : T63.sch = [] := (rfl)
theorem T63_reg : T63.reg = [(0, [1]), (1, [1, 6]), (2, [2, 3]), (3, [2, 3])] := (rfl)
theorem T63_loops : T63.loops = [] := (rfl)
def T64 : Tab := ⟨[(0, [0, 1, 4]), (1, [4])], [], []⟩
theorem T64_sch : T64.sch = [] := (rfl)
theorem T64_reg : T64.reg = [(0, [0, 1, 4]), (1, [4])] := (rfl)
theorem T64_loops : T64.loops = [] := (rfl)
def T65 : Tab := ⟨[(0, [0, 1, 2]), (1, [0, 1, 2, 8]), (2, [6, 7]), (3, [1, 2, 15]), (4, [6, 7]), (5, [6, 7])], [], []⟩
theorem T65_sch : T65.sch = [] := (rfl)
theorem T65_reg : T65.reg = [(0, [0, 1, 2]), (1, [0, 1, 2, 8]), (2, [6, 7]), (3, [1, 2, 15]), (4, [6, 7]), (5, [6, 7])] := (rfl)
theorem T65_loops : T65.loops = [] := (rfl)
def T66 : Tab := ⟨[(0, [1]), (1, [1, 7]), (2, [2, 3]), (3, [1, 4]), (4, [1, 4, 16]), (5, [1, 4]), (6, [4, 20]), (7, [4]), (8, [2, 3])], [], []⟩
theorem T66_sch : T66.sch = [] := (rfl)
theorem T66_reg : T66.reg = [(0, [1]), (1, [1, 7]), (2, [2, 3]), (3, [1, 4]), (4, [1, 4, 16]), (5, [1, 4]), (6, [4, 20]), (7, [4]), (8, [2, 3])] := (rfl)
theorem T66_loops : T66.loops = [] := (rfl)
def T67 : Tab := ⟨[(0, [1]), (1, [1, 4]), (2, [1, 9]), (3, [2, 3]), (4, [1, 5]), (5, [1, 5, 18]), (6, [1, 5]), (7, [5, 22]), (8, [5]), (9, [2, 3])], [], []⟩
theorem T67_sch : T67.sch = [] := (rfl)
theorem T67_reg : T67.reg = [(0, [1]), (1, [1, 4]), (2, [1, 9]), (3, [2, 3]), (4, [1, 5]), (5, [1, 5, 18]), (6, [1, 5]), (7, [5, 22]), (8, [5]), (9, [2, 3])] := (rfl)
theorem T67_loops : T67.loops = [] := (rfl)
def T68 : Tab := ⟨[(0, [0, 1, 2]), (1, [0, 1, 2, 9]), (2, [6, 7]), (3, [0, 1, 2, 20]), (4, [6, 7]), (5, [0, 1, 2, 25]), (6, [6, 7]), (7, [0, 1, 2, 8]), (8, [6, 7])], [], []⟩
theorem T68_sch : T68.sch = [] := (rfl)
theorem T68_reg : T68.reg = [(0, [0, 1, 2]), (1, [0, 1, 2, 9]), (2, [6, 7]), (3, [0, 1, 2, 20]), (4, [6, 7]), (5, [0, 1, 2, 25]), (6, [6, 7]), (7, [0, 1, 2, 8]), (8, [6, 7])] := (rfl)
theorem T68_loops : T68.loops = [] := (rfl)
def T69 : Tab := ⟨[(0, [0, 1, 2]), (1, [0, 1, 2, 16]), (2, [6]), (3, [0, 1, 20]), (4, [6]), (5, [31]), (6, [6]), (7, [6])], [], []⟩
theorem T69_sch : T69.sch = [] := (rfl)
theorem T69_reg : T69.reg = [(0, [0, 1, 2]), (1, [0, 1, 2, 16]), (2, [6]), (3, [0, 1, 20]), (4, [6]), (5, [31]), (6, [6]), (7, [6])] := (rfl)
theorem T69_loops : T69.loops = [] := (rfl)
def T70 : Tab := ⟨[(0, [0]), (1, [2])], [], []⟩
theorem T70_sch : T70.sch = [] := (rfl)
theorem T70_reg : T70.reg = [(0, [0]), (1, [2])] := (rfl)
theorem T70_loops : T70.loops = [] := (rfl)
def T71 : Tab := ⟨[(0, [0, 1]), (1, [0, 1, 10]), (2, [4]), (3, [0, 1, 12]), (4, [4]), (5, [0, 16]), (6, [4]), (7, [4])], [], []⟩
theorem T71_sch : T71.sch = [] := (rfl)
theorem T71_reg : T71.reg = [(0, [0, 1]), (1, [0, 1, 10]), (2, [4]), (3, [0, 1, 12]), (4, [4]), (5, [0, 16]), (6, [4]), (7, [4])] := (rfl)
theorem T71_loops : T71.loops = [] := (rfl)
def T72 : Tab := ⟨[(0, [0, 1, 2, 7]), (1, [0, 1, 7, 8, 9]), (2, [1, 7, 8, 9, 47]), (3, [1, 7, 8, 9]), (4, [6, 7])], [], [(1, ⟨169869312, 98566143, [0, 1, 3, 7, 15, 0, 32, 96, 224, 480, 0, 1024, 3072, 7168, 0, 16384, 0, 0, 131072, 393216, 917504, 2097151, 4194303, 8388607, 8388607, 0, 50331647, 134217727], (.rd 0 false (.rd 1 false (.rd 2 false (.rd 3 false (.rd 4 false (.rd 5 false (.rd 6 false (.rd 7 false (.rd 8 false (.rd 9 false (.rd 10 false (.rd 11 false (.rd 12 false (.rd 13 false (.rd 14 false (.rd 15 false (.rd 16 false (.rd 17 false (.rd 18 false (.rd 19 false (.rd 20 false (.wr 21 (.rd 22 false (.rd 23 false (.rd 24 false (.wr 25 (.rd 22 true (.rd 23 true (.rd 24 true (.rd 26 false (.wr 27 .done .no))))) .no)))) (.wr 25 (.rd 0 true (.rd 1 true (.rd 2 true (.rd 3 true (.rd 4 true (.rd 5 true (.rd 6 true (.rd 7 true (.rd 8 true (.rd 9 true (.rd 10 true (.rd 11 true (.rd 12 true (.rd 13 true (.rd 14 true (.rd 15 true (.rd 16 true (.rd 17 true (.rd 18 true (.rd 19 true (.rd 20 true (.wr 21 (.rd 22 false (.rd 23 false (.rd 24 false (.rd 26 false (.wr 27 .done .no))))) .no)))))))))))))))))))))) .no)))))))))))))))))))))))⟩), (4, ⟨128, 127, [0, 1, 0, 4, 15, 0, 31, 127], (.rd 0 false (.rd 1 false (.rd 2 false (.rd 3 false (.rd 4 false (.rd 5 false (.rd 6 false (.wr 7 .done .no))))))))⟩)]⟩
theorem T72_sch : T72.sch = [(1, ⟨169869312, 98566143, [0, 1, 3, 7, 15, 0, 32, 96, 224, 480, 0, 1024, 3072, 7168, 0, 16384, 0, 0, 131072, 393216, 917504, 2097151, 4194303, 8388607, 8388607, 0, 50331647, 134217727], (.rd 0 false (.rd 1 false (.rd 2 false (.rd 3 false (.rd 4 false (.rd 5 false (.rd 6 false (.rd 7 false (.rd 8 false (.rd 9 false (.rd 10 false (.rd 11 false (.rd 12 false (.rd 13 false (.rd 14 false (.rd 15 false (.rd 16 false (.rd 17 false (.rd 18 false (.rd 19 false (.rd 20 false (.wr 21 (.rd 22 false (.rd 23 false (.rd 24 false (.wr 25 (.rd 22 true (.rd 23 true (.rd 24 true (.rd 26 false (.wr 27 .done .no))))) .no)))) (.wr 25 (.rd 0 true (.rd 1 true (.rd 2 true (.rd 3 true (.rd 4 true (.rd 5 true (.rd 6 true (.rd 7 true (.rd 8 true (.rd 9 true (.rd 10 true (.rd 11 true (.rd 12 true (.rd 13 true (.rd 14 true (.rd 15 true (.rd 16 true (.rd 17 true (.rd 18 true (.rd 19 true (.rd 20 true (.wr 21 (.rd 22 false (.rd 23 false (.rd 24 false (.rd 26 false (.wr 27 .done .no))))) .no)))))))))))))))))))))) .no)))))))))))))))))))))))⟩), (4, ⟨128, 127, [0, 1, 0, 4, 15, 0, 31, 127], (.rd 0 false (.rd 1 false (.rd 2 false (.rd 3 false (.rd 4 false (.rd 5 false (.rd 6 false (.wr 7 .done .no))))))))⟩)] := (rfl)
theorem T72_reg : T72.reg = [(0, [0, 1, 2, 7]), (1, [0, 1, 7, 8, 9]), (2, [1, 7, 8, 9, 47]), (3, [1, 7, 8, 9]), (4, [6, 7])] := (rfl)
theorem T72_loops : T72.loops = [] := (rfl)
def T73 : Tab := ⟨[(0, [0, 1, 2]), (1, [8, 9]), (2, [8, 9, 10]), (3, [8, 9, 10, 11]), (4, [8, 9, 10, 11, 23]), (5, [8, 9, 10, 11]), (6, [8, 9, 10, 11]), (7, [6, 7])], [(0, [8, 9, 10, 11])], []⟩
theorem T73_sch : T73.sch = [] := (rfl)
theorem T73_reg : T73.reg = [(0, [0, 1, 2]), (1, [8, 9]), (2, [8, 9, 10]), (3, [8, 9, 10, 11]), (4, [8, 9, 10, 11, 23]), (5, [8, 9, 10, 11]), (6, [8, 9, 10, 11]), (7, [6, 7])] := (rfl)
theorem T73_loops : T73.loops = [(0, [8, 9, 10, 11])] := (rfl)
def T74 : Tab := ⟨[(0, [0, 2]), (1, [0, 2, 4]), (2, [0, 2, 4, 21]), (3, [2, 4]), (4, [2, 4]), (5, [2, 4, 32]), (6, [2, 3]), (7, [2, 3])], [], []⟩
theorem T74_sch : T74.sch = [] := (rfl)
theorem T74_reg : T74.reg = [(0, [0, 2]), (1, [0, 2, 4]), (2, [0, 2, 4, 21]), (3, [2, 4]), (4, [2, 4]), (5, [2, 4, 32]), (6, [2, 3]), (7, [2, 3])] := (rfl)
theorem T74_loops : T74.loops = [] := (rfl)
def T75 : Tab := ⟨[(0, [0]), (1, [2])], [], []⟩
theorem T75_sch : T75.sch = [] := (rfl)
theorem T75_reg : T75.reg = [(0, [0]), (1, [2])] := (rfl)
theorem T75_loops : T75.loops = [] := (rfl)
def T76 : Tab := ⟨[(0, [0, 2]), (1, [2]), (2, [2])], [], []⟩
theorem T76_sch : T76.sch = [] := (rfl)
theorem T76_reg : T76.reg = [(0, [0, 2]), (1, [2]), (2, [2])] := (rfl)
theorem T76_loops : T76.loops = [] := (rfl)
def T77 : Tab := ⟨[(0, [1, 2]), (1, [2])], [], []⟩
theorem T77_sch : T77.sch = [] := (rfl)
theorem T77_reg : T77.reg = [(0, [1, 2]), (1, [2])] := (rfl)
theorem T77_loops : T77.loops = [] := (rfl)
def T78 : Tab := ⟨[(0, [0, 1]), (1, [4])], [], []⟩
theorem T78_sch : T78.sch = [] := (rfl)
theorem T78_reg : T78.reg = [(0, [0, 1]), (1, [4])] := (rfl)
theorem T78_loops : T78.loops = [] := (rfl)
def T79 : Tab := ⟨[(0, [0, 1]), (1, [4])], [], []⟩
theorem T79_sch : T79.sch = [] := (rfl)
theorem T79_reg : T79.reg = [(0, [0, 1]), (1, [4])] := (rfl)
theorem T79_loops : T79.loops = [] := (rfl)
def T80 : Tab := ⟨[(0, [0, 1]), (1, [4])], [], []⟩
theorem T80_sch : T80.sch = [] := (rfl)
theorem T80_reg : T80.reg = [(0, [0, 1]), (1, [4])] := (rfl)
theorem T80_loops : T80.loops = [] := (rfl)
def T81 : Tab := ⟨[(0, [0, 1]), (1, [4])], [], []⟩
theorem T81_sch : T81.sch = [] := (rfl)
theorem T81_reg : T81.reg = [(0, [0, 1]), (1, [4])] := (rfl)
theorem T81_loops : T81.loops = [] := (rfl)
def T82 : Tab := ⟨[(0, [0, 1]), (1, [4])], [], []⟩
theorem T82_sch : T82.sch = [] := (rfl)
theorem T82_reg : T82.reg = [(0, [0, 1]), (1, [4])] := (rfl)
theorem T82_loops : T82.loops = [] := (rfl)
def T83 : Tab := ⟨[(0, [3, 4, 5, 6]), (1, [6])], [], []⟩
theorem T83_sch : T83.sch = [] := (rfl)
theorem T83_reg : T83.reg = [(0, [3, 4, 5, 6]), (1, [6])] := (rfl)
theorem T83_loops : T83.loops = [] := (rfl)
def T84 : Tab := ⟨[(0, [1, 2]), (1, [2])], [], []⟩
theorem T84_sch : T84.sch = [] := (rfl)
theorem T84_reg : T84.reg = [(0, [1, 2]), (1, [2])] := (rfl)
theorem T84_loops : T84.loops = [] := (rfl)
def T85 : Tab := ⟨[(0, [0, 1]), (1, [4])], [], []⟩
theorem T85_sch : T85.sch = [] := (rfl)
theorem T85_reg : T85.reg = [(0, [0, 1]), (1, [4])] := (rfl)
theorem T85_loops : T85.loops = [] := (rfl)
def T86 : Tab := ⟨[(0, [0, 1]), (1, [4])], [], []⟩
theorem T86_sch : T86.sch = [] := (rfl)
theorem T86_reg : T86.reg = [(0, [0, 1]), (1, [4])] := (rfl)
theorem T86_loops : T86.loops = [] := (rfl)
def T87 : Tab := ⟨[(0, [0, 1]), (1, [4])], [], []⟩
theorem T87_sch : T87.sch = [] := (rfl)
theorem T87_reg : T87.reg = [(0, [0, 1]), (1, [4])] := (rfl)
theorem T87_loops : T87.loops = [] := (rfl)
def T88 : Tab := ⟨[(0, []), (1, [4])], [], []⟩
theorem T88_sch : T88.sch = [] := (rfl)
theorem T88_reg : T88.reg = [(0, []), (1, [4])] := (rfl)
theorem T88_loops : T88.loops = [] := (rfl)
def T89 : Tab := ⟨[(0, [0, 2]), (1, [2]), (2, [2])], [], [(1, ⟨125829120, 8388607, [0, 1, 3, 7, 0, 16, 48, 112, 240, 0, 0, 1024, 3072, 7168, 15360, 0, 32768, 98304, 229376, 491520, 15, 1048591, 4193791, 8388095, 16777215, 33554431, 67108863], (.rd 0 false (.rd 1 false (.rd 2 false (.rd 3 false (.rd 4 false (.rd 5 false (.rd 6 false (.rd 7 false (.rd 8 false (.rd 9 false (.rd 10 false (.rd 11 false (.rd 12 false (.rd 13 false (.rd 14 false (.rd 15 false (.rd 16 false (.rd 17 false (.rd 18 false (.rd 19 false (.rd 20 false (.rd 21 false (.rd 22 false (.wr 23 (.rd 9 true (.wr 24 (.wr 25 (.wr 26 .done .no) .no) .no)) .no))))))))))))))))))))))))⟩)]⟩
theorem T89_sch : T89.sch = [(1, ⟨125829120, 8388607, [0, 1, 3, 7, 0, 16, 48, 112, 240, 0, 0, 1024, 3072, 7168, 15360, 0, 32768, 98304, 229376, 491520, 15, 1048591, 4193791, 8388095, 16777215, 33554431, 67108863], (.rd 0 false (.rd 1 false (.rd 2 false (.rd 3 false (.rd 4 false (.rd 5 false (.rd 6 false (.rd 7 false (.rd 8 false (.rd 9 false (.rd 10 false (.rd 11 false (.rd 12 false (.rd 13 false (.rd 14 false (.rd 15 false (.rd 16 false (.rd 17 false (.rd 18 false (.rd 19 false (.rd 20 false (.rd 21 false (.rd 22 false (.wr 23 (.rd 9 true (.wr 24 (.wr 25 (.wr 26 .done .no) .no) .no)) .no))))))))))))))))))))))))⟩)] := (rfl)
theorem T89_reg : T89.reg = [(0, [0, 2]), (1, [2]), (2, [2])] := (rfl)
theorem T89_loops : T89.loops = [] := (rfl)
def T90 : Tab := ⟨[(0, [0, 2]), (1, [2]), (2, [2])], [], [(1, ⟨245760, 16383, [0, 0, 2, 6, 14, 0, 32, 96, 224, 480, 30, 1054, 4094, 8190, 16382, 32767, 65535, 131071], (.rd 0 false (.rd 1 false (.rd 2 false (.rd 3 false (.rd 4 false (.rd 5 false (.rd 6 false (.rd 7 false (.rd 8 false (.rd 9 false (.rd 10 false (.rd 11 false (.rd 12 false (.rd 13 false (.wr 14 (.rd 0 true (.wr 15 (.wr 16 (.wr 17 .done .no) .no) .no)) .no)))))))))))))))⟩)]⟩
theorem T90_sch : T90.sch = [(1, ⟨245760, 16383, [0, 0, 2, 6, 14, 0, 32, 96, 224, 480, 30, 1054, 4094, 8190, 16382, 32767, 65535, 131071], (.rd 0 false (.rd 1 false (.rd 2 false (.rd 3 false (.rd 4 false (.rd 5 false (.rd 6 false (.rd 7 false (.rd 8 false (.rd 9 false (.rd 10 false (.rd 11 false (.rd 12 false (.rd 13 false (.wr 14 (.rd 0 true (.wr 15 (.wr 16 (.wr 17 .done .no) .no) .no)) .no)))))))))))))))⟩)] := (rfl)
theorem T90_reg : T90.reg = [(0, [0, 2]), (1, [2]), (2, [2])] := (rfl)
theorem T90_loops : T90.loops = [] := (rfl)
def T91 : Tab := ⟨[(0, [0, 3, 4]), (1, [4])], [], []⟩
theorem T91_sch : T91.sch = [] := (rfl)
theorem T91_reg : T91.reg = [(0, [0, 3, 4]), (1, [4])] := (rfl)
theorem T91_loops : T91.loops = [] := (rfl)
def T92 : Tab := ⟨[(0, [0, 2]), (1, [0, 2, 8]), (2, [2]), (3, [2]), (4, [2])], [], []⟩
theorem T92_sch : T92.sch = [] := (rfl)
theorem T92_reg : T92.reg = [(0, [0, 2]), (1, [0, 2, 8]), (2, [2]), (3, [2]), (4, [2])] := (rfl)
theorem T92_loops : T92.loops = [] := (rfl)
def T93 : Tab := ⟨[(0, [0, 2]), (1, [0, 2, 8]), (2, [2]), (3, [0, 2]), (4, [0, 2, 52]), (5, [2]), (6, [2])], [], []⟩
theorem T93_sch : T93.sch = [] := (rfl)
theorem T93_reg : T93.reg = [(0, [0, 2]), (1, [0, 2, 8]), (2, [2]), (3, [0, 2]), (4, [0, 2, 52]), (5, [2]), (6, [2])] := (rfl)
theorem T93_loops : T93.loops = [] := (rfl)
def T94 : Tab := ⟨[(0, [0, 2]), (1, [0, 2, 10]), (2, [0, 2, 4]), (3, [0, 2, 20]), (4, [2]), (5, [2])], [], []⟩
theorem T94_sch : T94.sch = [] := (rfl)
theorem T94_reg : T94.reg = [(0, [0, 2]), (1, [0, 2, 10]), (2, [0, 2, 4]), (3, [0, 2, 20]), (4, [2]), (5, [2])] := (rfl)
theorem T94_loops : T94.loops = [] := (rfl)
def T95 : Tab := ⟨[(0, [0, 2]), (1, [2]), (2, [2])], [], [(1, ⟨802816, 245759, [0, 1, 3, 7, 0, 16, 48, 112, 240, 0, 512, 1536, 3584, 7680, 15872, 32256, 15, 65551, 262143, 524287], (.rd 0 false (.rd 1 false (.rd 2 false (.rd 3 false (.rd 4 false (.rd 5 false (.rd 6 false (.rd 7 false (.rd 8 false (.rd 9 false (.rd 10 false (.rd 11 false (.rd 12 false (.rd 13 false (.rd 16 false (.rd 17 false (.wr 14 (.rd 0 true (.rd 1 true (.rd 2 true (.rd 3 true (.rd 4 true (.rd 5 true (.rd 6 true (.rd 7 true (.rd 8 true (.rd 15 false (.rd 16 true (.rd 17 true (.wr 18 (.wr 19 .done .no) .no))))))))))))) .no)))))))))))))))))⟩)]⟩
theorem T95_sch : T95.sch = [(1, ⟨802816, 245759, [0, 1, 3, 7, 0, 16, 48, 112, 240, 0, 512, 1536, 3584, 7680, 15872, 32256, 15, 65551, 262143, 524287], (.rd 0 false (.rd 1 false (.rd 2 false (.rd 3 false (.rd 4 false (.rd 5 false (.rd 6 false (.rd 7 false (.rd 8 false (.rd 9 false (.rd 10 false (.rd 11 false (.rd 12 false (.rd 13 false (.rd 16 false (.rd 17 false (.wr 14 (.rd 0 true (.rd 1 true (.rd 2 true (.rd 3 true (.rd 4 true (.rd 5 true (.rd 6 true (.rd 7 true (.rd 8 true (.rd 15 false (.rd 16 true (.rd 17 true (.wr 18 (.wr 19 .done .no) .no))))))))))))) .no)))))))))))))))))⟩)] := (rfl)
theorem T95_reg : T95.reg = [(0, [0, 2]), (1, [2]), (2, [2])] := (rfl)
theorem T95_loops : T95.loops = [] := (rfl)
def T96 : Tab := ⟨[(0, [0]), (1, [0, 3, 4]), (2, [0, 3, 11]), (3, [2]), (4, [0, 3]), (5, [0, 3]), (6, [3]), (7, [2])], [], []⟩
theorem T96_sch : T96.sch = [] := (rfl)
theorem T96_reg : T96.reg = [(0, [0]), (1, [0, 3, 4]), (2, [0, 3, 11]), (3, [2]), (4, [0, 3]), (5, [0, 3]), (6, [3]), (7, [2])] := (rfl)
theorem T96_loops : T96.loops = [] := (rfl)
def T97 : Tab := ⟨[(0, [0, 2]), (1, [0, 2, 3]), (2, [0, 2, 3, 4]), (3, [0, 2, 3, 31]), (4, [0, 2, 3]), (5, [2]), (6, [2])], [], []⟩
theorem T97_sch : T97.sch = [] := (rfl)
theorem T97_reg : T97.reg = [(0, [0, 2]), (1, [0, 2, 3]), (2, [0, 2, 3, 4]), (3, [0, 2, 3, 31]), (4, [0, 2, 3]), (5, [2]), (6, [2])] := (rfl)
theorem T97_loops : T97.loops = [] := (rfl)
def T98 : Tab := ⟨[(0, [0, 2]), (1, [2]), (2, [2])], [], []⟩
theorem T98_sch : T98.sch = [] := (rfl)
theorem T98_reg : T98.reg = [(0, [0, 2]), (1, [2]), (2, [2])] := (rfl)
theorem T98_loops : T98.loops = [] := (rfl)
def T99 : Tab := ⟨[(0, [0, 4, 5]), (1, [6])], [], []⟩
theorem T99_sch : T99.sch = [] := (rfl)
theorem T99_reg : T99.reg = [(0, [0, 4, 5]), (1, [6])] := (rfl)
theorem T99_loops : T99.loops = [] := (rfl)
def T100 : Tab := ⟨[(0, [2]), (1, [2])], [], []⟩
theorem T100_sch : T100.sch = [] := (rfl)
theorem T100_reg : T100.reg = [(0, [2]), (1, [2])] := (rfl)
theorem T100_loops : T100.loops = [] := (rfl)
def T101 : Tab := ⟨[(0, [0]), (1, [2])], [], []⟩
theorem T101_sch : T101.sch = [] := (rfl)
theorem T101_reg : T101.reg = [(0, [0]), (1, [2])] := (rfl)
theorem T101_loops : T101.loops = [] := (rfl)
def T102 : Tab := ⟨[(0, [0, 1, 2, 6]), (1, [0, 6, 8, 9]), (2, [0, 6, 8, 9, 20]), (3, [6, 7]), (4, [6, 10]), (5, [6, 7])], [], []⟩
theorem T102_sch : T102.sch = [] := (rfl)
theorem T102_reg : T102.reg = [(0, [0, 1, 2, 6]), (1, [0, 6, 8, 9]), (2, [0, 6, 8, 9, 20]), (3, [6, 7]), (4, [6, 10]), (5, [6, 7])] := (rfl)
theorem T102_loops : T102.loops = [] := (rfl)
def T103 : Tab := ⟨[(0, [0, 1]), (1, [0, 1, 5]), (2, [4]), (3, [0, 1, 12]), (4, [4]), (5, [0, 17]), (6, [4]), (7, [4])], [], []⟩
theorem T103_sch : T103.sch = [] := (rfl)
theorem T103_reg : T103.reg = [(0, [0, 1]), (1, [0, 1, 5]), (2, [4]), (3, [0, 1, 12]), (4, [4]), (5, [0, 17]), (6, [4]), (7, [4])] := (rfl)
theorem T103_loops : T103.loops = [] := (rfl)
def T105 : Tab := ⟨[(0, [0]), (1, [3]), (2, [3, 4]), (3, [3, 4]), (4, [3, 4]), (5, [2]), (6, [3, 8]), (7, [3, 8]), (8, [3, 8]), (9, [3, 8]), (10, [3, 8]), (11, [2]), (12, [3, 14]), (13, [3, 14]), (14, [3, 14]), (15, [3, 14]), (16, [3, 14]), (17, [3, 14]), (18, [3, 14]), (19, [2]), (20, [3, 22]), (21, [3, 22]), (22, [3, 22]), (23, [2]), (24, [3, 26]), (25, [3, 26]), (26, [2]), (27, [3, 29]), (28, [2]), (29, [3, 31]), (30, [2]), (31, [3, 33]), (32, [3, 33]), (33, [33]), (34, [2]), (35, [2])], [], []⟩
theorem T105_sch : T105.sch = [] := (rfl)
theorem T105_reg : T105.reg = [(0, [0]), (1, [3]), (2, [3, 4]), (3, [3, 4]), (4, [3, 4]), (5, [2]), (6, [3, 8]), (7, [3, 8]), (8, [3, 8]), (9, [3, 8]), (10, [3, 8]), (11, [2]), (12, [3, 14]), (13, [3, 14]), (14, [3, 14]), (15, [3, 14]), (16, [3, 14]), (17, [3, 14]), (18, [3, 14]), (19, [2]), (20, [3, 22]), (21, [3, 22]), (22, [3, 22]), (23, [2]), (24, [3, 26]), (25, [3, 26]), (26, [2]), (27, [3, 29]), (28, [2]), (29, [3, 31]), (30, [2]), (31, [3, 33]), (32, [3, 33]), (33, [33]), (34, [2]), (35, [2])] := (rfl)
theorem T105_loops : T105.loops = [] := (rfl)
def T106 : Tab := ⟨[(0, [0, 1]), (1, [0, 1, 5]), (2, [0, 1, 5, 9]), (3, [0, 1, 5]), (4, [0, 1, 5, 16]), (5, [4]), (6, [4])], [(0, [0, 1, 5])], []⟩
theorem T106_sch : T106.sch = [] := (rfl)
theorem T106_reg : T106.reg = [(0, [0, 1]), (1, [0, 1, 5]), (2, [0, 1, 5, 9]), (3, [0, 1, 5]), (4, [0, 1, 5, 16]), (5, [4]), (6, [4])] := (rfl)
theorem T106_loops : T106.loops = [(0, [0, 1, 5])] := (rfl)
def T107 : Tab := ⟨[(0, [1]), (1, [1, 4]), (2, [1, 8]), (3, [2, 3]), (4, [2, 3])], [], []⟩
theorem T107_sch : T107.sch = [] := (rfl)
theorem T107_reg : T107.reg = [(0, [1]), (1, [1, 4]), (2, [1, 8]), (3, [2, 3]), (4, [2, 3])] := (rfl)
theorem T107_loops : T107.loops = [] := (rfl)
def T113 : Tab := ⟨[(0, [0, 1]), (1, [4])], [], []⟩
theorem T113_sch : T113.sch = [] := (rfl)
theorem T113_reg : T113.reg = [(0, [0, 1]), (1, [4])] := (rfl)
theorem T113_loops : T113.loops = [] := (rfl)
def T114 : Tab := ⟨[(0, [])], [], []⟩
theorem T114_sch : T114.sch = [] := (rfl)
theorem T114_reg : T114.reg = [(0, [])] := (rfl)
theorem T114_loops : T114.loops = [] := (rfl)
def T115 : Tab := ⟨[(0, [2, 3]), (1, [2, 3, 9]), (2, [11]), (3, [4]), (4, [4]), (5, [4])], [], []⟩
theorem T115_sch : T115.sch = [] := (rfl)
theorem T115_reg : T115.reg = [(0, [2, 3]), (1, [2, 3, 9]), (2, [11]), (3, [4]), (4, [4]), (5, [4])] := (rfl)
theorem T115_loops : T115.loops = [] := (rfl)
def T116 : Tab := ⟨[(0, [0, 1]), (1, [0, 1, 5]), (2, [0, 1, 5, 6]), (3, [0, 1, 6, 11]), (4, [12]), (5, [4]), (6, [4]), (7, [0, 1, 13]), (8, [4]), (9, [0, 1, 16]), (10, [4]), (11, [19]), (12, [4]), (13, [4])], [], []⟩
theorem T116_sch : T116.sch = [] := (rfl)
theorem T116_reg : T116.reg = [(0, [0, 1]), (1, [0, 1, 5]), (2, [0, 1, 5, 6]), (3, [0, 1, 6, 11]), (4, [12]), (5, [4]), (6, [4]), (7, [0, 1, 13]), (8, [4]), (9, [0, 1, 16]), (10, [4]), (11, [19]), (12, [4]), (13, [4])] := (rfl)
theorem T116_loops : T116.loops = [] := (rfl)
def T117 : Tab := ⟨[(0, [1]), (1, [1, 3]), (2, [1, 3]), (3, [1, 3, 4]), (4, [1, 3, 4, 16]), (5, [1, 3, 4, 16, 17, 18]), (6, [1, 3, 4, 6, 16]), (7, [1, 3, 4, 16, 20]), (8, [1, 3, 4, 16, 20, 21]), (9, [1, 3, 4, 16]), (10, [1, 3, 4, 16, 20, 30]), (11, [1, 3, 4, 16]), (12, [1, 3, 4, 16, 20, 39]), (13, [1, 3, 4, 16]), (14, [1, 3, 4, 16, 48]), (15, [1, 3, 4, 16]), (16, [2])], [(0, [1, 3, 4, 16])], []⟩
theorem T117_sch : T117.sch = [] := (rfl)
theorem T117_reg : T117.reg = [(0, [1]), (1, [1, 3]), (2, [1, 3]), (3, [1, 3, 4]), (4, [1, 3, 4, 16]), (5, [1, 3, 4, 16, 17, 18]), (6, [1, 3, 4, 6, 16]), (7, [1, 3, 4, 16, 20]), (8, [1, 3, 4, 16, 20, 21]), (9, [1, 3, 4, 16]), (10, [1, 3, 4, 16, 20, 30]), (11, [1, 3, 4, 16]), (12, [1, 3, 4, 16, 20, 39]), (13, [1, 3, 4, 16]), (14, [1, 3, 4, 16, 48]), (15, [1, 3, 4, 16]), (16, [2])] := (rfl)
theorem T117_loops : T117.loops = [(0, [1, 3, 4, 16])] := (rfl)
def T118 : Tab := ⟨[(0, [1]), (1, [1, 3]), (2, [2]), (3, [1, 10]), (4, [2]), (5, [1, 19]), (6, [2]), (7, [2])], [], []⟩
theorem T118_sch : T118.sch = [] := (rfl)
theorem T118_reg : T118.reg = [(0, [1]), (1, [1, 3]), (2, [2]), (3, [1, 10]), (4, [2]), (5, [1, 19]), (6, [2]), (7, [2])] := (rfl)
theorem T118_loops : T118.loops = [] := (rfl)
def T119 : Tab := ⟨[(0, [1]), (1, [1, 5]), (2, [2]), (3, [1, 26]), (4, [2]), (5, [1, 29]), (6, [2]), (7, [2])], [], []⟩
theorem T119_sch : T119.sch = [] := (rfl)
theorem T119_reg : T119.reg = [(0, [1]), (1, [1, 5]), (2, [2]), (3, [1, 26]), (4, [2]), (5, [1, 29]), (6, [2]), (7, [2])] := (rfl)
theorem T119_loops : T119.loops = [] := (rfl)
def T120 : Tab := ⟨[(0, [0, 1, 3, 4, 5, 8, 13]), (1, [0, 1, 3, 4, 5, 8, 13, 14, 15, 16]), (2, [0, 1, 3, 4, 5, 8, 13, 14, 41]), (3, [12, 13]), (4, [1, 3, 5, 8, 13, 17, 18, 19]), (5, [1, 3, 5, 8, 13, 17, 18, 19, 55]), (6, [12, 13]), (7, [13, 17]), (8, [12, 13])], [], []⟩
theorem T120_sch : T120.sch = [] := (rfl)
theorem T120_reg : T120.reg = [(0, [0, 1, 3, 4, 5, 8, 13]), (1, [0, 1, 3, 4, 5, 8, 13, 14, 15, 16]), (2, [0, 1, 3, 4, 5, 8, 13, 14, 41]), (3, [12, 13]), (4, [1, 3, 5, 8, 13, 17, 18, 19]), (5, [1, 3, 5, 8, 13, 17, 18, 19, 55]), (6, [12, 13]), (7, [13, 17]), (8, [12, 13])] := (rfl)
theorem T120_loops : T120.loops = [] := (rfl)
def T121 : Tab := ⟨[(0, [0, 1]), (1, [4])], [], []⟩
theorem T121_sch : T121.sch = [] := (rfl)
theorem T121_reg : T121.reg = [(0, [0, 1]), (1, [4])] := (rfl)
theorem T121_loops : T121.loops = [] := (rfl)
def T122 : Tab := ⟨[(0, [0]), (1, [3]), (2, [2])], [], []⟩
theorem T122_sch : T122.sch = [] := (rfl)
theorem T122_reg : T122.reg = [(0, [0]), (1, [3]), (2, [2])] := (rfl)
theorem T122_loops : T122.loops = [] := (rfl)
def T123 : Tab := ⟨[(0, [0, 1, 3]), (1, [1, 3, 4, 5, 6]), (2, [3]), (3, [3])], [], []⟩
theorem T123_sch : T123.sch = [] := (rfl)
theorem T123_reg : T123.reg = [(0, [0, 1, 3]), (1, [1, 3, 4, 5, 6]), (2, [3]), (3, [3])] := (rfl)
theorem T123_loops : T123.loops = [] := (rfl)
def T124 : Tab := ⟨[(0, [0]), (1, [2, 3, 4])], [], []⟩
theorem T124_sch : T124.sch = [] := (rfl)
theorem T124_reg : T124.reg = [(0, [0]), (1, [2, 3, 4])] := (rfl)
theorem T124_loops : T124.loops = [] := (rfl)
def T125 : Tab := ⟨[(0, [0, 1, 2, 3, 5]), (1, [0, 1, 2, 3, 5, 6, 7]), (2, [0, 1, 2, 3, 5, 6, 9]), (3, [0, 1, 2, 3, 5, 6, 9, 30]), (4, [5]), (5, [0, 1, 2, 3, 5, 6, 9, 10, 11]), (6, [5]), (7, [0, 1, 2, 3, 5, 6, 9, 10, 11, 53]), (8, [5]), (9, [0, 1, 5, 6, 10, 61]), (10, [5]), (11, [5])], [], [(10, ⟨1024, 1023, [0, 1, 3, 7, 15, 0, 0, 0, 128, 384, 1023], (.rd 0 false (.rd 1 false (.rd 2 false (.rd 3 false (.rd 4 false (.rd 5 false (.rd 6 false (.rd 7 false (.rd 8 false (.rd 9 false (.wr 10 .done .no)))))))))))⟩), (6, ⟨8448, 7935, [0, 0, 2, 6, 14, 30, 0, 0, 254, 510, 1022, 1022, 2047, 6143], (.rd 0 false (.rd 1 false (.rd 2 false (.rd 3 false (.rd 4 false (.rd 5 false (.rd 6 false (.rd 7 false (.wr 8 (.rd 0 true (.rd 9 false (.rd 10 false (.rd 11 false (.rd 12 false (.wr 13 (.rd 11 true .done) .no)))))) .no)))))))))⟩)]⟩
theorem T125_sch : T125.sch = [(10, ⟨1024, 1023, [0, 1, 3, 7, 15, 0, 0, 0, 128, 384, 1023], (.rd 0 false (.rd 1 false (.rd 2 false (.rd 3 false (.rd 4 false (.rd 5 false (.rd 6 false (.rd 7 false (.rd 8 false (.rd 9 false (.wr 10 .done .no)))))))))))⟩), (6, ⟨8448, 7935, [0, 0, 2, 6, 14, 30, 0, 0, 254, 510, 1022, 1022, 2047, 6143], (.rd 0 false (.rd 1 false (.rd 2 false (.rd 3 false (.rd 4 false (.rd 5 false (.rd 6 false (.rd 7 false (.wr 8 (.rd 0 true (.rd 9 false (.rd 10 false (.rd 11 false (.rd 12 false (.wr 13 (.rd 11 true .done) .no)))))) .no)))))))))⟩)] := (rfl)
theorem T125_reg : T125.reg = [(0, [0, 1, 2, 3, 5]), (1, [0, 1, 2, 3, 5, 6, 7]), (2, [0, 1, 2, 3, 5, 6, 9]), (3, [0, 1, 2, 3, 5, 6, 9, 30]), (4, [5]), (5, [0, 1, 2, 3, 5, 6, 9, 10, 11]), (6, [5]), (7, [0, 1, 2, 3, 5, 6, 9, 10, 11, 53]), (8, [5]), (9, [0, 1, 5, 6, 10, 61]), (10, [5]), (11, [5])] := (rfl)
theorem T125_loops : T125.loops = [] := (rfl)
def T126 : Tab := ⟨[(0, [0, 1, 3]), (1, [0, 1, 3, 4, 5]), (2, [0, 3, 18]), (3, [3]), (4, [3])], [], []⟩
theorem T126_sch : T126.sch = [] := (rfl)
theorem T126_reg : T126.reg = [(0, [0, 1, 3]), (1, [0, 1, 3, 4, 5]), (2, [0, 3, 18]), (3, [3]), (4, [3])] := (rfl)
theorem T126_loops : T126.loops = [] := (rfl)
def T127 : Tab := ⟨[(0, [0, 1, 3]), (1, [3])], [], []⟩
theorem T127_sch : T127.sch = [] := (rfl)
theorem T127_reg : T127.reg = [(0, [0, 1, 3]), (1, [3])] := (rfl)
theorem T127_loops : T127.loops = [] := (rfl)
def T128 : Tab := ⟨[(0, [0, 1]), (1, [0, 1, 10]), (2, [4]), (3, []), (4, [4])], [], []⟩
theorem T128_sch : T128.sch = [] := (rfl)
theorem T128_reg : T128.reg = [(0, [0, 1]), (1, [0, 1, 10]), (2, [4]), (3, []), (4, [4])] := (rfl)
theorem T128_loops : T128.loops = [] := (rfl)
def T129 : Tab := ⟨[(0, [0]), (1, [0, 4]), (2, [0, 4, 15, 16, 17]), (3, [0, 4, 15, 16, 17, 18]), (4, [0, 4, 6, 15, 16, 17]), (5, [0, 4, 6, 15, 16, 17, 39]), (6, [2, 3]), (7, [0, 4, 15, 16, 17]), (8, [2, 3])], [(0, [0, 4, 15, 16, 17])], [(1, ⟨224, 31, [0, 1, 3, 7, 0, 16, 63, 127], (.rd 0 false (.rd 1 false (.rd 2 false (.rd 3 false (.rd 4 false (.wr 5 (.rd 0 true (.rd 1 true (.rd 2 true (.rd 3 true (.wr 6 (.wr 7 .done .no) .no))))) .no))))))⟩), (5, ⟨393216, 131071, [0, 1, 3, 7, 15, 15, 47, 31, 159, 511, 1023, 2047, 4095, 8191, 16383, 32767, 16383, 131071, 262143], (.rd 0 false (.rd 1 false (.rd 2 false (.rd 3 false (.rd 4 false (.rd 5 false (.rd 6 false (.rd 7 false (.rd 8 false (.rd 9 false (.rd 10 false (.rd 11 false (.rd 12 false (.rd 13 false (.rd 14 false (.rd 15 false (.rd 16 false (.wr 17 (.wr 18 .done .no) .no))))))))))))))))))⟩)]⟩
theorem T129_sch : T129.sch = [(1, ⟨224, 31, [0, 1, 3, 7, 0, 16, 63, 127], (.rd 0 false (.rd 1 false (.rd 2 false (.rd 3 false (.rd 4 false (.wr 5 (.rd 0 true (.rd 1 true (.rd 2 true (.rd 3 true (.wr 6 (.wr 7 .done .no) .no))))) .no))))))⟩), (5, ⟨393216, 131071, [0, 1, 3, 7, 15, 15, 47, 31, 159, 511, 1023, 2047, 4095, 8191, 16383, 32767, 16383, 131071, 262143], (.rd 0 false (.rd 1 false (.rd 2 false (.rd 3 false (.rd 4 false (.rd 5 false (.rd 6 false (.rd 7 false (.rd 8 false (.rd 9 false (.rd 10 false (.rd 11 false (.rd 12 false (.rd 13 false (.rd 14 false (.rd 15 false (.rd 16 false (.wr 17 (.wr 18 .done .no) .no))))))))))))))))))⟩)] := (rfl)
theorem T129_reg : T129.reg = [(0, [0]), (1, [0, 4]), (2, [0, 4, 15, 16, 17]), (3, [0, 4, 15, 16, 17, 18]), (4, [0, 4, 6, 15, 16, 17]), (5, [0, 4, 6, 15, 16, 17, 39]), (6, [2, 3]), (7, [0, 4, 15, 16, 17]), (8, [2, 3])] := (rfl)
theorem T129_loops : T129.loops = [(0, [0, 4, 15, 16, 17])] := (rfl)
def T130 : Tab := ⟨[(0, [0, 1]), (1, [0, 1, 10]), (2, [4, 5]), (3, [0, 1, 6, 7]), (4, [0, 1, 6, 21]), (5, [4, 5]), (6, [0, 6]), (7, [6]), (8, [4, 5])], [], []⟩
theorem T130_sch : T130.sch = [] := (rfl)
theorem T130_reg : T130.reg = [(0, [0, 1]), (1, [0, 1, 10]), (2, [4, 5]), (3, [0, 1, 6, 7]), (4, [0, 1, 6, 21]), (5, [4, 5]), (6, [0, 6]), (7, [6]), (8, [4, 5])] := (rfl)
theorem T130_loops : T130.loops = [] := (rfl)
def T131 : Tab := ⟨[(0, [1, 2, 3]), (1, [4])], [], []⟩
theorem T131_sch : T131.sch = [] := (rfl)
theorem T131_reg : T131.reg = [(0, [1, 2, 3]), (1, [4])] := (rfl)
theorem T131_loops : T131.loops = [] := (rfl)
def T132 : Tab := ⟨[(0, [0, 2]), (1, [0, 2, 4]), (2, [2, 4, 26]), (3, [2, 3]), (4, [2, 3])], [], []⟩
theorem T132_sch : T132.sch = [] := (rfl)
theorem T132_reg : T132.reg = [(0, [0, 2]), (1, [0, 2, 4]), (2, [2, 4, 26]), (3, [2, 3]), (4, [2, 3])] := (rfl)
theorem T132_loops : T132.loops = [] := (rfl)
def T136 : Tab := ⟨[(0, [1]), (1, [1, 3]), (2, [1, 3, 4]), (3, [1, 3, 4, 5]), (4, [1, 3, 4, 5, 6]), (5, [3, 4, 5, 6, 7]), (6, [2])], [], []⟩
theorem T136_sch : T136.sch = [] := (rfl)
theorem T136_reg : T136.reg = [(0, [1]), (1, [1, 3]), (2, [1, 3, 4]), (3, [1, 3, 4, 5]), (4, [1, 3, 4, 5, 6]), (5, [3, 4, 5, 6, 7]), (6, [2])] := (rfl)
theorem T136_loops : T136.loops = [] := (rfl)
def T138 : Tab := ⟨[(0, [0, 1, 2, 6]), (1, [0, 1, 2, 6, 7, 8]), (2, [0, 1, 2, 6, 7, 8, 13]), (3, [0, 1, 2, 6, 8]), (4, [0, 1, 2, 6, 7, 8]), (5, [0, 1, 2, 6, 7, 8]), (6, [0, 1, 2, 6]), (7, [0, 1, 2, 6, 30]), (8, [0, 1, 2, 6, 7, 8]), (9, [0, 1, 2, 6, 7, 8, 35]), (10, [0, 1, 2, 6, 8]), (11, [0, 1, 2, 6, 7, 8]), (12, [0, 1, 2, 6, 7, 8]), (13, [0, 1, 2, 6, 7, 9]), (14, [0, 1, 2, 6, 7, 9, 54]), (15, [0, 1, 2, 6]), (16, [0, 1, 2, 6])], [(0, [0, 1, 2, 6, 7, 8]), (2, [0, 1, 2, 6]), (4, [0, 1, 2, 6, 7, 8])], []⟩
theorem T138_sch : T138.sch = [] := (rfl)
theorem T138_reg : T138.reg = [(0, [0, 1, 2, 6]), (1, [0, 1, 2, 6, 7, 8]), (2, [0, 1, 2, 6, 7, 8, 13]), (3, [0, 1, 2, 6, 8]), (4, [0, 1, 2, 6, 7, 8]), (5, [0, 1, 2, 6, 7, 8]), (6, [0, 1, 2, 6]), (7, [0, 1, 2, 6, 30]), (8, [0, 1, 2, 6, 7, 8]), (9, [0, 1, 2, 6, 7, 8, 35]), (10, [0, 1, 2, 6, 8]), (11, [0, 1, 2, 6, 7, 8]), (12, [0, 1, 2, 6, 7, 8]), (13, [0, 1, 2, 6, 7, 9]), (14, [0, 1, 2, 6, 7, 9, 54]), (15, [0, 1, 2, 6]), (16, [0, 1, 2, 6])] := (rfl)
theorem T138_loops : T138.loops = [(0, [0, 1, 2, 6, 7, 8]), (2, [0, 1, 2, 6]), (4, [0, 1, 2, 6, 7, 8])] := (rfl)
def T139 : Tab := ⟨[(0, [0]), (1, [2])], [], []⟩
theorem T139_sch : T139.sch = [] := (rfl)
theorem T139_reg : T139.reg = [(0, [0]), (1, [2])] := (rfl)
theorem T139_loops : T139.loops = [] := (rfl)
def T140 : Tab := ⟨[(0, [0, 1]), (1, [4])], [], []⟩
theorem T140_sch : T140.sch = [] := (rfl)
theorem T140_reg : T140.reg = [(0, [0, 1]), (1, [4])] := (rfl)
theorem T140_loops : T140.loops = [] := (rfl)
def T141 : Tab := ⟨[(0, [0, 1, 2, 3]), (1, [0, 1, 2, 3, 16, 17]), (2, [0, 1, 2, 3, 16, 17, 18]), (3, [0, 1, 2, 3, 12, 16, 17]), (4, [0, 1, 2, 3, 12, 16, 17, 40]), (5, [12]), (6, [8, 9, 10]), (7, [0, 1, 2, 3, 16, 17]), (8, []), (9, [8, 9, 10])], [(0, [0, 1, 2, 3, 16, 17])], []⟩
theorem T141_sch : T141.sch = [] := (rfl)
theorem T141_reg : T141.reg = [(0, [0, 1, 2, 3]), (1, [0, 1, 2, 3, 16, 17]), (2, [0, 1, 2, 3, 16, 17, 18]), (3, [0, 1, 2, 3, 12, 16, 17]), (4, [0, 1, 2, 3, 12, 16, 17, 40]), (5, [12]), (6, [8, 9, 10]), (7, [0, 1, 2, 3, 16, 17]), (8, []), (9, [8, 9, 10])] := (rfl)
theorem T141_loops : T141.loops = [(0, [0, 1, 2, 3, 16, 17])] := (rfl)
def T142 : Tab := ⟨[(0, [0]), (1, [2])], [], []⟩
theorem T142_sch : T142.sch = [] := (rfl)
theorem T142_reg : T142.reg = [(0, [0]), (1, [2])] := (rfl)
theorem T142_loops : T142.loops = [] := (rfl)
def T143 : Tab := ⟨[(0, [0, 2, 3, 5, 10]), (1, [0, 2, 3, 5, 10, 19]), (2, [8, 9, 10]), (3, [0, 2, 3, 5, 10, 23]), (4, [8, 9, 10]), (5, [0, 2, 3, 5, 10, 11]), (6, [0, 2, 3, 5, 10, 11, 40]), (7, [8, 9, 10]), (8, [0, 2, 3, 5, 10, 11, 45]), (9, [8, 9, 10]), (10, [8, 9, 10, 11]), (11, [8, 9, 10])], [], []⟩
theorem T143_sch : T143.sch = [] := (rfl)
theorem T143_reg : T143.reg = [(0, [0, 2, 3, 5, 10]), (1, [0, 2, 3, 5, 10, 19]), (2, [8, 9, 10]), (3, [0, 2, 3, 5, 10, 23]), (4, [8, 9, 10]), (5, [0, 2, 3, 5, 10, 11]), (6, [0, 2, 3, 5, 10, 11, 40]), (7, [8, 9, 10]), (8, [0, 2, 3, 5, 10, 11, 45]), (9, [8, 9, 10]), (10, [8, 9, 10, 11]), (11, [8, 9, 10])] := (rfl)
theorem T143_loops : T143.loops = [] := (rfl)
def T144 : Tab := ⟨[(0, [0, 1, 5]), (1, [0, 1, 5, 7]), (2, [6]), (3, [0, 1, 5, 11]), (4, [6]), (5, [0, 1, 5]), (6, []), (7, [6])], [], []⟩
theorem T144_sch : T144.sch = [] := (rfl)
theorem T144_reg : T144.reg = [(0, [0, 1, 5]), (1, [0, 1, 5, 7]), (2, [6]), (3, [0, 1, 5, 11]), (4, [6]), (5, [0, 1, 5]), (6, []), (7, [6])] := (rfl)
theorem T144_loops : T144.loops = [] := (rfl)
def T145 : Tab := ⟨[(0, [0, 1]), (1, [4])], [], []⟩
theorem T145_sch : T145.sch = [] := (rfl)
theorem T145_reg : T145.reg = [(0, [0, 1]), (1, [4])] := (rfl)
theorem T145_loops : T145.loops = [] := (rfl)
def T146 : Tab := ⟨[(0, [0]), (1, [0, 12]), (2, [2, 3, 4]), (3, [5]), (4, [5, 6]), (5, [5, 6, 20]), (6, [2, 3, 4]), (7, [2, 3, 4])], [], []⟩
theorem T146_sch : T146.sch = [] := (rfl)
theorem T146_reg : T146.reg = [(0, [0]), (1, [0, 12]), (2, [2, 3, 4]), (3, [5]), (4, [5, 6]), (5, [5, 6, 20]), (6, [2, 3, 4]), (7, [2, 3, 4])] := (rfl)
theorem T146_loops : T146.loops = [] := (rfl)
def T147 : Tab := ⟨[(0, [0]), (1, [0, 3]), (2, [3, 10]), (3, [3, 10, 12]), (4, [3, 5, 10]), (5, [3, 10]), (6, [2])], [(0, [3, 10])], []⟩
theorem T147_sch : T147.sch = [] := (rfl)
theorem T147_reg : T147.reg = [(0, [0]), (1, [0, 3]), (2, [3, 10]), (3, [3, 10, 12]), (4, [3, 5, 10]), (5, [3, 10]), (6, [2])] := (rfl)
theorem T147_loops : T147.loops = [(0, [3, 10])] := (rfl)
def T152 : Tab := ⟨[(0, [0, 1, 2, 3]), (1, [2, 3, 9]), (2, [2, 3, 14]), (3, [8]), (4, [8])], [], []⟩
theorem T152_sch : T152.sch = [] := (rfl)
theorem T152_reg : T152.reg = [(0, [0, 1, 2, 3]), (1, [2, 3, 9]), (2, [2, 3, 14]), (3, [8]), (4, [8])] := (rfl)
theorem T152_loops : T152.loops = [] := (rfl)
def T153 : Tab := ⟨[(0, [0, 1, 2, 3, 8]), (1, [0, 1, 2, 3, 8, 14]), (2, [0, 1, 2, 3, 8]), (3, [0, 1, 2, 3, 8, 9]), (4, [0, 1, 2, 3, 8, 9, 34]), (5, [0, 1, 2, 3, 8, 9]), (6, [0, 1, 2, 3, 8, 9])], [(0, [0, 1, 2, 3, 8]), (2, [0, 1, 2, 3, 8, 9])], [(4, ⟨114688, 16383, [0, 0, 3, 7, 15, 15, 15, 111, 239, 15, 15, 1039, 3599, 7695, 16383, 32767, 65535], (.rd 0 false (.rd 1 false (.rd 2 false (.rd 3 false (.rd 4 false (.rd 5 false (.rd 6 false (.rd 7 false (.rd 8 false (.rd 9 false (.rd 10 false (.rd 11 false (.rd 12 false (.rd 13 false (.wr 14 (.wr 15 (.wr 16 .done .no) .no) .no)))))))))))))))⟩), (6, ⟨229376, 32767, [0, 0, 0, 0, 8, 0, 0, 64, 224, 480, 0, 0, 3072, 7168, 16355, 32739, 65535, 131071], (.rd 0 false (.rd 1 false (.rd 2 false (.rd 3 false (.rd 4 false (.rd 5 false (.rd 6 false (.rd 7 false (.rd 8 false (.rd 9 false (.rd 10 false (.rd 11 false (.rd 12 false (.rd 13 false (.rd 14 false (.wr 15 (.rd 2 true (.rd 3 true (.rd 4 true (.wr 16 (.wr 17 .done .no) .no)))) .no))))))))))))))))⟩)]⟩
theorem T153_sch : T153.sch = [(4, ⟨114688, 16383, [0, 0, 3, 7, 15, 15, 15, 111, 239, 15, 15, 1039, 3599, 7695, 16383, 32767, 65535], (.rd 0 false (.rd 1 false (.rd 2 false (.rd 3 false (.rd 4 false (.rd 5 false (.rd 6 false (.rd 7 false (.rd 8 false (.rd 9 false (.rd 10 false (.rd 11 false (.rd 12 false (.rd 13 false (.wr 14 (.wr 15 (.wr 16 .done .no) .no) .no)))))))))))))))⟩), (6, ⟨229376, 32767, [0, 0, 0, 0, 8, 0, 0, 64, 224, 480, 0, 0, 3072, 7168, 16355, 32739, 65535, 131071], (.rd 0 false (.rd 1 false (.rd 2 false (.rd 3 false (.rd 4 false (.rd 5 false (.rd 6 false (.rd 7 false (.rd 8 false (.rd 9 false (.rd 10 false (.rd 11 false (.rd 12 false (.rd 13 false (.rd 14 false (.wr 15 (.rd 2 true (.rd 3 true (.rd 4 true (.wr 16 (.wr 17 .done .no) .no)))) .no))))))))))))))))⟩)] := (rfl)
theorem T153_reg : T153.reg = [(0, [0, 1, 2, 3, 8]), (1, [0, 1, 2, 3, 8, 14]), (2, [0, 1, 2, 3, 8]), (3, [0, 1, 2, 3, 8, 9]), (4, [0, 1, 2, 3, 8, 9, 34]), (5, [0, 1, 2, 3, 8, 9]), (6, [0, 1, 2, 3, 8, 9])] := (rfl)
theorem T153_loops : T153.loops = [(0, [0, 1, 2, 3, 8]), (2, [0, 1, 2, 3, 8, 9])] := (rfl)
def T155 : Tab := ⟨[(0, [0, 1, 2, 3, 10]), (1, [2, 3, 8, 9, 10]), (2, [2, 3, 8, 9, 10, 19]), (3, [8, 9, 10]), (4, [2, 8, 9, 10, 24]), (5, [8, 9, 10]), (6, [8, 9, 10])], [], []⟩
theorem T155_sch : T155.sch = [] := (rfl)
theorem T155_reg : T155.reg = [(0, [0, 1, 2, 3, 10]), (1, [2, 3, 8, 9, 10]), (2, [2, 3, 8, 9, 10, 19]), (3, [8, 9, 10]), (4, [2, 8, 9, 10, 24]), (5, [8, 9, 10]), (6, [8, 9, 10])] := (rfl)
theorem T155_loops : T155.loops = [] := (rfl)
def T156 : Tab := ⟨[(0, [0, 2, 4, 6, 7]), (1, [0, 2, 4, 6, 7, 8]), (2, [0, 2, 4, 6, 7, 8, 9]), (3, [0, 2, 4, 6, 7, 8, 9, 17]), (4, [0, 2, 4, 6, 7, 8, 9, 17, 18]), (5, [0, 2, 4, 6, 7, 8, 9, 10, 17]), (6, [0, 2, 4, 6, 7, 9, 10, 11, 13, 17]), (7, [0, 2, 4, 6, 7, 9, 10, 11, 13, 17, 31]), (8, [6, 7, 13]), (9, [6, 7]), (10, [0, 2, 4, 6, 7, 9, 10, 11, 17]), (11, [0, 2, 4, 6, 7, 9, 10, 14, 17]), (12, [0, 2, 4, 6, 7, 9, 10, 14, 17, 45]), (13, [6, 7]), (14, [0, 2, 4, 6, 7, 8, 9, 17]), (15, [0, 2, 4, 6, 7, 8, 9, 17]), (16, [6, 7])], [(0, [0, 2, 4, 6, 7, 8, 9, 17])], [(9, ⟨12, 3, [0, 0, 1, 7], (.rd 0 false (.rd 1 false (.wr 2 (.rd 1 true (.wr 3 .done .no)) .no)))⟩)]⟩
theorem T156_sch : T156.sch = [(9, ⟨12, 3, [0, 0, 1, 7], (.rd 0 false (.rd 1 false (.wr 2 (.rd 1 true (.wr 3 .done .no)) .no)))⟩)] := (rfl)
theorem T156_reg : T156.reg = [(0, [0, 2, 4, 6, 7]), (1, [0, 2, 4, 6, 7, 8]), (2, [0, 2, 4, 6, 7, 8, 9]), (3, [0, 2, 4, 6, 7, 8, 9, 17]), (4, [0, 2, 4, 6, 7, 8, 9, 17, 18]), (5, [0, 2, 4, 6, 7, 8, 9, 10, 17]), (6, [0, 2, 4, 6, 7, 9, 10, 11, 13, 17]), (7, [0, 2, 4, 6, 7, 9, 10, 11, 13, 17, 31]), (8, [6, 7, 13]), (9, [6, 7]), (10, [0, 2, 4, 6, 7, 9, 10, 11, 17]), (11, [0, 2, 4, 6, 7, 9, 10, 14, 17]), (12, [0, 2, 4, 6, 7, 9, 10, 14, 17, 45]), (13, [6, 7]), (14, [0, 2, 4, 6, 7, 8, 9, 17]), (15, [0, 2, 4, 6, 7, 8, 9, 17]), (16, [6, 7])] := (rfl)
theorem T156_loops : T156.loops = [(0, [0, 2, 4, 6, 7, 8, 9, 17])] := (rfl)
def T157 : Tab := ⟨[(0, [1]), (1, [2])], [], []⟩
theorem T157_sch : T157.sch = [] := (rfl)
theorem T157_reg : T157.reg = [(0, [1]), (1, [2])] := (rfl)
theorem T157_loops : T157.loops = [] := (rfl)
def T158 : Tab := ⟨[(0, [1, 2]), (1, [3])], [], []⟩
theorem T158_sch : T158.sch = [] := (rfl)
theorem T158_reg : T158.reg = [(0, [1, 2]), (1, [3])] := (rfl)
theorem T158_loops : T158.loops = [] := (rfl)
def T160 : Tab := ⟨[(0, [0, 1]), (1, [4])], [], []⟩
theorem T160_sch : T160.sch = [] := (rfl)
theorem T160_reg : T160.reg = [(0, [0, 1]), (1, [4])] := (rfl)
theorem T160_loops : T160.loops = [] := (rfl)
def T161 : Tab := ⟨[(0, [0, 1]), (1, [0, 1, 12]), (2, [4]), (3, [0, 1, 15]), (4, [0, 5]), (5, [0, 5, 20]), (6, [0, 5]), (7, [4]), (8, [0, 1, 26]), (9, [0, 1, 6, 7]), (10, [0, 1, 6, 32]), (11, [0, 6, 8]), (12, [0, 6, 8, 36]), (13, [0, 6, 8]), (14, [0, 6, 8, 42]), (15, [4]), (16, [4]), (17, [1, 45]), (18, [1, 45, 46, 47]), (19, [1, 9, 10, 45]), (20, [1, 9, 45, 53]), (21, [4]), (22, [4])], [(0, [0, 6, 8]), (2, [1, 45])], []⟩
theorem T161_sch : T161.sch = [] := (rfl)
theorem T161_reg : T161.reg = [(0, [0, 1]), (1, [0, 1, 12]), (2, [4]), (3, [0, 1, 15]), (4, [0, 5]), (5, [0, 5, 20]), (6, [0, 5]), (7, [4]), (8, [0, 1, 26]), (9, [0, 1, 6, 7]), (10, [0, 1, 6, 32]), (11, [0, 6, 8]), (12, [0, 6, 8, 36]), (13, [0, 6, 8]), (14, [0, 6, 8, 42]), (15, [4]), (16, [4]), (17, [1, 45]), (18, [1, 45, 46, 47]), (19, [1, 9, 10, 45]), (20, [1, 9, 45, 53]), (21, [4]), (22, [4])] := (rfl)
theorem T161_loops : T161.loops = [(0, [0, 6, 8]), (2, [1, 45])] := (rfl)
def T162 : Tab := ⟨[(0, [0, 2, 3, 4, 10]), (1, [0, 2, 4, 10, 11]), (2, [0, 2, 4, 10, 11, 20]), (3, [0, 2, 4, 10, 11, 23]), (4, [0, 2, 4, 10, 11]), (5, [0, 2, 4, 10, 11]), (6, [0, 2, 4, 10, 11]), (7, [0, 2, 4, 10, 11]), (8, [])], [(0, [0, 2, 4, 10, 11])], []⟩
theorem T162_sch : T162.sch = [] := (rfl)
theorem T162_reg : T162.reg = [(0, [0, 2, 3, 4, 10]), (1, [0, 2, 4, 10, 11]), (2, [0, 2, 4, 10, 11, 20]), (3, [0, 2, 4, 10, 11, 23]), (4, [0, 2, 4, 10, 11]), (5, [0, 2, 4, 10, 11]), (6, [0, 2, 4, 10, 11]), (7, [0, 2, 4, 10, 11]), (8, [])] := (rfl)
theorem T162_loops : T162.loops = [(0, [0, 2, 4, 10, 11])] := (rfl)
def T163 : Tab := ⟨[(0, [0, 1, 2, 3]), (1, [0, 1, 2, 3, 13]), (2, [8]), (3, [0, 1, 2, 3, 15]), (4, [8]), (5, [0, 1, 2, 3, 20]), (6, [0, 1, 2, 3]), (7, [0, 1, 2, 3]), (8, [0, 1, 2, 3, 9]), (9, [0, 1, 2, 3, 9]), (10, [0, 1, 2, 3, 9, 10]), (11, [0, 1, 2, 3, 9, 10, 36]), (12, [0, 1, 2, 3, 9, 10, 11]), (13, [0, 1, 2, 3, 9, 10, 11, 41]), (14, [0, 1, 2, 3, 9, 10, 11]), (15, [0, 1, 2, 3, 9, 10]), (16, [0, 1, 2, 3, 9, 10]), (17, [9, 10]), (18, [8])], [(0, [0, 1, 2, 3, 9, 10])], []⟩
theorem T163_sch : T163.sch = [] := (rfl)
theorem T163_reg : T163.reg = [(0, [0, 1, 2, 3]), (1, [0, 1, 2, 3, 13]), (2, [8]), (3, [0, 1, 2, 3, 15]), (4, [8]), (5, [0, 1, 2, 3, 20]), (6, [0, 1, 2, 3]), (7, [0, 1, 2, 3]), (8, [0, 1, 2, 3, 9]), (9, [0, 1, 2, 3, 9]), (10, [0, 1, 2, 3, 9, 10]), (11, [0, 1, 2, 3, 9, 10, 36]), (12, [0, 1, 2, 3, 9, 10, 11]), (13, [0, 1, 2, 3, 9, 10, 11, 41]), (14, [0, 1, 2, 3, 9, 10, 11]), (15, [0, 1, 2, 3, 9, 10]), (16, [0, 1, 2, 3, 9, 10]), (17, [9, 10]), (18, [8])] := (rfl)
theorem T163_loops : T163.loops = [(0, [0, 1, 2, 3, 9, 10])] := (rfl)
def T165 : Tab := ⟨[(0, [0]), (1, [2])], [], []⟩
theorem T165_sch : T165.sch = [] := (rfl)
theorem T165_reg : T165.reg = [(0, [0]), (1, [2])] := (rfl)
theorem T165_loops : T165.loops = [] := (rfl)
def T166 : Tab := ⟨[(0, [0, 2]), (1, [0, 2, 4]), (2, [0, 2, 4, 9]), (3, [0, 2, 4]), (4, [0, 2, 4, 5]), (5, [0, 2, 4, 5, 16]), (6, [2, 3]), (7, [0, 2, 4]), (8, [2, 3])], [(0, [0, 2, 4])], []⟩
theorem T166_sch : T166.sch = [] := (rfl)
theorem T166_reg : T166.reg = [(0, [0, 2]), (1, [0, 2, 4]), (2, [0, 2, 4, 9]), (3, [0, 2, 4]), (4, [0, 2, 4, 5]), (5, [0, 2, 4, 5, 16]), (6, [2, 3]), (7, [0, 2, 4]), (8, [2, 3])] := (rfl)
theorem T166_loops : T166.loops = [(0, [0, 2, 4])] := (rfl)
def T167 : Tab := ⟨[(0, [0, 1]), (1, [4])], [], []⟩
theorem T167_sch : T167.sch = [] := (rfl)
theorem T167_reg : T167.reg = [(0, [0, 1]), (1, [4])] := (rfl)
theorem T167_loops : T167.loops = [] := (rfl)
def T169 : Tab := ⟨[(0, [0, 1]), (1, [0, 1, 5]), (2, [0, 1, 5, 18]), (3, [0, 1]), (4, [0, 1, 6]), (5, [0, 1, 6, 7]), (6, [0, 1, 6, 7, 25]), (7, [0, 1, 6, 7]), (8, [0, 1, 6, 7, 9]), (9, [0, 1, 6, 7, 9]), (10, [0, 1, 6, 7]), (11, [0, 1, 6, 43]), (12, [6]), (13, [4])], [(0, [0, 1, 6, 7])], []⟩
theorem T169_sch : T169.sch = [] := (rfl)
theorem T169_reg : T169.reg = [(0, [0, 1]), (1, [0, 1, 5]), (2, [0, 1, 5, 18]), (3, [0, 1]), (4, [0, 1, 6]), (5, [0, 1, 6, 7]), (6, [0, 1, 6, 7, 25]), (7, [0, 1, 6, 7]), (8, [0, 1, 6, 7, 9]), (9, [0, 1, 6, 7, 9]), (10, [0, 1, 6, 7]), (11, [0, 1, 6, 43]), (12, [6]), (13, [4])] := (rfl)
theorem T169_loops : T169.loops = [(0, [0, 1, 6, 7])] := (rfl)
def T170 : Tab := ⟨[(0, [0, 1]), (1, [0, 1, 9]), (2, [4]), (3, [0, 1, 15]), (4, [4]), (5, [0, 1, 5]), (6, [0, 1, 5, 6]), (7, [0, 1, 5, 6, 24]), (8, [4]), (9, [0, 1, 5, 6]), (10, [0, 1, 5])], [(0, [0, 1, 5])], []⟩
theorem T170_sch : T170.sch = [] := (rfl)
theorem T170_reg : T170.reg = [(0, [0, 1]), (1, [0, 1, 9]), (2, [4]), (3, [0, 1, 15]), (4, [4]), (5, [0, 1, 5]), (6, [0, 1, 5, 6]), (7, [0, 1, 5, 6, 24]), (8, [4]), (9, [0, 1, 5, 6]), (10, [0, 1, 5])] := (rfl)
theorem T170_loops : T170.loops = [(0, [0, 1, 5])] := (rfl)
def T171 : Tab := ⟨[(0, [0, 1]), (1, [4])], [], []⟩
theorem T171_sch : T171.sch = [] := (rfl)
theorem T171_reg : T171.reg = [(0, [0, 1]), (1, [4])] := (rfl)
theorem T171_loops : T171.loops = [] := (rfl)
def T172 : Tab := ⟨[(0, [0]), (1, [0, 3]), (2, [2]), (3, [10]), (4, [2]), (5, [2])], [], []⟩
theorem T172_sch : T172.sch = [] := (rfl)
theorem T172_reg : T172.reg = [(0, [0]), (1, [0, 3]), (2, [2]), (3, [10]), (4, [2]), (5, [2])] := (rfl)
theorem T172_loops : T172.loops = [] := (rfl)
def T173 : Tab := ⟨[(0, [0]), (1, [2])], [], []⟩
theorem T173_sch : T173.sch = [] := (rfl)
theorem T173_reg : T173.reg = [(0, [0]), (1, [2])] := (rfl)
theorem T173_loops : T173.loops = [] := (rfl)
def T175 : Tab := ⟨[(0, [0, 2]), (1, [2, 4]), (2, [2, 4, 6]), (3, [2, 4]), (4, [2])], [(0, [2, 4])], []⟩
theorem T175_sch : T175.sch = [] := (rfl)
theorem T175_reg : T175.reg = [(0, [0, 2]), (1, [2, 4]), (2, [2, 4, 6]), (3, [2, 4]), (4, [2])] := (rfl)
theorem T175_loops : T175.loops = [(0, [2, 4])] := (rfl)
def T176 : Tab := ⟨[(0, [0]), (1, [0, 10]), (2, [2, 3]), (3, [2, 3])], [], []⟩
theorem T176_sch : T176.sch = [] := (rfl)
theorem T176_reg : T176.reg = [(0, [0]), (1, [0, 10]), (2, [2, 3]), (3, [2, 3])] := (rfl)
theorem T176_loops : T176.loops = [] := (rfl)
def T178 : Tab := ⟨[(0, [0, 1]), (1, [0, 1, 5]), (2, [0, 1, 5, 16]), (3, [4]), (4, [0, 1, 5, 24]), (5, [4]), (6, [0, 1, 5, 31]), (7, [4]), (8, [0, 1, 5, 36]), (9, [4]), (10, [0, 1, 5, 6]), (11, [0, 1, 5, 6, 7]), (12, [0, 1, 5, 6, 7, 8]), (13, [0, 1, 5, 6, 7, 8, 9]), (14, [0, 1, 5, 6, 7, 8, 9, 10]), (15, [0, 1, 5, 6, 7, 8, 9, 10, 59]), (16, [0, 1, 5, 6, 7, 8, 9, 10, 64]), (17, [0, 1, 5, 6, 7, 8, 9, 10, 11]), (18, [0, 1, 5, 6, 7, 8, 9, 10, 11, 73]), (19, [4]), (20, [0, 1, 5, 6, 7, 8, 9, 10]), (21, [0, 1, 5, 6, 7, 8, 9, 10, 93]), (22, [4]), (23, [0, 1, 5, 6, 7, 8, 9, 10]), (24, [0, 1, 5, 6, 7, 8, 9, 10]), (25, [0, 1, 5, 6, 7, 8, 9, 10, 107]), (26, [8, 12]), (27, [8, 12, 114]), (28, [4]), (29, [4]), (30, [0, 1, 5, 6, 7, 8, 9, 10, 132]), (31, [8, 13]), (32, [8, 13, 139]), (33, [4]), (34, [4]), (35, [4])], [(1, [0, 1, 5, 6, 7, 8, 9, 10])], []⟩
theorem T178_sch : T178.sch = [] := (rfl)
theorem T178_reg : T178.reg = [(0, [0, 1]), (1, [0, 1, 5]), (2, [0, 1, 5, 16]), (3, [4]), (4, [0, 1, 5, 24]), (5, [4]), (6, [0, 1, 5, 31]), (7, [4]), (8, [0, 1, 5, 36]), (9, [4]), (10, [0, 1, 5, 6]), (11, [0, 1, 5, 6, 7]), (12, [0, 1, 5, 6, 7, 8]), (13, [0, 1, 5, 6, 7, 8, 9]), (14, [0, 1, 5, 6, 7, 8, 9, 10]), (15, [0, 1, 5, 6, 7, 8, 9, 10, 59]), (16, [0, 1, 5, 6, 7, 8, 9, 10, 64]), (17, [0, 1, 5, 6, 7, 8, 9, 10, 11]), (18, [0, 1, 5, 6, 7, 8, 9, 10, 11, 73]), (19, [4]), (20, [0, 1, 5, 6, 7, 8, 9, 10]), (21, [0, 1, 5, 6, 7, 8, 9, 10, 93]), (22, [4]), (23, [0, 1, 5, 6, 7, 8, 9, 10]), (24, [0, 1, 5, 6, 7, 8, 9, 10]), (25, [0, 1, 5, 6, 7, 8, 9, 10, 107]), (26, [8, 12]), (27, [8, 12, 114]), (28, [4]), (29, [4]), (30, [0, 1, 5, 6, 7, 8, 9, 10, 132]), (31, [8, 13]), (32, [8, 13, 139]), (33, [4]), (34, [4]), (35, [4])] := (rfl)
theorem T178_loops : T178.loops = [(1, [0, 1, 5, 6, 7, 8, 9, 10])] := (rfl)
def T179 : Tab := ⟨[(0, [0]), (1, [0, 4]), (2, [0, 4, 16]), (3, [2, 3]), (4, [0, 4, 5]), (5, [0, 4, 5, 6]), (6, [0, 4, 5, 6, 23]), (7, [0, 7]), (8, [2, 3]), (9, [0, 4, 5, 6, 8]), (10, [0, 4, 5, 8, 9]), (11, [0, 5, 8, 9, 45]), (12, [2, 3]), (13, [0, 5, 8, 9, 10]), (14, [0, 5, 8, 10, 57]), (15, [2, 3]), (16, [0, 5, 8, 10, 59]), (17, [2, 3]), (18, [0, 5, 8, 10, 11]), (19, [0, 5, 8, 10, 11, 75]), (20, [2, 3]), (21, [0, 5, 10, 11, 77]), (22, [2, 3]), (23, [5, 10, 11, 12]), (24, [5, 10, 11, 12, 98]), (25, [2, 3]), (26, [2, 3])], [], []⟩
theorem T179_sch : T179.sch = [] := (rfl)
theorem T179_reg : T179.reg = [(0, [0]), (1, [0, 4]), (2, [0, 4, 16]), (3, [2, 3]), (4, [0, 4, 5]), (5, [0, 4, 5, 6]), (6, [0, 4, 5, 6, 23]), (7, [0, 7]), (8, [2, 3]), (9, [0, 4, 5, 6, 8]), (10, [0, 4, 5, 8, 9]), (11, [0, 5, 8, 9, 45]), (12, [2, 3]), (13, [0, 5, 8, 9, 10]), (14, [0, 5, 8, 10, 57]), (15, [2, 3]), (16, [0, 5, 8, 10, 59]), (17, [2, 3]), (18, [0, 5, 8, 10, 11]), (19, [0, 5, 8, 10, 11, 75]), (20, [2, 3]), (21, [0, 5, 10, 11, 77]), (22, [2, 3]), (23, [5, 10, 11, 12]), (24, [5, 10, 11, 12, 98]), (25, [2, 3]), (26, [2, 3])] := (rfl)
theorem T179_loops : T179.loops = [] := (rfl)
def T180 : Tab := ⟨[(0, [0, 1]), (1, [0, 1, 5, 6]), (2, [0, 1, 5, 6, 7]), (3, [0, 1, 5, 6, 7, 8]), (4, [0, 1, 5, 6, 7, 8, 9]), (5, [0, 1, 5, 6, 7, 8, 9, 20]), (6, [0, 1, 5, 6, 7, 8, 9]), (7, [0, 1, 5, 6, 7, 8, 9]), (8, [0, 1, 5, 6, 7, 8, 39]), (9, [4]), (10, [0, 1, 5, 6, 7, 8, 10]), (11, [0, 1, 5, 6, 7, 8, 10, 44]), (12, [0, 1, 5, 6, 7, 8, 10]), (13, [0, 1, 5, 6, 7, 8, 10]), (14, [0, 1, 5, 6, 7, 8, 10]), (15, [0, 1, 5, 6, 7, 8, 10]), (16, [0, 1, 5, 6, 7, 8, 10, 77]), (17, [4]), (18, [4])], [(0, [0, 1, 5, 6, 7, 8, 9]), (2, [0, 1, 5, 6, 7, 8, 10])], []⟩
theorem T180_sch : T180.sch = [] := (rfl)
theorem T180_reg : T180.reg = [(0, [0, 1]), (1, [0, 1, 5, 6]), (2, [0, 1, 5, 6, 7]), (3, [0, 1, 5, 6, 7, 8]), (4, [0, 1, 5, 6, 7, 8, 9]), (5, [0, 1, 5, 6, 7, 8, 9, 20]), (6, [0, 1, 5, 6, 7, 8, 9]), (7, [0, 1, 5, 6, 7, 8, 9]), (8, [0, 1, 5, 6, 7, 8, 39]), (9, [4]), (10, [0, 1, 5, 6, 7, 8, 10]), (11, [0, 1, 5, 6, 7, 8, 10, 44]), (12, [0, 1, 5, 6, 7, 8, 10]), (13, [0, 1, 5, 6, 7, 8, 10]), (14, [0, 1, 5, 6, 7, 8, 10]), (15, [0, 1, 5, 6, 7, 8, 10]), (16, [0, 1, 5, 6, 7, 8, 10, 77]), (17, [4]), (18, [4])] := (rfl)
theorem T180_loops : T180.loops = [(0, [0, 1, 5, 6, 7, 8, 9]), (2, [0, 1, 5, 6, 7, 8, 10])] := (rfl)
def T181 : Tab := ⟨[(0, [0]), (1, [0, 4]), (2, [0, 4, 5]), (3, [0, 4, 5, 12]), (4, [0, 4, 5]), (5, [0, 4, 5]), (6, [0, 4, 6, 7]), (7, [4, 6, 7, 8]), (8, [4, 6, 7, 8, 25]), (9, [4, 6, 7, 8]), (10, [4, 6, 7, 8, 30]), (11, [4, 6, 7, 8]), (12, [4, 6, 7, 8]), (13, [2, 3])], [(0, [0, 4, 5]), (2, [4, 6, 7, 8])], []⟩
theorem T181_sch : T181.sch = [] := (rfl)
theorem T181_reg : T181.reg = [(0, [0]), (1, [0, 4]), (2, [0, 4, 5]), (3, [0, 4, 5, 12]), (4, [0, 4, 5]), (5, [0, 4, 5]), (6, [0, 4, 6, 7]), (7, [4, 6, 7, 8]), (8, [4, 6, 7, 8, 25]), (9, [4, 6, 7, 8]), (10, [4, 6, 7, 8, 30]), (11, [4, 6, 7, 8]), (12, [4, 6, 7, 8]), (13, [2, 3])] := (rfl)
theorem T181_loops : T181.loops = [(0, [0, 4, 5]), (2, [4, 6, 7, 8])] := (rfl)
def T203 : Tab := ⟨[(0, [])], [], []⟩
theorem T203_sch : T203.sch = [] := (rfl)
theorem T203_reg : T203.reg = [(0, [])] := (rfl)
theorem T203_loops : T203.loops = [] := (rfl)
attribute [go_sem] T2_reg T2_loops T2_sch T3_reg T3_loops T3_sch T4_reg T4_loops T4_sch T5_reg T5_loops T5_sch T7_reg T7_loops T7_sch T8_reg T8_loops T8_sch T9_reg T9_loops T9_sch T10_reg T10_loops T10_sch T11_reg T11_loops T11_sch T12_reg T12_loops T12_sch T13_reg T13_loops T13_sch T14_reg T14_loops T14_sch T15_reg T15_loops T15_sch T16_reg T16_loops T16_sch T23_reg T23_loops T23_sch T26_reg T26_loops T26_sch T27_reg T27_loops T27_sch T28_reg T28_loops T28_sch T29_reg T29_loops T29_sch T30_reg T30_loops T30_sch T31_reg T31_loops T31_sch T32_reg T32_loops T32_sch T33_reg T33_loops T33_sch T34_reg T34_loops T34_sch T35_reg T35_loops T35_sch T36_reg T36_loops T36_sch T37_reg T37_loops T37_sch T38_reg T38_loops T38_sch T39_reg T39_loops T39_sch T40_reg T40_loops T40_sch T41_reg T41_loops T41_sch T42_reg T42_loops T42_sch T43_reg T43_loops T43_sch T44_reg T44_loops T44_sch T45_reg T45_loops T45_sch T46_reg T46_loops T46_sch T47_reg T47_loops T47_sch T49_reg T49_loops T49_sch T56_reg T56_loops T56_sch T58_reg T58_loops T58_sch T59_reg T59_loops T59_sch T61_reg T61_loops T61_sch T63_reg T63_loops T63_sch T64_reg T64_loops T64_sch T65_reg T65_loops T65_sch T66_reg T66_loops T66_sch T67_reg T67_loops T67_sch T68_reg T68_loops T68_sch T69_reg T69_loops T69_sch T70_reg T70_loops T70_sch T71_reg T71_loops T71_sch T72_reg T72_loops T72_sch T73_reg T73_loops T73_sch T74_reg T74_loops T74_sch T75_reg T75_loops T75_sch T76_reg T76_loops T76_sch T77_reg T77_loops T77_sch T78_reg T78_loops T78_sch T79_reg T79_loops T79_sch T80_reg T80_loops T80_sch T81_reg T81_loops T81_sch T82_reg T82_loops T82_sch T83_reg T83_loops T83_sch T84_reg T84_loops T84_sch T85_reg T85_loops T85_sch T86_reg T86_loops T86_sch T87_reg T87_loops T87_sch T88_reg T88_loops T88_sch T89_reg T89_loops T89_sch T90_reg T90_loops T90_sch T91_reg T91_loops T91_sch T92_reg T92_loops T92_sch T93_reg T93_loops T93_sch T94_reg T94_loops T94_sch T95_reg T95_loops T95_sch T96_reg T96_loops T96_sch T97_reg T97_loops T97_sch T98_reg T98_loops T98_sch T99_reg T99_loops T99_sch T100_reg T100_loops T100_sch T101_reg T101_loops T101_sch T102_reg T102_loops T102_sch T103_reg T103_loops T103_sch T105_reg T105_loops T105_sch T106_reg T106_loops T106_sch T107_reg T107_loops T107_sch T113_reg T113_loops T113_sch T114_reg T114_loops T114_sch T115_reg T115_loops T115_sch T116_reg T116_loops T116_sch T117_reg T117_loops T117_sch T118_reg T118_loops T118_sch T119_reg T119_loops T119_sch T120_reg T120_loops T120_sch T121_reg T121_loops T121_sch T122_reg T122_loops T122_sch T123_reg T123_loops T123_sch T124_reg T124_loops T124_sch T125_reg T125_loops T125_sch T126_reg T126_loops T126_sch T127_reg T127_loops T127_sch T128_reg T128_loops T128_sch T129_reg T129_loops T129_sch T130_reg T130_loops T130_sch T131_reg T131_loops T131_sch T132_reg T132_loops T132_sch T136_reg T136_loops T136_sch T138_reg T138_loops T138_sch T139_reg T139_loops T139_sch T140_reg T140_loops T140_sch T141_reg T141_loops T141_sch T142_reg T142_loops T142_sch T143_reg T143_loops T143_sch T144_reg T144_loops T144_sch T145_reg T145_loops T145_sch T146_reg T146_loops T146_sch T147_reg T147_loops T147_sch T152_reg T152_loops T152_sch T153_reg T153_loops T153_sch T155_reg T155_loops T155_sch T156_reg T156_loops T156_sch T157_reg T157_loops T157_sch T158_reg T158_loops T158_sch T160_reg T160_loops T160_sch T161_reg T161_loops T161_sch T162_reg T162_loops T162_sch T163_reg T163_loops T163_sch T165_reg T165_loops T165_sch T166_reg T166_loops T166_sch T167_reg T167_loops T167_sch T169_reg T169_loops T169_sch T170_reg T170_loops T170_sch T171_reg T171_loops T171_sch T172_reg T172_loops T172_sch T173_reg T173_loops T173_sch T175_reg T175_loops T175_sch T176_reg T176_loops T176_sch T178_reg T178_loops T178_sch T179_reg T179_loops T179_sch T180_reg T180_loops T180_sch T181_reg T181_loops T181_sch T203_reg T203_loops T203_sch
theorem mixed : Tryz.prog.follows .mixedOrders = true := by kernel_rfl
end Go.Eng
