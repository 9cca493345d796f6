/-
  THE ENGINE: strings: length, bytes, parts, comparison, range.
-/
import Derived.Test.YtpmmbmmopbmopaaGreatDoorZj1
import Derived.Test.YtpmmbmmopbmopaaGreatDoorProg
import Derived.KernelRfl
namespace Go.Eng
set_option linter.unusedSimpArgs false
set_option linter.unusedVariables false
set_option maxRecDepth 16000
set_option maxHeartbeats 4000000
open Go
def isStrB (P : Program) (t : TypeId) : Bool := match P.underlying t with | some .string => true | _ => false
section
variable {P : Program} {h : Heap} {t u : TypeId} {s : ByteArray}
theorem isStrB_of (ht : isStrB P t = true) : P.underlying t = some .string := by
  unfold isStrB at ht
  split at ht
  · assumption
  · cases ht
theorem runD_len_str (ht : isStrB P t = true) : runD P (iLen #[t] u #[.string s]) h = some (.int .i64 s.size) := by
  unfold iLen Builtin.len_
  simp only [List.getElem?_toArray, List.getElem?_cons_zero]
  rw [runD_bind, runD_underlying (isStrB_of ht)]
  rfl
theorem runD_index_str {k : IntKind} {i : Nat} {b : UInt8} (ht : isStrB P t = true) (hb : s[i]? = some b) : runD P (iIndex t (.string s) (.int k i)) h = some (.int .u8 b.toNat) := by
  unfold iIndex Instr.index
  simp only [asIntOf, pure_bind]
  rw [runD_bind, runD_underlying (isStrB_of ht)]
  simp only [Option.bind_some]
  rw [if_pos (Int.natCast_nonneg i), Int.toNat_natCast, hb]
  rfl
theorem runD_slice_str {lo hi : Option Value} {l m : Nat} (ht : isStrB P t = true) (hb : runD P (Instr.sliceBounds false s.size s.size lo hi none) h = some (l, m, s.size)) : runD P (iSliceAt t (.string s) lo hi none) h = some (.string (s.extract l m)) := by
  unfold iSliceAt Instr.sliceAt
  rw [runD_bind, runD_underlying (isStrB_of ht)]
  simp only [Option.bind_some]
  unfold Instr.slice
  rw [runD_bind, runD_underlying (isStrB_of ht)]
  simp only [Option.bind_some, Option.isSome_none, Bool.false_eq_true, if_false]
  rw [runD_bind, hb]
  rfl
theorem binD_str_eq {x y : Operand} {a b : ByteArray} : binD P h .eql t x y (.string a) (.string b) = some (.bool (a.toList == b.toList)) := rfl
theorem binD_str_ne {x y : Operand} {a b : ByteArray} : binD P h .neq t x y (.string a) (.string b) = some (.bool (!(a.toList == b.toList))) := rfl
theorem runH_rangeStr {K : Value → Heap → Prop} (ht : isStrB P t = true) : runH P (iRange t (.string s)) h K = K (.pointer (some ⟨h.size, 0, none⟩)) (h.push (.stringIter s 0)) := by
  unfold iRange Instr.range
  rw [runH_bind, runH_underlying (isStrB_of ht)]
  rfl
theorem runH_nextStr {r pos : Nat} {ty : TypeId} {K : Value → Heap → Prop} (hr : h[r]? = some (.stringIter s pos))
    (h0 : s.size ≤ pos → K (.tuple #[.bool false]) h)
    (h1 : pos < s.size → K (.tuple #[.bool true, .int .i64 pos, .int .i32 (Utf8.decode s pos).1]) (h.setIfInBounds r (.stringIter s (pos + (Utf8.decode s pos).2)))) :
    runH P (iNext (.pointer (some ⟨r, 0, none⟩)) true ty) h K := by
  unfold iNext Instr.next
  try simp only
  rw [runH_bind, runH_of_runD _ (runD_getObj hr (by simp))]
  try simp only
  have hset : ∀ (o : Obj) (K : Unit → Heap → Prop), (∀ c e f, o ≠ .cells c e f) → runH P (setObj r o) h K = K () (h.setIfInBounds r o) := fun o K _ => by
    simp only [setObj, runH, hr]
  by_cases hp : pos < s.size
  · rw [if_pos hp]
    rw [runH_bind, hset _ _ (by simp)]
    exact h1 hp
  · rw [if_neg hp]
    exact h0 (by omega)
attribute [go_sem ↓] runD_len_str
attribute [go_sem] binD_str_eq binD_str_ne
end
end Go.Eng
/-
  FACTS ON THE PROGRAM: types, fields, functions (closed, each reckoned by the kernel), and each function's table of live slots. Printed by mk.py.
-/
namespace Go.Eng
open Go Go.Proofs
theorem tsz_0 : tsz Tryz.prog 0 = some 1 := by kernel_rfl
theorem aggB_0 : aggB Tryz.prog 0 = some false := by kernel_rfl
theorem tszD_0 : tszD Tryz.prog 0 = 1 := by kernel_rfl
theorem tbytes_0 : tbytes Tryz.prog 0 = some 0 := by kernel_rfl
theorem tzeroD_0 : tzeroD Tryz.prog 0 = .tuple #[] := by kernel_rfl
theorem tzero_0 : tzero Tryz.prog 0 = some (.tuple #[]) := by kernel_rfl
theorem tsz_3 : tsz Tryz.prog 3 = some 1 := by kernel_rfl
theorem aggB_3 : aggB Tryz.prog 3 = some false := by kernel_rfl
theorem tszD_3 : tszD Tryz.prog 3 = 1 := by kernel_rfl
theorem tbytes_3 : tbytes Tryz.prog 3 = some 8 := by kernel_rfl
theorem isInt_3 : isIntB Tryz.prog 3 = true := by kernel_rfl
theorem intK_3 : intKD Tryz.prog 3 = .i64 := by kernel_rfl
theorem tzeroD_3 : tzeroD Tryz.prog 3 = .int .i64 0 := by kernel_rfl
theorem tzero_3 : tzero Tryz.prog 3 = some (.int .i64 0) := by kernel_rfl
theorem tsz_4 : tsz Tryz.prog 4 = some 1 := by kernel_rfl
theorem aggB_4 : aggB Tryz.prog 4 = some false := by kernel_rfl
theorem tszD_4 : tszD Tryz.prog 4 = 1 := by kernel_rfl
theorem tbytes_4 : tbytes Tryz.prog 4 = some 1 := by kernel_rfl
theorem tzeroD_4 : tzeroD Tryz.prog 4 = .bool false := by kernel_rfl
theorem tzero_4 : tzero Tryz.prog 4 = some (.bool false) := by kernel_rfl
theorem tsz_5 : tsz Tryz.prog 5 = some 1 := by kernel_rfl
theorem aggB_5 : aggB Tryz.prog 5 = some false := by kernel_rfl
theorem tszD_5 : tszD Tryz.prog 5 = 1 := by kernel_rfl
theorem tbytes_5 : tbytes Tryz.prog 5 = some 1 := by kernel_rfl
theorem isInt_5 : isIntB Tryz.prog 5 = true := by kernel_rfl
theorem intK_5 : intKD Tryz.prog 5 = .u8 := by kernel_rfl
theorem tzeroD_5 : tzeroD Tryz.prog 5 = .int .u8 0 := by kernel_rfl
theorem tzero_5 : tzero Tryz.prog 5 = some (.int .u8 0) := by kernel_rfl
theorem tsz_9 : tsz Tryz.prog 9 = some 1 := by kernel_rfl
theorem aggB_9 : aggB Tryz.prog 9 = some false := by kernel_rfl
theorem tszD_9 : tszD Tryz.prog 9 = 1 := by kernel_rfl
theorem tbytes_9 : tbytes Tryz.prog 9 = some 16 := by kernel_rfl
theorem isStr_9 : isStrB Tryz.prog 9 = true := by kernel_rfl
theorem tzeroD_9 : tzeroD Tryz.prog 9 = .string ByteArray.empty := by kernel_rfl
theorem tzero_9 : tzero Tryz.prog 9 = some (.string ByteArray.empty) := by kernel_rfl
theorem tsz_21 : tsz Tryz.prog 21 = some 1 := by kernel_rfl
theorem aggB_21 : aggB Tryz.prog 21 = some false := by kernel_rfl
theorem tszD_21 : tszD Tryz.prog 21 = 1 := by kernel_rfl
theorem tbytes_21 : tbytes Tryz.prog 21 = some 4 := by kernel_rfl
theorem isInt_21 : isIntB Tryz.prog 21 = true := by kernel_rfl
theorem intK_21 : intKD Tryz.prog 21 = .i32 := by kernel_rfl
theorem tzeroD_21 : tzeroD Tryz.prog 21 = .int .i32 0 := by kernel_rfl
theorem tzero_21 : tzero Tryz.prog 21 = some (.int .i32 0) := by kernel_rfl
theorem tsz_22 : tsz Tryz.prog 22 = some 1 := by kernel_rfl
theorem aggB_22 : aggB Tryz.prog 22 = some false := by kernel_rfl
theorem tszD_22 : tszD Tryz.prog 22 = 1 := by kernel_rfl
theorem tbytes_22 : tbytes Tryz.prog 22 = some 4 := by kernel_rfl
theorem isInt_22 : isIntB Tryz.prog 22 = true := by kernel_rfl
theorem intK_22 : intKD Tryz.prog 22 = .u32 := by kernel_rfl
theorem tzeroD_22 : tzeroD Tryz.prog 22 = .int .u32 0 := by kernel_rfl
theorem tzero_22 : tzero Tryz.prog 22 = some (.int .u32 0) := by kernel_rfl
theorem tsz_23 : tsz Tryz.prog 23 = some 16 := by kernel_rfl
theorem aggB_23 : aggB Tryz.prog 23 = some true := by kernel_rfl
theorem tszD_23 : tszD Tryz.prog 23 = 16 := by kernel_rfl
theorem tbytes_23 : tbytes Tryz.prog 23 = some 64 := by kernel_rfl
theorem isArr_23 : isArrB Tryz.prog 23 = true := by kernel_rfl
theorem arrLen_23 : arrLen Tryz.prog 23 = 16 := by kernel_rfl
theorem arrSz_23 : arrSz Tryz.prog 23 = 1 := by kernel_rfl
theorem tzeroD_23 : tzeroD Tryz.prog 23 = .agg #[.int .u32 0, .int .u32 0, .int .u32 0, .int .u32 0, .int .u32 0, .int .u32 0, .int .u32 0, .int .u32 0, .int .u32 0, .int .u32 0, .int .u32 0, .int .u32 0, .int .u32 0, .int .u32 0, .int .u32 0, .int .u32 0] := by kernel_rfl
theorem tzero_23 : tzero Tryz.prog 23 = some (.agg #[.int .u32 0, .int .u32 0, .int .u32 0, .int .u32 0, .int .u32 0, .int .u32 0, .int .u32 0, .int .u32 0, .int .u32 0, .int .u32 0, .int .u32 0, .int .u32 0, .int .u32 0, .int .u32 0, .int .u32 0, .int .u32 0]) := by kernel_rfl
theorem tsz_25 : tsz Tryz.prog 25 = some 5 := by kernel_rfl
theorem aggB_25 : aggB Tryz.prog 25 = some true := by kernel_rfl
theorem tszD_25 : tszD Tryz.prog 25 = 5 := by kernel_rfl
theorem tbytes_25 : tbytes Tryz.prog 25 = some 40 := by kernel_rfl
theorem tzeroD_25 : tzeroD Tryz.prog 25 = .agg #[.int .i64 0, .int .i64 0, .int .i64 0, .int .i64 0, .int .i64 0] := by kernel_rfl
theorem tzero_25 : tzero Tryz.prog 25 = some (.agg #[.int .i64 0, .int .i64 0, .int .i64 0, .int .i64 0, .int .i64 0]) := by kernel_rfl
theorem tsz_26 : tsz Tryz.prog 26 = some 5 := by kernel_rfl
theorem aggB_26 : aggB Tryz.prog 26 = some true := by kernel_rfl
theorem tszD_26 : tszD Tryz.prog 26 = 5 := by kernel_rfl
theorem tbytes_26 : tbytes Tryz.prog 26 = some 40 := by kernel_rfl
theorem tzeroD_26 : tzeroD Tryz.prog 26 = .agg #[.int .i64 0, .int .i64 0, .int .i64 0, .int .i64 0, .int .i64 0] := by kernel_rfl
theorem tzero_26 : tzero Tryz.prog 26 = some (.agg #[.int .i64 0, .int .i64 0, .int .i64 0, .int .i64 0, .int .i64 0]) := by kernel_rfl
theorem tsz_27 : tsz Tryz.prog 27 = some 1 := by kernel_rfl
theorem aggB_27 : aggB Tryz.prog 27 = some false := by kernel_rfl
theorem tszD_27 : tszD Tryz.prog 27 = 1 := by kernel_rfl
theorem tbytes_27 : tbytes Tryz.prog 27 = some 8 := by kernel_rfl
theorem isPtr_27 : isPtrB Tryz.prog 27 = true := by kernel_rfl
theorem tzeroD_27 : tzeroD Tryz.prog 27 = .pointer none := by kernel_rfl
theorem tzero_27 : tzero Tryz.prog 27 = some (.pointer none) := by kernel_rfl
theorem tsz_28 : tsz Tryz.prog 28 = some 1 := by kernel_rfl
theorem aggB_28 : aggB Tryz.prog 28 = some false := by kernel_rfl
theorem tszD_28 : tszD Tryz.prog 28 = 1 := by kernel_rfl
theorem tbytes_28 : tbytes Tryz.prog 28 = some 8 := by kernel_rfl
theorem isPtr_28 : isPtrB Tryz.prog 28 = true := by kernel_rfl
theorem tzeroD_28 : tzeroD Tryz.prog 28 = .pointer none := by kernel_rfl
theorem tzero_28 : tzero Tryz.prog 28 = some (.pointer none) := by kernel_rfl
theorem tsz_29 : tsz Tryz.prog 29 = some 1 := by kernel_rfl
theorem aggB_29 : aggB Tryz.prog 29 = some false := by kernel_rfl
theorem tszD_29 : tszD Tryz.prog 29 = 1 := by kernel_rfl
theorem tbytes_29 : tbytes Tryz.prog 29 = some 8 := by kernel_rfl
theorem isPtr_29 : isPtrB Tryz.prog 29 = true := by kernel_rfl
theorem tzeroD_29 : tzeroD Tryz.prog 29 = .pointer none := by kernel_rfl
theorem tzero_29 : tzero Tryz.prog 29 = some (.pointer none) := by kernel_rfl
theorem tsz_30 : tsz Tryz.prog 30 = some 3 := by kernel_rfl
theorem aggB_30 : aggB Tryz.prog 30 = some true := by kernel_rfl
theorem tszD_30 : tszD Tryz.prog 30 = 3 := by kernel_rfl
theorem tbytes_30 : tbytes Tryz.prog 30 = some 24 := by kernel_rfl
theorem tzeroD_30 : tzeroD Tryz.prog 30 = .agg #[.pointer none, .pointer none, .pointer none] := by kernel_rfl
theorem tzero_30 : tzero Tryz.prog 30 = some (.agg #[.pointer none, .pointer none, .pointer none]) := by kernel_rfl
theorem tsz_31 : tsz Tryz.prog 31 = some 3 := by kernel_rfl
theorem aggB_31 : aggB Tryz.prog 31 = some true := by kernel_rfl
theorem tszD_31 : tszD Tryz.prog 31 = 3 := by kernel_rfl
theorem tbytes_31 : tbytes Tryz.prog 31 = some 24 := by kernel_rfl
theorem tzeroD_31 : tzeroD Tryz.prog 31 = .agg #[.pointer none, .pointer none, .pointer none] := by kernel_rfl
theorem tzero_31 : tzero Tryz.prog 31 = some (.agg #[.pointer none, .pointer none, .pointer none]) := by kernel_rfl
theorem tsz_32 : tsz Tryz.prog 32 = some 1 := by kernel_rfl
theorem aggB_32 : aggB Tryz.prog 32 = some false := by kernel_rfl
theorem tszD_32 : tszD Tryz.prog 32 = 1 := by kernel_rfl
theorem tbytes_32 : tbytes Tryz.prog 32 = some 8 := by kernel_rfl
theorem isPtr_32 : isPtrB Tryz.prog 32 = true := by kernel_rfl
theorem tzeroD_32 : tzeroD Tryz.prog 32 = .pointer none := by kernel_rfl
theorem tzero_32 : tzero Tryz.prog 32 = some (.pointer none) := by kernel_rfl
theorem tsz_33 : tsz Tryz.prog 33 = some 1 := by kernel_rfl
theorem aggB_33 : aggB Tryz.prog 33 = some false := by kernel_rfl
theorem tszD_33 : tszD Tryz.prog 33 = 1 := by kernel_rfl
theorem tbytes_33 : tbytes Tryz.prog 33 = some 8 := by kernel_rfl
theorem isPtr_33 : isPtrB Tryz.prog 33 = true := by kernel_rfl
theorem tzeroD_33 : tzeroD Tryz.prog 33 = .pointer none := by kernel_rfl
theorem tzero_33 : tzero Tryz.prog 33 = some (.pointer none) := by kernel_rfl
theorem tsz_34 : tsz Tryz.prog 34 = some 1 := by kernel_rfl
theorem aggB_34 : aggB Tryz.prog 34 = some false := by kernel_rfl
theorem tszD_34 : tszD Tryz.prog 34 = 1 := by kernel_rfl
theorem tbytes_34 : tbytes Tryz.prog 34 = some 8 := by kernel_rfl
theorem isPtr_34 : isPtrB Tryz.prog 34 = true := by kernel_rfl
theorem tzeroD_34 : tzeroD Tryz.prog 34 = .pointer none := by kernel_rfl
theorem tzero_34 : tzero Tryz.prog 34 = some (.pointer none) := by kernel_rfl
theorem tsz_35 : tsz Tryz.prog 35 = some 3 := by kernel_rfl
theorem aggB_35 : aggB Tryz.prog 35 = some true := by kernel_rfl
theorem tszD_35 : tszD Tryz.prog 35 = 3 := by kernel_rfl
theorem tbytes_35 : tbytes Tryz.prog 35 = some 24 := by kernel_rfl
theorem tzeroD_35 : tzeroD Tryz.prog 35 = .agg #[.pointer none, .pointer none, .pointer none] := by kernel_rfl
theorem tzero_35 : tzero Tryz.prog 35 = some (.agg #[.pointer none, .pointer none, .pointer none]) := by kernel_rfl
theorem tsz_36 : tsz Tryz.prog 36 = some 3 := by kernel_rfl
theorem aggB_36 : aggB Tryz.prog 36 = some true := by kernel_rfl
theorem tszD_36 : tszD Tryz.prog 36 = 3 := by kernel_rfl
theorem tbytes_36 : tbytes Tryz.prog 36 = some 24 := by kernel_rfl
theorem tzeroD_36 : tzeroD Tryz.prog 36 = .agg #[.pointer none, .pointer none, .pointer none] := by kernel_rfl
theorem tzero_36 : tzero Tryz.prog 36 = some (.agg #[.pointer none, .pointer none, .pointer none]) := by kernel_rfl
theorem tsz_37 : tsz Tryz.prog 37 = some 6 := by kernel_rfl
theorem aggB_37 : aggB Tryz.prog 37 = some true := by kernel_rfl
theorem tszD_37 : tszD Tryz.prog 37 = 6 := by kernel_rfl
theorem tbytes_37 : tbytes Tryz.prog 37 = some 48 := by kernel_rfl
theorem tzeroD_37 : tzeroD Tryz.prog 37 = .agg #[.pointer none, .pointer none, .pointer none, .pointer none, .pointer none, .pointer none] := by kernel_rfl
theorem tzero_37 : tzero Tryz.prog 37 = some (.agg #[.pointer none, .pointer none, .pointer none, .pointer none, .pointer none, .pointer none]) := by kernel_rfl
theorem tsz_38 : tsz Tryz.prog 38 = some 6 := by kernel_rfl
theorem aggB_38 : aggB Tryz.prog 38 = some true := by kernel_rfl
theorem tszD_38 : tszD Tryz.prog 38 = 6 := by kernel_rfl
theorem tbytes_38 : tbytes Tryz.prog 38 = some 48 := by kernel_rfl
theorem tzeroD_38 : tzeroD Tryz.prog 38 = .agg #[.pointer none, .pointer none, .pointer none, .pointer none, .pointer none, .pointer none] := by kernel_rfl
theorem tzero_38 : tzero Tryz.prog 38 = some (.agg #[.pointer none, .pointer none, .pointer none, .pointer none, .pointer none, .pointer none]) := by kernel_rfl
theorem tsz_39 : tsz Tryz.prog 39 = some 1 := by kernel_rfl
theorem aggB_39 : aggB Tryz.prog 39 = some false := by kernel_rfl
theorem tszD_39 : tszD Tryz.prog 39 = 1 := by kernel_rfl
theorem tbytes_39 : tbytes Tryz.prog 39 = some 0 := by kernel_rfl
theorem tzeroD_39 : tzeroD Tryz.prog 39 = .tuple #[.agg #[.pointer none, .pointer none, .pointer none, .pointer none, .pointer none, .pointer none], .bool false] := by kernel_rfl
theorem tzero_39 : tzero Tryz.prog 39 = some (.tuple #[.agg #[.pointer none, .pointer none, .pointer none, .pointer none, .pointer none, .pointer none], .bool false]) := by kernel_rfl
theorem tsz_41 : tsz Tryz.prog 41 = some 1 := by kernel_rfl
theorem aggB_41 : aggB Tryz.prog 41 = some false := by kernel_rfl
theorem tszD_41 : tszD Tryz.prog 41 = 1 := by kernel_rfl
theorem tbytes_41 : tbytes Tryz.prog 41 = some 24 := by kernel_rfl
theorem isSlice_41 : isSliceB Tryz.prog 41 = true := by kernel_rfl
theorem ssz_41 : sliceSz Tryz.prog 41 = 6 := by kernel_rfl
theorem selem_41 : sliceElem Tryz.prog 41 = 76 := by kernel_rfl
theorem tzeroD_41 : tzeroD Tryz.prog 41 = .slice none 0 0 := by kernel_rfl
theorem tzero_41 : tzero Tryz.prog 41 = some (.slice none 0 0) := by kernel_rfl
theorem tsz_42 : tsz Tryz.prog 42 = some 1 := by kernel_rfl
theorem aggB_42 : aggB Tryz.prog 42 = some false := by kernel_rfl
theorem tszD_42 : tszD Tryz.prog 42 = 1 := by kernel_rfl
theorem tbytes_42 : tbytes Tryz.prog 42 = some 24 := by kernel_rfl
theorem isSlice_42 : isSliceB Tryz.prog 42 = true := by kernel_rfl
theorem ssz_42 : sliceSz Tryz.prog 42 = 2 := by kernel_rfl
theorem selem_42 : sliceElem Tryz.prog 42 = 79 := by kernel_rfl
theorem tzeroD_42 : tzeroD Tryz.prog 42 = .slice none 0 0 := by kernel_rfl
theorem tzero_42 : tzero Tryz.prog 42 = some (.slice none 0 0) := by kernel_rfl
theorem tsz_43 : tsz Tryz.prog 43 = some 5 := by kernel_rfl
theorem aggB_43 : aggB Tryz.prog 43 = some true := by kernel_rfl
theorem tszD_43 : tszD Tryz.prog 43 = 5 := by kernel_rfl
theorem tbytes_43 : tbytes Tryz.prog 43 = some 72 := by kernel_rfl
theorem tzeroD_43 : tzeroD Tryz.prog 43 = .agg #[.slice none 0 0, .slice none 0 0, .bool false, .int .i64 0, .int .i64 0] := by kernel_rfl
theorem tzero_43 : tzero Tryz.prog 43 = some (.agg #[.slice none 0 0, .slice none 0 0, .bool false, .int .i64 0, .int .i64 0]) := by kernel_rfl
theorem tsz_44 : tsz Tryz.prog 44 = some 5 := by kernel_rfl
theorem aggB_44 : aggB Tryz.prog 44 = some true := by kernel_rfl
theorem tszD_44 : tszD Tryz.prog 44 = 5 := by kernel_rfl
theorem tbytes_44 : tbytes Tryz.prog 44 = some 72 := by kernel_rfl
theorem tzeroD_44 : tzeroD Tryz.prog 44 = .agg #[.slice none 0 0, .slice none 0 0, .bool false, .int .i64 0, .int .i64 0] := by kernel_rfl
theorem tzero_44 : tzero Tryz.prog 44 = some (.agg #[.slice none 0 0, .slice none 0 0, .bool false, .int .i64 0, .int .i64 0]) := by kernel_rfl
theorem tsz_46 : tsz Tryz.prog 46 = some 8 := by kernel_rfl
theorem aggB_46 : aggB Tryz.prog 46 = some true := by kernel_rfl
theorem tszD_46 : tszD Tryz.prog 46 = 8 := by kernel_rfl
theorem tbytes_46 : tbytes Tryz.prog 46 = some 32 := by kernel_rfl
theorem isArr_46 : isArrB Tryz.prog 46 = true := by kernel_rfl
theorem arrLen_46 : arrLen Tryz.prog 46 = 8 := by kernel_rfl
theorem arrSz_46 : arrSz Tryz.prog 46 = 1 := by kernel_rfl
theorem tzeroD_46 : tzeroD Tryz.prog 46 = .agg #[.int .u32 0, .int .u32 0, .int .u32 0, .int .u32 0, .int .u32 0, .int .u32 0, .int .u32 0, .int .u32 0] := by kernel_rfl
theorem tzero_46 : tzero Tryz.prog 46 = some (.agg #[.int .u32 0, .int .u32 0, .int .u32 0, .int .u32 0, .int .u32 0, .int .u32 0, .int .u32 0, .int .u32 0]) := by kernel_rfl
theorem tsz_47 : tsz Tryz.prog 47 = some 25 := by kernel_rfl
theorem aggB_47 : aggB Tryz.prog 47 = some true := by kernel_rfl
theorem tszD_47 : tszD Tryz.prog 47 = 25 := by kernel_rfl
theorem tbytes_47 : tbytes Tryz.prog 47 = some 104 := by kernel_rfl
theorem tzeroD_47 : tzeroD Tryz.prog 47 = .agg #[.int .u32 0, .int .u32 0, .int .u32 0, .int .u32 0, .int .u32 0, .int .u32 0, .int .u32 0, .int .u32 0, .int .u32 0, .int .u32 0, .int .u32 0, .int .u32 0, .int .u32 0, .int .u32 0, .int .u32 0, .int .u32 0, .int .i64 0, .int .u32 0, .int .u32 0, .int .u32 0, .int .u32 0, .int .u32 0, .int .u32 0, .int .u32 0, .int .u32 0] := by kernel_rfl
theorem tzero_47 : tzero Tryz.prog 47 = some (.agg #[.int .u32 0, .int .u32 0, .int .u32 0, .int .u32 0, .int .u32 0, .int .u32 0, .int .u32 0, .int .u32 0, .int .u32 0, .int .u32 0, .int .u32 0, .int .u32 0, .int .u32 0, .int .u32 0, .int .u32 0, .int .u32 0, .int .i64 0, .int .u32 0, .int .u32 0, .int .u32 0, .int .u32 0, .int .u32 0, .int .u32 0, .int .u32 0, .int .u32 0]) := by kernel_rfl
theorem tsz_48 : tsz Tryz.prog 48 = some 25 := by kernel_rfl
theorem aggB_48 : aggB Tryz.prog 48 = some true := by kernel_rfl
theorem tszD_48 : tszD Tryz.prog 48 = 25 := by kernel_rfl
theorem tbytes_48 : tbytes Tryz.prog 48 = some 104 := by kernel_rfl
theorem tzeroD_48 : tzeroD Tryz.prog 48 = .agg #[.int .u32 0, .int .u32 0, .int .u32 0, .int .u32 0, .int .u32 0, .int .u32 0, .int .u32 0, .int .u32 0, .int .u32 0, .int .u32 0, .int .u32 0, .int .u32 0, .int .u32 0, .int .u32 0, .int .u32 0, .int .u32 0, .int .i64 0, .int .u32 0, .int .u32 0, .int .u32 0, .int .u32 0, .int .u32 0, .int .u32 0, .int .u32 0, .int .u32 0] := by kernel_rfl
theorem tzero_48 : tzero Tryz.prog 48 = some (.agg #[.int .u32 0, .int .u32 0, .int .u32 0, .int .u32 0, .int .u32 0, .int .u32 0, .int .u32 0, .int .u32 0, .int .u32 0, .int .u32 0, .int .u32 0, .int .u32 0, .int .u32 0, .int .u32 0, .int .u32 0, .int .u32 0, .int .i64 0, .int .u32 0, .int .u32 0, .int .u32 0, .int .u32 0, .int .u32 0, .int .u32 0, .int .u32 0, .int .u32 0]) := by kernel_rfl
theorem tsz_49 : tsz Tryz.prog 49 = some 5 := by kernel_rfl
theorem aggB_49 : aggB Tryz.prog 49 = some true := by kernel_rfl
theorem tszD_49 : tszD Tryz.prog 49 = 5 := by kernel_rfl
theorem tbytes_49 : tbytes Tryz.prog 49 = some 40 := by kernel_rfl
theorem tzeroD_49 : tzeroD Tryz.prog 49 = .agg #[.int .i64 0, .int .i64 0, .int .i64 0, .bool false, .int .i64 0] := by kernel_rfl
theorem tzero_49 : tzero Tryz.prog 49 = some (.agg #[.int .i64 0, .int .i64 0, .int .i64 0, .bool false, .int .i64 0]) := by kernel_rfl
theorem tsz_50 : tsz Tryz.prog 50 = some 5 := by kernel_rfl
theorem aggB_50 : aggB Tryz.prog 50 = some true := by kernel_rfl
theorem tszD_50 : tszD Tryz.prog 50 = 5 := by kernel_rfl
theorem tbytes_50 : tbytes Tryz.prog 50 = some 40 := by kernel_rfl
theorem tzeroD_50 : tzeroD Tryz.prog 50 = .agg #[.int .i64 0, .int .i64 0, .int .i64 0, .bool false, .int .i64 0] := by kernel_rfl
theorem tzero_50 : tzero Tryz.prog 50 = some (.agg #[.int .i64 0, .int .i64 0, .int .i64 0, .bool false, .int .i64 0]) := by kernel_rfl
theorem tsz_51 : tsz Tryz.prog 51 = some 8 := by kernel_rfl
theorem aggB_51 : aggB Tryz.prog 51 = some true := by kernel_rfl
theorem tszD_51 : tszD Tryz.prog 51 = 8 := by kernel_rfl
theorem tbytes_51 : tbytes Tryz.prog 51 = some 64 := by kernel_rfl
theorem tzeroD_51 : tzeroD Tryz.prog 51 = .agg #[.int .i64 0, .int .i64 0, .int .i64 0, .int .i64 0, .int .i64 0, .int .i64 0, .bool false, .int .i64 0] := by kernel_rfl
theorem tzero_51 : tzero Tryz.prog 51 = some (.agg #[.int .i64 0, .int .i64 0, .int .i64 0, .int .i64 0, .int .i64 0, .int .i64 0, .bool false, .int .i64 0]) := by kernel_rfl
theorem tsz_52 : tsz Tryz.prog 52 = some 8 := by kernel_rfl
theorem aggB_52 : aggB Tryz.prog 52 = some true := by kernel_rfl
theorem tszD_52 : tszD Tryz.prog 52 = 8 := by kernel_rfl
theorem tbytes_52 : tbytes Tryz.prog 52 = some 64 := by kernel_rfl
theorem tzeroD_52 : tzeroD Tryz.prog 52 = .agg #[.int .i64 0, .int .i64 0, .int .i64 0, .int .i64 0, .int .i64 0, .int .i64 0, .bool false, .int .i64 0] := by kernel_rfl
theorem tzero_52 : tzero Tryz.prog 52 = some (.agg #[.int .i64 0, .int .i64 0, .int .i64 0, .int .i64 0, .int .i64 0, .int .i64 0, .bool false, .int .i64 0]) := by kernel_rfl
theorem tsz_53 : tsz Tryz.prog 53 = some 1 := by kernel_rfl
theorem aggB_53 : aggB Tryz.prog 53 = some false := by kernel_rfl
theorem tszD_53 : tszD Tryz.prog 53 = 1 := by kernel_rfl
theorem tbytes_53 : tbytes Tryz.prog 53 = some 0 := by kernel_rfl
theorem tzeroD_53 : tzeroD Tryz.prog 53 = .tuple #[.agg #[.int .u32 0, .int .u32 0, .int .u32 0, .int .u32 0, .int .u32 0, .int .u32 0, .int .u32 0, .int .u32 0, .int .u32 0, .int .u32 0, .int .u32 0, .int .u32 0, .int .u32 0, .int .u32 0, .int .u32 0, .int .u32 0, .int .i64 0, .int .u32 0, .int .u32 0, .int .u32 0, .int .u32 0, .int .u32 0, .int .u32 0, .int .u32 0, .int .u32 0], .agg #[.int .i64 0, .int .i64 0, .int .i64 0, .int .i64 0, .int .i64 0, .int .i64 0, .bool false, .int .i64 0]] := by kernel_rfl
theorem tzero_53 : tzero Tryz.prog 53 = some (.tuple #[.agg #[.int .u32 0, .int .u32 0, .int .u32 0, .int .u32 0, .int .u32 0, .int .u32 0, .int .u32 0, .int .u32 0, .int .u32 0, .int .u32 0, .int .u32 0, .int .u32 0, .int .u32 0, .int .u32 0, .int .u32 0, .int .u32 0, .int .i64 0, .int .u32 0, .int .u32 0, .int .u32 0, .int .u32 0, .int .u32 0, .int .u32 0, .int .u32 0, .int .u32 0], .agg #[.int .i64 0, .int .i64 0, .int .i64 0, .int .i64 0, .int .i64 0, .int .i64 0, .bool false, .int .i64 0]]) := by kernel_rfl
theorem tsz_56 : tsz Tryz.prog 56 = some 1 := by kernel_rfl
theorem aggB_56 : aggB Tryz.prog 56 = some false := by kernel_rfl
theorem tszD_56 : tszD Tryz.prog 56 = 1 := by kernel_rfl
theorem tbytes_56 : tbytes Tryz.prog 56 = some 8 := by kernel_rfl
theorem isInt_56 : isIntB Tryz.prog 56 = true := by kernel_rfl
theorem intK_56 : intKD Tryz.prog 56 = .i64 := by kernel_rfl
theorem tzeroD_56 : tzeroD Tryz.prog 56 = .int .i64 0 := by kernel_rfl
theorem tzero_56 : tzero Tryz.prog 56 = some (.int .i64 0) := by kernel_rfl
theorem tsz_57 : tsz Tryz.prog 57 = some 1 := by kernel_rfl
theorem aggB_57 : aggB Tryz.prog 57 = some false := by kernel_rfl
theorem tszD_57 : tszD Tryz.prog 57 = 1 := by kernel_rfl
theorem tbytes_57 : tbytes Tryz.prog 57 = some 0 := by kernel_rfl
theorem tzeroD_57 : tzeroD Tryz.prog 57 = .tuple #[.int .u32 0, .int .i64 0] := by kernel_rfl
theorem tzero_57 : tzero Tryz.prog 57 = some (.tuple #[.int .u32 0, .int .i64 0]) := by kernel_rfl
theorem tsz_62 : tsz Tryz.prog 62 = some 1 := by kernel_rfl
theorem aggB_62 : aggB Tryz.prog 62 = some false := by kernel_rfl
theorem tszD_62 : tszD Tryz.prog 62 = 1 := by kernel_rfl
theorem tbytes_62 : tbytes Tryz.prog 62 = some 24 := by kernel_rfl
theorem isSlice_62 : isSliceB Tryz.prog 62 = true := by kernel_rfl
theorem ssz_62 : sliceSz Tryz.prog 62 = 1 := by kernel_rfl
theorem selem_62 : sliceElem Tryz.prog 62 = 5 := by kernel_rfl
theorem tzeroD_62 : tzeroD Tryz.prog 62 = .slice none 0 0 := by kernel_rfl
theorem tzero_62 : tzero Tryz.prog 62 = some (.slice none 0 0) := by kernel_rfl
theorem tsz_63 : tsz Tryz.prog 63 = some 1 := by kernel_rfl
theorem aggB_63 : aggB Tryz.prog 63 = some false := by kernel_rfl
theorem tszD_63 : tszD Tryz.prog 63 = 1 := by kernel_rfl
theorem tbytes_63 : tbytes Tryz.prog 63 = some 0 := by kernel_rfl
theorem tzeroD_63 : tzeroD Tryz.prog 63 = .tuple #[.slice none 0 0, .int .i64 0] := by kernel_rfl
theorem tzero_63 : tzero Tryz.prog 63 = some (.tuple #[.slice none 0 0, .int .i64 0]) := by kernel_rfl
theorem tsz_67 : tsz Tryz.prog 67 = some 1 := by kernel_rfl
theorem aggB_67 : aggB Tryz.prog 67 = some false := by kernel_rfl
theorem tszD_67 : tszD Tryz.prog 67 = 1 := by kernel_rfl
theorem tbytes_67 : tbytes Tryz.prog 67 = some 0 := by kernel_rfl
theorem tzeroD_67 : tzeroD Tryz.prog 67 = .tuple #[.pointer none, .int .i64 0] := by kernel_rfl
theorem tzero_67 : tzero Tryz.prog 67 = some (.tuple #[.pointer none, .int .i64 0]) := by kernel_rfl
theorem tsz_69 : tsz Tryz.prog 69 = some 1 := by kernel_rfl
theorem aggB_69 : aggB Tryz.prog 69 = some false := by kernel_rfl
theorem tszD_69 : tszD Tryz.prog 69 = 1 := by kernel_rfl
theorem tbytes_69 : tbytes Tryz.prog 69 = some 0 := by kernel_rfl
theorem tzeroD_69 : tzeroD Tryz.prog 69 = .tuple #[.pointer none, .int .i64 0] := by kernel_rfl
theorem tzero_69 : tzero Tryz.prog 69 = some (.tuple #[.pointer none, .int .i64 0]) := by kernel_rfl
theorem tsz_73 : tsz Tryz.prog 73 = some 4 := by kernel_rfl
theorem aggB_73 : aggB Tryz.prog 73 = some true := by kernel_rfl
theorem tszD_73 : tszD Tryz.prog 73 = 4 := by kernel_rfl
theorem tbytes_73 : tbytes Tryz.prog 73 = some 24 := by kernel_rfl
theorem tzeroD_73 : tzeroD Tryz.prog 73 = .agg #[.bool false, .bool false, .int .i64 0, .int .i64 0] := by kernel_rfl
theorem tzero_73 : tzero Tryz.prog 73 = some (.agg #[.bool false, .bool false, .int .i64 0, .int .i64 0]) := by kernel_rfl
theorem tsz_74 : tsz Tryz.prog 74 = some 4 := by kernel_rfl
theorem aggB_74 : aggB Tryz.prog 74 = some true := by kernel_rfl
theorem tszD_74 : tszD Tryz.prog 74 = 4 := by kernel_rfl
theorem tbytes_74 : tbytes Tryz.prog 74 = some 24 := by kernel_rfl
theorem tzeroD_74 : tzeroD Tryz.prog 74 = .agg #[.bool false, .bool false, .int .i64 0, .int .i64 0] := by kernel_rfl
theorem tzero_74 : tzero Tryz.prog 74 = some (.agg #[.bool false, .bool false, .int .i64 0, .int .i64 0]) := by kernel_rfl
theorem tsz_75 : tsz Tryz.prog 75 = some 6 := by kernel_rfl
theorem aggB_75 : aggB Tryz.prog 75 = some true := by kernel_rfl
theorem tszD_75 : tszD Tryz.prog 75 = 6 := by kernel_rfl
theorem tbytes_75 : tbytes Tryz.prog 75 = some 40 := by kernel_rfl
theorem tzeroD_75 : tzeroD Tryz.prog 75 = .agg #[.int .i64 0, .int .i64 0, .bool false, .bool false, .int .i64 0, .int .i64 0] := by kernel_rfl
theorem tzero_75 : tzero Tryz.prog 75 = some (.agg #[.int .i64 0, .int .i64 0, .bool false, .bool false, .int .i64 0, .int .i64 0]) := by kernel_rfl
theorem tsz_76 : tsz Tryz.prog 76 = some 6 := by kernel_rfl
theorem aggB_76 : aggB Tryz.prog 76 = some true := by kernel_rfl
theorem tszD_76 : tszD Tryz.prog 76 = 6 := by kernel_rfl
theorem tbytes_76 : tbytes Tryz.prog 76 = some 40 := by kernel_rfl
theorem tzeroD_76 : tzeroD Tryz.prog 76 = .agg #[.int .i64 0, .int .i64 0, .bool false, .bool false, .int .i64 0, .int .i64 0] := by kernel_rfl
theorem tzero_76 : tzero Tryz.prog 76 = some (.agg #[.int .i64 0, .int .i64 0, .bool false, .bool false, .int .i64 0, .int .i64 0]) := by kernel_rfl
theorem tsz_78 : tsz Tryz.prog 78 = some 2 := by kernel_rfl
theorem aggB_78 : aggB Tryz.prog 78 = some true := by kernel_rfl
theorem tszD_78 : tszD Tryz.prog 78 = 2 := by kernel_rfl
theorem tbytes_78 : tbytes Tryz.prog 78 = some 16 := by kernel_rfl
theorem tzeroD_78 : tzeroD Tryz.prog 78 = .agg #[.int .i64 0, .int .u32 0] := by kernel_rfl
theorem tzero_78 : tzero Tryz.prog 78 = some (.agg #[.int .i64 0, .int .u32 0]) := by kernel_rfl
theorem tsz_79 : tsz Tryz.prog 79 = some 2 := by kernel_rfl
theorem aggB_79 : aggB Tryz.prog 79 = some true := by kernel_rfl
theorem tszD_79 : tszD Tryz.prog 79 = 2 := by kernel_rfl
theorem tbytes_79 : tbytes Tryz.prog 79 = some 16 := by kernel_rfl
theorem tzeroD_79 : tzeroD Tryz.prog 79 = .agg #[.int .i64 0, .int .u32 0] := by kernel_rfl
theorem tzero_79 : tzero Tryz.prog 79 = some (.agg #[.int .i64 0, .int .u32 0]) := by kernel_rfl
theorem tsz_80 : tsz Tryz.prog 80 = some 5 := by kernel_rfl
theorem aggB_80 : aggB Tryz.prog 80 = some true := by kernel_rfl
theorem tszD_80 : tszD Tryz.prog 80 = 5 := by kernel_rfl
theorem tbytes_80 : tbytes Tryz.prog 80 = some 40 := by kernel_rfl
theorem tzeroD_80 : tzeroD Tryz.prog 80 = .agg #[.int .i64 0, .int .i64 0, .int .i64 0, .int .i64 0, .int .i64 0] := by kernel_rfl
theorem tzero_80 : tzero Tryz.prog 80 = some (.agg #[.int .i64 0, .int .i64 0, .int .i64 0, .int .i64 0, .int .i64 0]) := by kernel_rfl
theorem tsz_81 : tsz Tryz.prog 81 = some 5 := by kernel_rfl
theorem aggB_81 : aggB Tryz.prog 81 = some true := by kernel_rfl
theorem tszD_81 : tszD Tryz.prog 81 = 5 := by kernel_rfl
theorem tbytes_81 : tbytes Tryz.prog 81 = some 40 := by kernel_rfl
theorem tzeroD_81 : tzeroD Tryz.prog 81 = .agg #[.int .i64 0, .int .i64 0, .int .i64 0, .int .i64 0, .int .i64 0] := by kernel_rfl
theorem tzero_81 : tzero Tryz.prog 81 = some (.agg #[.int .i64 0, .int .i64 0, .int .i64 0, .int .i64 0, .int .i64 0]) := by kernel_rfl
theorem tsz_82 : tsz Tryz.prog 82 = some 40 := by kernel_rfl
theorem aggB_82 : aggB Tryz.prog 82 = some true := by kernel_rfl
theorem tszD_82 : tszD Tryz.prog 82 = 40 := by kernel_rfl
theorem tbytes_82 : tbytes Tryz.prog 82 = some 320 := by kernel_rfl
theorem isArr_82 : isArrB Tryz.prog 82 = true := by kernel_rfl
theorem arrLen_82 : arrLen Tryz.prog 82 = 8 := by kernel_rfl
theorem arrSz_82 : arrSz Tryz.prog 82 = 5 := by kernel_rfl
theorem tzeroD_82 : tzeroD Tryz.prog 82 = .agg #[.int .i64 0, .int .i64 0, .int .i64 0, .int .i64 0, .int .i64 0, .int .i64 0, .int .i64 0, .int .i64 0, .int .i64 0, .int .i64 0, .int .i64 0, .int .i64 0, .int .i64 0, .int .i64 0, .int .i64 0, .int .i64 0, .int .i64 0, .int .i64 0, .int .i64 0, .int .i64 0, .int .i64 0, .int .i64 0, .int .i64 0, .int .i64 0, .int .i64 0, .int .i64 0, .int .i64 0, .int .i64 0, .int .i64 0, .int .i64 0, .int .i64 0, .int .i64 0, .int .i64 0, .int .i64 0, .int .i64 0, .int .i64 0, .int .i64 0, .int .i64 0, .int .i64 0, .int .i64 0] := by kernel_rfl
theorem tzero_82 : tzero Tryz.prog 82 = some (.agg #[.int .i64 0, .int .i64 0, .int .i64 0, .int .i64 0, .int .i64 0, .int .i64 0, .int .i64 0, .int .i64 0, .int .i64 0, .int .i64 0, .int .i64 0, .int .i64 0, .int .i64 0, .int .i64 0, .int .i64 0, .int .i64 0, .int .i64 0, .int .i64 0, .int .i64 0, .int .i64 0, .int .i64 0, .int .i64 0, .int .i64 0, .int .i64 0, .int .i64 0, .int .i64 0, .int .i64 0, .int .i64 0, .int .i64 0, .int .i64 0, .int .i64 0, .int .i64 0, .int .i64 0, .int .i64 0, .int .i64 0, .int .i64 0, .int .i64 0, .int .i64 0, .int .i64 0, .int .i64 0]) := by kernel_rfl
theorem tsz_83 : tsz Tryz.prog 83 = some 42 := by kernel_rfl
theorem aggB_83 : aggB Tryz.prog 83 = some true := by kernel_rfl
theorem tszD_83 : tszD Tryz.prog 83 = 42 := by kernel_rfl
theorem tbytes_83 : tbytes Tryz.prog 83 = some 336 := by kernel_rfl
theorem tzeroD_83 : tzeroD Tryz.prog 83 = .agg #[.int .i64 0, .int .i64 0, .int .i64 0, .int .i64 0, .int .i64 0, .int .i64 0, .int .i64 0, .int .i64 0, .int .i64 0, .int .i64 0, .int .i64 0, .int .i64 0, .int .i64 0, .int .i64 0, .int .i64 0, .int .i64 0, .int .i64 0, .int .i64 0, .int .i64 0, .int .i64 0, .int .i64 0, .int .i64 0, .int .i64 0, .int .i64 0, .int .i64 0, .int .i64 0, .int .i64 0, .int .i64 0, .int .i64 0, .int .i64 0, .int .i64 0, .int .i64 0, .int .i64 0, .int .i64 0, .int .i64 0, .int .i64 0, .int .i64 0, .int .i64 0, .int .i64 0, .int .i64 0, .int .i64 0, .int .i64 0] := by kernel_rfl
theorem tzero_83 : tzero Tryz.prog 83 = some (.agg #[.int .i64 0, .int .i64 0, .int .i64 0, .int .i64 0, .int .i64 0, .int .i64 0, .int .i64 0, .int .i64 0, .int .i64 0, .int .i64 0, .int .i64 0, .int .i64 0, .int .i64 0, .int .i64 0, .int .i64 0, .int .i64 0, .int .i64 0, .int .i64 0, .int .i64 0, .int .i64 0, .int .i64 0, .int .i64 0, .int .i64 0, .int .i64 0, .int .i64 0, .int .i64 0, .int .i64 0, .int .i64 0, .int .i64 0, .int .i64 0, .int .i64 0, .int .i64 0, .int .i64 0, .int .i64 0, .int .i64 0, .int .i64 0, .int .i64 0, .int .i64 0, .int .i64 0, .int .i64 0, .int .i64 0, .int .i64 0]) := by kernel_rfl
theorem tsz_84 : tsz Tryz.prog 84 = some 42 := by kernel_rfl
theorem aggB_84 : aggB Tryz.prog 84 = some true := by kernel_rfl
theorem tszD_84 : tszD Tryz.prog 84 = 42 := by kernel_rfl
theorem tbytes_84 : tbytes Tryz.prog 84 = some 336 := by kernel_rfl
theorem tzeroD_84 : tzeroD Tryz.prog 84 = .agg #[.int .i64 0, .int .i64 0, .int .i64 0, .int .i64 0, .int .i64 0, .int .i64 0, .int .i64 0, .int .i64 0, .int .i64 0, .int .i64 0, .int .i64 0, .int .i64 0, .int .i64 0, .int .i64 0, .int .i64 0, .int .i64 0, .int .i64 0, .int .i64 0, .int .i64 0, .int .i64 0, .int .i64 0, .int .i64 0, .int .i64 0, .int .i64 0, .int .i64 0, .int .i64 0, .int .i64 0, .int .i64 0, .int .i64 0, .int .i64 0, .int .i64 0, .int .i64 0, .int .i64 0, .int .i64 0, .int .i64 0, .int .i64 0, .int .i64 0, .int .i64 0, .int .i64 0, .int .i64 0, .int .i64 0, .int .i64 0] := by kernel_rfl
theorem tzero_84 : tzero Tryz.prog 84 = some (.agg #[.int .i64 0, .int .i64 0, .int .i64 0, .int .i64 0, .int .i64 0, .int .i64 0, .int .i64 0, .int .i64 0, .int .i64 0, .int .i64 0, .int .i64 0, .int .i64 0, .int .i64 0, .int .i64 0, .int .i64 0, .int .i64 0, .int .i64 0, .int .i64 0, .int .i64 0, .int .i64 0, .int .i64 0, .int .i64 0, .int .i64 0, .int .i64 0, .int .i64 0, .int .i64 0, .int .i64 0, .int .i64 0, .int .i64 0, .int .i64 0, .int .i64 0, .int .i64 0, .int .i64 0, .int .i64 0, .int .i64 0, .int .i64 0, .int .i64 0, .int .i64 0, .int .i64 0, .int .i64 0, .int .i64 0, .int .i64 0]) := by kernel_rfl
theorem tsz_85 : tsz Tryz.prog 85 = some 1 := by kernel_rfl
theorem aggB_85 : aggB Tryz.prog 85 = some false := by kernel_rfl
theorem tszD_85 : tszD Tryz.prog 85 = 1 := by kernel_rfl
theorem tbytes_85 : tbytes Tryz.prog 85 = some 0 := by kernel_rfl
theorem tzeroD_85 : tzeroD Tryz.prog 85 = .tuple #[.pointer none, .int .i64 0] := by kernel_rfl
theorem tzero_85 : tzero Tryz.prog 85 = some (.tuple #[.pointer none, .int .i64 0]) := by kernel_rfl
theorem tsz_87 : tsz Tryz.prog 87 = some 1 := by kernel_rfl
theorem aggB_87 : aggB Tryz.prog 87 = some false := by kernel_rfl
theorem tszD_87 : tszD Tryz.prog 87 = 1 := by kernel_rfl
theorem tbytes_87 : tbytes Tryz.prog 87 = some 0 := by kernel_rfl
theorem tzeroD_87 : tzeroD Tryz.prog 87 = .tuple #[.pointer none, .int .i64 0] := by kernel_rfl
theorem tzero_87 : tzero Tryz.prog 87 = some (.tuple #[.pointer none, .int .i64 0]) := by kernel_rfl
theorem tsz_90 : tsz Tryz.prog 90 = some 1 := by kernel_rfl
theorem aggB_90 : aggB Tryz.prog 90 = some false := by kernel_rfl
theorem tszD_90 : tszD Tryz.prog 90 = 1 := by kernel_rfl
theorem tbytes_90 : tbytes Tryz.prog 90 = some 8 := by kernel_rfl
theorem isPtr_90 : isPtrB Tryz.prog 90 = true := by kernel_rfl
theorem tzeroD_90 : tzeroD Tryz.prog 90 = .pointer none := by kernel_rfl
theorem tzero_90 : tzero Tryz.prog 90 = some (.pointer none) := by kernel_rfl
theorem tsz_91 : tsz Tryz.prog 91 = some 1 := by kernel_rfl
theorem aggB_91 : aggB Tryz.prog 91 = some false := by kernel_rfl
theorem tszD_91 : tszD Tryz.prog 91 = 1 := by kernel_rfl
theorem tbytes_91 : tbytes Tryz.prog 91 = some 8 := by kernel_rfl
theorem isPtr_91 : isPtrB Tryz.prog 91 = true := by kernel_rfl
theorem tzeroD_91 : tzeroD Tryz.prog 91 = .pointer none := by kernel_rfl
theorem tzero_91 : tzero Tryz.prog 91 = some (.pointer none) := by kernel_rfl
theorem tsz_92 : tsz Tryz.prog 92 = some 4 := by kernel_rfl
theorem aggB_92 : aggB Tryz.prog 92 = some true := by kernel_rfl
theorem tszD_92 : tszD Tryz.prog 92 = 4 := by kernel_rfl
theorem tbytes_92 : tbytes Tryz.prog 92 = some 32 := by kernel_rfl
theorem tzeroD_92 : tzeroD Tryz.prog 92 = .agg #[.int .i64 0, .int .i64 0, .int .i64 0, .int .i64 0] := by kernel_rfl
theorem tzero_92 : tzero Tryz.prog 92 = some (.agg #[.int .i64 0, .int .i64 0, .int .i64 0, .int .i64 0]) := by kernel_rfl
theorem tsz_93 : tsz Tryz.prog 93 = some 4 := by kernel_rfl
theorem aggB_93 : aggB Tryz.prog 93 = some true := by kernel_rfl
theorem tszD_93 : tszD Tryz.prog 93 = 4 := by kernel_rfl
theorem tbytes_93 : tbytes Tryz.prog 93 = some 32 := by kernel_rfl
theorem tzeroD_93 : tzeroD Tryz.prog 93 = .agg #[.int .i64 0, .int .i64 0, .int .i64 0, .int .i64 0] := by kernel_rfl
theorem tzero_93 : tzero Tryz.prog 93 = some (.agg #[.int .i64 0, .int .i64 0, .int .i64 0, .int .i64 0]) := by kernel_rfl
theorem tsz_95 : tsz Tryz.prog 95 = some 17 := by kernel_rfl
theorem aggB_95 : aggB Tryz.prog 95 = some true := by kernel_rfl
theorem tszD_95 : tszD Tryz.prog 95 = 17 := by kernel_rfl
theorem tbytes_95 : tbytes Tryz.prog 95 = some 136 := by kernel_rfl
theorem tzeroD_95 : tzeroD Tryz.prog 95 = .agg #[.pointer none, .pointer none, .pointer none, .pointer none, .int .i64 0, .int .i64 0, .int .i64 0, .int .i64 0, .int .i64 0, .int .u32 0, .int .i64 0, .int .i64 0, .int .i64 0, .int .i64 0, .int .i64 0, .int .i64 0, .bool false] := by kernel_rfl
theorem tzero_95 : tzero Tryz.prog 95 = some (.agg #[.pointer none, .pointer none, .pointer none, .pointer none, .int .i64 0, .int .i64 0, .int .i64 0, .int .i64 0, .int .i64 0, .int .u32 0, .int .i64 0, .int .i64 0, .int .i64 0, .int .i64 0, .int .i64 0, .int .i64 0, .bool false]) := by kernel_rfl
theorem tsz_96 : tsz Tryz.prog 96 = some 17 := by kernel_rfl
theorem aggB_96 : aggB Tryz.prog 96 = some true := by kernel_rfl
theorem tszD_96 : tszD Tryz.prog 96 = 17 := by kernel_rfl
theorem tbytes_96 : tbytes Tryz.prog 96 = some 136 := by kernel_rfl
theorem tzeroD_96 : tzeroD Tryz.prog 96 = .agg #[.pointer none, .pointer none, .pointer none, .pointer none, .int .i64 0, .int .i64 0, .int .i64 0, .int .i64 0, .int .i64 0, .int .u32 0, .int .i64 0, .int .i64 0, .int .i64 0, .int .i64 0, .int .i64 0, .int .i64 0, .bool false] := by kernel_rfl
theorem tzero_96 : tzero Tryz.prog 96 = some (.agg #[.pointer none, .pointer none, .pointer none, .pointer none, .int .i64 0, .int .i64 0, .int .i64 0, .int .i64 0, .int .i64 0, .int .u32 0, .int .i64 0, .int .i64 0, .int .i64 0, .int .i64 0, .int .i64 0, .int .i64 0, .bool false]) := by kernel_rfl
theorem tsz_98 : tsz Tryz.prog 98 = some 1 := by kernel_rfl
theorem aggB_98 : aggB Tryz.prog 98 = some false := by kernel_rfl
theorem tszD_98 : tszD Tryz.prog 98 = 1 := by kernel_rfl
theorem tbytes_98 : tbytes Tryz.prog 98 = some 8 := by kernel_rfl
theorem tzeroD_98 : tzeroD Tryz.prog 98 = .nilFunc := by kernel_rfl
theorem tzero_98 : tzero Tryz.prog 98 = some (.nilFunc) := by kernel_rfl
theorem tsz_99 : tsz Tryz.prog 99 = some 2 := by kernel_rfl
theorem aggB_99 : aggB Tryz.prog 99 = some true := by kernel_rfl
theorem tszD_99 : tszD Tryz.prog 99 = 2 := by kernel_rfl
theorem tbytes_99 : tbytes Tryz.prog 99 = some 16 := by kernel_rfl
theorem tzeroD_99 : tzeroD Tryz.prog 99 = .agg #[.bool false, .nilFunc] := by kernel_rfl
theorem tzero_99 : tzero Tryz.prog 99 = some (.agg #[.bool false, .nilFunc]) := by kernel_rfl
theorem tsz_100 : tsz Tryz.prog 100 = some 2 := by kernel_rfl
theorem aggB_100 : aggB Tryz.prog 100 = some true := by kernel_rfl
theorem tszD_100 : tszD Tryz.prog 100 = 2 := by kernel_rfl
theorem tbytes_100 : tbytes Tryz.prog 100 = some 16 := by kernel_rfl
theorem tzeroD_100 : tzeroD Tryz.prog 100 = .agg #[.bool false, .nilFunc] := by kernel_rfl
theorem tzero_100 : tzero Tryz.prog 100 = some (.agg #[.bool false, .nilFunc]) := by kernel_rfl
theorem tsz_101 : tsz Tryz.prog 101 = some 52 := by kernel_rfl
theorem aggB_101 : aggB Tryz.prog 101 = some true := by kernel_rfl
theorem tszD_101 : tszD Tryz.prog 101 = 52 := by kernel_rfl
theorem tbytes_101 : tbytes Tryz.prog 101 = some 416 := by kernel_rfl
theorem isArr_101 : isArrB Tryz.prog 101 = true := by kernel_rfl
theorem arrLen_101 : arrLen Tryz.prog 101 = 26 := by kernel_rfl
theorem arrSz_101 : arrSz Tryz.prog 101 = 2 := by kernel_rfl
theorem tzeroD_101 : tzeroD Tryz.prog 101 = .agg #[.bool false, .nilFunc, .bool false, .nilFunc, .bool false, .nilFunc, .bool false, .nilFunc, .bool false, .nilFunc, .bool false, .nilFunc, .bool false, .nilFunc, .bool false, .nilFunc, .bool false, .nilFunc, .bool false, .nilFunc, .bool false, .nilFunc, .bool false, .nilFunc, .bool false, .nilFunc, .bool false, .nilFunc, .bool false, .nilFunc, .bool false, .nilFunc, .bool false, .nilFunc, .bool false, .nilFunc, .bool false, .nilFunc, .bool false, .nilFunc, .bool false, .nilFunc, .bool false, .nilFunc, .bool false, .nilFunc, .bool false, .nilFunc, .bool false, .nilFunc, .bool false, .nilFunc] := by kernel_rfl
theorem tzero_101 : tzero Tryz.prog 101 = some (.agg #[.bool false, .nilFunc, .bool false, .nilFunc, .bool false, .nilFunc, .bool false, .nilFunc, .bool false, .nilFunc, .bool false, .nilFunc, .bool false, .nilFunc, .bool false, .nilFunc, .bool false, .nilFunc, .bool false, .nilFunc, .bool false, .nilFunc, .bool false, .nilFunc, .bool false, .nilFunc, .bool false, .nilFunc, .bool false, .nilFunc, .bool false, .nilFunc, .bool false, .nilFunc, .bool false, .nilFunc, .bool false, .nilFunc, .bool false, .nilFunc, .bool false, .nilFunc, .bool false, .nilFunc, .bool false, .nilFunc, .bool false, .nilFunc, .bool false, .nilFunc, .bool false, .nilFunc]) := by kernel_rfl
theorem tsz_104 : tsz Tryz.prog 104 = some 1 := by kernel_rfl
theorem aggB_104 : aggB Tryz.prog 104 = some false := by kernel_rfl
theorem tszD_104 : tszD Tryz.prog 104 = 1 := by kernel_rfl
theorem tbytes_104 : tbytes Tryz.prog 104 = some 8 := by kernel_rfl
theorem isInt_104 : isIntB Tryz.prog 104 = true := by kernel_rfl
theorem intK_104 : intKD Tryz.prog 104 = .u64 := by kernel_rfl
theorem tzeroD_104 : tzeroD Tryz.prog 104 = .int .u64 0 := by kernel_rfl
theorem tzero_104 : tzero Tryz.prog 104 = some (.int .u64 0) := by kernel_rfl
theorem tsz_107 : tsz Tryz.prog 107 = some 64 := by kernel_rfl
theorem aggB_107 : aggB Tryz.prog 107 = some true := by kernel_rfl
theorem tszD_107 : tszD Tryz.prog 107 = 64 := by kernel_rfl
theorem tbytes_107 : tbytes Tryz.prog 107 = some 64 := by kernel_rfl
theorem isArr_107 : isArrB Tryz.prog 107 = true := by kernel_rfl
theorem arrLen_107 : arrLen Tryz.prog 107 = 64 := by kernel_rfl
theorem arrSz_107 : arrSz Tryz.prog 107 = 1 := by kernel_rfl
theorem tzeroD_107 : tzeroD Tryz.prog 107 = .agg #[.int .u8 0, .int .u8 0, .int .u8 0, .int .u8 0, .int .u8 0, .int .u8 0, .int .u8 0, .int .u8 0, .int .u8 0, .int .u8 0, .int .u8 0, .int .u8 0, .int .u8 0, .int .u8 0, .int .u8 0, .int .u8 0, .int .u8 0, .int .u8 0, .int .u8 0, .int .u8 0, .int .u8 0, .int .u8 0, .int .u8 0, .int .u8 0, .int .u8 0, .int .u8 0, .int .u8 0, .int .u8 0, .int .u8 0, .int .u8 0, .int .u8 0, .int .u8 0, .int .u8 0, .int .u8 0, .int .u8 0, .int .u8 0, .int .u8 0, .int .u8 0, .int .u8 0, .int .u8 0, .int .u8 0, .int .u8 0, .int .u8 0, .int .u8 0, .int .u8 0, .int .u8 0, .int .u8 0, .int .u8 0, .int .u8 0, .int .u8 0, .int .u8 0, .int .u8 0, .int .u8 0, .int .u8 0, .int .u8 0, .int .u8 0, .int .u8 0, .int .u8 0, .int .u8 0, .int .u8 0, .int .u8 0, .int .u8 0, .int .u8 0, .int .u8 0] := by kernel_rfl
theorem tzero_107 : tzero Tryz.prog 107 = some (.agg #[.int .u8 0, .int .u8 0, .int .u8 0, .int .u8 0, .int .u8 0, .int .u8 0, .int .u8 0, .int .u8 0, .int .u8 0, .int .u8 0, .int .u8 0, .int .u8 0, .int .u8 0, .int .u8 0, .int .u8 0, .int .u8 0, .int .u8 0, .int .u8 0, .int .u8 0, .int .u8 0, .int .u8 0, .int .u8 0, .int .u8 0, .int .u8 0, .int .u8 0, .int .u8 0, .int .u8 0, .int .u8 0, .int .u8 0, .int .u8 0, .int .u8 0, .int .u8 0, .int .u8 0, .int .u8 0, .int .u8 0, .int .u8 0, .int .u8 0, .int .u8 0, .int .u8 0, .int .u8 0, .int .u8 0, .int .u8 0, .int .u8 0, .int .u8 0, .int .u8 0, .int .u8 0, .int .u8 0, .int .u8 0, .int .u8 0, .int .u8 0, .int .u8 0, .int .u8 0, .int .u8 0, .int .u8 0, .int .u8 0, .int .u8 0, .int .u8 0, .int .u8 0, .int .u8 0, .int .u8 0, .int .u8 0, .int .u8 0, .int .u8 0, .int .u8 0]) := by kernel_rfl
theorem tsz_108 : tsz Tryz.prog 108 = some 1 := by kernel_rfl
theorem aggB_108 : aggB Tryz.prog 108 = some false := by kernel_rfl
theorem tszD_108 : tszD Tryz.prog 108 = 1 := by kernel_rfl
theorem tbytes_108 : tbytes Tryz.prog 108 = some 24 := by kernel_rfl
theorem isSlice_108 : isSliceB Tryz.prog 108 = true := by kernel_rfl
theorem ssz_108 : sliceSz Tryz.prog 108 = 64 := by kernel_rfl
theorem selem_108 : sliceElem Tryz.prog 108 = 107 := by kernel_rfl
theorem tzeroD_108 : tzeroD Tryz.prog 108 = .slice none 0 0 := by kernel_rfl
theorem tzero_108 : tzero Tryz.prog 108 = some (.slice none 0 0) := by kernel_rfl
theorem tsz_109 : tsz Tryz.prog 109 = some 1 := by kernel_rfl
theorem aggB_109 : aggB Tryz.prog 109 = some true := by kernel_rfl
theorem tszD_109 : tszD Tryz.prog 109 = 1 := by kernel_rfl
theorem tbytes_109 : tbytes Tryz.prog 109 = some 24 := by kernel_rfl
theorem tzeroD_109 : tzeroD Tryz.prog 109 = .agg #[.slice none 0 0] := by kernel_rfl
theorem tzero_109 : tzero Tryz.prog 109 = some (.agg #[.slice none 0 0]) := by kernel_rfl
theorem tsz_110 : tsz Tryz.prog 110 = some 1 := by kernel_rfl
theorem aggB_110 : aggB Tryz.prog 110 = some true := by kernel_rfl
theorem tszD_110 : tszD Tryz.prog 110 = 1 := by kernel_rfl
theorem tbytes_110 : tbytes Tryz.prog 110 = some 24 := by kernel_rfl
theorem tzeroD_110 : tzeroD Tryz.prog 110 = .agg #[.slice none 0 0] := by kernel_rfl
theorem tzero_110 : tzero Tryz.prog 110 = some (.agg #[.slice none 0 0]) := by kernel_rfl
theorem tsz_111 : tsz Tryz.prog 111 = some 1 := by kernel_rfl
theorem aggB_111 : aggB Tryz.prog 111 = some true := by kernel_rfl
theorem tszD_111 : tszD Tryz.prog 111 = 1 := by kernel_rfl
theorem tbytes_111 : tbytes Tryz.prog 111 = some 24 := by kernel_rfl
theorem tzeroD_111 : tzeroD Tryz.prog 111 = .agg #[.slice none 0 0] := by kernel_rfl
theorem tzero_111 : tzero Tryz.prog 111 = some (.agg #[.slice none 0 0]) := by kernel_rfl
theorem tsz_112 : tsz Tryz.prog 112 = some 1 := by kernel_rfl
theorem aggB_112 : aggB Tryz.prog 112 = some true := by kernel_rfl
theorem tszD_112 : tszD Tryz.prog 112 = 1 := by kernel_rfl
theorem tbytes_112 : tbytes Tryz.prog 112 = some 24 := by kernel_rfl
theorem tzeroD_112 : tzeroD Tryz.prog 112 = .agg #[.slice none 0 0] := by kernel_rfl
theorem tzero_112 : tzero Tryz.prog 112 = some (.agg #[.slice none 0 0]) := by kernel_rfl
theorem tsz_113 : tsz Tryz.prog 113 = some 42 := by kernel_rfl
theorem aggB_113 : aggB Tryz.prog 113 = some true := by kernel_rfl
theorem tszD_113 : tszD Tryz.prog 113 = 42 := by kernel_rfl
theorem tbytes_113 : tbytes Tryz.prog 113 = some 336 := by kernel_rfl
theorem tzeroD_113 : tzeroD Tryz.prog 113 = .agg #[.int .i64 0, .int .i64 0, .int .i64 0, .int .i64 0, .int .i64 0, .int .i64 0, .int .i64 0, .int .i64 0, .int .i64 0, .int .i64 0, .int .i64 0, .int .i64 0, .int .i64 0, .int .i64 0, .int .i64 0, .int .i64 0, .int .i64 0, .int .i64 0, .int .i64 0, .int .i64 0, .int .i64 0, .int .i64 0, .int .i64 0, .int .i64 0, .int .i64 0, .int .i64 0, .int .i64 0, .int .i64 0, .int .i64 0, .int .i64 0, .int .i64 0, .int .i64 0, .int .i64 0, .int .i64 0, .int .i64 0, .int .i64 0, .int .i64 0, .int .i64 0, .int .i64 0, .int .i64 0, .int .i64 0, .int .i64 0] := by kernel_rfl
theorem tzero_113 : tzero Tryz.prog 113 = some (.agg #[.int .i64 0, .int .i64 0, .int .i64 0, .int .i64 0, .int .i64 0, .int .i64 0, .int .i64 0, .int .i64 0, .int .i64 0, .int .i64 0, .int .i64 0, .int .i64 0, .int .i64 0, .int .i64 0, .int .i64 0, .int .i64 0, .int .i64 0, .int .i64 0, .int .i64 0, .int .i64 0, .int .i64 0, .int .i64 0, .int .i64 0, .int .i64 0, .int .i64 0, .int .i64 0, .int .i64 0, .int .i64 0, .int .i64 0, .int .i64 0, .int .i64 0, .int .i64 0, .int .i64 0, .int .i64 0, .int .i64 0, .int .i64 0, .int .i64 0, .int .i64 0, .int .i64 0, .int .i64 0, .int .i64 0, .int .i64 0]) := by kernel_rfl
theorem tsz_114 : tsz Tryz.prog 114 = some 42 := by kernel_rfl
theorem aggB_114 : aggB Tryz.prog 114 = some true := by kernel_rfl
theorem tszD_114 : tszD Tryz.prog 114 = 42 := by kernel_rfl
theorem tbytes_114 : tbytes Tryz.prog 114 = some 336 := by kernel_rfl
theorem tzeroD_114 : tzeroD Tryz.prog 114 = .agg #[.int .i64 0, .int .i64 0, .int .i64 0, .int .i64 0, .int .i64 0, .int .i64 0, .int .i64 0, .int .i64 0, .int .i64 0, .int .i64 0, .int .i64 0, .int .i64 0, .int .i64 0, .int .i64 0, .int .i64 0, .int .i64 0, .int .i64 0, .int .i64 0, .int .i64 0, .int .i64 0, .int .i64 0, .int .i64 0, .int .i64 0, .int .i64 0, .int .i64 0, .int .i64 0, .int .i64 0, .int .i64 0, .int .i64 0, .int .i64 0, .int .i64 0, .int .i64 0, .int .i64 0, .int .i64 0, .int .i64 0, .int .i64 0, .int .i64 0, .int .i64 0, .int .i64 0, .int .i64 0, .int .i64 0, .int .i64 0] := by kernel_rfl
theorem tzero_114 : tzero Tryz.prog 114 = some (.agg #[.int .i64 0, .int .i64 0, .int .i64 0, .int .i64 0, .int .i64 0, .int .i64 0, .int .i64 0, .int .i64 0, .int .i64 0, .int .i64 0, .int .i64 0, .int .i64 0, .int .i64 0, .int .i64 0, .int .i64 0, .int .i64 0, .int .i64 0, .int .i64 0, .int .i64 0, .int .i64 0, .int .i64 0, .int .i64 0, .int .i64 0, .int .i64 0, .int .i64 0, .int .i64 0, .int .i64 0, .int .i64 0, .int .i64 0, .int .i64 0, .int .i64 0, .int .i64 0, .int .i64 0, .int .i64 0, .int .i64 0, .int .i64 0, .int .i64 0, .int .i64 0, .int .i64 0, .int .i64 0, .int .i64 0, .int .i64 0]) := by kernel_rfl
theorem tsz_115 : tsz Tryz.prog 115 = some 1 := by kernel_rfl
theorem aggB_115 : aggB Tryz.prog 115 = some false := by kernel_rfl
theorem tszD_115 : tszD Tryz.prog 115 = 1 := by kernel_rfl
theorem tbytes_115 : tbytes Tryz.prog 115 = some 0 := by kernel_rfl
theorem tzeroD_115 : tzeroD Tryz.prog 115 = .tuple #[.int .i64 0, .int .i64 0] := by kernel_rfl
theorem tzero_115 : tzero Tryz.prog 115 = some (.tuple #[.int .i64 0, .int .i64 0]) := by kernel_rfl
theorem tsz_117 : tsz Tryz.prog 117 = some 1 := by kernel_rfl
theorem aggB_117 : aggB Tryz.prog 117 = some false := by kernel_rfl
theorem tszD_117 : tszD Tryz.prog 117 = 1 := by kernel_rfl
theorem tbytes_117 : tbytes Tryz.prog 117 = some 2 := by kernel_rfl
theorem isInt_117 : isIntB Tryz.prog 117 = true := by kernel_rfl
theorem intK_117 : intKD Tryz.prog 117 = .u16 := by kernel_rfl
theorem tzeroD_117 : tzeroD Tryz.prog 117 = .int .u16 0 := by kernel_rfl
theorem tzero_117 : tzero Tryz.prog 117 = some (.int .u16 0) := by kernel_rfl
theorem tsz_118 : tsz Tryz.prog 118 = some 1 := by kernel_rfl
theorem aggB_118 : aggB Tryz.prog 118 = some false := by kernel_rfl
theorem tszD_118 : tszD Tryz.prog 118 = 1 := by kernel_rfl
theorem tbytes_118 : tbytes Tryz.prog 118 = some 0 := by kernel_rfl
theorem tzeroD_118 : tzeroD Tryz.prog 118 = .tuple #[.int .u16 0, .int .i64 0] := by kernel_rfl
theorem tzero_118 : tzero Tryz.prog 118 = some (.tuple #[.int .u16 0, .int .i64 0]) := by kernel_rfl
theorem tsz_122 : tsz Tryz.prog 122 = some 1 := by kernel_rfl
theorem aggB_122 : aggB Tryz.prog 122 = some false := by kernel_rfl
theorem tszD_122 : tszD Tryz.prog 122 = 1 := by kernel_rfl
theorem tbytes_122 : tbytes Tryz.prog 122 = some 8 := by kernel_rfl
theorem intMap_122 : intMapB Tryz.prog 122 = true := by kernel_rfl
theorem elemT_122 : elemT Tryz.prog 122 = 157 := by kernel_rfl
theorem tzeroD_122 : tzeroD Tryz.prog 122 = .map none := by kernel_rfl
theorem tzero_122 : tzero Tryz.prog 122 = some (.map none) := by kernel_rfl
theorem tsz_123 : tsz Tryz.prog 123 = some 64 := by kernel_rfl
theorem aggB_123 : aggB Tryz.prog 123 = some true := by kernel_rfl
theorem tszD_123 : tszD Tryz.prog 123 = 64 := by kernel_rfl
theorem tbytes_123 : tbytes Tryz.prog 123 = some 64 := by kernel_rfl
theorem isArr_123 : isArrB Tryz.prog 123 = true := by kernel_rfl
theorem arrLen_123 : arrLen Tryz.prog 123 = 64 := by kernel_rfl
theorem arrSz_123 : arrSz Tryz.prog 123 = 1 := by kernel_rfl
theorem tzeroD_123 : tzeroD Tryz.prog 123 = .agg #[.bool false, .bool false, .bool false, .bool false, .bool false, .bool false, .bool false, .bool false, .bool false, .bool false, .bool false, .bool false, .bool false, .bool false, .bool false, .bool false, .bool false, .bool false, .bool false, .bool false, .bool false, .bool false, .bool false, .bool false, .bool false, .bool false, .bool false, .bool false, .bool false, .bool false, .bool false, .bool false, .bool false, .bool false, .bool false, .bool false, .bool false, .bool false, .bool false, .bool false, .bool false, .bool false, .bool false, .bool false, .bool false, .bool false, .bool false, .bool false, .bool false, .bool false, .bool false, .bool false, .bool false, .bool false, .bool false, .bool false, .bool false, .bool false, .bool false, .bool false, .bool false, .bool false, .bool false, .bool false] := by kernel_rfl
theorem tzero_123 : tzero Tryz.prog 123 = some (.agg #[.bool false, .bool false, .bool false, .bool false, .bool false, .bool false, .bool false, .bool false, .bool false, .bool false, .bool false, .bool false, .bool false, .bool false, .bool false, .bool false, .bool false, .bool false, .bool false, .bool false, .bool false, .bool false, .bool false, .bool false, .bool false, .bool false, .bool false, .bool false, .bool false, .bool false, .bool false, .bool false, .bool false, .bool false, .bool false, .bool false, .bool false, .bool false, .bool false, .bool false, .bool false, .bool false, .bool false, .bool false, .bool false, .bool false, .bool false, .bool false, .bool false, .bool false, .bool false, .bool false, .bool false, .bool false, .bool false, .bool false, .bool false, .bool false, .bool false, .bool false, .bool false, .bool false, .bool false, .bool false]) := by kernel_rfl
theorem tsz_124 : tsz Tryz.prog 124 = some 71 := by kernel_rfl
theorem aggB_124 : aggB Tryz.prog 124 = some true := by kernel_rfl
theorem tszD_124 : tszD Tryz.prog 124 = 71 := by kernel_rfl
theorem tbytes_124 : tbytes Tryz.prog 124 = some 120 := by kernel_rfl
theorem tsz_125 : tsz Tryz.prog 125 = some 71 := by kernel_rfl
theorem aggB_125 : aggB Tryz.prog 125 = some true := by kernel_rfl
theorem tszD_125 : tszD Tryz.prog 125 = 71 := by kernel_rfl
theorem tbytes_125 : tbytes Tryz.prog 125 = some 120 := by kernel_rfl
theorem tsz_126 : tsz Tryz.prog 126 = some 7 := by kernel_rfl
theorem aggB_126 : aggB Tryz.prog 126 = some true := by kernel_rfl
theorem tszD_126 : tszD Tryz.prog 126 = 7 := by kernel_rfl
theorem tbytes_126 : tbytes Tryz.prog 126 = some 32 := by kernel_rfl
theorem tzeroD_126 : tzeroD Tryz.prog 126 = .agg #[.bool false, .bool false, .bool false, .int .i64 0, .int .i64 0, .bool false, .bool false] := by kernel_rfl
theorem tzero_126 : tzero Tryz.prog 126 = some (.agg #[.bool false, .bool false, .bool false, .int .i64 0, .int .i64 0, .bool false, .bool false]) := by kernel_rfl
theorem tsz_127 : tsz Tryz.prog 127 = some 7 := by kernel_rfl
theorem aggB_127 : aggB Tryz.prog 127 = some true := by kernel_rfl
theorem tszD_127 : tszD Tryz.prog 127 = 7 := by kernel_rfl
theorem tbytes_127 : tbytes Tryz.prog 127 = some 32 := by kernel_rfl
theorem tzeroD_127 : tzeroD Tryz.prog 127 = .agg #[.bool false, .bool false, .bool false, .int .i64 0, .int .i64 0, .bool false, .bool false] := by kernel_rfl
theorem tzero_127 : tzero Tryz.prog 127 = some (.agg #[.bool false, .bool false, .bool false, .int .i64 0, .int .i64 0, .bool false, .bool false]) := by kernel_rfl
theorem tsz_128 : tsz Tryz.prog 128 = some 448 := by kernel_rfl
theorem aggB_128 : aggB Tryz.prog 128 = some true := by kernel_rfl
theorem tszD_128 : tszD Tryz.prog 128 = 448 := by kernel_rfl
theorem tbytes_128 : tbytes Tryz.prog 128 = some 2048 := by kernel_rfl
theorem isArr_128 : isArrB Tryz.prog 128 = true := by kernel_rfl
theorem arrLen_128 : arrLen Tryz.prog 128 = 64 := by kernel_rfl
theorem arrSz_128 : arrSz Tryz.prog 128 = 7 := by kernel_rfl
theorem tsz_129 : tsz Tryz.prog 129 = some 453 := by kernel_rfl
theorem aggB_129 : aggB Tryz.prog 129 = some true := by kernel_rfl
theorem tszD_129 : tszD Tryz.prog 129 = 453 := by kernel_rfl
theorem tbytes_129 : tbytes Tryz.prog 129 = some 2088 := by kernel_rfl
theorem tsz_130 : tsz Tryz.prog 130 = some 453 := by kernel_rfl
theorem aggB_130 : aggB Tryz.prog 130 = some true := by kernel_rfl
theorem tszD_130 : tszD Tryz.prog 130 = 453 := by kernel_rfl
theorem tbytes_130 : tbytes Tryz.prog 130 = some 2088 := by kernel_rfl
theorem tsz_131 : tsz Tryz.prog 131 = some 1 := by kernel_rfl
theorem aggB_131 : aggB Tryz.prog 131 = some false := by kernel_rfl
theorem tszD_131 : tszD Tryz.prog 131 = 1 := by kernel_rfl
theorem tbytes_131 : tbytes Tryz.prog 131 = some 0 := by kernel_rfl
theorem tzeroD_131 : tzeroD Tryz.prog 131 = .tuple #[.int .i64 0, .agg #[.int .i64 0, .int .i64 0, .int .i64 0, .bool false, .int .i64 0]] := by kernel_rfl
theorem tzero_131 : tzero Tryz.prog 131 = some (.tuple #[.int .i64 0, .agg #[.int .i64 0, .int .i64 0, .int .i64 0, .bool false, .int .i64 0]]) := by kernel_rfl
theorem tsz_134 : tsz Tryz.prog 134 = some 1 := by kernel_rfl
theorem aggB_134 : aggB Tryz.prog 134 = some false := by kernel_rfl
theorem tszD_134 : tszD Tryz.prog 134 = 1 := by kernel_rfl
theorem tbytes_134 : tbytes Tryz.prog 134 = some 0 := by kernel_rfl
theorem tzeroD_134 : tzeroD Tryz.prog 134 = .tuple #[.agg #[.int .i64 0, .int .i64 0, .int .i64 0, .int .i64 0, .int .i64 0], .int .i64 0] := by kernel_rfl
theorem tzero_134 : tzero Tryz.prog 134 = some (.tuple #[.agg #[.int .i64 0, .int .i64 0, .int .i64 0, .int .i64 0, .int .i64 0], .int .i64 0]) := by kernel_rfl
theorem tsz_138 : tsz Tryz.prog 138 = some 1 := by kernel_rfl
theorem aggB_138 : aggB Tryz.prog 138 = some false := by kernel_rfl
theorem tszD_138 : tszD Tryz.prog 138 = 1 := by kernel_rfl
theorem tbytes_138 : tbytes Tryz.prog 138 = some 8 := by kernel_rfl
theorem tzeroD_138 : tzeroD Tryz.prog 138 = .nilFunc := by kernel_rfl
theorem tzero_138 : tzero Tryz.prog 138 = some (.nilFunc) := by kernel_rfl
theorem tsz_141 : tsz Tryz.prog 141 = some 1 := by kernel_rfl
theorem aggB_141 : aggB Tryz.prog 141 = some false := by kernel_rfl
theorem tszD_141 : tszD Tryz.prog 141 = 1 := by kernel_rfl
theorem tbytes_141 : tbytes Tryz.prog 141 = some 8 := by kernel_rfl
theorem tzeroD_141 : tzeroD Tryz.prog 141 = .nilFunc := by kernel_rfl
theorem tzero_141 : tzero Tryz.prog 141 = some (.nilFunc) := by kernel_rfl
theorem tsz_150 : tsz Tryz.prog 150 = some 1 := by kernel_rfl
theorem aggB_150 : aggB Tryz.prog 150 = some false := by kernel_rfl
theorem tszD_150 : tszD Tryz.prog 150 = 1 := by kernel_rfl
theorem tbytes_150 : tbytes Tryz.prog 150 = some 8 := by kernel_rfl
theorem isPtr_150 : isPtrB Tryz.prog 150 = true := by kernel_rfl
theorem tzeroD_150 : tzeroD Tryz.prog 150 = .pointer none := by kernel_rfl
theorem tzero_150 : tzero Tryz.prog 150 = some (.pointer none) := by kernel_rfl
theorem tsz_151 : tsz Tryz.prog 151 = some 1 := by kernel_rfl
theorem aggB_151 : aggB Tryz.prog 151 = some false := by kernel_rfl
theorem tszD_151 : tszD Tryz.prog 151 = 1 := by kernel_rfl
theorem tbytes_151 : tbytes Tryz.prog 151 = some 0 := by kernel_rfl
theorem tzeroD_151 : tzeroD Tryz.prog 151 = .tuple #[.pointer none, .int .u32 0, .int .u32 0] := by kernel_rfl
theorem tzero_151 : tzero Tryz.prog 151 = some (.tuple #[.pointer none, .int .u32 0, .int .u32 0]) := by kernel_rfl
theorem tsz_154 : tsz Tryz.prog 154 = some 1 := by kernel_rfl
theorem aggB_154 : aggB Tryz.prog 154 = some false := by kernel_rfl
theorem tszD_154 : tszD Tryz.prog 154 = 1 := by kernel_rfl
theorem tbytes_154 : tbytes Tryz.prog 154 = some 0 := by kernel_rfl
theorem tzeroD_154 : tzeroD Tryz.prog 154 = .tuple #[.int .i64 0, .bool false] := by kernel_rfl
theorem tzero_154 : tzero Tryz.prog 154 = some (.tuple #[.int .i64 0, .bool false]) := by kernel_rfl
theorem tsz_156 : tsz Tryz.prog 156 = some 2 := by kernel_rfl
theorem aggB_156 : aggB Tryz.prog 156 = some true := by kernel_rfl
theorem tszD_156 : tszD Tryz.prog 156 = 2 := by kernel_rfl
theorem tbytes_156 : tbytes Tryz.prog 156 = some 16 := by kernel_rfl
theorem tzeroD_156 : tzeroD Tryz.prog 156 = .agg #[.int .i64 0, .bool false] := by kernel_rfl
theorem tzero_156 : tzero Tryz.prog 156 = some (.agg #[.int .i64 0, .bool false]) := by kernel_rfl
theorem tsz_157 : tsz Tryz.prog 157 = some 2 := by kernel_rfl
theorem aggB_157 : aggB Tryz.prog 157 = some true := by kernel_rfl
theorem tszD_157 : tszD Tryz.prog 157 = 2 := by kernel_rfl
theorem tbytes_157 : tbytes Tryz.prog 157 = some 16 := by kernel_rfl
theorem tzeroD_157 : tzeroD Tryz.prog 157 = .agg #[.int .i64 0, .bool false] := by kernel_rfl
theorem tzero_157 : tzero Tryz.prog 157 = some (.agg #[.int .i64 0, .bool false]) := by kernel_rfl
theorem tsz_158 : tsz Tryz.prog 158 = some 1 := by kernel_rfl
theorem aggB_158 : aggB Tryz.prog 158 = some false := by kernel_rfl
theorem tszD_158 : tszD Tryz.prog 158 = 1 := by kernel_rfl
theorem tbytes_158 : tbytes Tryz.prog 158 = some 0 := by kernel_rfl
theorem tzeroD_158 : tzeroD Tryz.prog 158 = .tuple #[.bool false, .int .i64 0] := by kernel_rfl
theorem tzero_158 : tzero Tryz.prog 158 = some (.tuple #[.bool false, .int .i64 0]) := by kernel_rfl
theorem tsz_161 : tsz Tryz.prog 161 = some 1 := by kernel_rfl
theorem aggB_161 : aggB Tryz.prog 161 = some false := by kernel_rfl
theorem tszD_161 : tszD Tryz.prog 161 = 1 := by kernel_rfl
theorem tbytes_161 : tbytes Tryz.prog 161 = some 8 := by kernel_rfl
theorem tzeroD_161 : tzeroD Tryz.prog 161 = .nilFunc := by kernel_rfl
theorem tzero_161 : tzero Tryz.prog 161 = some (.nilFunc) := by kernel_rfl
theorem tsz_162 : tsz Tryz.prog 162 = some 1 := by kernel_rfl
theorem aggB_162 : aggB Tryz.prog 162 = some false := by kernel_rfl
theorem tszD_162 : tszD Tryz.prog 162 = 1 := by kernel_rfl
theorem tbytes_162 : tbytes Tryz.prog 162 = some 0 := by kernel_rfl
theorem tzeroD_162 : tzeroD Tryz.prog 162 = .tuple #[.string ByteArray.empty, .string ByteArray.empty, .string ByteArray.empty] := by kernel_rfl
theorem tzero_162 : tzero Tryz.prog 162 = some (.tuple #[.string ByteArray.empty, .string ByteArray.empty, .string ByteArray.empty]) := by kernel_rfl
theorem tsz_164 : tsz Tryz.prog 164 = some 1 := by kernel_rfl
theorem aggB_164 : aggB Tryz.prog 164 = some false := by kernel_rfl
theorem tszD_164 : tszD Tryz.prog 164 = 1 := by kernel_rfl
theorem tbytes_164 : tbytes Tryz.prog 164 = some 0 := by kernel_rfl
theorem tzeroD_164 : tzeroD Tryz.prog 164 = .tuple #[.int .i64 0, .int .i64 0, .bool false] := by kernel_rfl
theorem tzero_164 : tzero Tryz.prog 164 = some (.tuple #[.int .i64 0, .int .i64 0, .bool false]) := by kernel_rfl
theorem tsz_166 : tsz Tryz.prog 166 = some 1 := by kernel_rfl
theorem aggB_166 : aggB Tryz.prog 166 = some false := by kernel_rfl
theorem tszD_166 : tszD Tryz.prog 166 = 1 := by kernel_rfl
theorem tbytes_166 : tbytes Tryz.prog 166 = some 0 := by kernel_rfl
theorem tzeroD_166 : tzeroD Tryz.prog 166 = .tuple #[.int .i64 0, .int .i64 0, .agg #[.int .i64 0, .int .i64 0, .int .i64 0, .bool false, .int .i64 0]] := by kernel_rfl
theorem tzero_166 : tzero Tryz.prog 166 = some (.tuple #[.int .i64 0, .int .i64 0, .agg #[.int .i64 0, .int .i64 0, .int .i64 0, .bool false, .int .i64 0]]) := by kernel_rfl
theorem tsz_169 : tsz Tryz.prog 169 = some 1 := by kernel_rfl
theorem aggB_169 : aggB Tryz.prog 169 = some false := by kernel_rfl
theorem tszD_169 : tszD Tryz.prog 169 = 1 := by kernel_rfl
theorem tbytes_169 : tbytes Tryz.prog 169 = some 24 := by kernel_rfl
theorem isSlice_169 : isSliceB Tryz.prog 169 = true := by kernel_rfl
theorem ssz_169 : sliceSz Tryz.prog 169 = 5 := by kernel_rfl
theorem selem_169 : sliceElem Tryz.prog 169 = 172 := by kernel_rfl
theorem tzeroD_169 : tzeroD Tryz.prog 169 = .slice none 0 0 := by kernel_rfl
theorem tzero_169 : tzero Tryz.prog 169 = some (.slice none 0 0) := by kernel_rfl
theorem tsz_171 : tsz Tryz.prog 171 = some 5 := by kernel_rfl
theorem aggB_171 : aggB Tryz.prog 171 = some true := by kernel_rfl
theorem tszD_171 : tszD Tryz.prog 171 = 5 := by kernel_rfl
theorem tbytes_171 : tbytes Tryz.prog 171 = some 24 := by kernel_rfl
theorem tzeroD_171 : tzeroD Tryz.prog 171 = .agg #[.int .i64 0, .int .i64 0, .bool false, .bool false, .bool false] := by kernel_rfl
theorem tzero_171 : tzero Tryz.prog 171 = some (.agg #[.int .i64 0, .int .i64 0, .bool false, .bool false, .bool false]) := by kernel_rfl
theorem tsz_172 : tsz Tryz.prog 172 = some 5 := by kernel_rfl
theorem aggB_172 : aggB Tryz.prog 172 = some true := by kernel_rfl
theorem tszD_172 : tszD Tryz.prog 172 = 5 := by kernel_rfl
theorem tbytes_172 : tbytes Tryz.prog 172 = some 24 := by kernel_rfl
theorem tzeroD_172 : tzeroD Tryz.prog 172 = .agg #[.int .i64 0, .int .i64 0, .bool false, .bool false, .bool false] := by kernel_rfl
theorem tzero_172 : tzero Tryz.prog 172 = some (.agg #[.int .i64 0, .int .i64 0, .bool false, .bool false, .bool false]) := by kernel_rfl
theorem tsz_173 : tsz Tryz.prog 173 = some 1 := by kernel_rfl
theorem aggB_173 : aggB Tryz.prog 173 = some false := by kernel_rfl
theorem tszD_173 : tszD Tryz.prog 173 = 1 := by kernel_rfl
theorem tbytes_173 : tbytes Tryz.prog 173 = some 0 := by kernel_rfl
theorem tzeroD_173 : tzeroD Tryz.prog 173 = .tuple #[.agg #[.int .i64 0, .bool false], .bool false] := by kernel_rfl
theorem tzero_173 : tzero Tryz.prog 173 = some (.tuple #[.agg #[.int .i64 0, .bool false], .bool false]) := by kernel_rfl
theorem tsz_174 : tsz Tryz.prog 174 = some 1 := by kernel_rfl
theorem aggB_174 : aggB Tryz.prog 174 = some false := by kernel_rfl
theorem tszD_174 : tszD Tryz.prog 174 = 1 := by kernel_rfl
theorem tbytes_174 : tbytes Tryz.prog 174 = some 24 := by kernel_rfl
theorem isSlice_174 : isSliceB Tryz.prog 174 = true := by kernel_rfl
theorem ssz_174 : sliceSz Tryz.prog 174 = 1 := by kernel_rfl
theorem selem_174 : sliceElem Tryz.prog 174 = 9 := by kernel_rfl
theorem tzeroD_174 : tzeroD Tryz.prog 174 = .slice none 0 0 := by kernel_rfl
theorem tzero_174 : tzero Tryz.prog 174 = some (.slice none 0 0) := by kernel_rfl
theorem tsz_178 : tsz Tryz.prog 178 = some 1 := by kernel_rfl
theorem aggB_178 : aggB Tryz.prog 178 = some false := by kernel_rfl
theorem tszD_178 : tszD Tryz.prog 178 = 1 := by kernel_rfl
theorem tbytes_178 : tbytes Tryz.prog 178 = some 0 := by kernel_rfl
theorem tzeroD_178 : tzeroD Tryz.prog 178 = .tuple #[.agg #[.bool false, .bool false, .int .i64 0, .int .i64 0], .agg #[.int .i64 0, .int .i64 0, .int .i64 0, .bool false, .int .i64 0]] := by kernel_rfl
theorem tzero_178 : tzero Tryz.prog 178 = some (.tuple #[.agg #[.bool false, .bool false, .int .i64 0, .int .i64 0], .agg #[.int .i64 0, .int .i64 0, .int .i64 0, .bool false, .int .i64 0]]) := by kernel_rfl
theorem tsz_182 : tsz Tryz.prog 182 = some 1 := by kernel_rfl
theorem aggB_182 : aggB Tryz.prog 182 = some false := by kernel_rfl
theorem tszD_182 : tszD Tryz.prog 182 = 1 := by kernel_rfl
theorem tbytes_182 : tbytes Tryz.prog 182 = some 8 := by kernel_rfl
theorem tzeroD_182 : tzeroD Tryz.prog 182 = .nilFunc := by kernel_rfl
theorem tzero_182 : tzero Tryz.prog 182 = some (.nilFunc) := by kernel_rfl
theorem tsz_185 : tsz Tryz.prog 185 = some 256 := by kernel_rfl
theorem aggB_185 : aggB Tryz.prog 185 = some true := by kernel_rfl
theorem tszD_185 : tszD Tryz.prog 185 = 256 := by kernel_rfl
theorem tbytes_185 : tbytes Tryz.prog 185 = some 256 := by kernel_rfl
theorem isArr_185 : isArrB Tryz.prog 185 = true := by kernel_rfl
theorem arrLen_185 : arrLen Tryz.prog 185 = 256 := by kernel_rfl
theorem arrSz_185 : arrSz Tryz.prog 185 = 1 := by kernel_rfl
theorem tsz_186 : tsz Tryz.prog 186 = some 256 := by kernel_rfl
theorem aggB_186 : aggB Tryz.prog 186 = some true := by kernel_rfl
theorem tszD_186 : tszD Tryz.prog 186 = 256 := by kernel_rfl
theorem tbytes_186 : tbytes Tryz.prog 186 = some 256 := by kernel_rfl
theorem isArr_186 : isArrB Tryz.prog 186 = true := by kernel_rfl
theorem arrLen_186 : arrLen Tryz.prog 186 = 256 := by kernel_rfl
theorem arrSz_186 : arrSz Tryz.prog 186 = 1 := by kernel_rfl
theorem tsz_187 : tsz Tryz.prog 187 = some 1 := by kernel_rfl
theorem aggB_187 : aggB Tryz.prog 187 = some false := by kernel_rfl
theorem tszD_187 : tszD Tryz.prog 187 = 1 := by kernel_rfl
theorem tbytes_187 : tbytes Tryz.prog 187 = some 0 := by kernel_rfl
theorem tzeroD_187 : tzeroD Tryz.prog 187 = .tuple #[.agg #[.bool false, .bool false, .bool false, .bool false, .bool false, .bool false, .bool false, .bool false, .bool false, .bool false, .bool false, .bool false, .bool false, .bool false, .bool false, .bool false, .bool false, .bool false, .bool false, .bool false, .bool false, .bool false, .bool false, .bool false, .bool false, .bool false, .bool false, .bool false, .bool false, .bool false, .bool false, .bool false, .bool false, .bool false, .bool false, .bool false, .bool false, .bool false, .bool false, .bool false, .bool false, .bool false, .bool false, .bool false, .bool false, .bool false, .bool false, .bool false, .bool false, .bool false, .bool false, .bool false, .bool false, .bool false, .bool false, .bool false, .bool false, .bool false, .bool false, .bool false, .bool false, .bool false, .bool false, .bool false, .bool false, .bool false, .bool false, .bool false, .bool false, .bool false, .bool false, .bool false, .bool false, .bool false, .bool false, .bool false, .bool false, .bool false, .bool false, .bool false, .bool false, .bool false, .bool false, .bool false, .bool false, .bool false, .bool false, .bool false, .bool false, .bool false, .bool false, .bool false, .bool false, .bool false, .bool false, .bool false, .bool false, .bool false, .bool false, .bool false, .bool false, .bool false, .bool false, .bool false, .bool false, .bool false, .bool false, .bool false, .bool false, .bool false, .bool false, .bool false, .bool false, .bool false, .bool false, .bool false, .bool false, .bool false, .bool false, .bool false, .bool false, .bool false, .bool false, .bool false, .bool false, .bool false, .bool false, .bool false, .bool false, .bool false, .bool false, .bool false, .bool false, .bool false, .bool false, .bool false, .bool false, .bool false, .bool false, .bool false, .bool false, .bool false, .bool false, .bool false, .bool false, .bool false, .bool false, .bool false, .bool false, .bool false, .bool false, .bool false, .bool false, .bool false, .bool false, .bool false, .bool false, .bool false, .bool false, .bool false, .bool false, .bool false, .bool false, .bool false, .bool false, .bool false, .bool false, .bool false, .bool false, .bool false, .bool false, .bool false, .bool false, .bool false, .bool false, .bool false, .bool false, .bool false, .bool false, .bool false, .bool false, .bool false, .bool false, .bool false, .bool false, .bool false, .bool false, .bool false, .bool false, .bool false, .bool false, .bool false, .bool false, .bool false, .bool false, .bool false, .bool false, .bool false, .bool false, .bool false, .bool false, .bool false, .bool false, .bool false, .bool false, .bool false, .bool false, .bool false, .bool false, .bool false, .bool false, .bool false, .bool false, .bool false, .bool false, .bool false, .bool false, .bool false, .bool false, .bool false, .bool false, .bool false, .bool false, .bool false, .bool false, .bool false, .bool false, .bool false, .bool false, .bool false, .bool false, .bool false, .bool false, .bool false, .bool false, .bool false, .bool false, .bool false, .bool false, .bool false, .bool false, .bool false, .bool false, .bool false, .bool false, .bool false, .bool false, .bool false, .bool false, .bool false, .bool false, .bool false, .bool false, .bool false, .bool false, .bool false], .bool false] := by kernel_rfl
theorem tzero_187 : tzero Tryz.prog 187 = some (.tuple #[.agg #[.bool false, .bool false, .bool false, .bool false, .bool false, .bool false, .bool false, .bool false, .bool false, .bool false, .bool false, .bool false, .bool false, .bool false, .bool false, .bool false, .bool false, .bool false, .bool false, .bool false, .bool false, .bool false, .bool false, .bool false, .bool false, .bool false, .bool false, .bool false, .bool false, .bool false, .bool false, .bool false, .bool false, .bool false, .bool false, .bool false, .bool false, .bool false, .bool false, .bool false, .bool false, .bool false, .bool false, .bool false, .bool false, .bool false, .bool false, .bool false, .bool false, .bool false, .bool false, .bool false, .bool false, .bool false, .bool false, .bool false, .bool false, .bool false, .bool false, .bool false, .bool false, .bool false, .bool false, .bool false, .bool false, .bool false, .bool false, .bool false, .bool false, .bool false, .bool false, .bool false, .bool false, .bool false, .bool false, .bool false, .bool false, .bool false, .bool false, .bool false, .bool false, .bool false, .bool false, .bool false, .bool false, .bool false, .bool false, .bool false, .bool false, .bool false, .bool false, .bool false, .bool false, .bool false, .bool false, .bool false, .bool false, .bool false, .bool false, .bool false, .bool false, .bool false, .bool false, .bool false, .bool false, .bool false, .bool false, .bool false, .bool false, .bool false, .bool false, .bool false, .bool false, .bool false, .bool false, .bool false, .bool false, .bool false, .bool false, .bool false, .bool false, .bool false, .bool false, .bool false, .bool false, .bool false, .bool false, .bool false, .bool false, .bool false, .bool false, .bool false, .bool false, .bool false, .bool false, .bool false, .bool false, .bool false, .bool false, .bool false, .bool false, .bool false, .bool false, .bool false, .bool false, .bool false, .bool false, .bool false, .bool false, .bool false, .bool false, .bool false, .bool false, .bool false, .bool false, .bool false, .bool false, .bool false, .bool false, .bool false, .bool false, .bool false, .bool false, .bool false, .bool false, .bool false, .bool false, .bool false, .bool false, .bool false, .bool false, .bool false, .bool false, .bool false, .bool false, .bool false, .bool false, .bool false, .bool false, .bool false, .bool false, .bool false, .bool false, .bool false, .bool false, .bool false, .bool false, .bool false, .bool false, .bool false, .bool false, .bool false, .bool false, .bool false, .bool false, .bool false, .bool false, .bool false, .bool false, .bool false, .bool false, .bool false, .bool false, .bool false, .bool false, .bool false, .bool false, .bool false, .bool false, .bool false, .bool false, .bool false, .bool false, .bool false, .bool false, .bool false, .bool false, .bool false, .bool false, .bool false, .bool false, .bool false, .bool false, .bool false, .bool false, .bool false, .bool false, .bool false, .bool false, .bool false, .bool false, .bool false, .bool false, .bool false, .bool false, .bool false, .bool false, .bool false, .bool false, .bool false, .bool false, .bool false, .bool false, .bool false, .bool false, .bool false, .bool false, .bool false, .bool false, .bool false, .bool false, .bool false, .bool false, .bool false, .bool false, .bool false], .bool false]) := by kernel_rfl
theorem tsz_191 : tsz Tryz.prog 191 = some 1 := by kernel_rfl
theorem aggB_191 : aggB Tryz.prog 191 = some false := by kernel_rfl
theorem tszD_191 : tszD Tryz.prog 191 = 1 := by kernel_rfl
theorem tbytes_191 : tbytes Tryz.prog 191 = some 0 := by kernel_rfl
theorem tzeroD_191 : tzeroD Tryz.prog 191 = .tuple #[.agg #[.bool false, .bool false, .int .i64 0, .int .i64 0], .int .i64 0] := by kernel_rfl
theorem tzero_191 : tzero Tryz.prog 191 = some (.tuple #[.agg #[.bool false, .bool false, .int .i64 0, .int .i64 0], .int .i64 0]) := by kernel_rfl
theorem tsz_192 : tsz Tryz.prog 192 = some 1 := by kernel_rfl
theorem aggB_192 : aggB Tryz.prog 192 = some true := by kernel_rfl
theorem tszD_192 : tszD Tryz.prog 192 = 1 := by kernel_rfl
theorem tbytes_192 : tbytes Tryz.prog 192 = some 8 := by kernel_rfl
theorem tzeroD_192 : tzeroD Tryz.prog 192 = .agg #[.pointer none] := by kernel_rfl
theorem tzero_192 : tzero Tryz.prog 192 = some (.agg #[.pointer none]) := by kernel_rfl
theorem tsz_193 : tsz Tryz.prog 193 = some 1 := by kernel_rfl
theorem aggB_193 : aggB Tryz.prog 193 = some true := by kernel_rfl
theorem tszD_193 : tszD Tryz.prog 193 = 1 := by kernel_rfl
theorem tbytes_193 : tbytes Tryz.prog 193 = some 8 := by kernel_rfl
theorem tzeroD_193 : tzeroD Tryz.prog 193 = .agg #[.pointer none] := by kernel_rfl
theorem tzero_193 : tzero Tryz.prog 193 = some (.agg #[.pointer none]) := by kernel_rfl
theorem tsz_199 : tsz Tryz.prog 199 = some 1 := by kernel_rfl
theorem aggB_199 : aggB Tryz.prog 199 = some false := by kernel_rfl
theorem tszD_199 : tszD Tryz.prog 199 = 1 := by kernel_rfl
theorem tbytes_199 : tbytes Tryz.prog 199 = some 8 := by kernel_rfl
theorem isPtr_199 : isPtrB Tryz.prog 199 = true := by kernel_rfl
theorem tzeroD_199 : tzeroD Tryz.prog 199 = .pointer none := by kernel_rfl
theorem tzero_199 : tzero Tryz.prog 199 = some (.pointer none) := by kernel_rfl
theorem tsz_200 : tsz Tryz.prog 200 = some 1 := by kernel_rfl
theorem aggB_200 : aggB Tryz.prog 200 = some false := by kernel_rfl
theorem tszD_200 : tszD Tryz.prog 200 = 1 := by kernel_rfl
theorem tbytes_200 : tbytes Tryz.prog 200 = some 0 := by kernel_rfl
theorem tzeroD_200 : tzeroD Tryz.prog 200 = .tuple #[.agg #[.bool false, .bool false, .int .i64 0, .int .i64 0], .int .i64 0] := by kernel_rfl
theorem tzero_200 : tzero Tryz.prog 200 = some (.tuple #[.agg #[.bool false, .bool false, .int .i64 0, .int .i64 0], .int .i64 0]) := by kernel_rfl
theorem tsz_205 : tsz Tryz.prog 205 = some 1 := by kernel_rfl
theorem aggB_205 : aggB Tryz.prog 205 = some false := by kernel_rfl
theorem tszD_205 : tszD Tryz.prog 205 = 1 := by kernel_rfl
theorem tbytes_205 : tbytes Tryz.prog 205 = some 0 := by kernel_rfl
theorem tzeroD_205 : tzeroD Tryz.prog 205 = .tuple #[.int .i32 0, .int .i64 0] := by kernel_rfl
theorem tzero_205 : tzero Tryz.prog 205 = some (.tuple #[.int .i32 0, .int .i64 0]) := by kernel_rfl
theorem tsz_208 : tsz Tryz.prog 208 = some 256 := by kernel_rfl
theorem aggB_208 : aggB Tryz.prog 208 = some true := by kernel_rfl
theorem tszD_208 : tszD Tryz.prog 208 = 256 := by kernel_rfl
theorem tbytes_208 : tbytes Tryz.prog 208 = some 256 := by kernel_rfl
theorem isArr_208 : isArrB Tryz.prog 208 = true := by kernel_rfl
theorem arrLen_208 : arrLen Tryz.prog 208 = 256 := by kernel_rfl
theorem arrSz_208 : arrSz Tryz.prog 208 = 1 := by kernel_rfl
theorem tsz_209 : tsz Tryz.prog 209 = some 2 := by kernel_rfl
theorem aggB_209 : aggB Tryz.prog 209 = some true := by kernel_rfl
theorem tszD_209 : tszD Tryz.prog 209 = 2 := by kernel_rfl
theorem tbytes_209 : tbytes Tryz.prog 209 = some 2 := by kernel_rfl
theorem tzeroD_209 : tzeroD Tryz.prog 209 = .agg #[.int .u8 0, .int .u8 0] := by kernel_rfl
theorem tzero_209 : tzero Tryz.prog 209 = some (.agg #[.int .u8 0, .int .u8 0]) := by kernel_rfl
theorem tsz_210 : tsz Tryz.prog 210 = some 2 := by kernel_rfl
theorem aggB_210 : aggB Tryz.prog 210 = some true := by kernel_rfl
theorem tszD_210 : tszD Tryz.prog 210 = 2 := by kernel_rfl
theorem tbytes_210 : tbytes Tryz.prog 210 = some 2 := by kernel_rfl
theorem tzeroD_210 : tzeroD Tryz.prog 210 = .agg #[.int .u8 0, .int .u8 0] := by kernel_rfl
theorem tzero_210 : tzero Tryz.prog 210 = some (.agg #[.int .u8 0, .int .u8 0]) := by kernel_rfl
theorem tsz_211 : tsz Tryz.prog 211 = some 32 := by kernel_rfl
theorem aggB_211 : aggB Tryz.prog 211 = some true := by kernel_rfl
theorem tszD_211 : tszD Tryz.prog 211 = 32 := by kernel_rfl
theorem tbytes_211 : tbytes Tryz.prog 211 = some 32 := by kernel_rfl
theorem isArr_211 : isArrB Tryz.prog 211 = true := by kernel_rfl
theorem arrLen_211 : arrLen Tryz.prog 211 = 16 := by kernel_rfl
theorem arrSz_211 : arrSz Tryz.prog 211 = 2 := by kernel_rfl
theorem tzeroD_211 : tzeroD Tryz.prog 211 = .agg #[.int .u8 0, .int .u8 0, .int .u8 0, .int .u8 0, .int .u8 0, .int .u8 0, .int .u8 0, .int .u8 0, .int .u8 0, .int .u8 0, .int .u8 0, .int .u8 0, .int .u8 0, .int .u8 0, .int .u8 0, .int .u8 0, .int .u8 0, .int .u8 0, .int .u8 0, .int .u8 0, .int .u8 0, .int .u8 0, .int .u8 0, .int .u8 0, .int .u8 0, .int .u8 0, .int .u8 0, .int .u8 0, .int .u8 0, .int .u8 0, .int .u8 0, .int .u8 0] := by kernel_rfl
theorem tzero_211 : tzero Tryz.prog 211 = some (.agg #[.int .u8 0, .int .u8 0, .int .u8 0, .int .u8 0, .int .u8 0, .int .u8 0, .int .u8 0, .int .u8 0, .int .u8 0, .int .u8 0, .int .u8 0, .int .u8 0, .int .u8 0, .int .u8 0, .int .u8 0, .int .u8 0, .int .u8 0, .int .u8 0, .int .u8 0, .int .u8 0, .int .u8 0, .int .u8 0, .int .u8 0, .int .u8 0, .int .u8 0, .int .u8 0, .int .u8 0, .int .u8 0, .int .u8 0, .int .u8 0, .int .u8 0, .int .u8 0]) := by kernel_rfl
theorem tsz_212 : tsz Tryz.prog 212 = some 1 := by kernel_rfl
theorem aggB_212 : aggB Tryz.prog 212 = some false := by kernel_rfl
theorem tszD_212 : tszD Tryz.prog 212 = 1 := by kernel_rfl
theorem tbytes_212 : tbytes Tryz.prog 212 = some 0 := by kernel_rfl
theorem tzeroD_212 : tzeroD Tryz.prog 212 = .tuple #[.int .u32 0, .int .u32 0] := by kernel_rfl
theorem tzero_212 : tzero Tryz.prog 212 = some (.tuple #[.int .u32 0, .int .u32 0]) := by kernel_rfl
theorem fa_26_0 {b o : Nat} {h : Heap} : runD Tryz.prog (iFieldAt 26 (.pointer (some ⟨b, o, none⟩)) 0) h = some (.pointer (some ⟨b, o + 0, none⟩)) := by kernel_rfl
theorem fa_26_1 {b o : Nat} {h : Heap} : runD Tryz.prog (iFieldAt 26 (.pointer (some ⟨b, o, none⟩)) 1) h = some (.pointer (some ⟨b, o + 1, none⟩)) := by kernel_rfl
theorem fa_26_2 {b o : Nat} {h : Heap} : runD Tryz.prog (iFieldAt 26 (.pointer (some ⟨b, o, none⟩)) 2) h = some (.pointer (some ⟨b, o + 2, none⟩)) := by kernel_rfl
theorem fa_26_3 {b o : Nat} {h : Heap} : runD Tryz.prog (iFieldAt 26 (.pointer (some ⟨b, o, none⟩)) 3) h = some (.pointer (some ⟨b, o + 3, none⟩)) := by kernel_rfl
theorem fa_26_4 {b o : Nat} {h : Heap} : runD Tryz.prog (iFieldAt 26 (.pointer (some ⟨b, o, none⟩)) 4) h = some (.pointer (some ⟨b, o + 4, none⟩)) := by kernel_rfl
theorem fa_31_0 {b o : Nat} {h : Heap} : runD Tryz.prog (iFieldAt 31 (.pointer (some ⟨b, o, none⟩)) 0) h = some (.pointer (some ⟨b, o + 0, none⟩)) := by kernel_rfl
theorem fa_31_1 {b o : Nat} {h : Heap} : runD Tryz.prog (iFieldAt 31 (.pointer (some ⟨b, o, none⟩)) 1) h = some (.pointer (some ⟨b, o + 1, none⟩)) := by kernel_rfl
theorem fa_31_2 {b o : Nat} {h : Heap} : runD Tryz.prog (iFieldAt 31 (.pointer (some ⟨b, o, none⟩)) 2) h = some (.pointer (some ⟨b, o + 2, none⟩)) := by kernel_rfl
theorem fa_36_2 {b o : Nat} {h : Heap} : runD Tryz.prog (iFieldAt 36 (.pointer (some ⟨b, o, none⟩)) 2) h = some (.pointer (some ⟨b, o + 2, none⟩)) := by kernel_rfl
theorem fa_38_0 {b o : Nat} {h : Heap} : runD Tryz.prog (iFieldAt 38 (.pointer (some ⟨b, o, none⟩)) 0) h = some (.pointer (some ⟨b, o + 0, none⟩)) := by kernel_rfl
theorem fa_38_1 {b o : Nat} {h : Heap} : runD Tryz.prog (iFieldAt 38 (.pointer (some ⟨b, o, none⟩)) 1) h = some (.pointer (some ⟨b, o + 3, none⟩)) := by kernel_rfl
theorem fa_44_0 {b o : Nat} {h : Heap} : runD Tryz.prog (iFieldAt 44 (.pointer (some ⟨b, o, none⟩)) 0) h = some (.pointer (some ⟨b, o + 0, none⟩)) := by kernel_rfl
theorem fa_44_1 {b o : Nat} {h : Heap} : runD Tryz.prog (iFieldAt 44 (.pointer (some ⟨b, o, none⟩)) 1) h = some (.pointer (some ⟨b, o + 1, none⟩)) := by kernel_rfl
theorem fa_44_2 {b o : Nat} {h : Heap} : runD Tryz.prog (iFieldAt 44 (.pointer (some ⟨b, o, none⟩)) 2) h = some (.pointer (some ⟨b, o + 2, none⟩)) := by kernel_rfl
theorem fa_44_3 {b o : Nat} {h : Heap} : runD Tryz.prog (iFieldAt 44 (.pointer (some ⟨b, o, none⟩)) 3) h = some (.pointer (some ⟨b, o + 3, none⟩)) := by kernel_rfl
theorem fa_44_4 {b o : Nat} {h : Heap} : runD Tryz.prog (iFieldAt 44 (.pointer (some ⟨b, o, none⟩)) 4) h = some (.pointer (some ⟨b, o + 4, none⟩)) := by kernel_rfl
theorem fa_48_0 {b o : Nat} {h : Heap} : runD Tryz.prog (iFieldAt 48 (.pointer (some ⟨b, o, none⟩)) 0) h = some (.pointer (some ⟨b, o + 0, none⟩)) := by kernel_rfl
theorem fa_48_1 {b o : Nat} {h : Heap} : runD Tryz.prog (iFieldAt 48 (.pointer (some ⟨b, o, none⟩)) 1) h = some (.pointer (some ⟨b, o + 16, none⟩)) := by kernel_rfl
theorem fa_48_2 {b o : Nat} {h : Heap} : runD Tryz.prog (iFieldAt 48 (.pointer (some ⟨b, o, none⟩)) 2) h = some (.pointer (some ⟨b, o + 17, none⟩)) := by kernel_rfl
theorem fa_50_0 {b o : Nat} {h : Heap} : runD Tryz.prog (iFieldAt 50 (.pointer (some ⟨b, o, none⟩)) 0) h = some (.pointer (some ⟨b, o + 0, none⟩)) := by kernel_rfl
theorem fa_50_3 {b o : Nat} {h : Heap} : runD Tryz.prog (iFieldAt 50 (.pointer (some ⟨b, o, none⟩)) 3) h = some (.pointer (some ⟨b, o + 3, none⟩)) := by kernel_rfl
theorem fa_52_0 {b o : Nat} {h : Heap} : runD Tryz.prog (iFieldAt 52 (.pointer (some ⟨b, o, none⟩)) 0) h = some (.pointer (some ⟨b, o + 0, none⟩)) := by kernel_rfl
theorem fa_74_0 {b o : Nat} {h : Heap} : runD Tryz.prog (iFieldAt 74 (.pointer (some ⟨b, o, none⟩)) 0) h = some (.pointer (some ⟨b, o + 0, none⟩)) := by kernel_rfl
theorem fa_74_1 {b o : Nat} {h : Heap} : runD Tryz.prog (iFieldAt 74 (.pointer (some ⟨b, o, none⟩)) 1) h = some (.pointer (some ⟨b, o + 1, none⟩)) := by kernel_rfl
theorem fa_74_2 {b o : Nat} {h : Heap} : runD Tryz.prog (iFieldAt 74 (.pointer (some ⟨b, o, none⟩)) 2) h = some (.pointer (some ⟨b, o + 2, none⟩)) := by kernel_rfl
theorem fa_74_3 {b o : Nat} {h : Heap} : runD Tryz.prog (iFieldAt 74 (.pointer (some ⟨b, o, none⟩)) 3) h = some (.pointer (some ⟨b, o + 3, none⟩)) := by kernel_rfl
theorem fa_76_0 {b o : Nat} {h : Heap} : runD Tryz.prog (iFieldAt 76 (.pointer (some ⟨b, o, none⟩)) 0) h = some (.pointer (some ⟨b, o + 0, none⟩)) := by kernel_rfl
theorem fa_76_1 {b o : Nat} {h : Heap} : runD Tryz.prog (iFieldAt 76 (.pointer (some ⟨b, o, none⟩)) 1) h = some (.pointer (some ⟨b, o + 1, none⟩)) := by kernel_rfl
theorem fa_76_2 {b o : Nat} {h : Heap} : runD Tryz.prog (iFieldAt 76 (.pointer (some ⟨b, o, none⟩)) 2) h = some (.pointer (some ⟨b, o + 2, none⟩)) := by kernel_rfl
theorem fa_79_0 {b o : Nat} {h : Heap} : runD Tryz.prog (iFieldAt 79 (.pointer (some ⟨b, o, none⟩)) 0) h = some (.pointer (some ⟨b, o + 0, none⟩)) := by kernel_rfl
theorem fa_79_1 {b o : Nat} {h : Heap} : runD Tryz.prog (iFieldAt 79 (.pointer (some ⟨b, o, none⟩)) 1) h = some (.pointer (some ⟨b, o + 1, none⟩)) := by kernel_rfl
theorem fa_81_0 {b o : Nat} {h : Heap} : runD Tryz.prog (iFieldAt 81 (.pointer (some ⟨b, o, none⟩)) 0) h = some (.pointer (some ⟨b, o + 0, none⟩)) := by kernel_rfl
theorem fa_81_1 {b o : Nat} {h : Heap} : runD Tryz.prog (iFieldAt 81 (.pointer (some ⟨b, o, none⟩)) 1) h = some (.pointer (some ⟨b, o + 1, none⟩)) := by kernel_rfl
theorem fa_81_2 {b o : Nat} {h : Heap} : runD Tryz.prog (iFieldAt 81 (.pointer (some ⟨b, o, none⟩)) 2) h = some (.pointer (some ⟨b, o + 2, none⟩)) := by kernel_rfl
theorem fa_81_3 {b o : Nat} {h : Heap} : runD Tryz.prog (iFieldAt 81 (.pointer (some ⟨b, o, none⟩)) 3) h = some (.pointer (some ⟨b, o + 3, none⟩)) := by kernel_rfl
theorem fa_81_4 {b o : Nat} {h : Heap} : runD Tryz.prog (iFieldAt 81 (.pointer (some ⟨b, o, none⟩)) 4) h = some (.pointer (some ⟨b, o + 4, none⟩)) := by kernel_rfl
theorem fa_93_0 {b o : Nat} {h : Heap} : runD Tryz.prog (iFieldAt 93 (.pointer (some ⟨b, o, none⟩)) 0) h = some (.pointer (some ⟨b, o + 0, none⟩)) := by kernel_rfl
theorem fa_93_1 {b o : Nat} {h : Heap} : runD Tryz.prog (iFieldAt 93 (.pointer (some ⟨b, o, none⟩)) 1) h = some (.pointer (some ⟨b, o + 1, none⟩)) := by kernel_rfl
theorem fa_93_2 {b o : Nat} {h : Heap} : runD Tryz.prog (iFieldAt 93 (.pointer (some ⟨b, o, none⟩)) 2) h = some (.pointer (some ⟨b, o + 2, none⟩)) := by kernel_rfl
theorem fa_93_3 {b o : Nat} {h : Heap} : runD Tryz.prog (iFieldAt 93 (.pointer (some ⟨b, o, none⟩)) 3) h = some (.pointer (some ⟨b, o + 3, none⟩)) := by kernel_rfl
theorem fa_96_0 {b o : Nat} {h : Heap} : runD Tryz.prog (iFieldAt 96 (.pointer (some ⟨b, o, none⟩)) 0) h = some (.pointer (some ⟨b, o + 0, none⟩)) := by kernel_rfl
theorem fa_96_1 {b o : Nat} {h : Heap} : runD Tryz.prog (iFieldAt 96 (.pointer (some ⟨b, o, none⟩)) 1) h = some (.pointer (some ⟨b, o + 3, none⟩)) := by kernel_rfl
theorem fa_96_2 {b o : Nat} {h : Heap} : runD Tryz.prog (iFieldAt 96 (.pointer (some ⟨b, o, none⟩)) 2) h = some (.pointer (some ⟨b, o + 4, none⟩)) := by kernel_rfl
theorem fa_96_3 {b o : Nat} {h : Heap} : runD Tryz.prog (iFieldAt 96 (.pointer (some ⟨b, o, none⟩)) 3) h = some (.pointer (some ⟨b, o + 9, none⟩)) := by kernel_rfl
theorem fa_96_4 {b o : Nat} {h : Heap} : runD Tryz.prog (iFieldAt 96 (.pointer (some ⟨b, o, none⟩)) 4) h = some (.pointer (some ⟨b, o + 10, none⟩)) := by kernel_rfl
theorem fa_96_5 {b o : Nat} {h : Heap} : runD Tryz.prog (iFieldAt 96 (.pointer (some ⟨b, o, none⟩)) 5) h = some (.pointer (some ⟨b, o + 14, none⟩)) := by kernel_rfl
theorem fa_96_6 {b o : Nat} {h : Heap} : runD Tryz.prog (iFieldAt 96 (.pointer (some ⟨b, o, none⟩)) 6) h = some (.pointer (some ⟨b, o + 15, none⟩)) := by kernel_rfl
theorem fa_96_7 {b o : Nat} {h : Heap} : runD Tryz.prog (iFieldAt 96 (.pointer (some ⟨b, o, none⟩)) 7) h = some (.pointer (some ⟨b, o + 16, none⟩)) := by kernel_rfl
theorem fa_100_0 {b o : Nat} {h : Heap} : runD Tryz.prog (iFieldAt 100 (.pointer (some ⟨b, o, none⟩)) 0) h = some (.pointer (some ⟨b, o + 0, none⟩)) := by kernel_rfl
theorem fa_100_1 {b o : Nat} {h : Heap} : runD Tryz.prog (iFieldAt 100 (.pointer (some ⟨b, o, none⟩)) 1) h = some (.pointer (some ⟨b, o + 1, none⟩)) := by kernel_rfl
theorem fa_110_0 {b o : Nat} {h : Heap} : runD Tryz.prog (iFieldAt 110 (.pointer (some ⟨b, o, none⟩)) 0) h = some (.pointer (some ⟨b, o + 0, none⟩)) := by kernel_rfl
theorem fa_112_0 {b o : Nat} {h : Heap} : runD Tryz.prog (iFieldAt 112 (.pointer (some ⟨b, o, none⟩)) 0) h = some (.pointer (some ⟨b, o + 0, none⟩)) := by kernel_rfl
theorem fa_114_0 {b o : Nat} {h : Heap} : runD Tryz.prog (iFieldAt 114 (.pointer (some ⟨b, o, none⟩)) 0) h = some (.pointer (some ⟨b, o + 0, none⟩)) := by kernel_rfl
theorem fa_114_1 {b o : Nat} {h : Heap} : runD Tryz.prog (iFieldAt 114 (.pointer (some ⟨b, o, none⟩)) 1) h = some (.pointer (some ⟨b, o + 40, none⟩)) := by kernel_rfl
theorem fa_114_2 {b o : Nat} {h : Heap} : runD Tryz.prog (iFieldAt 114 (.pointer (some ⟨b, o, none⟩)) 2) h = some (.pointer (some ⟨b, o + 41, none⟩)) := by kernel_rfl
theorem fa_125_1 {b o : Nat} {h : Heap} : runD Tryz.prog (iFieldAt 125 (.pointer (some ⟨b, o, none⟩)) 1) h = some (.pointer (some ⟨b, o + 1, none⟩)) := by kernel_rfl
theorem fa_125_2 {b o : Nat} {h : Heap} : runD Tryz.prog (iFieldAt 125 (.pointer (some ⟨b, o, none⟩)) 2) h = some (.pointer (some ⟨b, o + 2, none⟩)) := by kernel_rfl
theorem fa_125_3 {b o : Nat} {h : Heap} : runD Tryz.prog (iFieldAt 125 (.pointer (some ⟨b, o, none⟩)) 3) h = some (.pointer (some ⟨b, o + 66, none⟩)) := by kernel_rfl
theorem fa_125_4 {b o : Nat} {h : Heap} : runD Tryz.prog (iFieldAt 125 (.pointer (some ⟨b, o, none⟩)) 4) h = some (.pointer (some ⟨b, o + 67, none⟩)) := by kernel_rfl
theorem fa_125_6 {b o : Nat} {h : Heap} : runD Tryz.prog (iFieldAt 125 (.pointer (some ⟨b, o, none⟩)) 6) h = some (.pointer (some ⟨b, o + 69, none⟩)) := by kernel_rfl
theorem fa_125_7 {b o : Nat} {h : Heap} : runD Tryz.prog (iFieldAt 125 (.pointer (some ⟨b, o, none⟩)) 7) h = some (.pointer (some ⟨b, o + 70, none⟩)) := by kernel_rfl
theorem fa_157_0 {b o : Nat} {h : Heap} : runD Tryz.prog (iFieldAt 157 (.pointer (some ⟨b, o, none⟩)) 0) h = some (.pointer (some ⟨b, o + 0, none⟩)) := by kernel_rfl
theorem fa_157_1 {b o : Nat} {h : Heap} : runD Tryz.prog (iFieldAt 157 (.pointer (some ⟨b, o, none⟩)) 1) h = some (.pointer (some ⟨b, o + 1, none⟩)) := by kernel_rfl
theorem fa_172_0 {b o : Nat} {h : Heap} : runD Tryz.prog (iFieldAt 172 (.pointer (some ⟨b, o, none⟩)) 0) h = some (.pointer (some ⟨b, o + 0, none⟩)) := by kernel_rfl
theorem fa_172_1 {b o : Nat} {h : Heap} : runD Tryz.prog (iFieldAt 172 (.pointer (some ⟨b, o, none⟩)) 1) h = some (.pointer (some ⟨b, o + 1, none⟩)) := by kernel_rfl
theorem fa_172_4 {b o : Nat} {h : Heap} : runD Tryz.prog (iFieldAt 172 (.pointer (some ⟨b, o, none⟩)) 4) h = some (.pointer (some ⟨b, o + 4, none⟩)) := by kernel_rfl
theorem fa_193_0 {b o : Nat} {h : Heap} : runD Tryz.prog (iFieldAt 193 (.pointer (some ⟨b, o, none⟩)) 0) h = some (.pointer (some ⟨b, o + 0, none⟩)) := by kernel_rfl
theorem fa_210_0 {b o : Nat} {h : Heap} : runD Tryz.prog (iFieldAt 210 (.pointer (some ⟨b, o, none⟩)) 0) h = some (.pointer (some ⟨b, o + 0, none⟩)) := by kernel_rfl
theorem fa_210_1 {b o : Nat} {h : Heap} : runD Tryz.prog (iFieldAt 210 (.pointer (some ⟨b, o, none⟩)) 1) h = some (.pointer (some ⟨b, o + 1, none⟩)) := by kernel_rfl
theorem bd_26_  {h : Heap} : runD Tryz.prog (iBuild 26 #[]) h = some (.agg #[.int .i64 0, .int .i64 0, .int .i64 0, .int .i64 0, .int .i64 0]) := by kernel_rfl
theorem bd_26_0_1_2 (x0 : Int) (x1 : Int) (x2 : Int) {h : Heap} : runD Tryz.prog (iBuild 26 #[(0, .int .i64 x0), (1, .int .i64 x1), (2, .int .i64 x2)]) h = some (.agg #[.int .i64 x0, .int .i64 x1, .int .i64 x2, .int .i64 0, .int .i64 0]) := by kernel_rfl
theorem bd_26_0_1_2_3 (x0 : Int) (x1 : Int) (x2 : Int) (x3 : Int) {h : Heap} : runD Tryz.prog (iBuild 26 #[(0, .int .i64 x0), (1, .int .i64 x1), (2, .int .i64 x2), (3, .int .i64 x3)]) h = some (.agg #[.int .i64 x0, .int .i64 x1, .int .i64 x2, .int .i64 x3, .int .i64 0]) := by kernel_rfl
theorem bd_26_0_1_2_4 (x0 : Int) (x1 : Int) (x2 : Int) (x3 : Int) {h : Heap} : runD Tryz.prog (iBuild 26 #[(0, .int .i64 x0), (1, .int .i64 x1), (2, .int .i64 x2), (4, .int .i64 x3)]) h = some (.agg #[.int .i64 x0, .int .i64 x1, .int .i64 x2, .int .i64 0, .int .i64 x3]) := by kernel_rfl
theorem bd_26_0_1_4 (x0 : Int) (x1 : Int) (x2 : Int) {h : Heap} : runD Tryz.prog (iBuild 26 #[(0, .int .i64 x0), (1, .int .i64 x1), (4, .int .i64 x2)]) h = some (.agg #[.int .i64 x0, .int .i64 x1, .int .i64 0, .int .i64 0, .int .i64 x2]) := by kernel_rfl
theorem bd_26_0_2_4 (x0 : Int) (x1 : Int) (x2 : Int) {h : Heap} : runD Tryz.prog (iBuild 26 #[(0, .int .i64 x0), (2, .int .i64 x1), (4, .int .i64 x2)]) h = some (.agg #[.int .i64 x0, .int .i64 0, .int .i64 x1, .int .i64 0, .int .i64 x2]) := by kernel_rfl
theorem bd_26_0_4 (x0 : Int) (x1 : Int) {h : Heap} : runD Tryz.prog (iBuild 26 #[(0, .int .i64 x0), (4, .int .i64 x1)]) h = some (.agg #[.int .i64 x0, .int .i64 0, .int .i64 0, .int .i64 0, .int .i64 x1]) := by kernel_rfl
theorem bd_31_0_1 (x0 : Option Addr) (x1 : Option Addr) {h : Heap} : runD Tryz.prog (iBuild 31 #[(0, .pointer x0), (1, .pointer x1)]) h = some (.agg #[.pointer x0, .pointer x1, .pointer none]) := by kernel_rfl
theorem bd_36_0_1 (x0 : Option Addr) (x1 : Option Addr) {h : Heap} : runD Tryz.prog (iBuild 36 #[(0, .pointer x0), (1, .pointer x1)]) h = some (.agg #[.pointer x0, .pointer x1, .pointer none]) := by kernel_rfl
theorem bd_38_  {h : Heap} : runD Tryz.prog (iBuild 38 #[]) h = some (.agg #[.pointer none, .pointer none, .pointer none, .pointer none, .pointer none, .pointer none]) := by kernel_rfl
theorem bd_38_0_1 (x0 : Option Addr) (x1 : Option Addr) (x2 : Option Addr) (x3 : Option Addr) (x4 : Option Addr) (x5 : Option Addr) {h : Heap} : runD Tryz.prog (iBuild 38 #[(0, .agg #[.pointer x0, .pointer x1, .pointer x2]), (1, .agg #[.pointer x3, .pointer x4, .pointer x5])]) h = some (.agg #[.pointer x0, .pointer x1, .pointer x2, .pointer x3, .pointer x4, .pointer x5]) := by kernel_rfl
theorem bd_44_0_1_2_3_4 (x0 : Option Addr) (x0l x0c : Nat) (x1 : Option Addr) (x1l x1c : Nat) (x2 : Bool) (x3 : Int) (x4 : Int) {h : Heap} : runD Tryz.prog (iBuild 44 #[(0, .slice x0 x0l x0c), (1, .slice x1 x1l x1c), (2, .bool x2), (3, .int .i64 x3), (4, .int .i64 x4)]) h = some (.agg #[.slice x0 x0l x0c, .slice x1 x1l x1c, .bool x2, .int .i64 x3, .int .i64 x4]) := by kernel_rfl
theorem bd_48_  {h : Heap} : runD Tryz.prog (iBuild 48 #[]) h = some (.agg #[.int .u32 0, .int .u32 0, .int .u32 0, .int .u32 0, .int .u32 0, .int .u32 0, .int .u32 0, .int .u32 0, .int .u32 0, .int .u32 0, .int .u32 0, .int .u32 0, .int .u32 0, .int .u32 0, .int .u32 0, .int .u32 0, .int .i64 0, .int .u32 0, .int .u32 0, .int .u32 0, .int .u32 0, .int .u32 0, .int .u32 0, .int .u32 0, .int .u32 0]) := by kernel_rfl
theorem bd_48_0 (x0 : Int) (x1 : Int) (x2 : Int) (x3 : Int) (x4 : Int) (x5 : Int) (x6 : Int) (x7 : Int) (x8 : Int) (x9 : Int) (x10 : Int) (x11 : Int) (x12 : Int) (x13 : Int) (x14 : Int) (x15 : Int) {h : Heap} : runD Tryz.prog (iBuild 48 #[(0, .agg #[.int .u32 x0, .int .u32 x1, .int .u32 x2, .int .u32 x3, .int .u32 x4, .int .u32 x5, .int .u32 x6, .int .u32 x7, .int .u32 x8, .int .u32 x9, .int .u32 x10, .int .u32 x11, .int .u32 x12, .int .u32 x13, .int .u32 x14, .int .u32 x15])]) h = some (.agg #[.int .u32 x0, .int .u32 x1, .int .u32 x2, .int .u32 x3, .int .u32 x4, .int .u32 x5, .int .u32 x6, .int .u32 x7, .int .u32 x8, .int .u32 x9, .int .u32 x10, .int .u32 x11, .int .u32 x12, .int .u32 x13, .int .u32 x14, .int .u32 x15, .int .i64 0, .int .u32 0, .int .u32 0, .int .u32 0, .int .u32 0, .int .u32 0, .int .u32 0, .int .u32 0, .int .u32 0]) := by kernel_rfl
theorem bd_50_  {h : Heap} : runD Tryz.prog (iBuild 50 #[]) h = some (.agg #[.int .i64 0, .int .i64 0, .int .i64 0, .bool false, .int .i64 0]) := by kernel_rfl
theorem bd_50_0 (x0 : Int) {h : Heap} : runD Tryz.prog (iBuild 50 #[(0, .int .i64 x0)]) h = some (.agg #[.int .i64 x0, .int .i64 0, .int .i64 0, .bool false, .int .i64 0]) := by kernel_rfl
theorem bd_50_0_1_2_4 (x0 : Int) (x1 : Int) (x2 : Int) (x3 : Int) {h : Heap} : runD Tryz.prog (iBuild 50 #[(0, .int .i64 x0), (1, .int .i64 x1), (2, .int .i64 x2), (4, .int .i64 x3)]) h = some (.agg #[.int .i64 x0, .int .i64 x1, .int .i64 x2, .bool false, .int .i64 x3]) := by kernel_rfl
theorem bd_52_  {h : Heap} : runD Tryz.prog (iBuild 52 #[]) h = some (.agg #[.int .i64 0, .int .i64 0, .int .i64 0, .int .i64 0, .int .i64 0, .int .i64 0, .bool false, .int .i64 0]) := by kernel_rfl
theorem bd_52_0_1 (x0 : Int) (x1 : Int) {h : Heap} : runD Tryz.prog (iBuild 52 #[(0, .int .i64 x0), (1, .int .i64 x1)]) h = some (.agg #[.int .i64 x0, .int .i64 x1, .int .i64 0, .int .i64 0, .int .i64 0, .int .i64 0, .bool false, .int .i64 0]) := by kernel_rfl
theorem bd_52_0_1_2 (x0 : Int) (x1 : Int) (x2 : Int) {h : Heap} : runD Tryz.prog (iBuild 52 #[(0, .int .i64 x0), (1, .int .i64 x1), (2, .int .i64 x2)]) h = some (.agg #[.int .i64 x0, .int .i64 x1, .int .i64 x2, .int .i64 0, .int .i64 0, .int .i64 0, .bool false, .int .i64 0]) := by kernel_rfl
theorem bd_52_0_2 (x0 : Int) (x1 : Int) {h : Heap} : runD Tryz.prog (iBuild 52 #[(0, .int .i64 x0), (2, .int .i64 x1)]) h = some (.agg #[.int .i64 x0, .int .i64 0, .int .i64 x1, .int .i64 0, .int .i64 0, .int .i64 0, .bool false, .int .i64 0]) := by kernel_rfl
theorem bd_52_0_2_3 (x0 : Int) (x1 : Int) (x2 : Int) (x3 : Int) (x4 : Int) (x5 : Bool) (x6 : Int) {h : Heap} : runD Tryz.prog (iBuild 52 #[(0, .int .i64 x0), (2, .int .i64 x1), (3, .agg #[.int .i64 x2, .int .i64 x3, .int .i64 x4, .bool x5, .int .i64 x6])]) h = some (.agg #[.int .i64 x0, .int .i64 0, .int .i64 x1, .int .i64 x2, .int .i64 x3, .int .i64 x4, .bool x5, .int .i64 x6]) := by kernel_rfl
theorem bd_74_  {h : Heap} : runD Tryz.prog (iBuild 74 #[]) h = some (.agg #[.bool false, .bool false, .int .i64 0, .int .i64 0]) := by kernel_rfl
theorem bd_74_0_1_2_3 (x0 : Bool) (x1 : Bool) (x2 : Int) (x3 : Int) {h : Heap} : runD Tryz.prog (iBuild 74 #[(0, .bool x0), (1, .bool x1), (2, .int .i64 x2), (3, .int .i64 x3)]) h = some (.agg #[.bool x0, .bool x1, .int .i64 x2, .int .i64 x3]) := by kernel_rfl
theorem bd_74_0_3 (x0 : Bool) (x1 : Int) {h : Heap} : runD Tryz.prog (iBuild 74 #[(0, .bool x0), (3, .int .i64 x1)]) h = some (.agg #[.bool x0, .bool false, .int .i64 0, .int .i64 x1]) := by kernel_rfl
theorem bd_76_0_1_2 (x0 : Int) (x1 : Int) (x2 : Bool) (x3 : Bool) (x4 : Int) (x5 : Int) {h : Heap} : runD Tryz.prog (iBuild 76 #[(0, .int .i64 x0), (1, .int .i64 x1), (2, .agg #[.bool x2, .bool x3, .int .i64 x4, .int .i64 x5])]) h = some (.agg #[.int .i64 x0, .int .i64 x1, .bool x2, .bool x3, .int .i64 x4, .int .i64 x5]) := by kernel_rfl
theorem bd_79_0_1 (x0 : Int) (x1 : Int) {h : Heap} : runD Tryz.prog (iBuild 79 #[(0, .int .i64 x0), (1, .int .u32 x1)]) h = some (.agg #[.int .i64 x0, .int .u32 x1]) := by kernel_rfl
theorem bd_81_  {h : Heap} : runD Tryz.prog (iBuild 81 #[]) h = some (.agg #[.int .i64 0, .int .i64 0, .int .i64 0, .int .i64 0, .int .i64 0]) := by kernel_rfl
theorem bd_81_0_1_2_3_4 (x0 : Int) (x1 : Int) (x2 : Int) (x3 : Int) (x4 : Int) {h : Heap} : runD Tryz.prog (iBuild 81 #[(0, .int .i64 x0), (1, .int .i64 x1), (2, .int .i64 x2), (3, .int .i64 x3), (4, .int .i64 x4)]) h = some (.agg #[.int .i64 x0, .int .i64 x1, .int .i64 x2, .int .i64 x3, .int .i64 x4]) := by kernel_rfl
theorem bd_84_  {h : Heap} : runD Tryz.prog (iBuild 84 #[]) h = some (.agg #[.int .i64 0, .int .i64 0, .int .i64 0, .int .i64 0, .int .i64 0, .int .i64 0, .int .i64 0, .int .i64 0, .int .i64 0, .int .i64 0, .int .i64 0, .int .i64 0, .int .i64 0, .int .i64 0, .int .i64 0, .int .i64 0, .int .i64 0, .int .i64 0, .int .i64 0, .int .i64 0, .int .i64 0, .int .i64 0, .int .i64 0, .int .i64 0, .int .i64 0, .int .i64 0, .int .i64 0, .int .i64 0, .int .i64 0, .int .i64 0, .int .i64 0, .int .i64 0, .int .i64 0, .int .i64 0, .int .i64 0, .int .i64 0, .int .i64 0, .int .i64 0, .int .i64 0, .int .i64 0, .int .i64 0, .int .i64 0]) := by kernel_rfl
theorem bd_93_0_2_3 (x0 : Int) (x1 : Int) (x2 : Int) {h : Heap} : runD Tryz.prog (iBuild 93 #[(0, .int .i64 x0), (2, .int .i64 x1), (3, .int .i64 x2)]) h = some (.agg #[.int .i64 x0, .int .i64 0, .int .i64 x1, .int .i64 x2]) := by kernel_rfl
theorem bd_96_0_1_4_5 (x0 : Option Addr) (x1 : Option Addr) (x2 : Option Addr) (x3 : Option Addr) (x4 : Int) (x5 : Int) (x6 : Int) (x7 : Int) (x8 : Int) {h : Heap} : runD Tryz.prog (iBuild 96 #[(0, .agg #[.pointer x0, .pointer x1, .pointer x2]), (1, .pointer x3), (4, .agg #[.int .i64 x4, .int .i64 x5, .int .i64 x6, .int .i64 x7]), (5, .int .i64 x8)]) h = some (.agg #[.pointer x0, .pointer x1, .pointer x2, .pointer x3, .int .i64 0, .int .i64 0, .int .i64 0, .int .i64 0, .int .i64 0, .int .u32 0, .int .i64 x4, .int .i64 x5, .int .i64 x6, .int .i64 x7, .int .i64 x8, .int .i64 0, .bool false]) := by kernel_rfl
theorem bd_110_0 (x0 : Option Addr) (x0l x0c : Nat) {h : Heap} : runD Tryz.prog (iBuild 110 #[(0, .slice x0 x0l x0c)]) h = some (.agg #[.slice x0 x0l x0c]) := by kernel_rfl
theorem bd_112_0 (x0 : Option Addr) (x0l x0c : Nat) {h : Heap} : runD Tryz.prog (iBuild 112 #[(0, .slice x0 x0l x0c)]) h = some (.agg #[.slice x0 x0l x0c]) := by kernel_rfl
theorem bd_114_  {h : Heap} : runD Tryz.prog (iBuild 114 #[]) h = some (.agg #[.int .i64 0, .int .i64 0, .int .i64 0, .int .i64 0, .int .i64 0, .int .i64 0, .int .i64 0, .int .i64 0, .int .i64 0, .int .i64 0, .int .i64 0, .int .i64 0, .int .i64 0, .int .i64 0, .int .i64 0, .int .i64 0, .int .i64 0, .int .i64 0, .int .i64 0, .int .i64 0, .int .i64 0, .int .i64 0, .int .i64 0, .int .i64 0, .int .i64 0, .int .i64 0, .int .i64 0, .int .i64 0, .int .i64 0, .int .i64 0, .int .i64 0, .int .i64 0, .int .i64 0, .int .i64 0, .int .i64 0, .int .i64 0, .int .i64 0, .int .i64 0, .int .i64 0, .int .i64 0, .int .i64 0, .int .i64 0]) := by kernel_rfl
theorem bd_172_0_1_2_3 (x0 : Int) (x1 : Int) (x2 : Bool) (x3 : Bool) {h : Heap} : runD Tryz.prog (iBuild 172 #[(0, .int .i64 x0), (1, .int .i64 x1), (2, .bool x2), (3, .bool x3)]) h = some (.agg #[.int .i64 x0, .int .i64 x1, .bool x2, .bool x3, .bool false]) := by kernel_rfl
theorem bd_172_0_1_2_3_4 (x0 : Int) (x1 : Int) (x2 : Bool) (x3 : Bool) (x4 : Bool) {h : Heap} : runD Tryz.prog (iBuild 172 #[(0, .int .i64 x0), (1, .int .i64 x1), (2, .bool x2), (3, .bool x3), (4, .bool x4)]) h = some (.agg #[.int .i64 x0, .int .i64 x1, .bool x2, .bool x3, .bool x4]) := by kernel_rfl
theorem bd_193_0 (x0 : Option Addr) {h : Heap} : runD Tryz.prog (iBuild 193 #[(0, .pointer x0)]) h = some (.agg #[.pointer x0]) := by kernel_rfl
theorem bd_210_0_1 (x0 : Int) (x1 : Int) {h : Heap} : runD Tryz.prog (iBuild 210 #[(0, .int .u8 x0), (1, .int .u8 x1)]) h = some (.agg #[.int .u8 x0, .int .u8 x1]) := by kernel_rfl
theorem flatOk_26 : flatOk Tryz.prog 26 [.int .i64, .int .i64, .int .i64, .int .i64, .int .i64] = true := by kernel_rfl
theorem eqls_26 {h : Heap} {x y : Operand} {xs ys : List Value} (h1 : fitL [.int .i64, .int .i64, .int .i64, .int .i64, .int .i64] xs) (h2 : fitL [.int .i64, .int .i64, .int .i64, .int .i64, .int .i64] ys) : binD Tryz.prog h .eql 26 x y (.agg xs.toArray) (.agg ys.toArray) = some (.bool (eqL xs ys)) := binD_eql_flat flatOk_26 h1 h2
theorem neqs_26 {h : Heap} {x y : Operand} {xs ys : List Value} (h1 : fitL [.int .i64, .int .i64, .int .i64, .int .i64, .int .i64] xs) (h2 : fitL [.int .i64, .int .i64, .int .i64, .int .i64, .int .i64] ys) : binD Tryz.prog h .neq 26 x y (.agg xs.toArray) (.agg ys.toArray) = some (.bool (!eqL xs ys)) := binD_neq_flat flatOk_26 h1 h2
theorem flatOk_48 : flatOk Tryz.prog 48 [.int .u32, .int .u32, .int .u32, .int .u32, .int .u32, .int .u32, .int .u32, .int .u32, .int .u32, .int .u32, .int .u32, .int .u32, .int .u32, .int .u32, .int .u32, .int .u32, .int .i64, .int .u32, .int .u32, .int .u32, .int .u32, .int .u32, .int .u32, .int .u32, .int .u32] = true := by kernel_rfl
theorem eqls_48 {h : Heap} {x y : Operand} {xs ys : List Value} (h1 : fitL [.int .u32, .int .u32, .int .u32, .int .u32, .int .u32, .int .u32, .int .u32, .int .u32, .int .u32, .int .u32, .int .u32, .int .u32, .int .u32, .int .u32, .int .u32, .int .u32, .int .i64, .int .u32, .int .u32, .int .u32, .int .u32, .int .u32, .int .u32, .int .u32, .int .u32] xs) (h2 : fitL [.int .u32, .int .u32, .int .u32, .int .u32, .int .u32, .int .u32, .int .u32, .int .u32, .int .u32, .int .u32, .int .u32, .int .u32, .int .u32, .int .u32, .int .u32, .int .u32, .int .i64, .int .u32, .int .u32, .int .u32, .int .u32, .int .u32, .int .u32, .int .u32, .int .u32] ys) : binD Tryz.prog h .eql 48 x y (.agg xs.toArray) (.agg ys.toArray) = some (.bool (eqL xs ys)) := binD_eql_flat flatOk_48 h1 h2
theorem neqs_48 {h : Heap} {x y : Operand} {xs ys : List Value} (h1 : fitL [.int .u32, .int .u32, .int .u32, .int .u32, .int .u32, .int .u32, .int .u32, .int .u32, .int .u32, .int .u32, .int .u32, .int .u32, .int .u32, .int .u32, .int .u32, .int .u32, .int .i64, .int .u32, .int .u32, .int .u32, .int .u32, .int .u32, .int .u32, .int .u32, .int .u32] xs) (h2 : fitL [.int .u32, .int .u32, .int .u32, .int .u32, .int .u32, .int .u32, .int .u32, .int .u32, .int .u32, .int .u32, .int .u32, .int .u32, .int .u32, .int .u32, .int .u32, .int .u32, .int .i64, .int .u32, .int .u32, .int .u32, .int .u32, .int .u32, .int .u32, .int .u32, .int .u32] ys) : binD Tryz.prog h .neq 48 x y (.agg xs.toArray) (.agg ys.toArray) = some (.bool (!eqL xs ys)) := binD_neq_flat flatOk_48 h1 h2
theorem flatOk_52 : flatOk Tryz.prog 52 [.int .i64, .int .i64, .int .i64, .int .i64, .int .i64, .int .i64, .bool, .int .i64] = true := by kernel_rfl
theorem eqls_52 {h : Heap} {x y : Operand} {xs ys : List Value} (h1 : fitL [.int .i64, .int .i64, .int .i64, .int .i64, .int .i64, .int .i64, .bool, .int .i64] xs) (h2 : fitL [.int .i64, .int .i64, .int .i64, .int .i64, .int .i64, .int .i64, .bool, .int .i64] ys) : binD Tryz.prog h .eql 52 x y (.agg xs.toArray) (.agg ys.toArray) = some (.bool (eqL xs ys)) := binD_eql_flat flatOk_52 h1 h2
theorem neqs_52 {h : Heap} {x y : Operand} {xs ys : List Value} (h1 : fitL [.int .i64, .int .i64, .int .i64, .int .i64, .int .i64, .int .i64, .bool, .int .i64] xs) (h2 : fitL [.int .i64, .int .i64, .int .i64, .int .i64, .int .i64, .int .i64, .bool, .int .i64] ys) : binD Tryz.prog h .neq 52 x y (.agg xs.toArray) (.agg ys.toArray) = some (.bool (!eqL xs ys)) := binD_neq_flat flatOk_52 h1 h2
theorem flatOk_74 : flatOk Tryz.prog 74 [.bool, .bool, .int .i64, .int .i64] = true := by kernel_rfl
theorem eqls_74 {h : Heap} {x y : Operand} {xs ys : List Value} (h1 : fitL [.bool, .bool, .int .i64, .int .i64] xs) (h2 : fitL [.bool, .bool, .int .i64, .int .i64] ys) : binD Tryz.prog h .eql 74 x y (.agg xs.toArray) (.agg ys.toArray) = some (.bool (eqL xs ys)) := binD_eql_flat flatOk_74 h1 h2
theorem neqs_74 {h : Heap} {x y : Operand} {xs ys : List Value} (h1 : fitL [.bool, .bool, .int .i64, .int .i64] xs) (h2 : fitL [.bool, .bool, .int .i64, .int .i64] ys) : binD Tryz.prog h .neq 74 x y (.agg xs.toArray) (.agg ys.toArray) = some (.bool (!eqL xs ys)) := binD_neq_flat flatOk_74 h1 h2
theorem flatOk_81 : flatOk Tryz.prog 81 [.int .i64, .int .i64, .int .i64, .int .i64, .int .i64] = true := by kernel_rfl
theorem eqls_81 {h : Heap} {x y : Operand} {xs ys : List Value} (h1 : fitL [.int .i64, .int .i64, .int .i64, .int .i64, .int .i64] xs) (h2 : fitL [.int .i64, .int .i64, .int .i64, .int .i64, .int .i64] ys) : binD Tryz.prog h .eql 81 x y (.agg xs.toArray) (.agg ys.toArray) = some (.bool (eqL xs ys)) := binD_eql_flat flatOk_81 h1 h2
theorem neqs_81 {h : Heap} {x y : Operand} {xs ys : List Value} (h1 : fitL [.int .i64, .int .i64, .int .i64, .int .i64, .int .i64] xs) (h2 : fitL [.int .i64, .int .i64, .int .i64, .int .i64, .int .i64] ys) : binD Tryz.prog h .neq 81 x y (.agg xs.toArray) (.agg ys.toArray) = some (.bool (!eqL xs ys)) := binD_neq_flat flatOk_81 h1 h2
theorem okFn_7 : okFn Tryz.prog 7 = true := by kernel_rfl
theorem okFn_8 : okFn Tryz.prog 8 = true := by kernel_rfl
theorem okFn_9 : okFn Tryz.prog 9 = true := by kernel_rfl
theorem okFn_10 : okFn Tryz.prog 10 = true := by kernel_rfl
theorem okFn_11 : okFn Tryz.prog 11 = true := by kernel_rfl
theorem okFn_12 : okFn Tryz.prog 12 = true := by kernel_rfl
theorem okFn_13 : okFn Tryz.prog 13 = true := by kernel_rfl
theorem okFn_14 : okFn Tryz.prog 14 = true := by kernel_rfl
theorem okFn_15 : okFn Tryz.prog 15 = true := by kernel_rfl
theorem okFn_16 : okFn Tryz.prog 16 = true := by kernel_rfl
theorem okFn_17 : okFn Tryz.prog 17 = true := by kernel_rfl
theorem okFn_18 : okFn Tryz.prog 18 = true := by kernel_rfl
theorem okFn_19 : okFn Tryz.prog 19 = true := by kernel_rfl
theorem okFn_20 : okFn Tryz.prog 20 = true := by kernel_rfl
theorem okFn_21 : okFn Tryz.prog 21 = true := by kernel_rfl
theorem okFn_22 : okFn Tryz.prog 22 = true := by kernel_rfl
theorem okFn_23 : okFn Tryz.prog 23 = true := by kernel_rfl
theorem okFn_24 : okFn Tryz.prog 24 = true := by kernel_rfl
theorem okFn_25 : okFn Tryz.prog 25 = true := by kernel_rfl
theorem okFn_26 : okFn Tryz.prog 26 = true := by kernel_rfl
theorem okFn_27 : okFn Tryz.prog 27 = true := by kernel_rfl
theorem okFn_28 : okFn Tryz.prog 28 = true := by kernel_rfl
theorem okFn_29 : okFn Tryz.prog 29 = true := by kernel_rfl
theorem okFn_30 : okFn Tryz.prog 30 = true := by kernel_rfl
theorem okFn_31 : okFn Tryz.prog 31 = true := by kernel_rfl
theorem okFn_32 : okFn Tryz.prog 32 = true := by kernel_rfl
theorem okFn_33 : okFn Tryz.prog 33 = true := by kernel_rfl
theorem okFn_34 : okFn Tryz.prog 34 = true := by kernel_rfl
theorem okFn_35 : okFn Tryz.prog 35 = true := by kernel_rfl
theorem okFn_36 : okFn Tryz.prog 36 = true := by kernel_rfl
theorem okFn_37 : okFn Tryz.prog 37 = true := by kernel_rfl
theorem okFn_38 : okFn Tryz.prog 38 = true := by kernel_rfl
theorem okFn_39 : okFn Tryz.prog 39 = true := by kernel_rfl
theorem okFn_41 : okFn Tryz.prog 41 = true := by kernel_rfl
theorem okFn_47 : okFn Tryz.prog 47 = true := by kernel_rfl
theorem okFn_48 : okFn Tryz.prog 48 = true := by kernel_rfl
theorem okFn_55 : okFn Tryz.prog 55 = true := by kernel_rfl
theorem okFn_60 : okFn Tryz.prog 60 = true := by kernel_rfl
theorem okFn_63 : okFn Tryz.prog 63 = true := by kernel_rfl
theorem okFn_65 : okFn Tryz.prog 65 = true := by kernel_rfl
theorem okFn_66 : okFn Tryz.prog 66 = true := by kernel_rfl
theorem okFn_67 : okFn Tryz.prog 67 = true := by kernel_rfl
theorem okFn_68 : okFn Tryz.prog 68 = true := by kernel_rfl
theorem okFn_69 : okFn Tryz.prog 69 = true := by kernel_rfl
theorem okFn_70 : okFn Tryz.prog 70 = true := by kernel_rfl
theorem okFn_71 : okFn Tryz.prog 71 = true := by kernel_rfl
theorem okFn_72 : okFn Tryz.prog 72 = true := by kernel_rfl
theorem okFn_73 : okFn Tryz.prog 73 = true := by kernel_rfl
theorem okFn_74 : okFn Tryz.prog 74 = true := by kernel_rfl
theorem okFn_75 : okFn Tryz.prog 75 = true := by kernel_rfl
theorem okFn_76 : okFn Tryz.prog 76 = true := by kernel_rfl
theorem okFn_77 : okFn Tryz.prog 77 = true := by kernel_rfl
theorem okFn_78 : okFn Tryz.prog 78 = true := by kernel_rfl
theorem okFn_79 : okFn Tryz.prog 79 = true := by kernel_rfl
theorem okFn_80 : okFn Tryz.prog 80 = true := by kernel_rfl
theorem okFn_81 : okFn Tryz.prog 81 = true := by kernel_rfl
theorem okFn_82 : okFn Tryz.prog 82 = true := by kernel_rfl
theorem okFn_83 : okFn Tryz.prog 83 = true := by kernel_rfl
theorem okFn_84 : okFn Tryz.prog 84 = true := by kernel_rfl
theorem okFn_85 : okFn Tryz.prog 85 = true := by kernel_rfl
theorem okFn_86 : okFn Tryz.prog 86 = true := by kernel_rfl
theorem okFn_87 : okFn Tryz.prog 87 = true := by kernel_rfl
theorem okFn_88 : okFn Tryz.prog 88 = true := by kernel_rfl
theorem okFn_89 : okFn Tryz.prog 89 = true := by kernel_rfl
theorem okFn_90 : okFn Tryz.prog 90 = true := by kernel_rfl
theorem okFn_91 : okFn Tryz.prog 91 = true := by kernel_rfl
theorem okFn_92 : okFn Tryz.prog 92 = true := by kernel_rfl
theorem okFn_93 : okFn Tryz.prog 93 = true := by kernel_rfl
theorem okFn_94 : okFn Tryz.prog 94 = true := by kernel_rfl
theorem okFn_95 : okFn Tryz.prog 95 = true := by kernel_rfl
theorem okFn_96 : okFn Tryz.prog 96 = true := by kernel_rfl
theorem okFn_97 : okFn Tryz.prog 97 = true := by kernel_rfl
theorem okFn_98 : okFn Tryz.prog 98 = true := by kernel_rfl
theorem okFn_99 : okFn Tryz.prog 99 = true := by kernel_rfl
theorem okFn_101 : okFn Tryz.prog 101 = true := by kernel_rfl
theorem okFn_103 : okFn Tryz.prog 103 = true := by kernel_rfl
theorem okFn_104 : okFn Tryz.prog 104 = true := by kernel_rfl
theorem okFn_105 : okFn Tryz.prog 105 = true := by kernel_rfl
theorem okFn_106 : okFn Tryz.prog 106 = true := by kernel_rfl
theorem okFn_107 : okFn Tryz.prog 107 = true := by kernel_rfl
theorem okFn_108 : okFn Tryz.prog 108 = true := by kernel_rfl
theorem okFn_109 : okFn Tryz.prog 109 = true := by kernel_rfl
theorem okFn_110 : okFn Tryz.prog 110 = true := by kernel_rfl
theorem okFn_111 : okFn Tryz.prog 111 = true := by kernel_rfl
theorem okFn_112 : okFn Tryz.prog 112 = true := by kernel_rfl
theorem okFn_113 : okFn Tryz.prog 113 = true := by kernel_rfl
theorem okFn_114 : okFn Tryz.prog 114 = true := by kernel_rfl
theorem okFn_115 : okFn Tryz.prog 115 = true := by kernel_rfl
theorem okFn_116 : okFn Tryz.prog 116 = true := by kernel_rfl
theorem okFn_117 : okFn Tryz.prog 117 = true := by kernel_rfl
theorem okFn_119 : okFn Tryz.prog 119 = true := by kernel_rfl
theorem okFn_120 : okFn Tryz.prog 120 = true := by kernel_rfl
theorem okFn_121 : okFn Tryz.prog 121 = true := by kernel_rfl
theorem okFn_122 : okFn Tryz.prog 122 = true := by kernel_rfl
theorem okFn_123 : okFn Tryz.prog 123 = true := by kernel_rfl
theorem okFn_124 : okFn Tryz.prog 124 = true := by kernel_rfl
theorem okFn_126 : okFn Tryz.prog 126 = true := by kernel_rfl
theorem okFn_127 : okFn Tryz.prog 127 = true := by kernel_rfl
theorem okFn_128 : okFn Tryz.prog 128 = true := by kernel_rfl
theorem okFn_129 : okFn Tryz.prog 129 = true := by kernel_rfl
theorem okFn_130 : okFn Tryz.prog 130 = true := by kernel_rfl
theorem okFn_131 : okFn Tryz.prog 131 = true := by kernel_rfl
theorem okFn_132 : okFn Tryz.prog 132 = true := by kernel_rfl
attribute [go_sem ↓] fa_26_0 fa_26_1 fa_26_2 fa_26_3 fa_26_4 fa_31_0 fa_31_1 fa_31_2 fa_36_2 fa_38_0 fa_38_1 fa_44_0 fa_44_1 fa_44_2 fa_44_3 fa_44_4 fa_48_0 fa_48_1 fa_48_2 fa_50_0
attribute [go_sem ↓] fa_50_3 fa_52_0 fa_74_0 fa_74_1 fa_74_2 fa_74_3 fa_76_0 fa_76_1 fa_76_2 fa_79_0 fa_79_1 fa_81_0 fa_81_1 fa_81_2 fa_81_3 fa_81_4 fa_93_0 fa_93_1 fa_93_2 fa_93_3
attribute [go_sem ↓] fa_96_0 fa_96_1 fa_96_2 fa_96_3 fa_96_4 fa_96_5 fa_96_6 fa_96_7 fa_100_0 fa_100_1 fa_110_0 fa_112_0 fa_114_0 fa_114_1 fa_114_2 fa_125_1 fa_125_2 fa_125_3 fa_125_4 fa_125_6
attribute [go_sem ↓] fa_125_7 fa_157_0 fa_157_1 fa_172_0 fa_172_1 fa_172_4 fa_193_0 fa_210_0 fa_210_1 bd_26_ bd_26_0_1_2 bd_26_0_1_2_3 bd_26_0_1_2_4 bd_26_0_1_4 bd_26_0_2_4 bd_26_0_4 bd_31_0_1 bd_36_0_1 bd_38_ bd_38_0_1
attribute [go_sem ↓] bd_44_0_1_2_3_4 bd_48_ bd_48_0 bd_50_ bd_50_0 bd_50_0_1_2_4 bd_52_ bd_52_0_1 bd_52_0_1_2 bd_52_0_2 bd_52_0_2_3 bd_74_ bd_74_0_1_2_3 bd_74_0_3 bd_76_0_1_2 bd_79_0_1 bd_81_ bd_81_0_1_2_3_4 bd_84_ bd_93_0_2_3
attribute [go_sem ↓] bd_96_0_1_4_5 bd_110_0 bd_112_0 bd_114_ bd_172_0_1_2_3 bd_172_0_1_2_3_4 bd_193_0 bd_210_0_1
attribute [go_sem] tsz_0 aggB_0 tszD_0 tbytes_0 tzeroD_0 tzero_0 tsz_3 aggB_3 tszD_3 tbytes_3 isInt_3 intK_3 tzeroD_3 tzero_3 tsz_4 aggB_4 tszD_4 tbytes_4 tzeroD_4 tzero_4
attribute [go_sem] tsz_5 aggB_5 tszD_5 tbytes_5 isInt_5 intK_5 tzeroD_5 tzero_5 tsz_9 aggB_9 tszD_9 tbytes_9 isStr_9 tzeroD_9 tzero_9 tsz_21 aggB_21 tszD_21 tbytes_21 isInt_21
attribute [go_sem] intK_21 tzeroD_21 tzero_21 tsz_22 aggB_22 tszD_22 tbytes_22 isInt_22 intK_22 tzeroD_22 tzero_22 tsz_23 aggB_23 tszD_23 tbytes_23 isArr_23 arrLen_23 arrSz_23 tzeroD_23 tzero_23
attribute [go_sem] tsz_25 aggB_25 tszD_25 tbytes_25 tzeroD_25 tzero_25 tsz_26 aggB_26 tszD_26 tbytes_26 tzeroD_26 tzero_26 tsz_27 aggB_27 tszD_27 tbytes_27 isPtr_27 tzeroD_27 tzero_27 tsz_28
attribute [go_sem] aggB_28 tszD_28 tbytes_28 isPtr_28 tzeroD_28 tzero_28 tsz_29 aggB_29 tszD_29 tbytes_29 isPtr_29 tzeroD_29 tzero_29 tsz_30 aggB_30 tszD_30 tbytes_30 tzeroD_30 tzero_30 tsz_31
attribute [go_sem] aggB_31 tszD_31 tbytes_31 tzeroD_31 tzero_31 tsz_32 aggB_32 tszD_32 tbytes_32 isPtr_32 tzeroD_32 tzero_32 tsz_33 aggB_33 tszD_33 tbytes_33 isPtr_33 tzeroD_33 tzero_33 tsz_34
attribute [go_sem] aggB_34 tszD_34 tbytes_34 isPtr_34 tzeroD_34 tzero_34 tsz_35 aggB_35 tszD_35 tbytes_35 tzeroD_35 tzero_35 tsz_36 aggB_36 tszD_36 tbytes_36 tzeroD_36 tzero_36 tsz_37 aggB_37
attribute [go_sem] tszD_37 tbytes_37 tzeroD_37 tzero_37 tsz_38 aggB_38 tszD_38 tbytes_38 tzeroD_38 tzero_38 tsz_39 aggB_39 tszD_39 tbytes_39 tzeroD_39 tzero_39 tsz_41 aggB_41 tszD_41 tbytes_41
attribute [go_sem] isSlice_41 ssz_41 selem_41 tzeroD_41 tzero_41 tsz_42 aggB_42 tszD_42 tbytes_42 isSlice_42 ssz_42 selem_42 tzeroD_42 tzero_42 tsz_43 aggB_43 tszD_43 tbytes_43 tzeroD_43 tzero_43
attribute [go_sem] tsz_44 aggB_44 tszD_44 tbytes_44 tzeroD_44 tzero_44 tsz_46 aggB_46 tszD_46 tbytes_46 isArr_46 arrLen_46 arrSz_46 tzeroD_46 tzero_46 tsz_47 aggB_47 tszD_47 tbytes_47 tzeroD_47
attribute [go_sem] tzero_47 tsz_48 aggB_48 tszD_48 tbytes_48 tzeroD_48 tzero_48 tsz_49 aggB_49 tszD_49 tbytes_49 tzeroD_49 tzero_49 tsz_50 aggB_50 tszD_50 tbytes_50 tzeroD_50 tzero_50 tsz_51
attribute [go_sem] aggB_51 tszD_51 tbytes_51 tzeroD_51 tzero_51 tsz_52 aggB_52 tszD_52 tbytes_52 tzeroD_52 tzero_52 tsz_53 aggB_53 tszD_53 tbytes_53 tzeroD_53 tzero_53 tsz_56 aggB_56 tszD_56
attribute [go_sem] tbytes_56 isInt_56 intK_56 tzeroD_56 tzero_56 tsz_57 aggB_57 tszD_57 tbytes_57 tzeroD_57 tzero_57 tsz_62 aggB_62 tszD_62 tbytes_62 isSlice_62 ssz_62 selem_62 tzeroD_62 tzero_62
attribute [go_sem] tsz_63 aggB_63 tszD_63 tbytes_63 tzeroD_63 tzero_63 tsz_67 aggB_67 tszD_67 tbytes_67 tzeroD_67 tzero_67 tsz_69 aggB_69 tszD_69 tbytes_69 tzeroD_69 tzero_69 tsz_73 aggB_73
attribute [go_sem] tszD_73 tbytes_73 tzeroD_73 tzero_73 tsz_74 aggB_74 tszD_74 tbytes_74 tzeroD_74 tzero_74 tsz_75 aggB_75 tszD_75 tbytes_75 tzeroD_75 tzero_75 tsz_76 aggB_76 tszD_76 tbytes_76
attribute [go_sem] tzeroD_76 tzero_76 tsz_78 aggB_78 tszD_78 tbytes_78 tzeroD_78 tzero_78 tsz_79 aggB_79 tszD_79 tbytes_79 tzeroD_79 tzero_79 tsz_80 aggB_80 tszD_80 tbytes_80 tzeroD_80 tzero_80
attribute [go_sem] tsz_81 aggB_81 tszD_81 tbytes_81 tzeroD_81 tzero_81 tsz_82 aggB_82 tszD_82 tbytes_82 isArr_82 arrLen_82 arrSz_82 tzeroD_82 tzero_82 tsz_83 aggB_83 tszD_83 tbytes_83 tzeroD_83
attribute [go_sem] tzero_83 tsz_84 aggB_84 tszD_84 tbytes_84 tzeroD_84 tzero_84 tsz_85 aggB_85 tszD_85 tbytes_85 tzeroD_85 tzero_85 tsz_87 aggB_87 tszD_87 tbytes_87 tzeroD_87 tzero_87 tsz_90
attribute [go_sem] aggB_90 tszD_90 tbytes_90 isPtr_90 tzeroD_90 tzero_90 tsz_91 aggB_91 tszD_91 tbytes_91 isPtr_91 tzeroD_91 tzero_91 tsz_92 aggB_92 tszD_92 tbytes_92 tzeroD_92 tzero_92 tsz_93
attribute [go_sem] aggB_93 tszD_93 tbytes_93 tzeroD_93 tzero_93 tsz_95 aggB_95 tszD_95 tbytes_95 tzeroD_95 tzero_95 tsz_96 aggB_96 tszD_96 tbytes_96 tzeroD_96 tzero_96 tsz_98 aggB_98 tszD_98
attribute [go_sem] tbytes_98 tzeroD_98 tzero_98 tsz_99 aggB_99 tszD_99 tbytes_99 tzeroD_99 tzero_99 tsz_100 aggB_100 tszD_100 tbytes_100 tzeroD_100 tzero_100 tsz_101 aggB_101 tszD_101 tbytes_101 isArr_101
attribute [go_sem] arrLen_101 arrSz_101 tzeroD_101 tzero_101 tsz_104 aggB_104 tszD_104 tbytes_104 isInt_104 intK_104 tzeroD_104 tzero_104 tsz_107 aggB_107 tszD_107 tbytes_107 isArr_107 arrLen_107 arrSz_107 tzeroD_107
attribute [go_sem] tzero_107 tsz_108 aggB_108 tszD_108 tbytes_108 isSlice_108 ssz_108 selem_108 tzeroD_108 tzero_108 tsz_109 aggB_109 tszD_109 tbytes_109 tzeroD_109 tzero_109 tsz_110 aggB_110 tszD_110 tbytes_110
attribute [go_sem] tzeroD_110 tzero_110 tsz_111 aggB_111 tszD_111 tbytes_111 tzeroD_111 tzero_111 tsz_112 aggB_112 tszD_112 tbytes_112 tzeroD_112 tzero_112 tsz_113 aggB_113 tszD_113 tbytes_113 tzeroD_113 tzero_113
attribute [go_sem] tsz_114 aggB_114 tszD_114 tbytes_114 tzeroD_114 tzero_114 tsz_115 aggB_115 tszD_115 tbytes_115 tzeroD_115 tzero_115 tsz_117 aggB_117 tszD_117 tbytes_117 isInt_117 intK_117 tzeroD_117 tzero_117
attribute [go_sem] tsz_118 aggB_118 tszD_118 tbytes_118 tzeroD_118 tzero_118 tsz_122 aggB_122 tszD_122 tbytes_122 intMap_122 elemT_122 tzeroD_122 tzero_122 tsz_123 aggB_123 tszD_123 tbytes_123 isArr_123 arrLen_123
attribute [go_sem] arrSz_123 tzeroD_123 tzero_123 tsz_124 aggB_124 tszD_124 tbytes_124 tsz_125 aggB_125 tszD_125 tbytes_125 tsz_126 aggB_126 tszD_126 tbytes_126 tzeroD_126 tzero_126 tsz_127 aggB_127 tszD_127
attribute [go_sem] tbytes_127 tzeroD_127 tzero_127 tsz_128 aggB_128 tszD_128 tbytes_128 isArr_128 arrLen_128 arrSz_128 tsz_129 aggB_129 tszD_129 tbytes_129 tsz_130 aggB_130 tszD_130 tbytes_130 tsz_131 aggB_131
attribute [go_sem] tszD_131 tbytes_131 tzeroD_131 tzero_131 tsz_134 aggB_134 tszD_134 tbytes_134 tzeroD_134 tzero_134 tsz_138 aggB_138 tszD_138 tbytes_138 tzeroD_138 tzero_138 tsz_141 aggB_141 tszD_141 tbytes_141
attribute [go_sem] tzeroD_141 tzero_141 tsz_150 aggB_150 tszD_150 tbytes_150 isPtr_150 tzeroD_150 tzero_150 tsz_151 aggB_151 tszD_151 tbytes_151 tzeroD_151 tzero_151 tsz_154 aggB_154 tszD_154 tbytes_154 tzeroD_154
attribute [go_sem] tzero_154 tsz_156 aggB_156 tszD_156 tbytes_156 tzeroD_156 tzero_156 tsz_157 aggB_157 tszD_157 tbytes_157 tzeroD_157 tzero_157 tsz_158 aggB_158 tszD_158 tbytes_158 tzeroD_158 tzero_158 tsz_161
attribute [go_sem] aggB_161 tszD_161 tbytes_161 tzeroD_161 tzero_161 tsz_162 aggB_162 tszD_162 tbytes_162 tzeroD_162 tzero_162 tsz_164 aggB_164 tszD_164 tbytes_164 tzeroD_164 tzero_164 tsz_166 aggB_166 tszD_166
attribute [go_sem] tbytes_166 tzeroD_166 tzero_166 tsz_169 aggB_169 tszD_169 tbytes_169 isSlice_169 ssz_169 selem_169 tzeroD_169 tzero_169 tsz_171 aggB_171 tszD_171 tbytes_171 tzeroD_171 tzero_171 tsz_172 aggB_172
attribute [go_sem] tszD_172 tbytes_172 tzeroD_172 tzero_172 tsz_173 aggB_173 tszD_173 tbytes_173 tzeroD_173 tzero_173 tsz_174 aggB_174 tszD_174 tbytes_174 isSlice_174 ssz_174 selem_174 tzeroD_174 tzero_174 tsz_178
attribute [go_sem] aggB_178 tszD_178 tbytes_178 tzeroD_178 tzero_178 tsz_182 aggB_182 tszD_182 tbytes_182 tzeroD_182 tzero_182 tsz_185 aggB_185 tszD_185 tbytes_185 isArr_185 arrLen_185 arrSz_185 tsz_186 aggB_186
attribute [go_sem] tszD_186 tbytes_186 isArr_186 arrLen_186 arrSz_186 tsz_187 aggB_187 tszD_187 tbytes_187 tzeroD_187 tzero_187 tsz_191 aggB_191 tszD_191 tbytes_191 tzeroD_191 tzero_191 tsz_192 aggB_192 tszD_192
attribute [go_sem] tbytes_192 tzeroD_192 tzero_192 tsz_193 aggB_193 tszD_193 tbytes_193 tzeroD_193 tzero_193 tsz_199 aggB_199 tszD_199 tbytes_199 isPtr_199 tzeroD_199 tzero_199 tsz_200 aggB_200 tszD_200 tbytes_200
attribute [go_sem] tzeroD_200 tzero_200 tsz_205 aggB_205 tszD_205 tbytes_205 tzeroD_205 tzero_205 tsz_208 aggB_208 tszD_208 tbytes_208 isArr_208 arrLen_208 arrSz_208 tsz_209 aggB_209 tszD_209 tbytes_209 tzeroD_209
attribute [go_sem] tzero_209 tsz_210 aggB_210 tszD_210 tbytes_210 tzeroD_210 tzero_210 tsz_211 aggB_211 tszD_211 tbytes_211 isArr_211 arrLen_211 arrSz_211 tzeroD_211 tzero_211 tsz_212 aggB_212 tszD_212 tbytes_212
attribute [go_sem] tzeroD_212 tzero_212 eqls_26 neqs_26 eqls_48 neqs_48 eqls_52 neqs_52 eqls_74 neqs_74 eqls_81 neqs_81 okFn_7 okFn_8 okFn_9 okFn_10 okFn_11 okFn_12 okFn_13 okFn_14
attribute [go_sem] okFn_15 okFn_16 okFn_17 okFn_18 okFn_19 okFn_20 okFn_21 okFn_22 okFn_23 okFn_24 okFn_25 okFn_26 okFn_27 okFn_28 okFn_29 okFn_30 okFn_31 okFn_32 okFn_33 okFn_34
attribute [go_sem] okFn_35 okFn_36 okFn_37 okFn_38 okFn_39 okFn_41 okFn_47 okFn_48 okFn_55 okFn_60 okFn_63 okFn_65 okFn_66 okFn_67 okFn_68 okFn_69 okFn_70 okFn_71 okFn_72 okFn_73
attribute [go_sem] okFn_74 okFn_75 okFn_76 okFn_77 okFn_78 okFn_79 okFn_80 okFn_81 okFn_82 okFn_83 okFn_84 okFn_85 okFn_86 okFn_87 okFn_88 okFn_89 okFn_90 okFn_91 okFn_92 okFn_93
attribute [go_sem] okFn_94 okFn_95 okFn_96 okFn_97 okFn_98 okFn_99 okFn_101 okFn_103 okFn_104 okFn_105 okFn_106 okFn_107 okFn_108 okFn_109 okFn_110 okFn_111 okFn_112 okFn_113 okFn_114 okFn_115
attribute [go_sem] okFn_116 okFn_117 okFn_119 okFn_120 okFn_121 okFn_122 okFn_123 okFn_124 okFn_126 okFn_127 okFn_128 okFn_129 okFn_130 okFn_131 okFn_132 Tryz.underlying0 Tryz.underlying3 Tryz.underlying4 Tryz.underlying5 Tryz.underlying9
attribute [go_sem] Tryz.underlying21 Tryz.underlying22 Tryz.underlying23 Tryz.underlying25 Tryz.underlying26 Tryz.underlying27 Tryz.underlying28 Tryz.underlying29 Tryz.underlying30 Tryz.underlying31 Tryz.underlying32 Tryz.underlying33 Tryz.underlying34 Tryz.underlying35 Tryz.underlying36 Tryz.underlying37 Tryz.underlying38 Tryz.underlying39 Tryz.underlying41 Tryz.underlying42
attribute [go_sem] Tryz.underlying43 Tryz.underlying44 Tryz.underlying46 Tryz.underlying47 Tryz.underlying48 Tryz.underlying49 Tryz.underlying50 Tryz.underlying51 Tryz.underlying52 Tryz.underlying53 Tryz.underlying56 Tryz.underlying57 Tryz.underlying62 Tryz.underlying63 Tryz.underlying67 Tryz.underlying69 Tryz.underlying73 Tryz.underlying74 Tryz.underlying75 Tryz.underlying76
attribute [go_sem] Tryz.underlying78 Tryz.underlying79 Tryz.underlying80 Tryz.underlying81 Tryz.underlying82 Tryz.underlying83 Tryz.underlying84 Tryz.underlying85 Tryz.underlying87 Tryz.underlying90 Tryz.underlying91 Tryz.underlying92 Tryz.underlying93 Tryz.underlying95 Tryz.underlying96 Tryz.underlying98 Tryz.underlying99 Tryz.underlying100 Tryz.underlying101 Tryz.underlying104
attribute [go_sem] Tryz.underlying107 Tryz.underlying108 Tryz.underlying109 Tryz.underlying110 Tryz.underlying111 Tryz.underlying112 Tryz.underlying113 Tryz.underlying114 Tryz.underlying115 Tryz.underlying117 Tryz.underlying118 Tryz.underlying122 Tryz.underlying123 Tryz.underlying124 Tryz.underlying125 Tryz.underlying126 Tryz.underlying127 Tryz.underlying128 Tryz.underlying129 Tryz.underlying130
attribute [go_sem] Tryz.underlying131 Tryz.underlying134 Tryz.underlying138 Tryz.underlying141 Tryz.underlying150 Tryz.underlying151 Tryz.underlying154 Tryz.underlying156 Tryz.underlying157 Tryz.underlying158 Tryz.underlying161 Tryz.underlying162 Tryz.underlying164 Tryz.underlying166 Tryz.underlying169 Tryz.underlying171 Tryz.underlying172 Tryz.underlying173 Tryz.underlying174 Tryz.underlying178
attribute [go_sem] Tryz.underlying182 Tryz.underlying185 Tryz.underlying186 Tryz.underlying187 Tryz.underlying191 Tryz.underlying192 Tryz.underlying193 Tryz.underlying199 Tryz.underlying200 Tryz.underlying205 Tryz.underlying208 Tryz.underlying209 Tryz.underlying210 Tryz.underlying211 Tryz.underlying212
def T2 : Tab := ⟨[(0, [])], [], []⟩
theorem T2_sch : T2.sch = [] := (rfl)
theorem T2_reg : T2.reg = [(0, [])] := (rfl)
theorem T2_loops : T2.loops = [] := (rfl)
def T3 : Tab := ⟨[(0, [0, 2, 3, 4, 5, 7]), (1, [0, 2, 3, 4, 5, 7, 13]), (2, [0, 2, 3, 4, 5, 7, 13, 61]), (3, [12]), (4, [0, 2, 3, 4, 5, 7, 13, 14]), (5, [0, 2, 3, 4, 5, 7, 13, 14, 69]), (6, [0, 2, 3, 4, 5, 7, 13, 14]), (7, [0, 2, 3, 4, 5, 7, 13, 15, 16]), (8, [0, 2, 3, 4, 5, 7, 13, 15, 81]), (9, [12]), (10, [0, 2, 3, 4, 5, 7, 13, 15, 17]), (11, [0, 2, 3, 4, 5, 7, 13, 17, 18, 19]), (12, [0, 2, 4, 5, 7, 13, 17, 18, 19, 20]), (13, [0, 2, 5, 13, 17, 18, 19, 20, 21]), (14, [0, 2, 13, 17, 18, 19, 20, 21, 22]), (15, [2, 13, 17, 18, 19, 20, 21, 22, 99]), (16, [2, 13, 17, 18, 19, 20, 21, 22, 99, 100]), (17, [2, 13, 17, 18, 19, 22]), (18, [2, 13, 17, 18, 19, 20, 21, 22, 99, 105]), (19, [2, 13, 17, 18, 19, 22]), (20, [2, 13, 17, 18, 19, 20, 21, 22, 99, 110]), (21, [2, 13, 17, 18, 19, 22]), (22, [2, 13, 17, 18, 19, 20, 21, 22, 99, 115]), (23, [2, 13, 17, 18, 19, 22]), (24, [2, 13, 17, 18, 19, 20, 21, 22, 120]), (25, [2, 13, 17, 18, 19, 22]), (26, [13, 17, 18, 19]), (27, [13, 17, 18, 19]), (28, [12])], [], []⟩
theorem T3_sch : T3.sch = [] := (rfl)
theorem T3_reg : T3.reg = [(0, [0, 2, 3, 4, 5, 7]), (1, [0, 2, 3, 4, 5, 7, 13]), (2, [0, 2, 3, 4, 5, 7, 13, 61]), (3, [12]), (4, [0, 2, 3, 4, 5, 7, 13, 14]), (5, [0, 2, 3, 4, 5, 7, 13, 14, 69]), (6, [0, 2, 3, 4, 5, 7, 13, 14]), (7, [0, 2, 3, 4, 5, 7, 13, 15, 16]), (8, [0, 2, 3, 4, 5, 7, 13, 15, 81]), (9, [12]), (10, [0, 2, 3, 4, 5, 7, 13, 15, 17]), (11, [0, 2, 3, 4, 5, 7, 13, 17, 18, 19]), (12, [0, 2, 4, 5, 7, 13, 17, 18, 19, 20]), (13, [0, 2, 5, 13, 17, 18, 19, 20, 21]), (14, [0, 2, 13, 17, 18, 19, 20, 21, 22]), (15, [2, 13, 17, 18, 19, 20, 21, 22, 99]), (16, [2, 13, 17, 18, 19, 20, 21, 22, 99, 100]), (17, [2, 13, 17, 18, 19, 22]), (18, [2, 13, 17, 18, 19, 20, 21, 22, 99, 105]), (19, [2, 13, 17, 18, 19, 22]), (20, [2, 13, 17, 18, 19, 20, 21, 22, 99, 110]), (21, [2, 13, 17, 18, 19, 22]), (22, [2, 13, 17, 18, 19, 20, 21, 22, 99, 115]), (23, [2, 13, 17, 18, 19, 22]), (24, [2, 13, 17, 18, 19, 20, 21, 22, 120]), (25, [2, 13, 17, 18, 19, 22]), (26, [13, 17, 18, 19]), (27, [13, 17, 18, 19]), (28, [12])] := (rfl)
theorem T3_loops : T3.loops = [] := (rfl)
def T4 : Tab := ⟨[(0, [0, 1]), (1, [0, 1, 5]), (2, [0, 1, 5, 28]), (3, [4]), (4, [0, 1, 5, 6]), (5, [0, 1, 5, 6]), (6, [0, 1, 5, 6]), (7, [0, 1, 5, 6, 7, 8]), (8, [0, 1, 5, 6, 7, 45]), (9, [4]), (10, [0, 1, 5, 6, 7, 10]), (11, [0, 1, 5, 6, 7, 10, 11, 12]), (12, [0, 1, 5, 6, 7, 10, 12, 13]), (13, [0, 1, 5, 6, 7, 10, 12, 13, 14, 15]), (14, [0, 1, 5, 6, 7, 94]), (15, [4]), (16, [0, 1, 5, 6, 7, 16]), (17, [0, 1, 5, 6, 7, 16, 96]), (18, [0, 1, 5, 6, 7, 16]), (19, [0, 1, 5, 6, 7, 16, 17, 18]), (20, [0, 1, 5, 6, 7, 16, 18, 19]), (21, [0, 1, 5, 6, 7, 16, 18, 19, 20, 21]), (22, [0, 1, 5, 6, 7, 16, 141]), (23, [4]), (24, [4])], [(0, [0, 1, 5, 6, 7, 16])], []⟩
theorem T4_sch : T4.sch = [] := (rfl)
theorem T4_reg : T4.reg = [(0, [0, 1]), (1, [0, 1, 5]), (2, [0, 1, 5, 28]), (3, [4]), (4, [0, 1, 5, 6]), (5, [0, 1, 5, 6]), (6, [0, 1, 5, 6]), (7, [0, 1, 5, 6, 7, 8]), (8, [0, 1, 5, 6, 7, 45]), (9, [4]), (10, [0, 1, 5, 6, 7, 10]), (11, [0, 1, 5, 6, 7, 10, 11, 12]), (12, [0, 1, 5, 6, 7, 10, 12, 13]), (13, [0, 1, 5, 6, 7, 10, 12, 13, 14, 15]), (14, [0, 1, 5, 6, 7, 94]), (15, [4]), (16, [0, 1, 5, 6, 7, 16]), (17, [0, 1, 5, 6, 7, 16, 96]), (18, [0, 1, 5, 6, 7, 16]), (19, [0, 1, 5, 6, 7, 16, 17, 18]), (20, [0, 1, 5, 6, 7, 16, 18, 19]), (21, [0, 1, 5, 6, 7, 16, 18, 19, 20, 21]), (22, [0, 1, 5, 6, 7, 16, 141]), (23, [4]), (24, [4])] := (rfl)
theorem T4_loops : T4.loops = [(0, [0, 1, 5, 6, 7, 16])] := (rfl)
def T5 : Tab := ⟨[(0, [0, 1]), (1, [0, 1, 5]), (2, [0, 1, 5, 21]), (3, [4]), (4, [0, 1, 5, 6, 7]), (5, [0, 1, 5, 6, 7, 8, 9]), (6, [0, 1, 5, 6, 8, 42]), (7, [4]), (8, [0, 1, 5, 6, 8, 10]), (9, [0, 1, 5, 6, 8, 10]), (10, [0, 1, 5, 6, 8, 10]), (11, [0, 1, 5, 8, 10, 11, 12]), (12, [0, 1, 5, 8, 10, 11, 12, 57]), (13, [0, 5, 8, 11, 66]), (14, [4]), (15, [0, 5, 8, 11, 82]), (16, [4]), (17, [0, 5, 8, 11]), (18, [0, 5, 8, 11]), (19, [0, 5, 11, 13, 14]), (20, [0, 5, 11, 13, 14, 94]), (21, [4]), (22, [4])], [], []⟩
theorem T5_sch : T5.sch = [] := (rfl)
theorem T5_reg : T5.reg = [(0, [0, 1]), (1, [0, 1, 5]), (2, [0, 1, 5, 21]), (3, [4]), (4, [0, 1, 5, 6, 7]), (5, [0, 1, 5, 6, 7, 8, 9]), (6, [0, 1, 5, 6, 8, 42]), (7, [4]), (8, [0, 1, 5, 6, 8, 10]), (9, [0, 1, 5, 6, 8, 10]), (10, [0, 1, 5, 6, 8, 10]), (11, [0, 1, 5, 8, 10, 11, 12]), (12, [0, 1, 5, 8, 10, 11, 12, 57]), (13, [0, 5, 8, 11, 66]), (14, [4]), (15, [0, 5, 8, 11, 82]), (16, [4]), (17, [0, 5, 8, 11]), (18, [0, 5, 8, 11]), (19, [0, 5, 11, 13, 14]), (20, [0, 5, 11, 13, 14, 94]), (21, [4]), (22, [4])] := (rfl)
theorem T5_loops : T5.loops = [] := (rfl)
def T6 : Tab := ⟨[(0, [2, 3, 4]), (1, [2, 3, 4, 7]), (2, [2, 3, 4, 7, 8, 9]), (3, [2, 3, 4, 7, 8, 30]), (4, [6]), (5, [2, 3, 4, 7, 8, 10]), (6, [2, 3, 4, 7, 8, 10, 11]), (7, [2, 3, 4, 7, 8, 10, 11, 12]), (8, [2, 3, 4, 7, 8, 10, 11, 12, 32]), (9, [2, 3, 4, 7, 8, 10, 11, 12]), (10, [2, 3, 4, 7, 8, 10, 11, 12, 13]), (11, [2, 3, 4, 7, 8, 10, 11, 12]), (12, [2, 3, 4, 7, 8, 10, 11, 15, 16]), (13, [2, 3, 4, 7, 8, 10, 11, 15, 16, 60]), (14, [6]), (15, [2, 3, 4, 7, 8, 10, 11, 15, 16, 17]), (16, [2, 3, 4, 7, 8, 10, 11, 15, 16, 17, 68]), (17, [2, 3, 4, 7, 8, 10, 11, 15, 16, 17]), (18, [2, 3, 4, 7, 8, 10, 11, 15, 16, 17, 18]), (19, [2, 3, 4, 7, 8, 10, 11, 15, 16, 17]), (20, [2, 3, 4, 7, 8, 15, 16, 20]), (21, [4, 7, 15, 16, 20, 21, 22]), (22, [4, 7, 15, 16, 20, 21, 22, 99]), (23, [6]), (24, [6])], [(0, [2, 3, 4, 7, 8, 10, 11, 12]), (2, [2, 3, 4, 7, 8, 10, 11, 15, 16, 17])], []⟩
theorem T6_sch : T6.sch = [] := (rfl)
theorem T6_reg : T6.reg = [(0, [2, 3, 4]), (1, [2, 3, 4, 7]), (2, [2, 3, 4, 7, 8, 9]), (3, [2, 3, 4, 7, 8, 30]), (4, [6]), (5, [2, 3, 4, 7, 8, 10]), (6, [2, 3, 4, 7, 8, 10, 11]), (7, [2, 3, 4, 7, 8, 10, 11, 12]), (8, [2, 3, 4, 7, 8, 10, 11, 12, 32]), (9, [2, 3, 4, 7, 8, 10, 11, 12]), (10, [2, 3, 4, 7, 8, 10, 11, 12, 13]), (11, [2, 3, 4, 7, 8, 10, 11, 12]), (12, [2, 3, 4, 7, 8, 10, 11, 15, 16]), (13, [2, 3, 4, 7, 8, 10, 11, 15, 16, 60]), (14, [6]), (15, [2, 3, 4, 7, 8, 10, 11, 15, 16, 17]), (16, [2, 3, 4, 7, 8, 10, 11, 15, 16, 17, 68]), (17, [2, 3, 4, 7, 8, 10, 11, 15, 16, 17]), (18, [2, 3, 4, 7, 8, 10, 11, 15, 16, 17, 18]), (19, [2, 3, 4, 7, 8, 10, 11, 15, 16, 17]), (20, [2, 3, 4, 7, 8, 15, 16, 20]), (21, [4, 7, 15, 16, 20, 21, 22]), (22, [4, 7, 15, 16, 20, 21, 22, 99]), (23, [6]), (24, [6])] := (rfl)
theorem T6_loops : T6.loops = [(0, [2, 3, 4, 7, 8, 10, 11, 12]), (2, [2, 3, 4, 7, 8, 10, 11, 15, 16, 17])] := (rfl)
def T7 : Tab := ⟨[(0, []), (1, [1, 2]), (2, [1, 2, 3, 4]), (3, [1, 2, 3, 4, 5, 6]), (4, [1, 2, 3, 4, 5, 6, 7, 8]), (5, [1, 3, 5, 7, 55]), (6, [0]), (7, [3, 5, 7, 9, 10]), (8, [3, 5, 7, 9, 10, 11]), (9, [3, 5, 7, 9, 10, 11]), (10, [5, 7, 9, 10, 12, 13]), (11, [7, 9, 10, 12, 13, 15]), (12, [9, 10, 12, 13, 15, 17]), (13, [0])], [], []⟩
theorem T7_sch : T7.sch = [] := (rfl)
theorem T7_reg : T7.reg = [(0, []), (1, [1, 2]), (2, [1, 2, 3, 4]), (3, [1, 2, 3, 4, 5, 6]), (4, [1, 2, 3, 4, 5, 6, 7, 8]), (5, [1, 3, 5, 7, 55]), (6, [0]), (7, [3, 5, 7, 9, 10]), (8, [3, 5, 7, 9, 10, 11]), (9, [3, 5, 7, 9, 10, 11]), (10, [5, 7, 9, 10, 12, 13]), (11, [7, 9, 10, 12, 13, 15]), (12, [9, 10, 12, 13, 15, 17]), (13, [0])] := (rfl)
theorem T7_loops : T7.loops = [] := (rfl)
def T8 : Tab := ⟨[(0, [1, 2]), (1, [1, 2, 4, 5]), (2, [1, 2, 4, 5, 6]), (3, [1, 2, 4, 5, 6, 8]), (4, [1, 2, 4, 6, 8, 34]), (5, [2, 3]), (6, [1, 2, 4, 6, 8, 9]), (7, [1, 2, 4, 6, 8, 9, 44]), (8, [1, 2, 4, 6, 8, 9]), (9, [1, 2, 4, 6, 8, 9]), (10, [1, 2, 4, 6, 8, 9]), (11, [1, 2, 4, 6, 8, 10]), (12, [1, 2, 4, 6, 8, 10, 95]), (13, [1, 2, 4, 6, 8, 10]), (14, [1, 2, 4, 6, 8, 10]), (15, [1, 2, 4, 6, 8, 10]), (16, [1, 2, 11]), (17, [2, 11, 135]), (18, [2, 11, 12, 13]), (19, [2, 11, 12, 13, 14]), (20, [2, 11, 12, 14, 149]), (21, [2, 3]), (22, [2, 11, 14]), (23, [2, 11]), (24, [2, 3])], [(0, [1, 2, 4, 6, 8, 9]), (2, [1, 2, 4, 6, 8, 10])], []⟩
theorem T8_sch : T8.sch = [] := (rfl)
theorem T8_reg : T8.reg = [(0, [1, 2]), (1, [1, 2, 4, 5]), (2, [1, 2, 4, 5, 6]), (3, [1, 2, 4, 5, 6, 8]), (4, [1, 2, 4, 6, 8, 34]), (5, [2, 3]), (6, [1, 2, 4, 6, 8, 9]), (7, [1, 2, 4, 6, 8, 9, 44]), (8, [1, 2, 4, 6, 8, 9]), (9, [1, 2, 4, 6, 8, 9]), (10, [1, 2, 4, 6, 8, 9]), (11, [1, 2, 4, 6, 8, 10]), (12, [1, 2, 4, 6, 8, 10, 95]), (13, [1, 2, 4, 6, 8, 10]), (14, [1, 2, 4, 6, 8, 10]), (15, [1, 2, 4, 6, 8, 10]), (16, [1, 2, 11]), (17, [2, 11, 135]), (18, [2, 11, 12, 13]), (19, [2, 11, 12, 13, 14]), (20, [2, 11, 12, 14, 149]), (21, [2, 3]), (22, [2, 11, 14]), (23, [2, 11]), (24, [2, 3])] := (rfl)
theorem T8_loops : T8.loops = [(0, [1, 2, 4, 6, 8, 9]), (2, [1, 2, 4, 6, 8, 10])] := (rfl)
def T9 : Tab := ⟨[(0, [1, 2, 4]), (1, [1, 4, 5]), (2, [4])], [], []⟩
theorem T9_sch : T9.sch = [] := (rfl)
theorem T9_reg : T9.reg = [(0, [1, 2, 4]), (1, [1, 4, 5]), (2, [4])] := (rfl)
theorem T9_loops : T9.loops = [] := (rfl)
def T10 : Tab := ⟨[(0, [2, 3, 4, 5, 6, 10, 11]), (1, [2, 3, 4, 5, 6, 10, 11, 12]), (2, [5, 6, 10, 11, 12, 13]), (3, [5, 6, 10, 11, 12, 13, 14]), (4, [5, 6, 10, 11, 12, 13, 14, 31]), (5, [10, 11]), (6, [5, 6, 10, 11, 12, 13, 15]), (7, [6, 10, 11, 12, 13, 15, 47]), (8, [10, 11]), (9, [6, 10, 11, 12, 13, 16]), (10, [6, 10, 11, 12, 13, 16, 64]), (11, [10, 11]), (12, [6, 10, 11, 16]), (13, [10, 11])], [], [(2, ⟨928, 95, [0, 0, 0, 0, 0, 30, 0, 127, 255, 511], (.rd 0 false (.rd 1 false (.rd 2 false (.rd 3 false (.rd 4 false (.rd 6 false (.wr 5 (.rd 0 true (.rd 6 true (.wr 7 (.wr 8 (.wr 9 .done .no) .no) .no))) .no)))))))⟩), (5, ⟨12, 3, [0, 0, 1, 7], (.rd 0 false (.rd 1 false (.wr 2 (.rd 1 true (.wr 3 .done .no)) .no)))⟩), (6, ⟨385, 126, [0, 0, 2, 6, 14, 30, 63, 0, 255], (.rd 1 false (.rd 2 false (.rd 3 false (.rd 4 false (.rd 5 false (.wr 0 (.rd 1 true (.rd 2 true (.rd 3 true (.rd 4 true (.rd 5 true (.rd 6 false (.wr 7 (.rd 1 true (.rd 2 true (.rd 3 true (.rd 4 true (.rd 5 true (.rd 6 true (.wr 8 .done .no))))))) .no))))))) (.wr 7 (.rd 1 true (.rd 2 true (.rd 3 true (.rd 4 true (.rd 5 true (.wr 0 (.rd 1 true (.rd 2 true (.rd 3 true (.rd 4 true (.rd 5 true (.rd 6 false (.wr 8 .done .no))))))) .no)))))) .no)))))))⟩), (8, ⟨28, 3, [0, 0, 2, 7, 15], (.rd 0 false (.rd 1 false (.wr 2 (.rd 0 true (.wr 3 (.wr 4 .done .no) .no)) .no)))⟩), (11, ⟨12, 3, [0, 0, 1, 7], (.rd 0 false (.rd 1 false (.wr 2 (.rd 1 true (.wr 3 .done .no)) .no)))⟩), (13, ⟨12, 3, [0, 0, 1, 7], (.rd 0 false (.rd 1 false (.wr 2 (.rd 1 true (.wr 3 .done .no)) .no)))⟩)]⟩
theorem T10_sch : T10.sch = [(2, ⟨928, 95, [0, 0, 0, 0, 0, 30, 0, 127, 255, 511], (.rd 0 false (.rd 1 false (.rd 2 false (.rd 3 false (.rd 4 false (.rd 6 false (.wr 5 (.rd 0 true (.rd 6 true (.wr 7 (.wr 8 (.wr 9 .done .no) .no) .no))) .no)))))))⟩), (5, ⟨12, 3, [0, 0, 1, 7], (.rd 0 false (.rd 1 false (.wr 2 (.rd 1 true (.wr 3 .done .no)) .no)))⟩), (6, ⟨385, 126, [0, 0, 2, 6, 14, 30, 63, 0, 255], (.rd 1 false (.rd 2 false (.rd 3 false (.rd 4 false (.rd 5 false (.wr 0 (.rd 1 true (.rd 2 true (.rd 3 true (.rd 4 true (.rd 5 true (.rd 6 false (.wr 7 (.rd 1 true (.rd 2 true (.rd 3 true (.rd 4 true (.rd 5 true (.rd 6 true (.wr 8 .done .no))))))) .no))))))) (.wr 7 (.rd 1 true (.rd 2 true (.rd 3 true (.rd 4 true (.rd 5 true (.wr 0 (.rd 1 true (.rd 2 true (.rd 3 true (.rd 4 true (.rd 5 true (.rd 6 false (.wr 8 .done .no))))))) .no)))))) .no)))))))⟩), (8, ⟨28, 3, [0, 0, 2, 7, 15], (.rd 0 false (.rd 1 false (.wr 2 (.rd 0 true (.wr 3 (.wr 4 .done .no) .no)) .no)))⟩), (11, ⟨12, 3, [0, 0, 1, 7], (.rd 0 false (.rd 1 false (.wr 2 (.rd 1 true (.wr 3 .done .no)) .no)))⟩), (13, ⟨12, 3, [0, 0, 1, 7], (.rd 0 false (.rd 1 false (.wr 2 (.rd 1 true (.wr 3 .done .no)) .no)))⟩)] := (rfl)
theorem T10_reg : T10.reg = [(0, [2, 3, 4, 5, 6, 10, 11]), (1, [2, 3, 4, 5, 6, 10, 11, 12]), (2, [5, 6, 10, 11, 12, 13]), (3, [5, 6, 10, 11, 12, 13, 14]), (4, [5, 6, 10, 11, 12, 13, 14, 31]), (5, [10, 11]), (6, [5, 6, 10, 11, 12, 13, 15]), (7, [6, 10, 11, 12, 13, 15, 47]), (8, [10, 11]), (9, [6, 10, 11, 12, 13, 16]), (10, [6, 10, 11, 12, 13, 16, 64]), (11, [10, 11]), (12, [6, 10, 11, 16]), (13, [10, 11])] := (rfl)
theorem T10_loops : T10.loops = [] := (rfl)
def T11 : Tab := ⟨[(0, [1]), (1, [1, 6]), (2, [2, 3]), (3, [2, 3])], [], []⟩
theorem T11_sch : T11.sch = [] := (rfl)
theorem T11_reg : T11.reg = [(0, [1]), (1, [1, 6]), (2, [2, 3]), (3, [2, 3])] := (rfl)
theorem T11_loops : T11.loops = [] := (rfl)
def T12 : Tab := ⟨[(0, [0, 1, 2, 3]), (1, [3, 9, 10]), (2, [3, 9, 10, 20, 21]), (3, [3, 9, 10, 20, 21, 22]), (4, [3, 9, 10, 11, 20, 21]), (5, [3, 9, 10, 20, 21]), (6, [3, 9, 10, 20, 21]), (7, [8])], [(0, [3, 9, 10, 20, 21])], []⟩
theorem T12_sch : T12.sch = [] := (rfl)
theorem T12_reg : T12.reg = [(0, [0, 1, 2, 3]), (1, [3, 9, 10]), (2, [3, 9, 10, 20, 21]), (3, [3, 9, 10, 20, 21, 22]), (4, [3, 9, 10, 11, 20, 21]), (5, [3, 9, 10, 20, 21]), (6, [3, 9, 10, 20, 21]), (7, [8])] := (rfl)
theorem T12_loops : T12.loops = [(0, [3, 9, 10, 20, 21])] := (rfl)
def T13 : Tab := ⟨[(0, [0, 1]), (1, [0, 1, 10]), (2, [4, 5]), (3, [6]), (4, [4, 5])], [], []⟩
theorem T13_sch : T13.sch = [] := (rfl)
theorem T13_reg : T13.reg = [(0, [0, 1]), (1, [0, 1, 10]), (2, [4, 5]), (3, [6]), (4, [4, 5])] := (rfl)
theorem T13_loops : T13.loops = [] := (rfl)
def T14 : Tab := ⟨[(0, [0, 1]), (1, [0, 1, 10]), (2, [4]), (3, [0, 1, 5]), (4, [0, 1, 5, 14]), (5, [0, 1, 5]), (6, [0, 1, 5, 25]), (7, [4]), (8, [4])], [(0, [0, 1, 5])], []⟩
theorem T14_sch : T14.sch = [] := (rfl)
theorem T14_reg : T14.reg = [(0, [0, 1]), (1, [0, 1, 10]), (2, [4]), (3, [0, 1, 5]), (4, [0, 1, 5, 14]), (5, [0, 1, 5]), (6, [0, 1, 5, 25]), (7, [4]), (8, [4])] := (rfl)
theorem T14_loops : T14.loops = [(0, [0, 1, 5])] := (rfl)
def T15 : Tab := ⟨[(0, [0]), (1, [0, 9]), (2, [2, 3]), (3, [2, 3])], [], []⟩
theorem T15_sch : T15.sch = [] := (rfl)
theorem T15_reg : T15.reg = [(0, [0]), (1, [0, 9]), (2, [2, 3]), (3, [2, 3])] := (rfl)
theorem T15_loops : T15.loops = [] := (rfl)
def T16 : Tab := ⟨[(0, [0]), (1, [0, 9]), (2, [2, 3]), (3, [2, 3])], [], []⟩
theorem T16_sch : T16.sch = [] := (rfl)
theorem T16_reg : T16.reg = [(0, [0]), (1, [0, 9]), (2, [2, 3]), (3, [2, 3])] := (rfl)
theorem T16_loops : T16.loops = [] := (rfl)
def T17 : Tab := ⟨[(0, []), (1, [0])], [], []⟩
theorem T17_sch : T17.sch = [] := (rfl)
theorem T17_reg : T17.reg = [(0, []), (1, [0])] := (rfl)
theorem T17_loops : T17.loops = [] := (rfl)
def T18 : Tab := ⟨[(0, [0, 1, 2, 7]), (1, [0, 7, 9, 10]), (2, [0, 7, 9, 10, 20]), (3, [8]), (4, [0, 9, 10, 11]), (5, [0, 9, 10, 11, 28]), (6, [8]), (7, [8])], [], []⟩
theorem T18_sch : T18.sch = [] := (rfl)
theorem T18_reg : T18.reg = [(0, [0, 1, 2, 7]), (1, [0, 7, 9, 10]), (2, [0, 7, 9, 10, 20]), (3, [8]), (4, [0, 9, 10, 11]), (5, [0, 9, 10, 11, 28]), (6, [8]), (7, [8])] := (rfl)
theorem T18_loops : T18.loops = [] := (rfl)
def T19 : Tab := ⟨[(0, [0, 1, 2, 7]), (1, [0, 1, 2, 7, 9]), (2, [0, 1, 2, 7, 9, 17]), (3, [8]), (4, [0, 1, 2, 10, 11]), (5, [0, 1, 2, 10, 11, 25]), (6, [8]), (7, [8])], [], []⟩
theorem T19_sch : T19.sch = [] := (rfl)
theorem T19_reg : T19.reg = [(0, [0, 1, 2, 7]), (1, [0, 1, 2, 7, 9]), (2, [0, 1, 2, 7, 9, 17]), (3, [8]), (4, [0, 1, 2, 10, 11]), (5, [0, 1, 2, 10, 11, 25]), (6, [8]), (7, [8])] := (rfl)
theorem T19_loops : T19.loops = [] := (rfl)
def T20 : Tab := ⟨[(0, [0, 1, 2, 3]), (1, [0, 1, 2, 3, 9]), (2, [0, 1, 2, 3, 9, 16]), (3, [8]), (4, [0, 1, 2, 3, 10]), (5, [0, 1, 2, 3, 10, 20]), (6, [0, 1, 2, 3, 10]), (7, [0, 1, 2, 3, 10]), (8, [0, 1, 2, 3, 10]), (9, [8])], [(0, [0, 1, 2, 3, 10])], []⟩
theorem T20_sch : T20.sch = [] := (rfl)
theorem T20_reg : T20.reg = [(0, [0, 1, 2, 3]), (1, [0, 1, 2, 3, 9]), (2, [0, 1, 2, 3, 9, 16]), (3, [8]), (4, [0, 1, 2, 3, 10]), (5, [0, 1, 2, 3, 10, 20]), (6, [0, 1, 2, 3, 10]), (7, [0, 1, 2, 3, 10]), (8, [0, 1, 2, 3, 10]), (9, [8])] := (rfl)
theorem T20_loops : T20.loops = [(0, [0, 1, 2, 3, 10])] := (rfl)
def T21 : Tab := ⟨[(0, [0]), (1, [0, 9]), (2, [2, 3]), (3, [2, 3])], [], []⟩
theorem T21_sch : T21.sch = [] := (rfl)
theorem T21_reg : T21.reg = [(0, [0]), (1, [0, 9]), (2, [2, 3]), (3, [2, 3])] := (rfl)
theorem T21_loops : T21.loops = [] := (rfl)
def T22 : Tab := ⟨[(0, [0]), (1, [0, 9]), (2, [2, 3]), (3, [2, 3])], [], []⟩
theorem T22_sch : T22.sch = [] := (rfl)
theorem T22_reg : T22.reg = [(0, [0]), (1, [0, 9]), (2, [2, 3]), (3, [2, 3])] := (rfl)
theorem T22_loops : T22.loops = [] := (rfl)
def T23 : Tab := ⟨[(0, [0, 1, 4]), (1, [4])], [], []⟩
theorem T23_sch : T23.sch = [] := (rfl)
theorem T23_reg : T23.reg = [(0, [0, 1, 4]), (1, [4])] := (rfl)
theorem T23_loops : T23.loops = [] := (rfl)
def T24 : Tab := ⟨[(0, [2, 3, 4, 5, 8]), (1, [4, 5, 8, 9]), (2, [5, 8, 9, 22]), (3, [8, 9]), (4, [8])], [], [(3, ⟨14336, 2047, [0, 1, 3, 7, 15, 0, 32, 96, 224, 480, 31, 1055, 4095, 8191], (.rd 0 false (.rd 1 false (.rd 2 false (.rd 3 false (.rd 4 false (.rd 5 false (.rd 6 false (.rd 7 false (.rd 8 false (.rd 9 false (.rd 10 false (.wr 11 (.rd 5 true (.rd 6 true (.rd 7 true (.rd 8 true (.rd 9 true (.wr 12 (.wr 13 .done .no) .no)))))) .no))))))))))))⟩)]⟩
theorem T24_sch : T24.sch = [(3, ⟨14336, 2047, [0, 1, 3, 7, 15, 0, 32, 96, 224, 480, 31, 1055, 4095, 8191], (.rd 0 false (.rd 1 false (.rd 2 false (.rd 3 false (.rd 4 false (.rd 5 false (.rd 6 false (.rd 7 false (.rd 8 false (.rd 9 false (.rd 10 false (.wr 11 (.rd 5 true (.rd 6 true (.rd 7 true (.rd 8 true (.rd 9 true (.wr 12 (.wr 13 .done .no) .no)))))) .no))))))))))))⟩)] := (rfl)
theorem T24_reg : T24.reg = [(0, [2, 3, 4, 5, 8]), (1, [4, 5, 8, 9]), (2, [5, 8, 9, 22]), (3, [8, 9]), (4, [8])] := (rfl)
theorem T24_loops : T24.loops = [] := (rfl)
def T25 : Tab := ⟨[(0, [0, 2]), (1, [0, 2, 3]), (2, [0, 2, 3, 25]), (3, [2]), (4, [0, 2, 3, 4, 5]), (5, [0, 2, 3, 4, 5, 36]), (6, [2]), (7, [0, 2, 3]), (8, [0, 2, 3, 6, 7]), (9, [0, 2, 3, 6, 62]), (10, [2]), (11, [2]), (12, [2])], [], [(11, ⟨7744, 447, [0, 0, 0, 0, 8, 24, 56, 125, 253, 509, 1023, 2047, 4095], (.rd 0 false (.rd 1 false (.rd 2 false (.rd 3 false (.rd 4 false (.rd 5 false (.wr 6 (.rd 0 true (.rd 1 true (.rd 2 true (.rd 7 false (.rd 8 false (.wr 9 (.rd 1 true (.wr 10 (.wr 11 (.wr 12 .done .no) .no) .no)) .no)))))) .no)))))))⟩)]⟩
theorem T25_sch : T25.sch = [(11, ⟨7744, 447, [0, 0, 0, 0, 8, 24, 56, 125, 253, 509, 1023, 2047, 4095], (.rd 0 false (.rd 1 false (.rd 2 false (.rd 3 false (.rd 4 false (.rd 5 false (.wr 6 (.rd 0 true (.rd 1 true (.rd 2 true (.rd 7 false (.rd 8 false (.wr 9 (.rd 1 true (.wr 10 (.wr 11 (.wr 12 .done .no) .no) .no)) .no)))))) .no)))))))⟩)] := (rfl)
theorem T25_reg : T25.reg = [(0, [0, 2]), (1, [0, 2, 3]), (2, [0, 2, 3, 25]), (3, [2]), (4, [0, 2, 3, 4, 5]), (5, [0, 2, 3, 4, 5, 36]), (6, [2]), (7, [0, 2, 3]), (8, [0, 2, 3, 6, 7]), (9, [0, 2, 3, 6, 62]), (10, [2]), (11, [2]), (12, [2])] := (rfl)
theorem T25_loops : T25.loops = [] := (rfl)
def T26 : Tab := ⟨[(0, [0]), (1, [0])], [], []⟩
theorem T26_sch : T26.sch = [] := (rfl)
theorem T26_reg : T26.reg = [(0, [0]), (1, [0])] := (rfl)
theorem T26_loops : T26.loops = [] := (rfl)
def T27 : Tab := ⟨[(0, [0, 2]), (1, [2])], [], []⟩
theorem T27_sch : T27.sch = [] := (rfl)
theorem T27_reg : T27.reg = [(0, [0, 2]), (1, [2])] := (rfl)
theorem T27_loops : T27.loops = [] := (rfl)
def T28 : Tab := ⟨[(0, [1]), (1, [1, 3]), (2, [1, 3]), (3, [1, 3, 4]), (4, [1, 3, 4, 16]), (5, [1, 3, 4, 16, 17, 18]), (6, [1, 3, 4, 6, 16]), (7, [1, 3, 4, 16, 20]), (8, [1, 3, 4, 16, 20, 21]), (9, [1, 3, 4, 16]), (10, [1, 3, 4, 16, 20, 30]), (11, [1, 3, 4, 16]), (12, [1, 3, 4, 16, 20, 39]), (13, [1, 3, 4, 16]), (14, [1, 3, 4, 16, 48]), (15, [1, 3, 4, 16]), (16, [2])], [(0, [1, 3, 4, 16])], []⟩
theorem T28_sch : T28.sch = [] := (rfl)
theorem T28_reg : T28.reg = [(0, [1]), (1, [1, 3]), (2, [1, 3]), (3, [1, 3, 4]), (4, [1, 3, 4, 16]), (5, [1, 3, 4, 16, 17, 18]), (6, [1, 3, 4, 6, 16]), (7, [1, 3, 4, 16, 20]), (8, [1, 3, 4, 16, 20, 21]), (9, [1, 3, 4, 16]), (10, [1, 3, 4, 16, 20, 30]), (11, [1, 3, 4, 16]), (12, [1, 3, 4, 16, 20, 39]), (13, [1, 3, 4, 16]), (14, [1, 3, 4, 16, 48]), (15, [1, 3, 4, 16]), (16, [2])] := (rfl)
theorem T28_loops : T28.loops = [(0, [1, 3, 4, 16])] := (rfl)
def T29 : Tab := ⟨[(0, [0, 1, 2]), (1, [0, 1, 2, 9]), (2, [6, 7]), (3, [0, 1, 2, 20]), (4, [6, 7]), (5, [0, 1, 2, 25]), (6, [6, 7]), (7, [0, 1, 2, 8]), (8, [6, 7])], [], []⟩
theorem T29_sch : T29.sch = [] := (rfl)
theorem T29_reg : T29.reg = [(0, [0, 1, 2]), (1, [0, 1, 2, 9]), (2, [6, 7]), (3, [0, 1, 2, 20]), (4, [6, 7]), (5, [0, 1, 2, 25]), (6, [6, 7]), (7, [0, 1, 2, 8]), (8, [6, 7])] := (rfl)
theorem T29_loops : T29.loops = [] := (rfl)
def T30 : Tab := ⟨[(0, [0, 1]), (1, [4])], [], []⟩
theorem T30_sch : T30.sch = [] := (rfl)
theorem T30_reg : T30.reg = [(0, [0, 1]), (1, [4])] := (rfl)
theorem T30_loops : T30.loops = [] := (rfl)
def T31 : Tab := ⟨[(0, [0, 1, 2]), (1, [0, 1, 2, 8]), (2, [6, 7]), (3, [1, 2, 15]), (4, [6, 7]), (5, [6, 7])], [], []⟩
theorem T31_sch : T31.sch = [] := (rfl)
theorem T31_reg : T31.reg = [(0, [0, 1, 2]), (1, [0, 1, 2, 8]), (2, [6, 7]), (3, [1, 2, 15]), (4, [6, 7]), (5, [6, 7])] := (rfl)
theorem T31_loops : T31.loops = [] := (rfl)
def T32 : Tab := ⟨[(0, [1]), (1, [1, 7]), (2, [2, 3]), (3, [1, 4]), (4, [1, 4, 16]), (5, [1, 4]), (6, [4, 20]), (7, [4]), (8, [2, 3])], [], []⟩
theorem T32_sch : T32.sch = [] := (rfl)
theorem T32_reg : T32.reg = [(0, [1]), (1, [1, 7]), (2, [2, 3]), (3, [1, 4]), (4, [1, 4, 16]), (5, [1, 4]), (6, [4, 20]), (7, [4]), (8, [2, 3])] := (rfl)
theorem T32_loops : T32.loops = [] := (rfl)
def T33 : Tab := ⟨[(0, [0, 1, 2]), (1, [0, 1, 12]), (2, [6]), (3, [20]), (4, [6]), (5, [6])], [], []⟩
theorem T33_sch : T33.sch = [] := (rfl)
theorem T33_reg : T33.reg = [(0, [0, 1, 2]), (1, [0, 1, 12]), (2, [6]), (3, [20]), (4, [6]), (5, [6])] := (rfl)
theorem T33_loops : T33.loops = [] := (rfl)
def T34 : Tab := ⟨[(0, [1]), (1, [1, 4]), (2, [1, 9]), (3, [2, 3]), (4, [1, 5]), (5, [1, 5, 18]), (6, [1, 5]), (7, [5, 22]), (8, [5]), (9, [2, 3])], [], []⟩
theorem T34_sch : T34.sch = [] := (rfl)
theorem T34_reg : T34.reg = [(0, [1]), (1, [1, 4]), (2, [1, 9]), (3, [2, 3]), (4, [1, 5]), (5, [1, 5, 18]), (6, [1, 5]), (7, [5, 22]), (8, [5]), (9, [2, 3])] := (rfl)
theorem T34_loops : T34.loops = [] := (rfl)
def T35 : Tab := ⟨[(0, [0, 1, 2]), (1, [0, 1, 2, 16]), (2, [6]), (3, [0, 1, 20]), (4, [6]), (5, [31]), (6, [6]), (7, [6])], [], []⟩
theorem T35_sch : T35.sch = [] := (rfl)
theorem T35_reg : T35.reg = [(0, [0, 1, 2]), (1, [0, 1, 2, 16]), (2, [6]), (3, [0, 1, 20]), (4, [6]), (5, [31]), (6, [6]), (7, [6])] := (rfl)
theorem T35_loops : T35.loops = [] := (rfl)
def T36 : Tab := ⟨[(0, [0, 1, 2, 7]), (1, [0, 1, 7, 8, 9]), (2, [1, 7, 8, 9, 47]), (3, [1, 7, 8, 9]), (4, [6, 7])], [], [(1, ⟨169869312, 98566143, [0, 1, 3, 7, 15, 0, 32, 96, 224, 480, 0, 1024, 3072, 7168, 0, 16384, 0, 0, 131072, 393216, 917504, 2097151, 4194303, 8388607, 8388607, 0, 50331647, 134217727], (.rd 0 false (.rd 1 false (.rd 2 false (.rd 3 false (.rd 4 false (.rd 5 false (.rd 6 false (.rd 7 false (.rd 8 false (.rd 9 false (.rd 10 false (.rd 11 false (.rd 12 false (.rd 13 false (.rd 14 false (.rd 15 false (.rd 16 false (.rd 17 false (.rd 18 false (.rd 19 false (.rd 20 false (.wr 21 (.rd 22 false (.rd 23 false (.rd 24 false (.wr 25 (.rd 22 true (.rd 23 true (.rd 24 true (.rd 26 false (.wr 27 .done .no))))) .no)))) (.wr 25 (.rd 0 true (.rd 1 true (.rd 2 true (.rd 3 true (.rd 4 true (.rd 5 true (.rd 6 true (.rd 7 true (.rd 8 true (.rd 9 true (.rd 10 true (.rd 11 true (.rd 12 true (.rd 13 true (.rd 14 true (.rd 15 true (.rd 16 true (.rd 17 true (.rd 18 true (.rd 19 true (.rd 20 true (.wr 21 (.rd 22 false (.rd 23 false (.rd 24 false (.rd 26 false (.wr 27 .done .no))))) .no)))))))))))))))))))))) .no)))))))))))))))))))))))⟩), (4, ⟨128, 127, [0, 1, 0, 4, 15, 0, 31, 127], (.rd 0 false (.rd 1 false (.rd 2 false (.rd 3 false (.rd 4 false (.rd 5 false (.rd 6 false (.wr 7 .done .no))))))))⟩)]⟩
theorem T36_sch : T36.sch = [(1, ⟨169869312, 98566143, [0, 1, 3, 7, 15, 0, 32, 96, 224, 480, 0, 1024, 3072, 7168, 0, 16384, 0, 0, 131072, 393216, 917504, 2097151, 4194303, 8388607, 8388607, 0, 50331647, 134217727], (.rd 0 false (.rd 1 false (.rd 2 false (.rd 3 false (.rd 4 false (.rd 5 false (.rd 6 false (.rd 7 false (.rd 8 false (.rd 9 false (.rd 10 false (.rd 11 false (.rd 12 false (.rd 13 false (.rd 14 false (.rd 15 false (.rd 16 false (.rd 17 false (.rd 18 false (.rd 19 false (.rd 20 false (.wr 21 (.rd 22 false (.rd 23 false (.rd 24 false (.wr 25 (.rd 22 true (.rd 23 true (.rd 24 true (.rd 26 false (.wr 27 .done .no))))) .no)))) (.wr 25 (.rd 0 true (.rd 1 true (.rd 2 true (.rd 3 true (.rd 4 true (.rd 5 true (.rd 6 true (.rd 7 true (.rd 8 true (.rd 9 true (.rd 10 true (.rd 11 true (.rd 12 true (.rd 13 true (.rd 14 true (.rd 15 true (.rd 16 true (.rd 17 true (.rd 18 true (.rd 19 true (.rd 20 true (.wr 21 (.rd 22 false (.rd 23 false (.rd 24 false (.rd 26 false (.wr 27 .done .no))))) .no)))))))))))))))))))))) .no)))))))))))))))))))))))⟩), (4, ⟨128, 127, [0, 1, 0, 4, 15, 0, 31, 127], (.rd 0 false (.rd 1 false (.rd 2 false (.rd 3 false (.rd 4 false (.rd 5 false (.rd 6 false (.wr 7 .done .no))))))))⟩)] := (rfl)
theorem T36_reg : T36.reg = [(0, [0, 1, 2, 7]), (1, [0, 1, 7, 8, 9]), (2, [1, 7, 8, 9, 47]), (3, [1, 7, 8, 9]), (4, [6, 7])] := (rfl)
theorem T36_loops : T36.loops = [] := (rfl)
def T37 : Tab := ⟨[(0, [0, 1, 2]), (1, [8, 9]), (2, [8, 9, 10]), (3, [8, 9, 10, 11]), (4, [8, 9, 10, 11, 23]), (5, [8, 9, 10, 11]), (6, [8, 9, 10, 11]), (7, [6, 7])], [(0, [8, 9, 10, 11])], []⟩
theorem T37_sch : T37.sch = [] := (rfl)
theorem T37_reg : T37.reg = [(0, [0, 1, 2]), (1, [8, 9]), (2, [8, 9, 10]), (3, [8, 9, 10, 11]), (4, [8, 9, 10, 11, 23]), (5, [8, 9, 10, 11]), (6, [8, 9, 10, 11]), (7, [6, 7])] := (rfl)
theorem T37_loops : T37.loops = [(0, [8, 9, 10, 11])] := (rfl)
def T38 : Tab := ⟨[(0, [0, 2]), (1, [0, 2, 4]), (2, [0, 2, 4, 21]), (3, [2, 4]), (4, [2, 4]), (5, [2, 4, 32]), (6, [2, 3]), (7, [2, 3])], [], []⟩
theorem T38_sch : T38.sch = [] := (rfl)
theorem T38_reg : T38.reg = [(0, [0, 2]), (1, [0, 2, 4]), (2, [0, 2, 4, 21]), (3, [2, 4]), (4, [2, 4]), (5, [2, 4, 32]), (6, [2, 3]), (7, [2, 3])] := (rfl)
theorem T38_loops : T38.loops = [] := (rfl)
def T39 : Tab := ⟨[(0, [0]), (1, [2])], [], []⟩
theorem T39_sch : T39.sch = [] := (rfl)
theorem T39_reg : T39.reg = [(0, [0]), (1, [2])] := (rfl)
theorem T39_loops : T39.loops = [] := (rfl)
def T40 : Tab := ⟨[(0, [0, 2]), (1, [2]), (2, [2])], [], []⟩
theorem T40_sch : T40.sch = [] := (rfl)
theorem T40_reg : T40.reg = [(0, [0, 2]), (1, [2]), (2, [2])] := (rfl)
theorem T40_loops : T40.loops = [] := (rfl)
def T41 : Tab := ⟨[(0, [1, 2]), (1, [2])], [], []⟩
theorem T41_sch : T41.sch = [] := (rfl)
theorem T41_reg : T41.reg = [(0, [1, 2]), (1, [2])] := (rfl)
theorem T41_loops : T41.loops = [] := (rfl)
def T42 : Tab := ⟨[(0, [0, 1]), (1, [4])], [], []⟩
theorem T42_sch : T42.sch = [] := (rfl)
theorem T42_reg : T42.reg = [(0, [0, 1]), (1, [4])] := (rfl)
theorem T42_loops : T42.loops = [] := (rfl)
def T43 : Tab := ⟨[(0, [0, 1]), (1, [4])], [], []⟩
theorem T43_sch : T43.sch = [] := (rfl)
theorem T43_reg : T43.reg = [(0, [0, 1]), (1, [4])] := (rfl)
theorem T43_loops : T43.loops = [] := (rfl)
def T44 : Tab := ⟨[(0, [0, 1]), (1, [4])], [], []⟩
theorem T44_sch : T44.sch = [] := (rfl)
theorem T44_reg : T44.reg = [(0, [0, 1]), (1, [4])] := (rfl)
theorem T44_loops : T44.loops = [] := (rfl)
def T45 : Tab := ⟨[(0, [0, 1]), (1, [4])], [], []⟩
theorem T45_sch : T45.sch = [] := (rfl)
theorem T45_reg : T45.reg = [(0, [0, 1]), (1, [4])] := (rfl)
theorem T45_loops : T45.loops = [] := (rfl)
def T46 : Tab := ⟨[(0, [0, 1]), (1, [4])], [], []⟩
theorem T46_sch : T46.sch = [] := (rfl)
theorem T46_reg : T46.reg = [(0, [0, 1]), (1, [4])] := (rfl)
theorem T46_loops : T46.loops = [] := (rfl)
def T47 : Tab := ⟨[(0, [3, 4, 5, 6]), (1, [6])], [], []⟩
theorem T47_sch : T47.sch = [] := (rfl)
theorem T47_reg : T47.reg = [(0, [3, 4, 5, 6]), (1, [6])] := (rfl)
theorem T47_loops : T47.loops = [] := (rfl)
def T48 : Tab := ⟨[(0, [1, 2]), (1, [2])], [], []⟩
theorem T48_sch : T48.sch = [] := (rfl)
theorem T48_reg : T48.reg = [(0, [1, 2]), (1, [2])] := (rfl)
theorem T48_loops : T48.loops = [] := (rfl)
def T49 : Tab := ⟨[(0, [0, 1]), (1, [4])], [], []⟩
theorem T49_sch : T49.sch = [] := (rfl)
theorem T49_reg : T49.reg = [(0, [0, 1]), (1, [4])] := (rfl)
theorem T49_loops : T49.loops = [] := (rfl)
def T50 : Tab := ⟨[(0, [0, 1]), (1, [4])], [], []⟩
theorem T50_sch : T50.sch = [] := (rfl)
theorem T50_reg : T50.reg = [(0, [0, 1]), (1, [4])] := (rfl)
theorem T50_loops : T50.loops = [] := (rfl)
def T51 : Tab := ⟨[(0, [0, 1]), (1, [4])], [], []⟩
theorem T51_sch : T51.sch = [] := (rfl)
theorem T51_reg : T51.reg = [(0, [0, 1]), (1, [4])] := (rfl)
theorem T51_loops : T51.loops = [] := (rfl)
def T52 : Tab := ⟨[(0, []), (1, [4])], [], []⟩
theorem T52_sch : T52.sch = [] := (rfl)
theorem T52_reg : T52.reg = [(0, []), (1, [4])] := (rfl)
theorem T52_loops : T52.loops = [] := (rfl)
def T53 : Tab := ⟨[(0, [0, 2]), (1, [2]), (2, [2])], [], [(1, ⟨125829120, 8388607, [0, 1, 3, 7, 0, 16, 48, 112, 240, 0, 0, 1024, 3072, 7168, 15360, 0, 32768, 98304, 229376, 491520, 15, 1048591, 4193791, 8388095, 16777215, 33554431, 67108863], (.rd 0 false (.rd 1 false (.rd 2 false (.rd 3 false (.rd 4 false (.rd 5 false (.rd 6 false (.rd 7 false (.rd 8 false (.rd 9 false (.rd 10 false (.rd 11 false (.rd 12 false (.rd 13 false (.rd 14 false (.rd 15 false (.rd 16 false (.rd 17 false (.rd 18 false (.rd 19 false (.rd 20 false (.rd 21 false (.rd 22 false (.wr 23 (.rd 9 true (.wr 24 (.wr 25 (.wr 26 .done .no) .no) .no)) .no))))))))))))))))))))))))⟩)]⟩
theorem T53_sch : T53.sch = [(1, ⟨125829120, 8388607, [0, 1, 3, 7, 0, 16, 48, 112, 240, 0, 0, 1024, 3072, 7168, 15360, 0, 32768, 98304, 229376, 491520, 15, 1048591, 4193791, 8388095, 16777215, 33554431, 67108863], (.rd 0 false (.rd 1 false (.rd 2 false (.rd 3 false (.rd 4 false (.rd 5 false (.rd 6 false (.rd 7 false (.rd 8 false (.rd 9 false (.rd 10 false (.rd 11 false (.rd 12 false (.rd 13 false (.rd 14 false (.rd 15 false (.rd 16 false (.rd 17 false (.rd 18 false (.rd 19 false (.rd 20 false (.rd 21 false (.rd 22 false (.wr 23 (.rd 9 true (.wr 24 (.wr 25 (.wr 26 .done .no) .no) .no)) .no))))))))))))))))))))))))⟩)] := (rfl)
theorem T53_reg : T53.reg = [(0, [0, 2]), (1, [2]), (2, [2])] := (rfl)
theorem T53_loops : T53.loops = [] := (rfl)
def T54 : Tab := ⟨[(0, [0, 2]), (1, [2]), (2, [2])], [], [(1, ⟨245760, 16383, [0, 0, 2, 6, 14, 0, 32, 96, 224, 480, 30, 1054, 4094, 8190, 16382, 32767, 65535, 131071], (.rd 0 false (.rd 1 false (.rd 2 false (.rd 3 false (.rd 4 false (.rd 5 false (.rd 6 false (.rd 7 false (.rd 8 false (.rd 9 false (.rd 10 false (.rd 11 false (.rd 12 false (.rd 13 false (.wr 14 (.rd 0 true (.wr 15 (.wr 16 (.wr 17 .done .no) .no) .no)) .no)))))))))))))))⟩)]⟩
theorem T54_sch : T54.sch = [(1, ⟨245760, 16383, [0, 0, 2, 6, 14, 0, 32, 96, 224, 480, 30, 1054, 4094, 8190, 16382, 32767, 65535, 131071], (.rd 0 false (.rd 1 false (.rd 2 false (.rd 3 false (.rd 4 false (.rd 5 false (.rd 6 false (.rd 7 false (.rd 8 false (.rd 9 false (.rd 10 false (.rd 11 false (.rd 12 false (.rd 13 false (.wr 14 (.rd 0 true (.wr 15 (.wr 16 (.wr 17 .done .no) .no) .no)) .no)))))))))))))))⟩)] := (rfl)
theorem T54_reg : T54.reg = [(0, [0, 2]), (1, [2]), (2, [2])] := (rfl)
theorem T54_loops : T54.loops = [] := (rfl)
def T55 : Tab := ⟨[(0, [0, 3, 4]), (1, [4])], [], []⟩
theorem T55_sch : T55.sch = [] := (rfl)
theorem T55_reg : T55.reg = [(0, [0, 3, 4]), (1, [4])] := (rfl)
theorem T55_loops : T55.loops = [] := (rfl)
def T56 : Tab := ⟨[(0, [0, 2]), (1, [0, 2, 8]), (2, [2]), (3, [2]), (4, [2])], [], []⟩
theorem T56_sch : T56.sch = [] := (rfl)
theorem T56_reg : T56.reg = [(0, [0, 2]), (1, [0, 2, 8]), (2, [2]), (3, [2]), (4, [2])] := (rfl)
theorem T56_loops : T56.loops = [] := (rfl)
def T57 : Tab := ⟨[(0, [0, 2]), (1, [0, 2, 8]), (2, [2]), (3, [0, 2]), (4, [0, 2, 52]), (5, [2]), (6, [2])], [], []⟩
theorem T57_sch : T57.sch = [] := (rfl)
theorem T57_reg : T57.reg = [(0, [0, 2]), (1, [0, 2, 8]), (2, [2]), (3, [0, 2]), (4, [0, 2, 52]), (5, [2]), (6, [2])] := (rfl)
theorem T57_loops : T57.loops = [] := (rfl)
def T58 : Tab := ⟨[(0, [0, 2]), (1, [0, 2, 10]), (2, [0, 2, 4]), (3, [0, 2, 20]), (4, [2]), (5, [2])], [], []⟩
theorem T58_sch : T58.sch = [] := (rfl)
theorem T58_reg : T58.reg = [(0, [0, 2]), (1, [0, 2, 10]), (2, [0, 2, 4]), (3, [0, 2, 20]), (4, [2]), (5, [2])] := (rfl)
theorem T58_loops : T58.loops = [] := (rfl)
def T59 : Tab := ⟨[(0, [0, 2]), (1, [2]), (2, [2])], [], [(1, ⟨802816, 245759, [0, 1, 3, 7, 0, 16, 48, 112, 240, 0, 512, 1536, 3584, 7680, 15872, 32256, 15, 65551, 262143, 524287], (.rd 0 false (.rd 1 false (.rd 2 false (.rd 3 false (.rd 4 false (.rd 5 false (.rd 6 false (.rd 7 false (.rd 8 false (.rd 9 false (.rd 10 false (.rd 11 false (.rd 12 false (.rd 13 false (.rd 16 false (.rd 17 false (.wr 14 (.rd 0 true (.rd 1 true (.rd 2 true (.rd 3 true (.rd 4 true (.rd 5 true (.rd 6 true (.rd 7 true (.rd 8 true (.rd 15 false (.rd 16 true (.rd 17 true (.wr 18 (.wr 19 .done .no) .no))))))))))))) .no)))))))))))))))))⟩)]⟩
theorem T59_sch : T59.sch = [(1, ⟨802816, 245759, [0, 1, 3, 7, 0, 16, 48, 112, 240, 0, 512, 1536, 3584, 7680, 15872, 32256, 15, 65551, 262143, 524287], (.rd 0 false (.rd 1 false (.rd 2 false (.rd 3 false (.rd 4 false (.rd 5 false (.rd 6 false (.rd 7 false (.rd 8 false (.rd 9 false (.rd 10 false (.rd 11 false (.rd 12 false (.rd 13 false (.rd 16 false (.rd 17 false (.wr 14 (.rd 0 true (.rd 1 true (.rd 2 true (.rd 3 true (.rd 4 true (.rd 5 true (.rd 6 true (.rd 7 true (.rd 8 true (.rd 15 false (.rd 16 true (.rd 17 true (.wr 18 (.wr 19 .done .no) .no))))))))))))) .no)))))))))))))))))⟩)] := (rfl)
theorem T59_reg : T59.reg = [(0, [0, 2]), (1, [2]), (2, [2])] := (rfl)
theorem T59_loops : T59.loops = [] := (rfl)
def T60 : Tab := ⟨[(0, [0]), (1, [0, 3, 4]), (2, [0, 3, 11]), (3, [2]), (4, [0, 3]), (5, [0, 3]), (6, [3]), (7, [2])], [], []⟩
theorem T60_sch : T60.sch = [] := (rfl)
theorem T60_reg : T60.reg = [(0, [0]), (1, [0, 3, 4]), (2, [0, 3, 11]), (3, [2]), (4, [0, 3]), (5, [0, 3]), (6, [3]), (7, [2])] := (rfl)
theorem T60_loops : T60.loops = [] := (rfl)
def T61 : Tab := ⟨[(0, [0, 2]), (1, [0, 2, 3]), (2, [0, 2, 3, 4]), (3, [0, 2, 3, 31]), (4, [0, 2, 3]), (5, [2]), (6, [2])], [], []⟩
theorem T61_sch : T61.sch = [] := (rfl)
theorem T61_reg : T61.reg = [(0, [0, 2]), (1, [0, 2, 3]), (2, [0, 2, 3, 4]), (3, [0, 2, 3, 31]), (4, [0, 2, 3]), (5, [2]), (6, [2])] := (rfl)
theorem T61_loops : T61.loops = [] := (rfl)
def T62 : Tab := ⟨[(0, [0, 2]), (1, [2]), (2, [2])], [], []⟩
theorem T62_sch : T62.sch = [] := (rfl)
theorem T62_reg : T62.reg = [(0, [0, 2]), (1, [2]), (2, [2])] := (rfl)
theorem T62_loops : T62.loops = [] := (rfl)
def T63 : Tab := ⟨[(0, [0, 4, 5]), (1, [6])], [], []⟩
theorem T63_sch : T63.sch = [] := (rfl)
theorem T63_reg : T63.reg = [(0, [0, 4, 5]), (1, [6])] := (rfl)
theorem T63_loops : T63.loops = [] := (rfl)
def T64 : Tab := ⟨[(0, [2]), (1, [2])], [], []⟩
theorem T64_sch : T64.sch = [] := (rfl)
theorem T64_reg : T64.reg = [(0, [2]), (1, [2])] := (rfl)
theorem T64_loops : T64.loops = [] := (rfl)
def T65 : Tab := ⟨[(0, [0]), (1, [3]), (2, [2])], [], []⟩
theorem T65_sch : T65.sch = [] := (rfl)
theorem T65_reg : T65.reg = [(0, [0]), (1, [3]), (2, [2])] := (rfl)
theorem T65_loops : T65.loops = [] := (rfl)
def T66 : Tab := ⟨[(0, [0, 1]), (1, [4])], [], []⟩
theorem T66_sch : T66.sch = [] := (rfl)
theorem T66_reg : T66.reg = [(0, [0, 1]), (1, [4])] := (rfl)
theorem T66_loops : T66.loops = [] := (rfl)
def T67 : Tab := ⟨[(0, [0]), (1, [2])], [], []⟩
theorem T67_sch : T67.sch = [] := (rfl)
theorem T67_reg : T67.reg = [(0, [0]), (1, [2])] := (rfl)
theorem T67_loops : T67.loops = [] := (rfl)
def T68 : Tab := ⟨[(0, [1]), (1, [1, 3]), (2, [2]), (3, [1, 10]), (4, [2]), (5, [1, 19]), (6, [2]), (7, [2])], [], []⟩
theorem T68_sch : T68.sch = [] := (rfl)
theorem T68_reg : T68.reg = [(0, [1]), (1, [1, 3]), (2, [2]), (3, [1, 10]), (4, [2]), (5, [1, 19]), (6, [2]), (7, [2])] := (rfl)
theorem T68_loops : T68.loops = [] := (rfl)
def T69 : Tab := ⟨[(0, [0]), (1, [2])], [], []⟩
theorem T69_sch : T69.sch = [] := (rfl)
theorem T69_reg : T69.reg = [(0, [0]), (1, [2])] := (rfl)
theorem T69_loops : T69.loops = [] := (rfl)
def T70 : Tab := ⟨[(0, [1]), (1, [1, 5]), (2, [2]), (3, [1, 26]), (4, [2]), (5, [1, 29]), (6, [2]), (7, [2])], [], []⟩
theorem T70_sch : T70.sch = [] := (rfl)
theorem T70_reg : T70.reg = [(0, [1]), (1, [1, 5]), (2, [2]), (3, [1, 26]), (4, [2]), (5, [1, 29]), (6, [2]), (7, [2])] := (rfl)
theorem T70_loops : T70.loops = [] := (rfl)
def T71 : Tab := ⟨[(0, [0, 1, 3, 4, 5, 8, 13]), (1, [0, 1, 3, 4, 5, 8, 13, 14, 15, 16]), (2, [0, 1, 3, 4, 5, 8, 13, 14, 41]), (3, [12, 13]), (4, [1, 3, 5, 8, 13, 17, 18, 19]), (5, [1, 3, 5, 8, 13, 17, 18, 19, 55]), (6, [12, 13]), (7, [13, 17]), (8, [12, 13])], [], []⟩
theorem T71_sch : T71.sch = [] := (rfl)
theorem T71_reg : T71.reg = [(0, [0, 1, 3, 4, 5, 8, 13]), (1, [0, 1, 3, 4, 5, 8, 13, 14, 15, 16]), (2, [0, 1, 3, 4, 5, 8, 13, 14, 41]), (3, [12, 13]), (4, [1, 3, 5, 8, 13, 17, 18, 19]), (5, [1, 3, 5, 8, 13, 17, 18, 19, 55]), (6, [12, 13]), (7, [13, 17]), (8, [12, 13])] := (rfl)
theorem T71_loops : T71.loops = [] := (rfl)
def T72 : Tab := ⟨[(0, [0, 1]), (1, [4])], [], []⟩
theorem T72_sch : T72.sch = [] := (rfl)
theorem T72_reg : T72.reg = [(0, [0, 1]), (1, [4])] := (rfl)
theorem T72_loops : T72.loops = [] := (rfl)
def T73 : Tab := ⟨[(0, [0, 1, 3]), (1, [1, 3, 4, 5, 6]), (2, [3]), (3, [3])], [], []⟩
theorem T73_sch : T73.sch = [] := (rfl)
theorem T73_reg : T73.reg = [(0, [0, 1, 3]), (1, [1, 3, 4, 5, 6]), (2, [3]), (3, [3])] := (rfl)
theorem T73_loops : T73.loops = [] := (rfl)
def T74 : Tab := ⟨[(0, [0]), (1, [2, 3, 4])], [], []⟩
theorem T74_sch : T74.sch = [] := (rfl)
theorem T74_reg : T74.reg = [(0, [0]), (1, [2, 3, 4])] := (rfl)
theorem T74_loops : T74.loops = [] := (rfl)
def T75 : Tab := ⟨[(0, [0, 1, 2, 3, 5]), (1, [0, 1, 2, 3, 5, 6, 7]), (2, [0, 1, 2, 3, 5, 6, 9]), (3, [0, 1, 2, 3, 5, 6, 9, 30]), (4, [5]), (5, [0, 1, 2, 3, 5, 6, 9, 10, 11]), (6, [5]), (7, [0, 1, 2, 3, 5, 6, 9, 10, 11, 53]), (8, [5]), (9, [0, 1, 5, 6, 10, 61]), (10, [5]), (11, [5])], [], [(10, ⟨1024, 1023, [0, 1, 3, 7, 15, 0, 0, 0, 128, 384, 1023], (.rd 0 false (.rd 1 false (.rd 2 false (.rd 3 false (.rd 4 false (.rd 5 false (.rd 6 false (.rd 7 false (.rd 8 false (.rd 9 false (.wr 10 .done .no)))))))))))⟩), (6, ⟨8448, 7935, [0, 0, 2, 6, 14, 30, 0, 0, 254, 510, 1022, 1022, 2047, 6143], (.rd 0 false (.rd 1 false (.rd 2 false (.rd 3 false (.rd 4 false (.rd 5 false (.rd 6 false (.rd 7 false (.wr 8 (.rd 0 true (.rd 9 false (.rd 10 false (.rd 11 false (.rd 12 false (.wr 13 (.rd 11 true .done) .no)))))) .no)))))))))⟩)]⟩
theorem T75_sch : T75.sch = [(10, ⟨1024, 1023, [0, 1, 3, 7, 15, 0, 0, 0, 128, 384, 1023], (.rd 0 false (.rd 1 false (.rd 2 false (.rd 3 false (.rd 4 false (.rd 5 false (.rd 6 false (.rd 7 false (.rd 8 false (.rd 9 false (.wr 10 .done .no)))))))))))⟩), (6, ⟨8448, 7935, [0, 0, 2, 6, 14, 30, 0, 0, 254, 510, 1022, 1022, 2047, 6143], (.rd 0 false (.rd 1 false (.rd 2 false (.rd 3 false (.rd 4 false (.rd 5 false (.rd 6 false (.rd 7 false (.wr 8 (.rd 0 true (.rd 9 false (.rd 10 false (.rd 11 false (.rd 12 false (.wr 13 (.rd 11 true .done) .no)))))) .no)))))))))⟩)] := (rfl)
theorem T75_reg : T75.reg = [(0, [0, 1, 2, 3, 5]), (1, [0, 1, 2, 3, 5, 6, 7]), (2, [0, 1, 2, 3, 5, 6, 9]), (3, [0, 1, 2, 3, 5, 6, 9, 30]), (4, [5]), (5, [0, 1, 2, 3, 5, 6, 9, 10, 11]), (6, [5]), (7, [0, 1, 2, 3, 5, 6, 9, 10, 11, 53]), (8, [5]), (9, [0, 1, 5, 6, 10, 61]), (10, [5]), (11, [5])] := (rfl)
theorem T75_loops : T75.loops = [] := (rfl)
def T76 : Tab := ⟨[(0, [0, 1, 3]), (1, [0, 1, 3, 4, 5]), (2, [0, 3, 18]), (3, [3]), (4, [3])], [], []⟩
theorem T76_sch : T76.sch = [] := (rfl)
theorem T76_reg : T76.reg = [(0, [0, 1, 3]), (1, [0, 1, 3, 4, 5]), (2, [0, 3, 18]), (3, [3]), (4, [3])] := (rfl)
theorem T76_loops : T76.loops = [] := (rfl)
def T77 : Tab := ⟨[(0, [0, 1, 3]), (1, [3])], [], []⟩
theorem T77_sch : T77.sch = [] := (rfl)
theorem T77_reg : T77.reg = [(0, [0, 1, 3]), (1, [3])] := (rfl)
theorem T77_loops : T77.loops = [] := (rfl)
def T78 : Tab := ⟨[(0, [0, 1]), (1, [0, 1, 10]), (2, [4]), (3, []), (4, [4])], [], []⟩
theorem T78_sch : T78.sch = [] := (rfl)
theorem T78_reg : T78.reg = [(0, [0, 1]), (1, [0, 1, 10]), (2, [4]), (3, []), (4, [4])] := (rfl)
theorem T78_loops : T78.loops = [] := (rfl)
def T79 : Tab := ⟨[(0, [0]), (1, [0, 4]), (2, [0, 4, 15, 16, 17]), (3, [0, 4, 15, 16, 17, 18]), (4, [0, 4, 6, 15, 16, 17]), (5, [0, 4, 6, 15, 16, 17, 39]), (6, [2, 3]), (7, [0, 4, 15, 16, 17]), (8, [2, 3])], [(0, [0, 4, 15, 16, 17])], [(1, ⟨224, 31, [0, 1, 3, 7, 0, 16, 63, 127], (.rd 0 false (.rd 1 false (.rd 2 false (.rd 3 false (.rd 4 false (.wr 5 (.rd 0 true (.rd 1 true (.rd 2 true (.rd 3 true (.wr 6 (.wr 7 .done .no) .no))))) .no))))))⟩), (5, ⟨393216, 131071, [0, 1, 3, 7, 15, 15, 47, 31, 159, 511, 1023, 2047, 4095, 8191, 16383, 32767, 16383, 131071, 262143], (.rd 0 false (.rd 1 false (.rd 2 false (.rd 3 false (.rd 4 false (.rd 5 false (.rd 6 false (.rd 7 false (.rd 8 false (.rd 9 false (.rd 10 false (.rd 11 false (.rd 12 false (.rd 13 false (.rd 14 false (.rd 15 false (.rd 16 false (.wr 17 (.wr 18 .done .no) .no))))))))))))))))))⟩)]⟩
theorem T79_sch : T79.sch = [(1, ⟨224, 31, [0, 1, 3, 7, 0, 16, 63, 127], (.rd 0 false (.rd 1 false (.rd 2 false (.rd 3 false (.rd 4 false (.wr 5 (.rd 0 true (.rd 1 true (.rd 2 true (.rd 3 true (.wr 6 (.wr 7 .done .no) .no))))) .no))))))⟩), (5, ⟨393216, 131071, [0, 1, 3, 7, 15, 15, 47, 31, 159, 511, 1023, 2047, 4095, 8191, 16383, 32767, 16383, 131071, 262143], (.rd 0 false (.rd 1 false (.rd 2 false (.rd 3 false (.rd 4 false (.rd 5 false (.rd 6 false (.rd 7 false (.rd 8 false (.rd 9 false (.rd 10 false (.rd 11 false (.rd 12 false (.rd 13 false (.rd 14 false (.rd 15 false (.rd 16 false (.wr 17 (.wr 18 .done .no) .no))))))))))))))))))⟩)] := (rfl)
theorem T79_reg : T79.reg = [(0, [0]), (1, [0, 4]), (2, [0, 4, 15, 16, 17]), (3, [0, 4, 15, 16, 17, 18]), (4, [0, 4, 6, 15, 16, 17]), (5, [0, 4, 6, 15, 16, 17, 39]), (6, [2, 3]), (7, [0, 4, 15, 16, 17]), (8, [2, 3])] := (rfl)
theorem T79_loops : T79.loops = [(0, [0, 4, 15, 16, 17])] := (rfl)
def T80 : Tab := ⟨[(0, [0, 1]), (1, [0, 1, 10]), (2, [4, 5]), (3, [0, 1, 6, 7]), (4, [0, 1, 6, 21]), (5, [4, 5]), (6, [0, 6]), (7, [6]), (8, [4, 5])], [], []⟩
theorem T80_sch : T80.sch = [] := (rfl)
theorem T80_reg : T80.reg = [(0, [0, 1]), (1, [0, 1, 10]), (2, [4, 5]), (3, [0, 1, 6, 7]), (4, [0, 1, 6, 21]), (5, [4, 5]), (6, [0, 6]), (7, [6]), (8, [4, 5])] := (rfl)
theorem T80_loops : T80.loops = [] := (rfl)
def T81 : Tab := ⟨[(0, [0, 1]), (1, [0, 1, 5]), (2, [0, 1, 5, 11, 12]), (3, [0, 1, 5, 11, 12, 13]), (4, [0, 1, 5, 6, 7, 11, 12]), (5, [0, 1, 5, 6, 11, 12, 23]), (6, [0, 1, 5, 11, 12]), (7, [0, 1, 5, 11, 12]), (8, [0, 1, 5, 11, 12]), (9, [4])], [(0, [0, 1, 5, 11, 12])], []⟩
theorem T81_sch : T81.sch = [] := (rfl)
theorem T81_reg : T81.reg = [(0, [0, 1]), (1, [0, 1, 5]), (2, [0, 1, 5, 11, 12]), (3, [0, 1, 5, 11, 12, 13]), (4, [0, 1, 5, 6, 7, 11, 12]), (5, [0, 1, 5, 6, 11, 12, 23]), (6, [0, 1, 5, 11, 12]), (7, [0, 1, 5, 11, 12]), (8, [0, 1, 5, 11, 12]), (9, [4])] := (rfl)
theorem T81_loops : T81.loops = [(0, [0, 1, 5, 11, 12])] := (rfl)
def T82 : Tab := ⟨[(0, [1, 2, 3]), (1, [4])], [], []⟩
theorem T82_sch : T82.sch = [] := (rfl)
theorem T82_reg : T82.reg = [(0, [1, 2, 3]), (1, [4])] := (rfl)
theorem T82_loops : T82.loops = [] := (rfl)
def T83 : Tab := ⟨[(0, [0]), (1, [0, 12]), (2, [2, 3, 4]), (3, [5]), (4, [5, 6]), (5, [5, 6, 20]), (6, [2, 3, 4]), (7, [2, 3, 4])], [], []⟩
theorem T83_sch : T83.sch = [] := (rfl)
theorem T83_reg : T83.reg = [(0, [0]), (1, [0, 12]), (2, [2, 3, 4]), (3, [5]), (4, [5, 6]), (5, [5, 6, 20]), (6, [2, 3, 4]), (7, [2, 3, 4])] := (rfl)
theorem T83_loops : T83.loops = [] := (rfl)
def T84 : Tab := ⟨[(0, [0, 1, 2, 3]), (1, [0, 1, 2, 3, 16, 17]), (2, [0, 1, 2, 3, 16, 17, 18]), (3, [0, 1, 2, 3, 12, 16, 17]), (4, [0, 1, 2, 3, 12, 16, 17, 40]), (5, [12]), (6, [8, 9, 10]), (7, [0, 1, 2, 3, 16, 17]), (8, []), (9, [8, 9, 10])], [(0, [0, 1, 2, 3, 16, 17])], []⟩
theorem T84_sch : T84.sch = [] := (rfl)
theorem T84_reg : T84.reg = [(0, [0, 1, 2, 3]), (1, [0, 1, 2, 3, 16, 17]), (2, [0, 1, 2, 3, 16, 17, 18]), (3, [0, 1, 2, 3, 12, 16, 17]), (4, [0, 1, 2, 3, 12, 16, 17, 40]), (5, [12]), (6, [8, 9, 10]), (7, [0, 1, 2, 3, 16, 17]), (8, []), (9, [8, 9, 10])] := (rfl)
theorem T84_loops : T84.loops = [(0, [0, 1, 2, 3, 16, 17])] := (rfl)
def T85 : Tab := ⟨[(0, [0]), (1, [2])], [], []⟩
theorem T85_sch : T85.sch = [] := (rfl)
theorem T85_reg : T85.reg = [(0, [0]), (1, [2])] := (rfl)
theorem T85_loops : T85.loops = [] := (rfl)
def T86 : Tab := ⟨[(0, [0, 2, 3, 5, 10]), (1, [0, 2, 3, 5, 10, 19]), (2, [8, 9, 10]), (3, [0, 2, 3, 5, 10, 23]), (4, [8, 9, 10]), (5, [0, 2, 3, 5, 10, 11]), (6, [0, 2, 3, 5, 10, 11, 40]), (7, [8, 9, 10]), (8, [0, 2, 3, 5, 10, 11, 45]), (9, [8, 9, 10]), (10, [8, 9, 10, 11]), (11, [8, 9, 10])], [], []⟩
theorem T86_sch : T86.sch = [] := (rfl)
theorem T86_reg : T86.reg = [(0, [0, 2, 3, 5, 10]), (1, [0, 2, 3, 5, 10, 19]), (2, [8, 9, 10]), (3, [0, 2, 3, 5, 10, 23]), (4, [8, 9, 10]), (5, [0, 2, 3, 5, 10, 11]), (6, [0, 2, 3, 5, 10, 11, 40]), (7, [8, 9, 10]), (8, [0, 2, 3, 5, 10, 11, 45]), (9, [8, 9, 10]), (10, [8, 9, 10, 11]), (11, [8, 9, 10])] := (rfl)
theorem T86_loops : T86.loops = [] := (rfl)
def T87 : Tab := ⟨[(0, [0, 1, 5]), (1, [0, 1, 5, 7]), (2, [6]), (3, [0, 1, 5, 11]), (4, [6]), (5, [0, 1, 5]), (6, []), (7, [6])], [], []⟩
theorem T87_sch : T87.sch = [] := (rfl)
theorem T87_reg : T87.reg = [(0, [0, 1, 5]), (1, [0, 1, 5, 7]), (2, [6]), (3, [0, 1, 5, 11]), (4, [6]), (5, [0, 1, 5]), (6, []), (7, [6])] := (rfl)
theorem T87_loops : T87.loops = [] := (rfl)
def T88 : Tab := ⟨[(0, [0, 1]), (1, [4])], [], []⟩
theorem T88_sch : T88.sch = [] := (rfl)
theorem T88_reg : T88.reg = [(0, [0, 1]), (1, [4])] := (rfl)
theorem T88_loops : T88.loops = [] := (rfl)
def T89 : Tab := ⟨[(0, [0]), (1, [0, 3]), (2, [3, 10]), (3, [3, 10, 12]), (4, [3, 5, 10]), (5, [3, 10]), (6, [2])], [(0, [3, 10])], []⟩
theorem T89_sch : T89.sch = [] := (rfl)
theorem T89_reg : T89.reg = [(0, [0]), (1, [0, 3]), (2, [3, 10]), (3, [3, 10, 12]), (4, [3, 5, 10]), (5, [3, 10]), (6, [2])] := (rfl)
theorem T89_loops : T89.loops = [(0, [3, 10])] := (rfl)
def T90 : Tab := ⟨[(0, [0]), (1, [0, 3]), (2, [0, 3, 9]), (3, [0, 3, 9, 10]), (4, [0, 3, 4, 9]), (5, [0, 3, 4, 5, 6, 9]), (6, [0, 3, 4, 5, 6, 7, 8, 9]), (7, [0, 3, 4, 5, 6, 7, 9, 30]), (8, [0, 3, 9]), (9, [0, 3, 4, 5, 9, 42]), (10, [0, 3, 9]), (11, [0, 3, 9]), (12, [3]), (13, [2])], [(0, [0, 3, 9])], []⟩
theorem T90_sch : T90.sch = [] := (rfl)
theorem T90_reg : T90.reg = [(0, [0]), (1, [0, 3]), (2, [0, 3, 9]), (3, [0, 3, 9, 10]), (4, [0, 3, 4, 9]), (5, [0, 3, 4, 5, 6, 9]), (6, [0, 3, 4, 5, 6, 7, 8, 9]), (7, [0, 3, 4, 5, 6, 7, 9, 30]), (8, [0, 3, 9]), (9, [0, 3, 4, 5, 9, 42]), (10, [0, 3, 9]), (11, [0, 3, 9]), (12, [3]), (13, [2])] := (rfl)
theorem T90_loops : T90.loops = [(0, [0, 3, 9])] := (rfl)
def T91 : Tab := ⟨[(0, [0]), (1, [2])], [], []⟩
theorem T91_sch : T91.sch = [] := (rfl)
theorem T91_reg : T91.reg = [(0, [0]), (1, [2])] := (rfl)
theorem T91_loops : T91.loops = [] := (rfl)
def T92 : Tab := ⟨[(0, [0, 1]), (1, [4])], [], []⟩
theorem T92_sch : T92.sch = [] := (rfl)
theorem T92_reg : T92.reg = [(0, [0, 1]), (1, [4])] := (rfl)
theorem T92_loops : T92.loops = [] := (rfl)
def T93 : Tab := ⟨[(0, [0, 1]), (1, [0, 1, 12]), (2, [4]), (3, [0, 1, 15]), (4, [0, 5]), (5, [0, 5, 20]), (6, [0, 5]), (7, [4]), (8, [0, 1, 26]), (9, [0, 1, 6, 7]), (10, [0, 1, 6, 32]), (11, [0, 6, 8]), (12, [0, 6, 8, 36]), (13, [0, 6, 8]), (14, [0, 6, 8, 42]), (15, [4]), (16, [4]), (17, [1, 45]), (18, [1, 45, 46, 47]), (19, [1, 9, 10, 45]), (20, [1, 9, 45, 53]), (21, [4]), (22, [4])], [(0, [0, 6, 8]), (2, [1, 45])], []⟩
theorem T93_sch : T93.sch = [] := (rfl)
theorem T93_reg : T93.reg = [(0, [0, 1]), (1, [0, 1, 12]), (2, [4]), (3, [0, 1, 15]), (4, [0, 5]), (5, [0, 5, 20]), (6, [0, 5]), (7, [4]), (8, [0, 1, 26]), (9, [0, 1, 6, 7]), (10, [0, 1, 6, 32]), (11, [0, 6, 8]), (12, [0, 6, 8, 36]), (13, [0, 6, 8]), (14, [0, 6, 8, 42]), (15, [4]), (16, [4]), (17, [1, 45]), (18, [1, 45, 46, 47]), (19, [1, 9, 10, 45]), (20, [1, 9, 45, 53]), (21, [4]), (22, [4])] := (rfl)
theorem T93_loops : T93.loops = [(0, [0, 6, 8]), (2, [1, 45])] := (rfl)
def T94 : Tab := ⟨[(0, [0]), (1, [2])], [], []⟩
theorem T94_sch : T94.sch = [] := (rfl)
theorem T94_reg : T94.reg = [(0, [0]), (1, [2])] := (rfl)
theorem T94_loops : T94.loops = [] := (rfl)
def T95 : Tab := ⟨[(0, [0, 1, 2, 3, 10]), (1, [2, 3, 8, 9, 10]), (2, [2, 3, 8, 9, 10, 19]), (3, [8, 9, 10]), (4, [2, 8, 9, 10, 24]), (5, [8, 9, 10]), (6, [8, 9, 10])], [], []⟩
theorem T95_sch : T95.sch = [] := (rfl)
theorem T95_reg : T95.reg = [(0, [0, 1, 2, 3, 10]), (1, [2, 3, 8, 9, 10]), (2, [2, 3, 8, 9, 10, 19]), (3, [8, 9, 10]), (4, [2, 8, 9, 10, 24]), (5, [8, 9, 10]), (6, [8, 9, 10])] := (rfl)
theorem T95_loops : T95.loops = [] := (rfl)
def T96 : Tab := ⟨[(0, [0, 2, 4, 6, 7]), (1, [0, 2, 4, 6, 7, 8]), (2, [0, 2, 4, 6, 7, 8, 9]), (3, [0, 2, 4, 6, 7, 8, 9, 17]), (4, [0, 2, 4, 6, 7, 8, 9, 17, 18]), (5, [0, 2, 4, 6, 7, 8, 9, 10, 17]), (6, [0, 2, 4, 6, 7, 9, 10, 11, 13, 17]), (7, [0, 2, 4, 6, 7, 9, 10, 11, 13, 17, 31]), (8, [6, 7, 13]), (9, [6, 7]), (10, [0, 2, 4, 6, 7, 9, 10, 11, 17]), (11, [0, 2, 4, 6, 7, 9, 10, 14, 17]), (12, [0, 2, 4, 6, 7, 9, 10, 14, 17, 45]), (13, [6, 7]), (14, [0, 2, 4, 6, 7, 8, 9, 17]), (15, [0, 2, 4, 6, 7, 8, 9, 17]), (16, [6, 7])], [(0, [0, 2, 4, 6, 7, 8, 9, 17])], [(9, ⟨12, 3, [0, 0, 1, 7], (.rd 0 false (.rd 1 false (.wr 2 (.rd 1 true (.wr 3 .done .no)) .no)))⟩)]⟩
theorem T96_sch : T96.sch = [(9, ⟨12, 3, [0, 0, 1, 7], (.rd 0 false (.rd 1 false (.wr 2 (.rd 1 true (.wr 3 .done .no)) .no)))⟩)] := (rfl)
theorem T96_reg : T96.reg = [(0, [0, 2, 4, 6, 7]), (1, [0, 2, 4, 6, 7, 8]), (2, [0, 2, 4, 6, 7, 8, 9]), (3, [0, 2, 4, 6, 7, 8, 9, 17]), (4, [0, 2, 4, 6, 7, 8, 9, 17, 18]), (5, [0, 2, 4, 6, 7, 8, 9, 10, 17]), (6, [0, 2, 4, 6, 7, 9, 10, 11, 13, 17]), (7, [0, 2, 4, 6, 7, 9, 10, 11, 13, 17, 31]), (8, [6, 7, 13]), (9, [6, 7]), (10, [0, 2, 4, 6, 7, 9, 10, 11, 17]), (11, [0, 2, 4, 6, 7, 9, 10, 14, 17]), (12, [0, 2, 4, 6, 7, 9, 10, 14, 17, 45]), (13, [6, 7]), (14, [0, 2, 4, 6, 7, 8, 9, 17]), (15, [0, 2, 4, 6, 7, 8, 9, 17]), (16, [6, 7])] := (rfl)
theorem T96_loops : T96.loops = [(0, [0, 2, 4, 6, 7, 8, 9, 17])] := (rfl)
def T97 : Tab := ⟨[(0, [0, 1, 2]), (1, [6])], [], []⟩
theorem T97_sch : T97.sch = [] := (rfl)
theorem T97_reg : T97.reg = [(0, [0, 1, 2]), (1, [6])] := (rfl)
theorem T97_loops : T97.loops = [] := (rfl)
def T98 : Tab := ⟨[(0, [1]), (1, [2])], [], []⟩
theorem T98_sch : T98.sch = [] := (rfl)
theorem T98_reg : T98.reg = [(0, [1]), (1, [2])] := (rfl)
theorem T98_loops : T98.loops = [] := (rfl)
def T99 : Tab := ⟨[(0, [1, 2]), (1, [3])], [], []⟩
theorem T99_sch : T99.sch = [] := (rfl)
theorem T99_reg : T99.reg = [(0, [1, 2]), (1, [3])] := (rfl)
theorem T99_loops : T99.loops = [] := (rfl)
def T101 : Tab := ⟨[(0, [])], [], []⟩
theorem T101_sch : T101.sch = [] := (rfl)
theorem T101_reg : T101.reg = [(0, [])] := (rfl)
theorem T101_loops : T101.loops = [] := (rfl)
def T102 : Tab := ⟨[(0, [2, 3]), (1, [2, 3, 9]), (2, [11]), (3, [4]), (4, [4]), (5, [4])], [], []⟩
theorem T102_sch : T102.sch = [] := (rfl)
theorem T102_reg : T102.reg = [(0, [2, 3]), (1, [2, 3, 9]), (2, [11]), (3, [4]), (4, [4]), (5, [4])] := (rfl)
theorem T102_loops : T102.loops = [] := (rfl)
def T103 : Tab := ⟨[(0, [0, 1]), (1, [0, 1, 5]), (2, [0, 1, 5, 6]), (3, [0, 1, 6, 11]), (4, [12]), (5, [4]), (6, [4]), (7, [0, 1, 13]), (8, [4]), (9, [0, 1, 16]), (10, [4]), (11, [19]), (12, [4]), (13, [4])], [], []⟩
theorem T103_sch : T103.sch = [] := (rfl)
theorem T103_reg : T103.reg = [(0, [0, 1]), (1, [0, 1, 5]), (2, [0, 1, 5, 6]), (3, [0, 1, 6, 11]), (4, [12]), (5, [4]), (6, [4]), (7, [0, 1, 13]), (8, [4]), (9, [0, 1, 16]), (10, [4]), (11, [19]), (12, [4]), (13, [4])] := (rfl)
theorem T103_loops : T103.loops = [] := (rfl)
def T104 : Tab := ⟨[(0, [0, 1, 2, 3]), (1, [0, 1, 2, 3, 13]), (2, [8]), (3, [0, 1, 2, 3, 15]), (4, [8]), (5, [0, 1, 2, 3, 20]), (6, [0, 1, 2, 3]), (7, [0, 1, 2, 3]), (8, [0, 1, 2, 3, 9]), (9, [0, 1, 2, 3, 9]), (10, [0, 1, 2, 3, 9, 10]), (11, [0, 1, 2, 3, 9, 10, 36]), (12, [0, 1, 2, 3, 9, 10, 11]), (13, [0, 1, 2, 3, 9, 10, 11, 41]), (14, [0, 1, 2, 3, 9, 10, 11]), (15, [0, 1, 2, 3, 9, 10]), (16, [0, 1, 2, 3, 9, 10]), (17, [9, 10]), (18, [8])], [(0, [0, 1, 2, 3, 9, 10])], []⟩
theorem T104_sch : T104.sch = [] := (rfl)
theorem T104_reg : T104.reg = [(0, [0, 1, 2, 3]), (1, [0, 1, 2, 3, 13]), (2, [8]), (3, [0, 1, 2, 3, 15]), (4, [8]), (5, [0, 1, 2, 3, 20]), (6, [0, 1, 2, 3]), (7, [0, 1, 2, 3]), (8, [0, 1, 2, 3, 9]), (9, [0, 1, 2, 3, 9]), (10, [0, 1, 2, 3, 9, 10]), (11, [0, 1, 2, 3, 9, 10, 36]), (12, [0, 1, 2, 3, 9, 10, 11]), (13, [0, 1, 2, 3, 9, 10, 11, 41]), (14, [0, 1, 2, 3, 9, 10, 11]), (15, [0, 1, 2, 3, 9, 10]), (16, [0, 1, 2, 3, 9, 10]), (17, [9, 10]), (18, [8])] := (rfl)
theorem T104_loops : T104.loops = [(0, [0, 1, 2, 3, 9, 10])] := (rfl)
def T106 : Tab := ⟨[(0, [0]), (1, [2])], [], []⟩
theorem T106_sch : T106.sch = [] := (rfl)
theorem T106_reg : T106.reg = [(0, [0]), (1, [2])] := (rfl)
theorem T106_loops : T106.loops = [] := (rfl)
def T107 : Tab := ⟨[(0, [0, 2]), (1, [0, 2, 4]), (2, [0, 2, 4, 9]), (3, [0, 2, 4]), (4, [0, 2, 4, 5]), (5, [0, 2, 4, 5, 16]), (6, [2, 3]), (7, [0, 2, 4]), (8, [2, 3])], [(0, [0, 2, 4])], []⟩
theorem T107_sch : T107.sch = [] := (rfl)
theorem T107_reg : T107.reg = [(0, [0, 2]), (1, [0, 2, 4]), (2, [0, 2, 4, 9]), (3, [0, 2, 4]), (4, [0, 2, 4, 5]), (5, [0, 2, 4, 5, 16]), (6, [2, 3]), (7, [0, 2, 4]), (8, [2, 3])] := (rfl)
theorem T107_loops : T107.loops = [(0, [0, 2, 4])] := (rfl)
def T108 : Tab := ⟨[(0, [0, 1]), (1, [4])], [], []⟩
theorem T108_sch : T108.sch = [] := (rfl)
theorem T108_reg : T108.reg = [(0, [0, 1]), (1, [4])] := (rfl)
theorem T108_loops : T108.loops = [] := (rfl)
def T109 : Tab := ⟨[(0, [0, 1, 2, 8]), (1, [0, 1, 2, 8, 16]), (2, [6, 7, 8]), (3, [2, 8, 9, 10]), (4, [2, 8, 9, 10, 11]), (5, [2, 8, 9, 10, 11, 12]), (6, [2, 8, 9, 10, 11, 12]), (7, [2, 8, 9, 10, 11, 12]), (8, [2, 8, 9, 11, 12, 13]), (9, [2, 8, 9, 11, 12, 13, 32]), (10, [6, 7, 8]), (11, [2, 8, 9, 11, 12, 38]), (12, [2, 8, 9, 10, 11, 12]), (13, [6, 7, 8])], [(0, [2, 8, 9, 10, 11, 12])], []⟩
theorem T109_sch : T109.sch = [] := (rfl)
theorem T109_reg : T109.reg = [(0, [0, 1, 2, 8]), (1, [0, 1, 2, 8, 16]), (2, [6, 7, 8]), (3, [2, 8, 9, 10]), (4, [2, 8, 9, 10, 11]), (5, [2, 8, 9, 10, 11, 12]), (6, [2, 8, 9, 10, 11, 12]), (7, [2, 8, 9, 10, 11, 12]), (8, [2, 8, 9, 11, 12, 13]), (9, [2, 8, 9, 11, 12, 13, 32]), (10, [6, 7, 8]), (11, [2, 8, 9, 11, 12, 38]), (12, [2, 8, 9, 10, 11, 12]), (13, [6, 7, 8])] := (rfl)
theorem T109_loops : T109.loops = [(0, [2, 8, 9, 10, 11, 12])] := (rfl)
def T110 : Tab := ⟨[(0, [1, 2, 3, 4, 8]), (1, [1, 2, 3, 4, 8, 20]), (2, [8, 9]), (3, [3, 8, 10, 11]), (4, [8, 10, 45]), (5, [8, 9]), (6, [8, 9])], [], [(3, ⟨7264, 927, [0, 1, 0, 0, 0, 24, 63, 127, 255, 255, 0, 1535, 4095], (.rd 0 false (.rd 1 false (.rd 2 false (.rd 3 false (.rd 4 false (.wr 5 (.rd 0 true (.rd 1 true (.rd 2 true (.wr 6 (.rd 7 false (.rd 8 false (.rd 9 false (.wr 10 (.rd 7 true (.rd 8 true (.rd 9 true (.wr 11 (.rd 9 true (.wr 12 .done .no)) .no)))) .no)))) (.wr 10 (.rd 0 true (.rd 1 true (.rd 2 true (.wr 6 (.rd 7 false (.rd 8 false (.rd 9 false (.wr 11 (.rd 9 true (.wr 12 .done .no)) .no)))) .no)))) .no))))) (.wr 10 (.rd 0 true (.rd 1 true (.rd 2 true (.rd 3 true (.rd 4 true (.wr 5 (.rd 0 true (.rd 1 true (.rd 2 true (.wr 6 (.rd 7 false (.rd 8 false (.rd 9 false (.wr 11 (.rd 9 true (.wr 12 .done .no)) .no)))) .no)))) .no)))))) .no)))))))⟩)]⟩
theorem T110_sch : T110.sch = [(3, ⟨7264, 927, [0, 1, 0, 0, 0, 24, 63, 127, 255, 255, 0, 1535, 4095], (.rd 0 false (.rd 1 false (.rd 2 false (.rd 3 false (.rd 4 false (.wr 5 (.rd 0 true (.rd 1 true (.rd 2 true (.wr 6 (.rd 7 false (.rd 8 false (.rd 9 false (.wr 10 (.rd 7 true (.rd 8 true (.rd 9 true (.wr 11 (.rd 9 true (.wr 12 .done .no)) .no)))) .no)))) (.wr 10 (.rd 0 true (.rd 1 true (.rd 2 true (.wr 6 (.rd 7 false (.rd 8 false (.rd 9 false (.wr 11 (.rd 9 true (.wr 12 .done .no)) .no)))) .no)))) .no))))) (.wr 10 (.rd 0 true (.rd 1 true (.rd 2 true (.rd 3 true (.rd 4 true (.wr 5 (.rd 0 true (.rd 1 true (.rd 2 true (.wr 6 (.rd 7 false (.rd 8 false (.rd 9 false (.wr 11 (.rd 9 true (.wr 12 .done .no)) .no)))) .no)))) .no)))))) .no)))))))⟩)] := (rfl)
theorem T110_reg : T110.reg = [(0, [1, 2, 3, 4, 8]), (1, [1, 2, 3, 4, 8, 20]), (2, [8, 9]), (3, [3, 8, 10, 11]), (4, [8, 10, 45]), (5, [8, 9]), (6, [8, 9])] := (rfl)
theorem T110_loops : T110.loops = [] := (rfl)
def T111 : Tab := ⟨[(0, [0, 1, 2, 6]), (1, [0, 1, 2, 6, 7, 8]), (2, [0, 1, 2, 6, 7, 8, 13]), (3, [0, 1, 2, 6, 8]), (4, [0, 1, 2, 6, 7, 8]), (5, [0, 1, 2, 6, 7, 8]), (6, [0, 1, 2, 6]), (7, [0, 1, 2, 6, 30]), (8, [0, 1, 2, 6, 7, 8]), (9, [0, 1, 2, 6, 7, 8, 35]), (10, [0, 1, 2, 6, 8]), (11, [0, 1, 2, 6, 7, 8]), (12, [0, 1, 2, 6, 7, 8]), (13, [0, 1, 2, 6, 7, 9]), (14, [0, 1, 2, 6, 7, 9, 54]), (15, [0, 1, 2, 6]), (16, [0, 1, 2, 6])], [(0, [0, 1, 2, 6, 7, 8]), (2, [0, 1, 2, 6]), (4, [0, 1, 2, 6, 7, 8])], []⟩
theorem T111_sch : T111.sch = [] := (rfl)
theorem T111_reg : T111.reg = [(0, [0, 1, 2, 6]), (1, [0, 1, 2, 6, 7, 8]), (2, [0, 1, 2, 6, 7, 8, 13]), (3, [0, 1, 2, 6, 8]), (4, [0, 1, 2, 6, 7, 8]), (5, [0, 1, 2, 6, 7, 8]), (6, [0, 1, 2, 6]), (7, [0, 1, 2, 6, 30]), (8, [0, 1, 2, 6, 7, 8]), (9, [0, 1, 2, 6, 7, 8, 35]), (10, [0, 1, 2, 6, 8]), (11, [0, 1, 2, 6, 7, 8]), (12, [0, 1, 2, 6, 7, 8]), (13, [0, 1, 2, 6, 7, 9]), (14, [0, 1, 2, 6, 7, 9, 54]), (15, [0, 1, 2, 6]), (16, [0, 1, 2, 6])] := (rfl)
theorem T111_loops : T111.loops = [(0, [0, 1, 2, 6, 7, 8]), (2, [0, 1, 2, 6]), (4, [0, 1, 2, 6, 7, 8])] := (rfl)
def T112 : Tab := ⟨[(0, [0]), (1, [2])], [], []⟩
theorem T112_sch : T112.sch = [] := (rfl)
theorem T112_reg : T112.reg = [(0, [0]), (1, [2])] := (rfl)
theorem T112_loops : T112.loops = [] := (rfl)
def T113 : Tab := ⟨[(0, [0, 1]), (1, [0, 1, 5]), (2, [0, 1, 5, 18]), (3, [0, 1]), (4, [0, 1, 6]), (5, [0, 1, 6, 7]), (6, [0, 1, 6, 7, 25]), (7, [0, 1, 6, 7]), (8, [0, 1, 6, 7, 9]), (9, [0, 1, 6, 7, 9]), (10, [0, 1, 6, 7]), (11, [0, 1, 6, 43]), (12, [6]), (13, [4])], [(0, [0, 1, 6, 7])], []⟩
theorem T113_sch : T113.sch = [] := (rfl)
theorem T113_reg : T113.reg = [(0, [0, 1]), (1, [0, 1, 5]), (2, [0, 1, 5, 18]), (3, [0, 1]), (4, [0, 1, 6]), (5, [0, 1, 6, 7]), (6, [0, 1, 6, 7, 25]), (7, [0, 1, 6, 7]), (8, [0, 1, 6, 7, 9]), (9, [0, 1, 6, 7, 9]), (10, [0, 1, 6, 7]), (11, [0, 1, 6, 43]), (12, [6]), (13, [4])] := (rfl)
theorem T113_loops : T113.loops = [(0, [0, 1, 6, 7])] := (rfl)
def T114 : Tab := ⟨[(0, [0, 1]), (1, [0, 1, 9]), (2, [4]), (3, [0, 1, 15]), (4, [4]), (5, [0, 1, 5]), (6, [0, 1, 5, 6]), (7, [0, 1, 5, 6, 24]), (8, [4]), (9, [0, 1, 5, 6]), (10, [0, 1, 5])], [(0, [0, 1, 5])], []⟩
theorem T114_sch : T114.sch = [] := (rfl)
theorem T114_reg : T114.reg = [(0, [0, 1]), (1, [0, 1, 9]), (2, [4]), (3, [0, 1, 15]), (4, [4]), (5, [0, 1, 5]), (6, [0, 1, 5, 6]), (7, [0, 1, 5, 6, 24]), (8, [4]), (9, [0, 1, 5, 6]), (10, [0, 1, 5])] := (rfl)
theorem T114_loops : T114.loops = [(0, [0, 1, 5])] := (rfl)
def T115 : Tab := ⟨[(0, [0, 1]), (1, [4])], [], []⟩
theorem T115_sch : T115.sch = [] := (rfl)
theorem T115_reg : T115.reg = [(0, [0, 1]), (1, [4])] := (rfl)
theorem T115_loops : T115.loops = [] := (rfl)
def T116 : Tab := ⟨[(0, [0]), (1, [0, 3]), (2, [2]), (3, [10]), (4, [2]), (5, [2])], [], []⟩
theorem T116_sch : T116.sch = [] := (rfl)
theorem T116_reg : T116.reg = [(0, [0]), (1, [0, 3]), (2, [2]), (3, [10]), (4, [2]), (5, [2])] := (rfl)
theorem T116_loops : T116.loops = [] := (rfl)
def T117 : Tab := ⟨[(0, [0]), (1, [2])], [], []⟩
theorem T117_sch : T117.sch = [] := (rfl)
theorem T117_reg : T117.reg = [(0, [0]), (1, [2])] := (rfl)
theorem T117_loops : T117.loops = [] := (rfl)
def T119 : Tab := ⟨[(0, [0, 1, 2, 6]), (1, [0, 6, 8, 9]), (2, [0, 6, 8, 9, 20]), (3, [6, 7]), (4, [6, 10]), (5, [6, 7])], [], []⟩
theorem T119_sch : T119.sch = [] := (rfl)
theorem T119_reg : T119.reg = [(0, [0, 1, 2, 6]), (1, [0, 6, 8, 9]), (2, [0, 6, 8, 9, 20]), (3, [6, 7]), (4, [6, 10]), (5, [6, 7])] := (rfl)
theorem T119_loops : T119.loops = [] := (rfl)
def T120 : Tab := ⟨[(0, [0, 1]), (1, [0, 1, 5]), (2, [4]), (3, [0, 1, 12]), (4, [4]), (5, [0, 17]), (6, [4]), (7, [4])], [], []⟩
theorem T120_sch : T120.sch = [] := (rfl)
theorem T120_reg : T120.reg = [(0, [0, 1]), (1, [0, 1, 5]), (2, [4]), (3, [0, 1, 12]), (4, [4]), (5, [0, 17]), (6, [4]), (7, [4])] := (rfl)
theorem T120_loops : T120.loops = [] := (rfl)
def T121 : Tab := ⟨[(0, [0, 1, 2, 3, 8]), (1, [0, 1, 2, 3, 8, 14]), (2, [0, 1, 2, 3, 8]), (3, [0, 1, 2, 3, 8, 9]), (4, [0, 1, 2, 3, 8, 9, 34]), (5, [0, 1, 2, 3, 8, 9]), (6, [0, 1, 2, 3, 8, 9])], [(0, [0, 1, 2, 3, 8]), (2, [0, 1, 2, 3, 8, 9])], [(4, ⟨114688, 16383, [0, 0, 3, 7, 15, 15, 15, 111, 239, 15, 15, 1039, 3599, 7695, 16383, 32767, 65535], (.rd 0 false (.rd 1 false (.rd 2 false (.rd 3 false (.rd 4 false (.rd 5 false (.rd 6 false (.rd 7 false (.rd 8 false (.rd 9 false (.rd 10 false (.rd 11 false (.rd 12 false (.rd 13 false (.wr 14 (.wr 15 (.wr 16 .done .no) .no) .no)))))))))))))))⟩), (6, ⟨229376, 32767, [0, 0, 0, 0, 8, 0, 0, 64, 224, 480, 0, 0, 3072, 7168, 16355, 32739, 65535, 131071], (.rd 0 false (.rd 1 false (.rd 2 false (.rd 3 false (.rd 4 false (.rd 5 false (.rd 6 false (.rd 7 false (.rd 8 false (.rd 9 false (.rd 10 false (.rd 11 false (.rd 12 false (.rd 13 false (.rd 14 false (.wr 15 (.rd 2 true (.rd 3 true (.rd 4 true (.wr 16 (.wr 17 .done .no) .no)))) .no))))))))))))))))⟩)]⟩
theorem T121_sch : T121.sch = [(4, ⟨114688, 16383, [0, 0, 3, 7, 15, 15, 15, 111, 239, 15, 15, 1039, 3599, 7695, 16383, 32767, 65535], (.rd 0 false (.rd 1 false (.rd 2 false (.rd 3 false (.rd 4 false (.rd 5 false (.rd 6 false (.rd 7 false (.rd 8 false (.rd 9 false (.rd 10 false (.rd 11 false (.rd 12 false (.rd 13 false (.wr 14 (.wr 15 (.wr 16 .done .no) .no) .no)))))))))))))))⟩), (6, ⟨229376, 32767, [0, 0, 0, 0, 8, 0, 0, 64, 224, 480, 0, 0, 3072, 7168, 16355, 32739, 65535, 131071], (.rd 0 false (.rd 1 false (.rd 2 false (.rd 3 false (.rd 4 false (.rd 5 false (.rd 6 false (.rd 7 false (.rd 8 false (.rd 9 false (.rd 10 false (.rd 11 false (.rd 12 false (.rd 13 false (.rd 14 false (.wr 15 (.rd 2 true (.rd 3 true (.rd 4 true (.wr 16 (.wr 17 .done .no) .no)))) .no))))))))))))))))⟩)] := (rfl)
theorem T121_reg : T121.reg = [(0, [0, 1, 2, 3, 8]), (1, [0, 1, 2, 3, 8, 14]), (2, [0, 1, 2, 3, 8]), (3, [0, 1, 2, 3, 8, 9]), (4, [0, 1, 2, 3, 8, 9, 34]), (5, [0, 1, 2, 3, 8, 9]), (6, [0, 1, 2, 3, 8, 9])] := (rfl)
theorem T121_loops : T121.loops = [(0, [0, 1, 2, 3, 8]), (2, [0, 1, 2, 3, 8, 9])] := (rfl)
def T122 : Tab := ⟨[(0, [0, 1, 2, 3, 4, 28]), (1, [0, 1, 3, 4, 10]), (2, [0, 1, 4, 10, 11]), (3, [0, 1, 4, 10, 11, 33]), (4, [0, 1, 4, 10, 11, 12]), (5, [0, 1, 4, 10, 11, 12, 50]), (6, [0, 1, 4, 10, 11]), (7, [0, 1, 4, 10, 11]), (8, [0, 10, 13]), (9, [0, 10, 13, 58]), (10, [0, 10, 13]), (11, [0, 10, 13]), (12, [0, 1, 2, 3, 4, 80]), (13, [0, 2, 4, 14]), (14, [0, 2, 4, 14, 15]), (15, [0, 2, 4, 14, 15, 85]), (16, [0, 2, 4, 14, 15, 16]), (17, [0, 2, 4, 14, 15, 16, 103]), (18, [0, 2, 4, 14, 15]), (19, [0, 2, 4, 14, 15]), (20, [0, 14, 17]), (21, [0, 14, 17, 110]), (22, [0, 14, 17]), (23, [0, 14, 17]), (24, [0, 1, 2, 3, 4, 18]), (25, [0, 1, 2, 3, 4, 18, 19]), (26, [0, 1, 2, 3, 4, 18, 19]), (27, [0, 1, 2, 3, 4, 18, 19, 140]), (28, [0, 1, 2, 3, 4, 18, 19, 20]), (29, [0, 1, 2, 3, 4, 18, 19, 20, 21]), (30, [0, 1, 2, 3, 4, 18, 19, 20]), (31, [0, 1, 2, 3, 4, 18, 19, 20, 21]), (32, [0, 1, 2, 3, 4, 18, 19, 20, 21, 22]), (33, [0, 1, 2, 3, 4, 18, 19, 20, 21, 22, 151]), (34, [0, 1, 2, 3, 4, 18, 19, 20, 21, 22, 23]), (35, [0, 1, 2, 3, 4, 18, 19, 20, 21, 22, 23, 171]), (36, [0, 1, 2, 3, 4, 18, 19, 20, 21, 22]), (37, [0, 1, 2, 3, 4, 18, 19, 20, 21, 22]), (38, [0, 1, 2, 3, 4, 18, 20, 24]), (39, [0, 1, 2, 3, 4, 18, 20, 24, 185]), (40, [0, 1, 3, 4, 18, 20, 24]), (41, [0, 1, 3, 4, 18, 20, 24, 199]), (42, [0, 3, 4, 18, 24]), (43, [0, 3, 4, 18, 24, 213]), (44, [])], [(0, [0, 1, 4, 10, 11]), (2, [0, 10, 13]), (4, [0, 2, 4, 14, 15]), (6, [0, 14, 17]), (8, [0, 1, 2, 3, 4, 18, 19, 20, 21, 22])], []⟩
theorem T122_sch : T122.sch = [] := (rfl)
theorem T122_reg : T122.reg = [(0, [0, 1, 2, 3, 4, 28]), (1, [0, 1, 3, 4, 10]), (2, [0, 1, 4, 10, 11]), (3, [0, 1, 4, 10, 11, 33]), (4, [0, 1, 4, 10, 11, 12]), (5, [0, 1, 4, 10, 11, 12, 50]), (6, [0, 1, 4, 10, 11]), (7, [0, 1, 4, 10, 11]), (8, [0, 10, 13]), (9, [0, 10, 13, 58]), (10, [0, 10, 13]), (11, [0, 10, 13]), (12, [0, 1, 2, 3, 4, 80]), (13, [0, 2, 4, 14]), (14, [0, 2, 4, 14, 15]), (15, [0, 2, 4, 14, 15, 85]), (16, [0, 2, 4, 14, 15, 16]), (17, [0, 2, 4, 14, 15, 16, 103]), (18, [0, 2, 4, 14, 15]), (19, [0, 2, 4, 14, 15]), (20, [0, 14, 17]), (21, [0, 14, 17, 110]), (22, [0, 14, 17]), (23, [0, 14, 17]), (24, [0, 1, 2, 3, 4, 18]), (25, [0, 1, 2, 3, 4, 18, 19]), (26, [0, 1, 2, 3, 4, 18, 19]), (27, [0, 1, 2, 3, 4, 18, 19, 140]), (28, [0, 1, 2, 3, 4, 18, 19, 20]), (29, [0, 1, 2, 3, 4, 18, 19, 20, 21]), (30, [0, 1, 2, 3, 4, 18, 19, 20]), (31, [0, 1, 2, 3, 4, 18, 19, 20, 21]), (32, [0, 1, 2, 3, 4, 18, 19, 20, 21, 22]), (33, [0, 1, 2, 3, 4, 18, 19, 20, 21, 22, 151]), (34, [0, 1, 2, 3, 4, 18, 19, 20, 21, 22, 23]), (35, [0, 1, 2, 3, 4, 18, 19, 20, 21, 22, 23, 171]), (36, [0, 1, 2, 3, 4, 18, 19, 20, 21, 22]), (37, [0, 1, 2, 3, 4, 18, 19, 20, 21, 22]), (38, [0, 1, 2, 3, 4, 18, 20, 24]), (39, [0, 1, 2, 3, 4, 18, 20, 24, 185]), (40, [0, 1, 3, 4, 18, 20, 24]), (41, [0, 1, 3, 4, 18, 20, 24, 199]), (42, [0, 3, 4, 18, 24]), (43, [0, 3, 4, 18, 24, 213]), (44, [])] := (rfl)
theorem T122_loops : T122.loops = [(0, [0, 1, 4, 10, 11]), (2, [0, 10, 13]), (4, [0, 2, 4, 14, 15]), (6, [0, 14, 17]), (8, [0, 1, 2, 3, 4, 18, 19, 20, 21, 22])] := (rfl)
def T123 : Tab := ⟨[(0, [0, 2]), (1, [2, 4]), (2, [2, 4, 6]), (3, [2, 4]), (4, [2])], [(0, [2, 4])], []⟩
theorem T123_sch : T123.sch = [] := (rfl)
theorem T123_reg : T123.reg = [(0, [0, 2]), (1, [2, 4]), (2, [2, 4, 6]), (3, [2, 4]), (4, [2])] := (rfl)
theorem T123_loops : T123.loops = [(0, [2, 4])] := (rfl)
def T124 : Tab := ⟨[(0, [0]), (1, [0, 10]), (2, [2, 3]), (3, [2, 3])], [], []⟩
theorem T124_sch : T124.sch = [] := (rfl)
theorem T124_reg : T124.reg = [(0, [0]), (1, [0, 10]), (2, [2, 3]), (3, [2, 3])] := (rfl)
theorem T124_loops : T124.loops = [] := (rfl)
def T126 : Tab := ⟨[(0, [0, 1]), (1, [0, 1, 5]), (2, [0, 1, 5, 16]), (3, [4]), (4, [0, 1, 5, 24]), (5, [4]), (6, [0, 1, 5, 31]), (7, [4]), (8, [0, 1, 5, 36]), (9, [4]), (10, [0, 1, 5, 6]), (11, [0, 1, 5, 6, 7]), (12, [0, 1, 5, 6, 7, 8]), (13, [0, 1, 5, 6, 7, 8, 9]), (14, [0, 1, 5, 6, 7, 8, 9, 10]), (15, [0, 1, 5, 6, 7, 8, 9, 10, 59]), (16, [0, 1, 5, 6, 7, 8, 9, 10, 64]), (17, [0, 1, 5, 6, 7, 8, 9, 10, 11]), (18, [0, 1, 5, 6, 7, 8, 9, 10, 11, 73]), (19, [4]), (20, [0, 1, 5, 6, 7, 8, 9, 10]), (21, [0, 1, 5, 6, 7, 8, 9, 10, 93]), (22, [4]), (23, [0, 1, 5, 6, 7, 8, 9, 10]), (24, [0, 1, 5, 6, 7, 8, 9, 10]), (25, [0, 1, 5, 6, 7, 8, 9, 10, 107]), (26, [8, 12]), (27, [8, 12, 114]), (28, [4]), (29, [4]), (30, [0, 1, 5, 6, 7, 8, 9, 10, 132]), (31, [8, 13]), (32, [8, 13, 139]), (33, [4]), (34, [4]), (35, [4])], [(1, [0, 1, 5, 6, 7, 8, 9, 10])], []⟩
theorem T126_sch : T126.sch = [] := (rfl)
theorem T126_reg : T126.reg = [(0, [0, 1]), (1, [0, 1, 5]), (2, [0, 1, 5, 16]), (3, [4]), (4, [0, 1, 5, 24]), (5, [4]), (6, [0, 1, 5, 31]), (7, [4]), (8, [0, 1, 5, 36]), (9, [4]), (10, [0, 1, 5, 6]), (11, [0, 1, 5, 6, 7]), (12, [0, 1, 5, 6, 7, 8]), (13, [0, 1, 5, 6, 7, 8, 9]), (14, [0, 1, 5, 6, 7, 8, 9, 10]), (15, [0, 1, 5, 6, 7, 8, 9, 10, 59]), (16, [0, 1, 5, 6, 7, 8, 9, 10, 64]), (17, [0, 1, 5, 6, 7, 8, 9, 10, 11]), (18, [0, 1, 5, 6, 7, 8, 9, 10, 11, 73]), (19, [4]), (20, [0, 1, 5, 6, 7, 8, 9, 10]), (21, [0, 1, 5, 6, 7, 8, 9, 10, 93]), (22, [4]), (23, [0, 1, 5, 6, 7, 8, 9, 10]), (24, [0, 1, 5, 6, 7, 8, 9, 10]), (25, [0, 1, 5, 6, 7, 8, 9, 10, 107]), (26, [8, 12]), (27, [8, 12, 114]), (28, [4]), (29, [4]), (30, [0, 1, 5, 6, 7, 8, 9, 10, 132]), (31, [8, 13]), (32, [8, 13, 139]), (33, [4]), (34, [4]), (35, [4])] := (rfl)
theorem T126_loops : T126.loops = [(1, [0, 1, 5, 6, 7, 8, 9, 10])] := (rfl)
def T127 : Tab := ⟨[(0, [0, 2]), (1, [0, 2, 4]), (2, [2, 4, 26]), (3, [2, 3]), (4, [2, 3])], [], []⟩
theorem T127_sch : T127.sch = [] := (rfl)
theorem T127_reg : T127.reg = [(0, [0, 2]), (1, [0, 2, 4]), (2, [2, 4, 26]), (3, [2, 3]), (4, [2, 3])] := (rfl)
theorem T127_loops : T127.loops = [] := (rfl)
def T128 : Tab := ⟨[(0, [0, 2, 3, 4, 10]), (1, [0, 2, 4, 10, 11]), (2, [0, 2, 4, 10, 11, 20]), (3, [0, 2, 4, 10, 11, 23]), (4, [0, 2, 4, 10, 11]), (5, [0, 2, 4, 10, 11]), (6, [0, 2, 4, 10, 11]), (7, [0, 2, 4, 10, 11]), (8, [])], [(0, [0, 2, 4, 10, 11])], []⟩
theorem T128_sch : T128.sch = [] := (rfl)
theorem T128_reg : T128.reg = [(0, [0, 2, 3, 4, 10]), (1, [0, 2, 4, 10, 11]), (2, [0, 2, 4, 10, 11, 20]), (3, [0, 2, 4, 10, 11, 23]), (4, [0, 2, 4, 10, 11]), (5, [0, 2, 4, 10, 11]), (6, [0, 2, 4, 10, 11]), (7, [0, 2, 4, 10, 11]), (8, [])] := (rfl)
theorem T128_loops : T128.loops = [(0, [0, 2, 4, 10, 11])] := (rfl)
def T129 : Tab := ⟨[(0, [0]), (1, [0, 4]), (2, [0, 4, 16]), (3, [2, 3]), (4, [0, 4, 5]), (5, [0, 4, 5, 6]), (6, [0, 4, 5, 6, 23]), (7, [0, 7]), (8, [2, 3]), (9, [0, 4, 5, 6, 8]), (10, [0, 4, 5, 8, 9]), (11, [0, 5, 8, 9, 45]), (12, [2, 3]), (13, [0, 5, 8, 9, 10]), (14, [0, 5, 8, 10, 57]), (15, [2, 3]), (16, [0, 5, 8, 10, 59]), (17, [2, 3]), (18, [0, 5, 8, 10, 11]), (19, [0, 5, 8, 10, 11, 75]), (20, [2, 3]), (21, [0, 5, 10, 11, 77]), (22, [2, 3]), (23, [5, 10, 11, 12]), (24, [5, 10, 11, 12, 98]), (25, [2, 3]), (26, [2, 3])], [], []⟩
theorem T129_sch : T129.sch = [] := (rfl)
theorem T129_reg : T129.reg = [(0, [0]), (1, [0, 4]), (2, [0, 4, 16]), (3, [2, 3]), (4, [0, 4, 5]), (5, [0, 4, 5, 6]), (6, [0, 4, 5, 6, 23]), (7, [0, 7]), (8, [2, 3]), (9, [0, 4, 5, 6, 8]), (10, [0, 4, 5, 8, 9]), (11, [0, 5, 8, 9, 45]), (12, [2, 3]), (13, [0, 5, 8, 9, 10]), (14, [0, 5, 8, 10, 57]), (15, [2, 3]), (16, [0, 5, 8, 10, 59]), (17, [2, 3]), (18, [0, 5, 8, 10, 11]), (19, [0, 5, 8, 10, 11, 75]), (20, [2, 3]), (21, [0, 5, 10, 11, 77]), (22, [2, 3]), (23, [5, 10, 11, 12]), (24, [5, 10, 11, 12, 98]), (25, [2, 3]), (26, [2, 3])] := (rfl)
theorem T129_loops : T129.loops = [] := (rfl)
def T130 : Tab := ⟨[(0, [0, 1]), (1, [0, 1, 5, 6]), (2, [0, 1, 5, 6, 7]), (3, [0, 1, 5, 6, 7, 8]), (4, [0, 1, 5, 6, 7, 8, 9]), (5, [0, 1, 5, 6, 7, 8, 9, 20]), (6, [0, 1, 5, 6, 7, 8, 9]), (7, [0, 1, 5, 6, 7, 8, 9]), (8, [0, 1, 5, 6, 7, 8, 39]), (9, [4]), (10, [0, 1, 5, 6, 7, 8, 10]), (11, [0, 1, 5, 6, 7, 8, 10, 44]), (12, [0, 1, 5, 6, 7, 8, 10]), (13, [0, 1, 5, 6, 7, 8, 10]), (14, [0, 1, 5, 6, 7, 8, 10]), (15, [0, 1, 5, 6, 7, 8, 10]), (16, [0, 1, 5, 6, 7, 8, 10, 77]), (17, [4]), (18, [4])], [(0, [0, 1, 5, 6, 7, 8, 9]), (2, [0, 1, 5, 6, 7, 8, 10])], []⟩
theorem T130_sch : T130.sch = [] := (rfl)
theorem T130_reg : T130.reg = [(0, [0, 1]), (1, [0, 1, 5, 6]), (2, [0, 1, 5, 6, 7]), (3, [0, 1, 5, 6, 7, 8]), (4, [0, 1, 5, 6, 7, 8, 9]), (5, [0, 1, 5, 6, 7, 8, 9, 20]), (6, [0, 1, 5, 6, 7, 8, 9]), (7, [0, 1, 5, 6, 7, 8, 9]), (8, [0, 1, 5, 6, 7, 8, 39]), (9, [4]), (10, [0, 1, 5, 6, 7, 8, 10]), (11, [0, 1, 5, 6, 7, 8, 10, 44]), (12, [0, 1, 5, 6, 7, 8, 10]), (13, [0, 1, 5, 6, 7, 8, 10]), (14, [0, 1, 5, 6, 7, 8, 10]), (15, [0, 1, 5, 6, 7, 8, 10]), (16, [0, 1, 5, 6, 7, 8, 10, 77]), (17, [4]), (18, [4])] := (rfl)
theorem T130_loops : T130.loops = [(0, [0, 1, 5, 6, 7, 8, 9]), (2, [0, 1, 5, 6, 7, 8, 10])] := (rfl)
def T131 : Tab := ⟨[(0, [0, 1, 2, 3, 10]), (1, [0, 1, 2, 3, 10, 13]), (2, [0, 1, 2, 3, 10]), (3, [0, 1, 2, 3, 10])], [(0, [0, 1, 2, 3, 10])], []⟩
theorem T131_sch : T131.sch = [] := (rfl)
theorem T131_reg : T131.reg = [(0, [0, 1, 2, 3, 10]), (1, [0, 1, 2, 3, 10, 13]), (2, [0, 1, 2, 3, 10]), (3, [0, 1, 2, 3, 10])] := (rfl)
theorem T131_loops : T131.loops = [(0, [0, 1, 2, 3, 10])] := (rfl)
def T132 : Tab := ⟨[(0, [0]), (1, [0, 4]), (2, [0, 4, 5]), (3, [0, 4, 5, 12]), (4, [0, 4, 5]), (5, [0, 4, 5]), (6, [0, 4, 6, 7]), (7, [4, 6, 7, 8]), (8, [4, 6, 7, 8, 25]), (9, [4, 6, 7, 8]), (10, [4, 6, 7, 8, 30]), (11, [4, 6, 7, 8]), (12, [4, 6, 7, 8]), (13, [2, 3])], [(0, [0, 4, 5]), (2, [4, 6, 7, 8])], []⟩
theorem T132_sch : T132.sch = [] := (rfl)
theorem T132_reg : T132.reg = [(0, [0]), (1, [0, 4]), (2, [0, 4, 5]), (3, [0, 4, 5, 12]), (4, [0, 4, 5]), (5, [0, 4, 5]), (6, [0, 4, 6, 7]), (7, [4, 6, 7, 8]), (8, [4, 6, 7, 8, 25]), (9, [4, 6, 7, 8]), (10, [4, 6, 7, 8, 30]), (11, [4, 6, 7, 8]), (12, [4, 6, 7, 8]), (13, [2, 3])] := (rfl)
theorem T132_loops : T132.loops = [(0, [0, 4, 5]), (2, [4, 6, 7, 8])] := (rfl)
def T158 : Tab := ⟨[(0, [])], [], []⟩
theorem T158_sch : T158.sch = [] := (rfl)
theorem T158_reg : T158.reg = [(0, [])] := (rfl)
theorem T158_loops : T158.loops = [] := (rfl)
attribute [go_sem] T2_reg T2_loops T2_sch T3_reg T3_loops T3_sch T4_reg T4_loops T4_sch T5_reg T5_loops T5_sch T6_reg T6_loops T6_sch T7_reg T7_loops T7_sch T8_reg T8_loops T8_sch T9_reg T9_loops T9_sch T10_reg T10_loops T10_sch T11_reg T11_loops T11_sch T12_reg T12_loops T12_sch T13_reg T13_loops T13_sch T14_reg T14_loops T14_sch T15_reg T15_loops T15_sch T16_reg T16_loops T16_sch T17_reg T17_loops T17_sch T18_reg T18_loops T18_sch T19_reg T19_loops T19_sch T20_reg T20_loops T20_sch T21_reg T21_loops T21_sch T22_reg T22_loops T22_sch T23_reg T23_loops T23_sch T24_reg T24_loops T24_sch T25_reg T25_loops T25_sch T26_reg T26_loops T26_sch T27_reg T27_loops T27_sch T28_reg T28_loops T28_sch T29_reg T29_loops T29_sch T30_reg T30_loops T30_sch T31_reg T31_loops T31_sch T32_reg T32_loops T32_sch T33_reg T33_loops T33_sch T34_reg T34_loops T34_sch T35_reg T35_loops T35_sch T36_reg T36_loops T36_sch T37_reg T37_loops T37_sch T38_reg T38_loops T38_sch T39_reg T39_loops T39_sch T40_reg T40_loops T40_sch T41_reg T41_loops T41_sch T42_reg T42_loops T42_sch T43_reg T43_loops T43_sch T44_reg T44_loops T44_sch T45_reg T45_loops T45_sch T46_reg T46_loops T46_sch T47_reg T47_loops T47_sch T48_reg T48_loops T48_sch T49_reg T49_loops T49_sch T50_reg T50_loops T50_sch T51_reg T51_loops T51_sch T52_reg T52_loops T52_sch T53_reg T53_loops T53_sch T54_reg T54_loops T54_sch T55_reg T55_loops T55_sch T56_reg T56_loops T56_sch T57_reg T57_loops T57_sch T58_reg T58_loops T58_sch T59_reg T59_loops T59_sch T60_reg T60_loops T60_sch T61_reg T61_loops T61_sch T62_reg T62_loops T62_sch T63_reg T63_loops T63_sch T64_reg T64_loops T64_sch T65_reg T65_loops T65_sch T66_reg T66_loops T66_sch T67_reg T67_loops T67_sch T68_reg T68_loops T68_sch T69_reg T69_loops T69_sch T70_reg T70_loops T70_sch T71_reg T71_loops T71_sch T72_reg T72_loops T72_sch T73_reg T73_loops T73_sch T74_reg T74_loops T74_sch T75_reg T75_loops T75_sch T76_reg T76_loops T76_sch T77_reg T77_loops T77_sch T78_reg T78_loops T78_sch T79_reg T79_loops T79_sch T80_reg T80_loops T80_sch T81_reg T81_loops T81_sch T82_reg T82_loops T82_sch T83_reg T83_loops T83_sch T84_reg T84_loops T84_sch T85_reg T85_loops T85_sch T86_reg T86_loops T86_sch T87_reg T87_loops T87_sch T88_reg T88_loops T88_sch T89_reg T89_loops T89_sch T90_reg T90_loops T90_sch T91_reg T91_loops T91_sch T92_reg T92_loops T92_sch T93_reg T93_loops T93_sch T94_reg T94_loops T94_sch T95_reg T95_loops T95_sch T96_reg T96_loops T96_sch T97_reg T97_loops T97_sch T98_reg T98_loops T98_sch T99_reg T99_loops T99_sch T101_reg T101_loops T101_sch T102_reg T102_loops T102_sch T103_reg T103_loops T103_sch T104_reg T104_loops T104_sch T106_reg T106_loops T106_sch T107_reg T107_loops T107_sch T108_reg T108_loops T108_sch T109_reg T109_loops T109_sch T110_reg T110_loops T110_sch T111_reg T111_loops T111_sch T112_reg T112_loops T112_sch T113_reg T113_loops T113_sch T114_reg T114_loops T114_sch T115_reg T115_loops T115_sch T116_reg T116_loops T116_sch T117_reg T117_loops T117_sch T119_reg T119_loops T119_sch T120_reg T120_loops T120_sch T121_reg T121_loops T121_sch T122_reg T122_loops T122_sch T123_reg T123_loops T123_sch T124_reg T124_loops T124_sch T126_reg T126_loops T126_sch T127_reg T127_loops T127_sch T128_reg T128_loops T128_sch T129_reg T129_loops T129_sch T130_reg T130_loops T130_sch T131_reg T131_loops T131_sch T132_reg T132_loops T132_sch T158_reg T158_loops T158_sch
theorem mixed : Tryz.prog.follows .mixedOrders = true := by kernel_rfl
end Go.Eng
