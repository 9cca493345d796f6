/-
  THE ENGINE: strings: length, bytes, parts, comparison, range.
-/
import Derived.Test.YtaijcllgdlalpaaGreatDoorZj1
import Derived.Test.YtaijcllgdlalpaaGreatDoorProg
import Derived.KernelRfl
set_option linter.unusedSimpArgs false
set_option linter.unusedVariables false
set_option maxRecDepth 16000
set_option maxHeartbeats 4000000
namespace Go.Eng
open Go
def isStrB (P : Program) (t : TypeId) : Bool := match P.underlying t with | some .string => true | _ => false
section
variable {P : Program} {h : Heap} {t u : TypeId} {s : ByteArray}
theorem isStrB_of (ht : isStrB P t = true) : P.underlying t = some .string := by
  unfold isStrB at ht
  split at ht
  · assumption
  · cases ht
theorem runD_len_str (ht : isStrB P t = true) : runD P (iLen #[t] u #[.string s]) h = some (.int .i64 s.size) := by
  unfold iLen Builtin.len_
  simp only [List.getElem?_toArray, List.getElem?_cons_zero]
  rw [runD_bind, runD_underlying (isStrB_of ht)]
  rfl
theorem runD_index_str {k : IntKind} {i : Nat} {b : UInt8} (ht : isStrB P t = true) (hb : s[i]? = some b) : runD P (iIndex t (.string s) (.int k i)) h = some (.int .u8 b.toNat) := by
  unfold iIndex Instr.index
  simp only [asIntOf, pure_bind]
  rw [runD_bind, runD_underlying (isStrB_of ht)]
  simp only [Option.bind_some]
  rw [if_pos (Int.natCast_nonneg i), Int.toNat_natCast, hb]
  rfl
theorem runD_slice_str {lo hi : Option Value} {l m : Nat} (ht : isStrB P t = true) (hb : runD P (Instr.sliceBounds false s.size s.size lo hi none) h = some (l, m, s.size)) : runD P (iSliceAt t (.string s) lo hi none) h = some (.string (s.extract l m)) := by
  unfold iSliceAt Instr.sliceAt
  rw [runD_bind, runD_underlying (isStrB_of ht)]
  simp only [Option.bind_some]
  unfold Instr.slice
  rw [runD_bind, runD_underlying (isStrB_of ht)]
  simp only [Option.bind_some, Option.isSome_none, Bool.false_eq_true, if_false]
  rw [runD_bind, hb]
  rfl
theorem binD_str_eq {x y : Operand} {a b : ByteArray} : binD P h .eql t x y (.string a) (.string b) = some (.bool (a.toList == b.toList)) := rfl
theorem binD_str_ne {x y : Operand} {a b : ByteArray} : binD P h .neq t x y (.string a) (.string b) = some (.bool (!(a.toList == b.toList))) := rfl
theorem runH_rangeStr {K : Value → Heap → Prop} (ht : isStrB P t = true) : runH P (iRange t (.string s)) h K = K (.pointer (some ⟨h.size, 0, none⟩)) (h.push (.stringIter s 0)) := by
  unfold iRange Instr.range
  rw [runH_bind, runH_underlying (isStrB_of ht)]
  rfl
theorem runH_nextStr {r pos : Nat} {ty : TypeId} {K : Value → Heap → Prop} (hr : h[r]? = some (.stringIter s pos))
    (h0 : s.size ≤ pos → K (.tuple #[.bool false]) h)
    (h1 : pos < s.size → K (.tuple #[.bool true, .int .i64 pos, .int .i32 (Utf8.decode s pos).1]) (h.setIfInBounds r (.stringIter s (pos + (Utf8.decode s pos).2)))) :
    runH P (iNext (.pointer (some ⟨r, 0, none⟩)) true ty) h K := by
  unfold iNext Instr.next
  try simp only
  rw [runH_bind, runH_of_runD _ (runD_getObj hr (by simp))]
  try simp only
  have hset : ∀ (o : Obj) (K : Unit → Heap → Prop), (∀ c e f, o ≠ .cells c e f) → runH P (setObj r o) h K = K () (h.setIfInBounds r o) := fun o K _ => by
    simp only [setObj, runH, hr]
  by_cases hp : pos < s.size
  · rw [if_pos hp]
    rw [runH_bind, hset _ _ (by simp)]
    exact h1 hp
  · rw [if_neg hp]
    exact h0 (by omega)
attribute [go_sem ↓] runD_len_str
attribute [go_sem] binD_str_eq binD_str_ne
end
end Go.Eng
/-
  FACTS ON THE PROGRAM: types, fields, functions (closed, each reckoned by the kernel), and each function's table of live slots. Printed by mk.py.
-/
namespace Go.Eng
open Go Go.Proofs
theorem tsz_3 : tsz Tryz.prog 3 = some 1 := by kernel_rfl
theorem aggB_3 : aggB Tryz.prog 3 = some false := by kernel_rfl
theorem isInt_3 : isIntB Tryz.prog 3 = true := by kernel_rfl
theorem intK_3 : intKD Tryz.prog 3 = .i64 := by kernel_rfl
theorem tsz_4 : tsz Tryz.prog 4 = some 1 := by kernel_rfl
theorem aggB_4 : aggB Tryz.prog 4 = some false := by kernel_rfl
theorem tsz_5 : tsz Tryz.prog 5 = some 1 := by kernel_rfl
theorem aggB_5 : aggB Tryz.prog 5 = some false := by kernel_rfl
theorem tbytes_5 : tbytes Tryz.prog 5 = some 1 := by kernel_rfl
theorem isInt_5 : isIntB Tryz.prog 5 = true := by kernel_rfl
theorem intK_5 : intKD Tryz.prog 5 = .u8 := by kernel_rfl
theorem tzeroD_5 : tzeroD Tryz.prog 5 = .int .u8 0 := by kernel_rfl
theorem tzero_5 : tzero Tryz.prog 5 = some (.int .u8 0) := by kernel_rfl
theorem tsz_9 : tsz Tryz.prog 9 = some 1 := by kernel_rfl
theorem aggB_9 : aggB Tryz.prog 9 = some false := by kernel_rfl
theorem tbytes_9 : tbytes Tryz.prog 9 = some 16 := by kernel_rfl
theorem isStr_9 : isStrB Tryz.prog 9 = true := by kernel_rfl
theorem aggB_22 : aggB Tryz.prog 22 = some false := by kernel_rfl
theorem isSlice_22 : isSliceB Tryz.prog 22 = true := by kernel_rfl
theorem ssz_22 : sliceSz Tryz.prog 22 = 6 := by kernel_rfl
theorem selem_22 : sliceElem Tryz.prog 22 = 92 := by kernel_rfl
theorem aggB_23 : aggB Tryz.prog 23 = some false := by kernel_rfl
theorem isSlice_23 : isSliceB Tryz.prog 23 = true := by kernel_rfl
theorem ssz_23 : sliceSz Tryz.prog 23 = 2 := by kernel_rfl
theorem selem_23 : sliceElem Tryz.prog 23 = 96 := by kernel_rfl
theorem tsz_25 : tsz Tryz.prog 25 = some 5 := by kernel_rfl
theorem aggB_25 : aggB Tryz.prog 25 = some true := by kernel_rfl
theorem tszD_25 : tszD Tryz.prog 25 = 5 := by kernel_rfl
theorem tzeroD_25 : tzeroD Tryz.prog 25 = .agg #[.slice none 0 0, .slice none 0 0, .bool false, .int .i64 0, .int .i64 0] := by kernel_rfl
theorem tzero_25 : tzero Tryz.prog 25 = some (.agg #[.slice none 0 0, .slice none 0 0, .bool false, .int .i64 0, .int .i64 0]) := by kernel_rfl
theorem tsz_26 : tsz Tryz.prog 26 = some 1 := by kernel_rfl
theorem aggB_26 : aggB Tryz.prog 26 = some false := by kernel_rfl
theorem isInt_26 : isIntB Tryz.prog 26 = true := by kernel_rfl
theorem intK_26 : intKD Tryz.prog 26 = .u32 := by kernel_rfl
theorem isArr_27 : isArrB Tryz.prog 27 = true := by kernel_rfl
theorem arrLen_27 : arrLen Tryz.prog 27 = 16 := by kernel_rfl
theorem arrSz_27 : arrSz Tryz.prog 27 = 1 := by kernel_rfl
theorem isArr_28 : isArrB Tryz.prog 28 = true := by kernel_rfl
theorem arrLen_28 : arrLen Tryz.prog 28 = 8 := by kernel_rfl
theorem arrSz_28 : arrSz Tryz.prog 28 = 1 := by kernel_rfl
theorem tsz_30 : tsz Tryz.prog 30 = some 25 := by kernel_rfl
theorem aggB_30 : aggB Tryz.prog 30 = some true := by kernel_rfl
theorem tszD_30 : tszD Tryz.prog 30 = 25 := by kernel_rfl
theorem tzeroD_30 : tzeroD Tryz.prog 30 = .agg #[.int .u32 0, .int .u32 0, .int .u32 0, .int .u32 0, .int .u32 0, .int .u32 0, .int .u32 0, .int .u32 0, .int .u32 0, .int .u32 0, .int .u32 0, .int .u32 0, .int .u32 0, .int .u32 0, .int .u32 0, .int .u32 0, .int .i64 0, .int .u32 0, .int .u32 0, .int .u32 0, .int .u32 0, .int .u32 0, .int .u32 0, .int .u32 0, .int .u32 0] := by kernel_rfl
theorem tzero_30 : tzero Tryz.prog 30 = some (.agg #[.int .u32 0, .int .u32 0, .int .u32 0, .int .u32 0, .int .u32 0, .int .u32 0, .int .u32 0, .int .u32 0, .int .u32 0, .int .u32 0, .int .u32 0, .int .u32 0, .int .u32 0, .int .u32 0, .int .u32 0, .int .u32 0, .int .i64 0, .int .u32 0, .int .u32 0, .int .u32 0, .int .u32 0, .int .u32 0, .int .u32 0, .int .u32 0, .int .u32 0]) := by kernel_rfl
theorem aggB_32 : aggB Tryz.prog 32 = some false := by kernel_rfl
theorem isPtr_32 : isPtrB Tryz.prog 32 = true := by kernel_rfl
theorem aggB_33 : aggB Tryz.prog 33 = some false := by kernel_rfl
theorem isPtr_33 : isPtrB Tryz.prog 33 = true := by kernel_rfl
theorem tsz_34 : tsz Tryz.prog 34 = some 1 := by kernel_rfl
theorem aggB_34 : aggB Tryz.prog 34 = some false := by kernel_rfl
theorem isPtr_34 : isPtrB Tryz.prog 34 = true := by kernel_rfl
theorem aggB_36 : aggB Tryz.prog 36 = some true := by kernel_rfl
theorem tszD_36 : tszD Tryz.prog 36 = 3 := by kernel_rfl
theorem aggB_37 : aggB Tryz.prog 37 = some false := by kernel_rfl
theorem aggB_38 : aggB Tryz.prog 38 = some false := by kernel_rfl
theorem tsz_39 : tsz Tryz.prog 39 = some 1 := by kernel_rfl
theorem aggB_39 : aggB Tryz.prog 39 = some false := by kernel_rfl
theorem isPtr_39 : isPtrB Tryz.prog 39 = true := by kernel_rfl
theorem aggB_41 : aggB Tryz.prog 41 = some true := by kernel_rfl
theorem tszD_41 : tszD Tryz.prog 41 = 3 := by kernel_rfl
theorem tsz_43 : tsz Tryz.prog 43 = some 6 := by kernel_rfl
theorem aggB_43 : aggB Tryz.prog 43 = some true := by kernel_rfl
theorem tszD_43 : tszD Tryz.prog 43 = 6 := by kernel_rfl
theorem tzeroD_43 : tzeroD Tryz.prog 43 = .agg #[.pointer none, .pointer none, .pointer none, .pointer none, .pointer none, .pointer none] := by kernel_rfl
theorem tzero_43 : tzero Tryz.prog 43 = some (.agg #[.pointer none, .pointer none, .pointer none, .pointer none, .pointer none, .pointer none]) := by kernel_rfl
theorem tsz_47 : tsz Tryz.prog 47 = some 5 := by kernel_rfl
theorem aggB_47 : aggB Tryz.prog 47 = some true := by kernel_rfl
theorem tszD_47 : tszD Tryz.prog 47 = 5 := by kernel_rfl
theorem tzeroD_47 : tzeroD Tryz.prog 47 = .agg #[.int .i64 0, .int .i64 0, .int .i64 0, .bool false, .int .i64 0] := by kernel_rfl
theorem tzero_47 : tzero Tryz.prog 47 = some (.agg #[.int .i64 0, .int .i64 0, .int .i64 0, .bool false, .int .i64 0]) := by kernel_rfl
theorem tsz_51 : tsz Tryz.prog 51 = some 4 := by kernel_rfl
theorem aggB_51 : aggB Tryz.prog 51 = some true := by kernel_rfl
theorem tszD_51 : tszD Tryz.prog 51 = 4 := by kernel_rfl
theorem tzeroD_51 : tzeroD Tryz.prog 51 = .agg #[.bool false, .bool false, .int .i64 0, .int .i64 0] := by kernel_rfl
theorem tzero_51 : tzero Tryz.prog 51 = some (.agg #[.bool false, .bool false, .int .i64 0, .int .i64 0]) := by kernel_rfl
theorem tsz_56 : tsz Tryz.prog 56 = some 8 := by kernel_rfl
theorem aggB_56 : aggB Tryz.prog 56 = some true := by kernel_rfl
theorem tszD_56 : tszD Tryz.prog 56 = 8 := by kernel_rfl
theorem tzeroD_56 : tzeroD Tryz.prog 56 = .agg #[.int .i64 0, .int .i64 0, .int .i64 0, .int .i64 0, .int .i64 0, .int .i64 0, .bool false, .int .i64 0] := by kernel_rfl
theorem tzero_56 : tzero Tryz.prog 56 = some (.agg #[.int .i64 0, .int .i64 0, .int .i64 0, .int .i64 0, .int .i64 0, .int .i64 0, .bool false, .int .i64 0]) := by kernel_rfl
theorem aggB_60 : aggB Tryz.prog 60 = some false := by kernel_rfl
theorem isSlice_60 : isSliceB Tryz.prog 60 = true := by kernel_rfl
theorem ssz_60 : sliceSz Tryz.prog 60 = 1 := by kernel_rfl
theorem selem_60 : sliceElem Tryz.prog 60 = 5 := by kernel_rfl
theorem isSlice_70 : isSliceB Tryz.prog 70 = true := by kernel_rfl
theorem ssz_70 : sliceSz Tryz.prog 70 = 4 := by kernel_rfl
theorem tsz_72 : tsz Tryz.prog 72 = some 4 := by kernel_rfl
theorem aggB_72 : aggB Tryz.prog 72 = some true := by kernel_rfl
theorem tszD_72 : tszD Tryz.prog 72 = 4 := by kernel_rfl
theorem tzeroD_72 : tzeroD Tryz.prog 72 = .agg #[.int .i64 0, .int .i64 0, .int .i64 0, .bool false] := by kernel_rfl
theorem tzero_72 : tzero Tryz.prog 72 = some (.agg #[.int .i64 0, .int .i64 0, .int .i64 0, .bool false]) := by kernel_rfl
theorem tsz_78 : tsz Tryz.prog 78 = some 4 := by kernel_rfl
theorem aggB_78 : aggB Tryz.prog 78 = some true := by kernel_rfl
theorem tszD_78 : tszD Tryz.prog 78 = 4 := by kernel_rfl
theorem tzeroD_78 : tzeroD Tryz.prog 78 = .agg #[.int .i64 0, .int .i64 0, .int .i64 0, .int .i64 0] := by kernel_rfl
theorem tzero_78 : tzero Tryz.prog 78 = some (.agg #[.int .i64 0, .int .i64 0, .int .i64 0, .int .i64 0]) := by kernel_rfl
theorem tsz_84 : tsz Tryz.prog 84 = some 5 := by kernel_rfl
theorem aggB_84 : aggB Tryz.prog 84 = some true := by kernel_rfl
theorem tszD_84 : tszD Tryz.prog 84 = 5 := by kernel_rfl
theorem tzeroD_84 : tzeroD Tryz.prog 84 = .agg #[.int .i64 0, .int .i64 0, .int .i64 0, .int .i64 0, .int .i64 0] := by kernel_rfl
theorem tzero_84 : tzero Tryz.prog 84 = some (.agg #[.int .i64 0, .int .i64 0, .int .i64 0, .int .i64 0, .int .i64 0]) := by kernel_rfl
theorem tzeroD_92 : tzeroD Tryz.prog 92 = .agg #[.int .i64 0, .int .i64 0, .bool false, .bool false, .int .i64 0, .int .i64 0] := by kernel_rfl
theorem tzero_92 : tzero Tryz.prog 92 = some (.agg #[.int .i64 0, .int .i64 0, .bool false, .bool false, .int .i64 0, .int .i64 0]) := by kernel_rfl
theorem tzeroD_96 : tzeroD Tryz.prog 96 = .agg #[.int .i64 0, .int .u32 0] := by kernel_rfl
theorem tzero_96 : tzero Tryz.prog 96 = some (.agg #[.int .i64 0, .int .u32 0]) := by kernel_rfl
theorem tsz_98 : tsz Tryz.prog 98 = some 5 := by kernel_rfl
theorem aggB_98 : aggB Tryz.prog 98 = some true := by kernel_rfl
theorem tszD_98 : tszD Tryz.prog 98 = 5 := by kernel_rfl
theorem tzeroD_98 : tzeroD Tryz.prog 98 = .agg #[.int .i64 0, .int .i64 0, .int .i64 0, .int .i64 0, .int .i64 0] := by kernel_rfl
theorem tzero_98 : tzero Tryz.prog 98 = some (.agg #[.int .i64 0, .int .i64 0, .int .i64 0, .int .i64 0, .int .i64 0]) := by kernel_rfl
theorem tsz_99 : tsz Tryz.prog 99 = some 40 := by kernel_rfl
theorem aggB_99 : aggB Tryz.prog 99 = some true := by kernel_rfl
theorem tszD_99 : tszD Tryz.prog 99 = 40 := by kernel_rfl
theorem isArr_99 : isArrB Tryz.prog 99 = true := by kernel_rfl
theorem arrLen_99 : arrLen Tryz.prog 99 = 8 := by kernel_rfl
theorem arrSz_99 : arrSz Tryz.prog 99 = 5 := by kernel_rfl
theorem tzeroD_99 : tzeroD Tryz.prog 99 = .agg #[.int .i64 0, .int .i64 0, .int .i64 0, .int .i64 0, .int .i64 0, .int .i64 0, .int .i64 0, .int .i64 0, .int .i64 0, .int .i64 0, .int .i64 0, .int .i64 0, .int .i64 0, .int .i64 0, .int .i64 0, .int .i64 0, .int .i64 0, .int .i64 0, .int .i64 0, .int .i64 0, .int .i64 0, .int .i64 0, .int .i64 0, .int .i64 0, .int .i64 0, .int .i64 0, .int .i64 0, .int .i64 0, .int .i64 0, .int .i64 0, .int .i64 0, .int .i64 0, .int .i64 0, .int .i64 0, .int .i64 0, .int .i64 0, .int .i64 0, .int .i64 0, .int .i64 0, .int .i64 0] := by kernel_rfl
theorem tzero_99 : tzero Tryz.prog 99 = some (.agg #[.int .i64 0, .int .i64 0, .int .i64 0, .int .i64 0, .int .i64 0, .int .i64 0, .int .i64 0, .int .i64 0, .int .i64 0, .int .i64 0, .int .i64 0, .int .i64 0, .int .i64 0, .int .i64 0, .int .i64 0, .int .i64 0, .int .i64 0, .int .i64 0, .int .i64 0, .int .i64 0, .int .i64 0, .int .i64 0, .int .i64 0, .int .i64 0, .int .i64 0, .int .i64 0, .int .i64 0, .int .i64 0, .int .i64 0, .int .i64 0, .int .i64 0, .int .i64 0, .int .i64 0, .int .i64 0, .int .i64 0, .int .i64 0, .int .i64 0, .int .i64 0, .int .i64 0, .int .i64 0]) := by kernel_rfl
theorem isInt_112 : isIntB Tryz.prog 112 = true := by kernel_rfl
theorem intK_112 : intKD Tryz.prog 112 = .u16 := by kernel_rfl
theorem aggB_114 : aggB Tryz.prog 114 = some false := by kernel_rfl
theorem aggB_118 : aggB Tryz.prog 118 = some false := by kernel_rfl
theorem tsz_120 : tsz Tryz.prog 120 = some 2 := by kernel_rfl
theorem aggB_120 : aggB Tryz.prog 120 = some true := by kernel_rfl
theorem tszD_120 : tszD Tryz.prog 120 = 2 := by kernel_rfl
theorem tzeroD_120 : tzeroD Tryz.prog 120 = .agg #[.bool false, .nilFunc] := by kernel_rfl
theorem tzero_120 : tzero Tryz.prog 120 = some (.agg #[.bool false, .nilFunc]) := by kernel_rfl
theorem tsz_121 : tsz Tryz.prog 121 = some 52 := by kernel_rfl
theorem aggB_121 : aggB Tryz.prog 121 = some true := by kernel_rfl
theorem tszD_121 : tszD Tryz.prog 121 = 52 := by kernel_rfl
theorem tzeroD_121 : tzeroD Tryz.prog 121 = .agg #[.bool false, .nilFunc, .bool false, .nilFunc, .bool false, .nilFunc, .bool false, .nilFunc, .bool false, .nilFunc, .bool false, .nilFunc, .bool false, .nilFunc, .bool false, .nilFunc, .bool false, .nilFunc, .bool false, .nilFunc, .bool false, .nilFunc, .bool false, .nilFunc, .bool false, .nilFunc, .bool false, .nilFunc, .bool false, .nilFunc, .bool false, .nilFunc, .bool false, .nilFunc, .bool false, .nilFunc, .bool false, .nilFunc, .bool false, .nilFunc, .bool false, .nilFunc, .bool false, .nilFunc, .bool false, .nilFunc, .bool false, .nilFunc, .bool false, .nilFunc, .bool false, .nilFunc] := by kernel_rfl
theorem tzero_121 : tzero Tryz.prog 121 = some (.agg #[.bool false, .nilFunc, .bool false, .nilFunc, .bool false, .nilFunc, .bool false, .nilFunc, .bool false, .nilFunc, .bool false, .nilFunc, .bool false, .nilFunc, .bool false, .nilFunc, .bool false, .nilFunc, .bool false, .nilFunc, .bool false, .nilFunc, .bool false, .nilFunc, .bool false, .nilFunc, .bool false, .nilFunc, .bool false, .nilFunc, .bool false, .nilFunc, .bool false, .nilFunc, .bool false, .nilFunc, .bool false, .nilFunc, .bool false, .nilFunc, .bool false, .nilFunc, .bool false, .nilFunc, .bool false, .nilFunc, .bool false, .nilFunc, .bool false, .nilFunc, .bool false, .nilFunc]) := by kernel_rfl
theorem tsz_126 : tsz Tryz.prog 126 = some 64 := by kernel_rfl
theorem aggB_126 : aggB Tryz.prog 126 = some true := by kernel_rfl
theorem tszD_126 : tszD Tryz.prog 126 = 64 := by kernel_rfl
theorem tbytes_126 : tbytes Tryz.prog 126 = some 64 := by kernel_rfl
theorem isArr_126 : isArrB Tryz.prog 126 = true := by kernel_rfl
theorem arrLen_126 : arrLen Tryz.prog 126 = 64 := by kernel_rfl
theorem arrSz_126 : arrSz Tryz.prog 126 = 1 := by kernel_rfl
theorem tzeroD_126 : tzeroD Tryz.prog 126 = .agg #[.int .u8 0, .int .u8 0, .int .u8 0, .int .u8 0, .int .u8 0, .int .u8 0, .int .u8 0, .int .u8 0, .int .u8 0, .int .u8 0, .int .u8 0, .int .u8 0, .int .u8 0, .int .u8 0, .int .u8 0, .int .u8 0, .int .u8 0, .int .u8 0, .int .u8 0, .int .u8 0, .int .u8 0, .int .u8 0, .int .u8 0, .int .u8 0, .int .u8 0, .int .u8 0, .int .u8 0, .int .u8 0, .int .u8 0, .int .u8 0, .int .u8 0, .int .u8 0, .int .u8 0, .int .u8 0, .int .u8 0, .int .u8 0, .int .u8 0, .int .u8 0, .int .u8 0, .int .u8 0, .int .u8 0, .int .u8 0, .int .u8 0, .int .u8 0, .int .u8 0, .int .u8 0, .int .u8 0, .int .u8 0, .int .u8 0, .int .u8 0, .int .u8 0, .int .u8 0, .int .u8 0, .int .u8 0, .int .u8 0, .int .u8 0, .int .u8 0, .int .u8 0, .int .u8 0, .int .u8 0, .int .u8 0, .int .u8 0, .int .u8 0, .int .u8 0] := by kernel_rfl
theorem tzero_126 : tzero Tryz.prog 126 = some (.agg #[.int .u8 0, .int .u8 0, .int .u8 0, .int .u8 0, .int .u8 0, .int .u8 0, .int .u8 0, .int .u8 0, .int .u8 0, .int .u8 0, .int .u8 0, .int .u8 0, .int .u8 0, .int .u8 0, .int .u8 0, .int .u8 0, .int .u8 0, .int .u8 0, .int .u8 0, .int .u8 0, .int .u8 0, .int .u8 0, .int .u8 0, .int .u8 0, .int .u8 0, .int .u8 0, .int .u8 0, .int .u8 0, .int .u8 0, .int .u8 0, .int .u8 0, .int .u8 0, .int .u8 0, .int .u8 0, .int .u8 0, .int .u8 0, .int .u8 0, .int .u8 0, .int .u8 0, .int .u8 0, .int .u8 0, .int .u8 0, .int .u8 0, .int .u8 0, .int .u8 0, .int .u8 0, .int .u8 0, .int .u8 0, .int .u8 0, .int .u8 0, .int .u8 0, .int .u8 0, .int .u8 0, .int .u8 0, .int .u8 0, .int .u8 0, .int .u8 0, .int .u8 0, .int .u8 0, .int .u8 0, .int .u8 0, .int .u8 0, .int .u8 0, .int .u8 0]) := by kernel_rfl
theorem aggB_127 : aggB Tryz.prog 127 = some false := by kernel_rfl
theorem isSlice_127 : isSliceB Tryz.prog 127 = true := by kernel_rfl
theorem ssz_127 : sliceSz Tryz.prog 127 = 64 := by kernel_rfl
theorem selem_127 : sliceElem Tryz.prog 127 = 126 := by kernel_rfl
theorem tsz_131 : tsz Tryz.prog 131 = some 1 := by kernel_rfl
theorem aggB_131 : aggB Tryz.prog 131 = some true := by kernel_rfl
theorem tszD_131 : tszD Tryz.prog 131 = 1 := by kernel_rfl
theorem tzeroD_131 : tzeroD Tryz.prog 131 = .agg #[.pointer none] := by kernel_rfl
theorem tzero_131 : tzero Tryz.prog 131 = some (.agg #[.pointer none]) := by kernel_rfl
theorem tsz_143 : tsz Tryz.prog 143 = some 2 := by kernel_rfl
theorem tszD_143 : tszD Tryz.prog 143 = 2 := by kernel_rfl
theorem tzeroD_143 : tzeroD Tryz.prog 143 = .agg #[.int .i64 0, .bool false] := by kernel_rfl
theorem tzero_143 : tzero Tryz.prog 143 = some (.agg #[.int .i64 0, .bool false]) := by kernel_rfl
theorem isArr_145 : isArrB Tryz.prog 145 = true := by kernel_rfl
theorem arrLen_145 : arrLen Tryz.prog 145 = 64 := by kernel_rfl
theorem arrSz_145 : arrSz Tryz.prog 145 = 1 := by kernel_rfl
theorem aggB_146 : aggB Tryz.prog 146 = some false := by kernel_rfl
theorem tsz_150 : tsz Tryz.prog 150 = some 7 := by kernel_rfl
theorem aggB_150 : aggB Tryz.prog 150 = some true := by kernel_rfl
theorem tszD_150 : tszD Tryz.prog 150 = 7 := by kernel_rfl
theorem tzeroD_150 : tzeroD Tryz.prog 150 = .agg #[.bool false, .bool false, .bool false, .int .i64 0, .int .i64 0, .bool false, .bool false] := by kernel_rfl
theorem tzero_150 : tzero Tryz.prog 150 = some (.agg #[.bool false, .bool false, .bool false, .int .i64 0, .int .i64 0, .bool false, .bool false]) := by kernel_rfl
theorem isArr_151 : isArrB Tryz.prog 151 = true := by kernel_rfl
theorem arrLen_151 : arrLen Tryz.prog 151 = 64 := by kernel_rfl
theorem arrSz_151 : arrSz Tryz.prog 151 = 7 := by kernel_rfl
theorem isInt_157 : isIntB Tryz.prog 157 = true := by kernel_rfl
theorem intK_157 : intKD Tryz.prog 157 = .u64 := by kernel_rfl
theorem isSlice_158 : isSliceB Tryz.prog 158 = true := by kernel_rfl
theorem ssz_158 : sliceSz Tryz.prog 158 = 5 := by kernel_rfl
theorem isSlice_160 : isSliceB Tryz.prog 160 = true := by kernel_rfl
theorem ssz_160 : sliceSz Tryz.prog 160 = 5 := by kernel_rfl
theorem selem_160 : sliceElem Tryz.prog 160 = 163 := by kernel_rfl
theorem tsz_163 : tsz Tryz.prog 163 = some 5 := by kernel_rfl
theorem aggB_163 : aggB Tryz.prog 163 = some true := by kernel_rfl
theorem tszD_163 : tszD Tryz.prog 163 = 5 := by kernel_rfl
theorem tbytes_163 : tbytes Tryz.prog 163 = some 24 := by kernel_rfl
theorem tzeroD_163 : tzeroD Tryz.prog 163 = .agg #[.int .i64 0, .int .i64 0, .bool false, .bool false, .bool false] := by kernel_rfl
theorem tzero_163 : tzero Tryz.prog 163 = some (.agg #[.int .i64 0, .int .i64 0, .bool false, .bool false, .bool false]) := by kernel_rfl
theorem aggB_178 : aggB Tryz.prog 178 = some false := by kernel_rfl
theorem aggB_181 : aggB Tryz.prog 181 = some false := by kernel_rfl
theorem isSlice_218 : isSliceB Tryz.prog 218 = true := by kernel_rfl
theorem ssz_218 : sliceSz Tryz.prog 218 = 1 := by kernel_rfl
theorem selem_218 : sliceElem Tryz.prog 218 = 9 := by kernel_rfl
theorem fa_25_0 {b o : Nat} {h : Heap} : runD Tryz.prog (iFieldAt 25 (.pointer (some ⟨b, o, none⟩)) 0) h = some (.pointer (some ⟨b, o + 0, none⟩)) := by kernel_rfl
theorem fa_25_1 {b o : Nat} {h : Heap} : runD Tryz.prog (iFieldAt 25 (.pointer (some ⟨b, o, none⟩)) 1) h = some (.pointer (some ⟨b, o + 1, none⟩)) := by kernel_rfl
theorem fa_25_2 {b o : Nat} {h : Heap} : runD Tryz.prog (iFieldAt 25 (.pointer (some ⟨b, o, none⟩)) 2) h = some (.pointer (some ⟨b, o + 2, none⟩)) := by kernel_rfl
theorem fa_25_3 {b o : Nat} {h : Heap} : runD Tryz.prog (iFieldAt 25 (.pointer (some ⟨b, o, none⟩)) 3) h = some (.pointer (some ⟨b, o + 3, none⟩)) := by kernel_rfl
theorem fa_25_4 {b o : Nat} {h : Heap} : runD Tryz.prog (iFieldAt 25 (.pointer (some ⟨b, o, none⟩)) 4) h = some (.pointer (some ⟨b, o + 4, none⟩)) := by kernel_rfl
theorem fa_30_0 {b o : Nat} {h : Heap} : runD Tryz.prog (iFieldAt 30 (.pointer (some ⟨b, o, none⟩)) 0) h = some (.pointer (some ⟨b, o + 0, none⟩)) := by kernel_rfl
theorem fa_30_1 {b o : Nat} {h : Heap} : runD Tryz.prog (iFieldAt 30 (.pointer (some ⟨b, o, none⟩)) 1) h = some (.pointer (some ⟨b, o + 16, none⟩)) := by kernel_rfl
theorem fa_30_2 {b o : Nat} {h : Heap} : runD Tryz.prog (iFieldAt 30 (.pointer (some ⟨b, o, none⟩)) 2) h = some (.pointer (some ⟨b, o + 17, none⟩)) := by kernel_rfl
theorem fa_36_0 {b o : Nat} {h : Heap} : runD Tryz.prog (iFieldAt 36 (.pointer (some ⟨b, o, none⟩)) 0) h = some (.pointer (some ⟨b, o + 0, none⟩)) := by kernel_rfl
theorem fa_36_1 {b o : Nat} {h : Heap} : runD Tryz.prog (iFieldAt 36 (.pointer (some ⟨b, o, none⟩)) 1) h = some (.pointer (some ⟨b, o + 1, none⟩)) := by kernel_rfl
theorem fa_36_2 {b o : Nat} {h : Heap} : runD Tryz.prog (iFieldAt 36 (.pointer (some ⟨b, o, none⟩)) 2) h = some (.pointer (some ⟨b, o + 2, none⟩)) := by kernel_rfl
theorem fa_41_0 {b o : Nat} {h : Heap} : runD Tryz.prog (iFieldAt 41 (.pointer (some ⟨b, o, none⟩)) 0) h = some (.pointer (some ⟨b, o + 0, none⟩)) := by kernel_rfl
theorem fa_41_1 {b o : Nat} {h : Heap} : runD Tryz.prog (iFieldAt 41 (.pointer (some ⟨b, o, none⟩)) 1) h = some (.pointer (some ⟨b, o + 1, none⟩)) := by kernel_rfl
theorem fa_41_2 {b o : Nat} {h : Heap} : runD Tryz.prog (iFieldAt 41 (.pointer (some ⟨b, o, none⟩)) 2) h = some (.pointer (some ⟨b, o + 2, none⟩)) := by kernel_rfl
theorem fa_43_0 {b o : Nat} {h : Heap} : runD Tryz.prog (iFieldAt 43 (.pointer (some ⟨b, o, none⟩)) 0) h = some (.pointer (some ⟨b, o + 0, none⟩)) := by kernel_rfl
theorem fa_43_1 {b o : Nat} {h : Heap} : runD Tryz.prog (iFieldAt 43 (.pointer (some ⟨b, o, none⟩)) 1) h = some (.pointer (some ⟨b, o + 3, none⟩)) := by kernel_rfl
theorem fa_47_0 {b o : Nat} {h : Heap} : runD Tryz.prog (iFieldAt 47 (.pointer (some ⟨b, o, none⟩)) 0) h = some (.pointer (some ⟨b, o + 0, none⟩)) := by kernel_rfl
theorem fa_47_3 {b o : Nat} {h : Heap} : runD Tryz.prog (iFieldAt 47 (.pointer (some ⟨b, o, none⟩)) 3) h = some (.pointer (some ⟨b, o + 3, none⟩)) := by kernel_rfl
theorem fa_51_0 {b o : Nat} {h : Heap} : runD Tryz.prog (iFieldAt 51 (.pointer (some ⟨b, o, none⟩)) 0) h = some (.pointer (some ⟨b, o + 0, none⟩)) := by kernel_rfl
theorem fa_51_1 {b o : Nat} {h : Heap} : runD Tryz.prog (iFieldAt 51 (.pointer (some ⟨b, o, none⟩)) 1) h = some (.pointer (some ⟨b, o + 1, none⟩)) := by kernel_rfl
theorem fa_51_2 {b o : Nat} {h : Heap} : runD Tryz.prog (iFieldAt 51 (.pointer (some ⟨b, o, none⟩)) 2) h = some (.pointer (some ⟨b, o + 2, none⟩)) := by kernel_rfl
theorem fa_51_3 {b o : Nat} {h : Heap} : runD Tryz.prog (iFieldAt 51 (.pointer (some ⟨b, o, none⟩)) 3) h = some (.pointer (some ⟨b, o + 3, none⟩)) := by kernel_rfl
theorem fa_56_0 {b o : Nat} {h : Heap} : runD Tryz.prog (iFieldAt 56 (.pointer (some ⟨b, o, none⟩)) 0) h = some (.pointer (some ⟨b, o + 0, none⟩)) := by kernel_rfl
theorem fa_72_0 {b o : Nat} {h : Heap} : runD Tryz.prog (iFieldAt 72 (.pointer (some ⟨b, o, none⟩)) 0) h = some (.pointer (some ⟨b, o + 0, none⟩)) := by kernel_rfl
theorem fa_72_1 {b o : Nat} {h : Heap} : runD Tryz.prog (iFieldAt 72 (.pointer (some ⟨b, o, none⟩)) 1) h = some (.pointer (some ⟨b, o + 1, none⟩)) := by kernel_rfl
theorem fa_72_2 {b o : Nat} {h : Heap} : runD Tryz.prog (iFieldAt 72 (.pointer (some ⟨b, o, none⟩)) 2) h = some (.pointer (some ⟨b, o + 2, none⟩)) := by kernel_rfl
theorem fa_72_3 {b o : Nat} {h : Heap} : runD Tryz.prog (iFieldAt 72 (.pointer (some ⟨b, o, none⟩)) 3) h = some (.pointer (some ⟨b, o + 3, none⟩)) := by kernel_rfl
theorem fa_78_0 {b o : Nat} {h : Heap} : runD Tryz.prog (iFieldAt 78 (.pointer (some ⟨b, o, none⟩)) 0) h = some (.pointer (some ⟨b, o + 0, none⟩)) := by kernel_rfl
theorem fa_78_1 {b o : Nat} {h : Heap} : runD Tryz.prog (iFieldAt 78 (.pointer (some ⟨b, o, none⟩)) 1) h = some (.pointer (some ⟨b, o + 1, none⟩)) := by kernel_rfl
theorem fa_78_2 {b o : Nat} {h : Heap} : runD Tryz.prog (iFieldAt 78 (.pointer (some ⟨b, o, none⟩)) 2) h = some (.pointer (some ⟨b, o + 2, none⟩)) := by kernel_rfl
theorem fa_78_3 {b o : Nat} {h : Heap} : runD Tryz.prog (iFieldAt 78 (.pointer (some ⟨b, o, none⟩)) 3) h = some (.pointer (some ⟨b, o + 3, none⟩)) := by kernel_rfl
theorem fa_84_0 {b o : Nat} {h : Heap} : runD Tryz.prog (iFieldAt 84 (.pointer (some ⟨b, o, none⟩)) 0) h = some (.pointer (some ⟨b, o + 0, none⟩)) := by kernel_rfl
theorem fa_84_1 {b o : Nat} {h : Heap} : runD Tryz.prog (iFieldAt 84 (.pointer (some ⟨b, o, none⟩)) 1) h = some (.pointer (some ⟨b, o + 1, none⟩)) := by kernel_rfl
theorem fa_84_2 {b o : Nat} {h : Heap} : runD Tryz.prog (iFieldAt 84 (.pointer (some ⟨b, o, none⟩)) 2) h = some (.pointer (some ⟨b, o + 2, none⟩)) := by kernel_rfl
theorem fa_84_3 {b o : Nat} {h : Heap} : runD Tryz.prog (iFieldAt 84 (.pointer (some ⟨b, o, none⟩)) 3) h = some (.pointer (some ⟨b, o + 3, none⟩)) := by kernel_rfl
theorem fa_84_4 {b o : Nat} {h : Heap} : runD Tryz.prog (iFieldAt 84 (.pointer (some ⟨b, o, none⟩)) 4) h = some (.pointer (some ⟨b, o + 4, none⟩)) := by kernel_rfl
theorem fa_92_0 {b o : Nat} {h : Heap} : runD Tryz.prog (iFieldAt 92 (.pointer (some ⟨b, o, none⟩)) 0) h = some (.pointer (some ⟨b, o + 0, none⟩)) := by kernel_rfl
theorem fa_92_1 {b o : Nat} {h : Heap} : runD Tryz.prog (iFieldAt 92 (.pointer (some ⟨b, o, none⟩)) 1) h = some (.pointer (some ⟨b, o + 1, none⟩)) := by kernel_rfl
theorem fa_92_2 {b o : Nat} {h : Heap} : runD Tryz.prog (iFieldAt 92 (.pointer (some ⟨b, o, none⟩)) 2) h = some (.pointer (some ⟨b, o + 2, none⟩)) := by kernel_rfl
theorem fa_96_0 {b o : Nat} {h : Heap} : runD Tryz.prog (iFieldAt 96 (.pointer (some ⟨b, o, none⟩)) 0) h = some (.pointer (some ⟨b, o + 0, none⟩)) := by kernel_rfl
theorem fa_96_1 {b o : Nat} {h : Heap} : runD Tryz.prog (iFieldAt 96 (.pointer (some ⟨b, o, none⟩)) 1) h = some (.pointer (some ⟨b, o + 1, none⟩)) := by kernel_rfl
theorem fa_98_0 {b o : Nat} {h : Heap} : runD Tryz.prog (iFieldAt 98 (.pointer (some ⟨b, o, none⟩)) 0) h = some (.pointer (some ⟨b, o + 0, none⟩)) := by kernel_rfl
theorem fa_98_1 {b o : Nat} {h : Heap} : runD Tryz.prog (iFieldAt 98 (.pointer (some ⟨b, o, none⟩)) 1) h = some (.pointer (some ⟨b, o + 1, none⟩)) := by kernel_rfl
theorem fa_98_2 {b o : Nat} {h : Heap} : runD Tryz.prog (iFieldAt 98 (.pointer (some ⟨b, o, none⟩)) 2) h = some (.pointer (some ⟨b, o + 2, none⟩)) := by kernel_rfl
theorem fa_98_3 {b o : Nat} {h : Heap} : runD Tryz.prog (iFieldAt 98 (.pointer (some ⟨b, o, none⟩)) 3) h = some (.pointer (some ⟨b, o + 3, none⟩)) := by kernel_rfl
theorem fa_98_4 {b o : Nat} {h : Heap} : runD Tryz.prog (iFieldAt 98 (.pointer (some ⟨b, o, none⟩)) 4) h = some (.pointer (some ⟨b, o + 4, none⟩)) := by kernel_rfl
theorem fa_101_0 {b o : Nat} {h : Heap} : runD Tryz.prog (iFieldAt 101 (.pointer (some ⟨b, o, none⟩)) 0) h = some (.pointer (some ⟨b, o + 0, none⟩)) := by kernel_rfl
theorem fa_101_1 {b o : Nat} {h : Heap} : runD Tryz.prog (iFieldAt 101 (.pointer (some ⟨b, o, none⟩)) 1) h = some (.pointer (some ⟨b, o + 40, none⟩)) := by kernel_rfl
theorem fa_101_2 {b o : Nat} {h : Heap} : runD Tryz.prog (iFieldAt 101 (.pointer (some ⟨b, o, none⟩)) 2) h = some (.pointer (some ⟨b, o + 41, none⟩)) := by kernel_rfl
theorem fa_116_0 {b o : Nat} {h : Heap} : runD Tryz.prog (iFieldAt 116 (.pointer (some ⟨b, o, none⟩)) 0) h = some (.pointer (some ⟨b, o + 0, none⟩)) := by kernel_rfl
theorem fa_116_1 {b o : Nat} {h : Heap} : runD Tryz.prog (iFieldAt 116 (.pointer (some ⟨b, o, none⟩)) 1) h = some (.pointer (some ⟨b, o + 3, none⟩)) := by kernel_rfl
theorem fa_116_2 {b o : Nat} {h : Heap} : runD Tryz.prog (iFieldAt 116 (.pointer (some ⟨b, o, none⟩)) 2) h = some (.pointer (some ⟨b, o + 4, none⟩)) := by kernel_rfl
theorem fa_116_3 {b o : Nat} {h : Heap} : runD Tryz.prog (iFieldAt 116 (.pointer (some ⟨b, o, none⟩)) 3) h = some (.pointer (some ⟨b, o + 9, none⟩)) := by kernel_rfl
theorem fa_116_4 {b o : Nat} {h : Heap} : runD Tryz.prog (iFieldAt 116 (.pointer (some ⟨b, o, none⟩)) 4) h = some (.pointer (some ⟨b, o + 10, none⟩)) := by kernel_rfl
theorem fa_116_5 {b o : Nat} {h : Heap} : runD Tryz.prog (iFieldAt 116 (.pointer (some ⟨b, o, none⟩)) 5) h = some (.pointer (some ⟨b, o + 14, none⟩)) := by kernel_rfl
theorem fa_116_6 {b o : Nat} {h : Heap} : runD Tryz.prog (iFieldAt 116 (.pointer (some ⟨b, o, none⟩)) 6) h = some (.pointer (some ⟨b, o + 15, none⟩)) := by kernel_rfl
theorem fa_116_7 {b o : Nat} {h : Heap} : runD Tryz.prog (iFieldAt 116 (.pointer (some ⟨b, o, none⟩)) 7) h = some (.pointer (some ⟨b, o + 16, none⟩)) := by kernel_rfl
theorem fa_120_0 {b o : Nat} {h : Heap} : runD Tryz.prog (iFieldAt 120 (.pointer (some ⟨b, o, none⟩)) 0) h = some (.pointer (some ⟨b, o + 0, none⟩)) := by kernel_rfl
theorem fa_120_1 {b o : Nat} {h : Heap} : runD Tryz.prog (iFieldAt 120 (.pointer (some ⟨b, o, none⟩)) 1) h = some (.pointer (some ⟨b, o + 1, none⟩)) := by kernel_rfl
theorem fa_129_0 {b o : Nat} {h : Heap} : runD Tryz.prog (iFieldAt 129 (.pointer (some ⟨b, o, none⟩)) 0) h = some (.pointer (some ⟨b, o + 0, none⟩)) := by kernel_rfl
theorem fa_131_0 {b o : Nat} {h : Heap} : runD Tryz.prog (iFieldAt 131 (.pointer (some ⟨b, o, none⟩)) 0) h = some (.pointer (some ⟨b, o + 0, none⟩)) := by kernel_rfl
theorem fa_143_0 {b o : Nat} {h : Heap} : runD Tryz.prog (iFieldAt 143 (.pointer (some ⟨b, o, none⟩)) 0) h = some (.pointer (some ⟨b, o + 0, none⟩)) := by kernel_rfl
theorem fa_143_1 {b o : Nat} {h : Heap} : runD Tryz.prog (iFieldAt 143 (.pointer (some ⟨b, o, none⟩)) 1) h = some (.pointer (some ⟨b, o + 1, none⟩)) := by kernel_rfl
theorem fa_148_1 {b o : Nat} {h : Heap} : runD Tryz.prog (iFieldAt 148 (.pointer (some ⟨b, o, none⟩)) 1) h = some (.pointer (some ⟨b, o + 1, none⟩)) := by kernel_rfl
theorem fa_148_2 {b o : Nat} {h : Heap} : runD Tryz.prog (iFieldAt 148 (.pointer (some ⟨b, o, none⟩)) 2) h = some (.pointer (some ⟨b, o + 2, none⟩)) := by kernel_rfl
theorem fa_148_3 {b o : Nat} {h : Heap} : runD Tryz.prog (iFieldAt 148 (.pointer (some ⟨b, o, none⟩)) 3) h = some (.pointer (some ⟨b, o + 66, none⟩)) := by kernel_rfl
theorem fa_148_4 {b o : Nat} {h : Heap} : runD Tryz.prog (iFieldAt 148 (.pointer (some ⟨b, o, none⟩)) 4) h = some (.pointer (some ⟨b, o + 67, none⟩)) := by kernel_rfl
theorem fa_148_5 {b o : Nat} {h : Heap} : runD Tryz.prog (iFieldAt 148 (.pointer (some ⟨b, o, none⟩)) 5) h = some (.pointer (some ⟨b, o + 68, none⟩)) := by kernel_rfl
theorem fa_148_6 {b o : Nat} {h : Heap} : runD Tryz.prog (iFieldAt 148 (.pointer (some ⟨b, o, none⟩)) 6) h = some (.pointer (some ⟨b, o + 69, none⟩)) := by kernel_rfl
theorem fa_148_7 {b o : Nat} {h : Heap} : runD Tryz.prog (iFieldAt 148 (.pointer (some ⟨b, o, none⟩)) 7) h = some (.pointer (some ⟨b, o + 70, none⟩)) := by kernel_rfl
theorem fa_150_0 {b o : Nat} {h : Heap} : runD Tryz.prog (iFieldAt 150 (.pointer (some ⟨b, o, none⟩)) 0) h = some (.pointer (some ⟨b, o + 0, none⟩)) := by kernel_rfl
theorem fa_150_1 {b o : Nat} {h : Heap} : runD Tryz.prog (iFieldAt 150 (.pointer (some ⟨b, o, none⟩)) 1) h = some (.pointer (some ⟨b, o + 1, none⟩)) := by kernel_rfl
theorem fa_150_2 {b o : Nat} {h : Heap} : runD Tryz.prog (iFieldAt 150 (.pointer (some ⟨b, o, none⟩)) 2) h = some (.pointer (some ⟨b, o + 2, none⟩)) := by kernel_rfl
theorem fa_150_3 {b o : Nat} {h : Heap} : runD Tryz.prog (iFieldAt 150 (.pointer (some ⟨b, o, none⟩)) 3) h = some (.pointer (some ⟨b, o + 3, none⟩)) := by kernel_rfl
theorem fa_150_4 {b o : Nat} {h : Heap} : runD Tryz.prog (iFieldAt 150 (.pointer (some ⟨b, o, none⟩)) 4) h = some (.pointer (some ⟨b, o + 4, none⟩)) := by kernel_rfl
theorem fa_150_5 {b o : Nat} {h : Heap} : runD Tryz.prog (iFieldAt 150 (.pointer (some ⟨b, o, none⟩)) 5) h = some (.pointer (some ⟨b, o + 5, none⟩)) := by kernel_rfl
theorem fa_150_6 {b o : Nat} {h : Heap} : runD Tryz.prog (iFieldAt 150 (.pointer (some ⟨b, o, none⟩)) 6) h = some (.pointer (some ⟨b, o + 6, none⟩)) := by kernel_rfl
theorem fa_153_0 {b o : Nat} {h : Heap} : runD Tryz.prog (iFieldAt 153 (.pointer (some ⟨b, o, none⟩)) 0) h = some (.pointer (some ⟨b, o + 0, none⟩)) := by kernel_rfl
theorem fa_153_2 {b o : Nat} {h : Heap} : runD Tryz.prog (iFieldAt 153 (.pointer (some ⟨b, o, none⟩)) 2) h = some (.pointer (some ⟨b, o + 449, none⟩)) := by kernel_rfl
theorem fa_153_3 {b o : Nat} {h : Heap} : runD Tryz.prog (iFieldAt 153 (.pointer (some ⟨b, o, none⟩)) 3) h = some (.pointer (some ⟨b, o + 450, none⟩)) := by kernel_rfl
theorem fa_153_4 {b o : Nat} {h : Heap} : runD Tryz.prog (iFieldAt 153 (.pointer (some ⟨b, o, none⟩)) 4) h = some (.pointer (some ⟨b, o + 451, none⟩)) := by kernel_rfl
theorem fa_153_5 {b o : Nat} {h : Heap} : runD Tryz.prog (iFieldAt 153 (.pointer (some ⟨b, o, none⟩)) 5) h = some (.pointer (some ⟨b, o + 452, none⟩)) := by kernel_rfl
theorem fa_156_0 {b o : Nat} {h : Heap} : runD Tryz.prog (iFieldAt 156 (.pointer (some ⟨b, o, none⟩)) 0) h = some (.pointer (some ⟨b, o + 0, none⟩)) := by kernel_rfl
theorem fa_156_1 {b o : Nat} {h : Heap} : runD Tryz.prog (iFieldAt 156 (.pointer (some ⟨b, o, none⟩)) 1) h = some (.pointer (some ⟨b, o + 40, none⟩)) := by kernel_rfl
theorem fa_156_2 {b o : Nat} {h : Heap} : runD Tryz.prog (iFieldAt 156 (.pointer (some ⟨b, o, none⟩)) 2) h = some (.pointer (some ⟨b, o + 41, none⟩)) := by kernel_rfl
theorem fa_163_0 {b o : Nat} {h : Heap} : runD Tryz.prog (iFieldAt 163 (.pointer (some ⟨b, o, none⟩)) 0) h = some (.pointer (some ⟨b, o + 0, none⟩)) := by kernel_rfl
theorem fa_163_1 {b o : Nat} {h : Heap} : runD Tryz.prog (iFieldAt 163 (.pointer (some ⟨b, o, none⟩)) 1) h = some (.pointer (some ⟨b, o + 1, none⟩)) := by kernel_rfl
theorem fa_163_4 {b o : Nat} {h : Heap} : runD Tryz.prog (iFieldAt 163 (.pointer (some ⟨b, o, none⟩)) 4) h = some (.pointer (some ⟨b, o + 4, none⟩)) := by kernel_rfl
theorem fa_167_0 {b o : Nat} {h : Heap} : runD Tryz.prog (iFieldAt 167 (.pointer (some ⟨b, o, none⟩)) 0) h = some (.pointer (some ⟨b, o + 0, none⟩)) := by kernel_rfl
theorem bd_25_0_1_2_3_4 (x0 : Option Addr) (x0l x0c : Nat) (x1 : Option Addr) (x1l x1c : Nat) (x2 : Bool) (x3 : Int) (x4 : Int) {h : Heap} : runD Tryz.prog (iBuild 25 #[(0, .slice x0 x0l x0c), (1, .slice x1 x1l x1c), (2, .bool x2), (3, .int .i64 x3), (4, .int .i64 x4)]) h = some (.agg #[.slice x0 x0l x0c, .slice x1 x1l x1c, .bool x2, .int .i64 x3, .int .i64 x4]) := by kernel_rfl
theorem bd_30_  {h : Heap} : runD Tryz.prog (iBuild 30 #[]) h = some (.agg #[.int .u32 0, .int .u32 0, .int .u32 0, .int .u32 0, .int .u32 0, .int .u32 0, .int .u32 0, .int .u32 0, .int .u32 0, .int .u32 0, .int .u32 0, .int .u32 0, .int .u32 0, .int .u32 0, .int .u32 0, .int .u32 0, .int .i64 0, .int .u32 0, .int .u32 0, .int .u32 0, .int .u32 0, .int .u32 0, .int .u32 0, .int .u32 0, .int .u32 0]) := by kernel_rfl
theorem bd_36_0_1 (x0 : Option Addr) (x1 : Option Addr) {h : Heap} : runD Tryz.prog (iBuild 36 #[(0, .pointer x0), (1, .pointer x1)]) h = some (.agg #[.pointer x0, .pointer x1, .pointer none]) := by kernel_rfl
theorem bd_41_0_1 (x0 : Option Addr) (x1 : Option Addr) {h : Heap} : runD Tryz.prog (iBuild 41 #[(0, .pointer x0), (1, .pointer x1)]) h = some (.agg #[.pointer x0, .pointer x1, .pointer none]) := by kernel_rfl
theorem bd_43_0_1 (x0 : Option Addr) (x1 : Option Addr) (x2 : Option Addr) (x3 : Option Addr) (x4 : Option Addr) (x5 : Option Addr) {h : Heap} : runD Tryz.prog (iBuild 43 #[(0, .agg #[.pointer x0, .pointer x1, .pointer x2]), (1, .agg #[.pointer x3, .pointer x4, .pointer x5])]) h = some (.agg #[.pointer x0, .pointer x1, .pointer x2, .pointer x3, .pointer x4, .pointer x5]) := by kernel_rfl
theorem bd_47_  {h : Heap} : runD Tryz.prog (iBuild 47 #[]) h = some (.agg #[.int .i64 0, .int .i64 0, .int .i64 0, .bool false, .int .i64 0]) := by kernel_rfl
theorem bd_47_0 (x0 : Int) {h : Heap} : runD Tryz.prog (iBuild 47 #[(0, .int .i64 x0)]) h = some (.agg #[.int .i64 x0, .int .i64 0, .int .i64 0, .bool false, .int .i64 0]) := by kernel_rfl
theorem bd_47_0_1_2_4 (x0 : Int) (x1 : Int) (x2 : Int) (x3 : Int) {h : Heap} : runD Tryz.prog (iBuild 47 #[(0, .int .i64 x0), (1, .int .i64 x1), (2, .int .i64 x2), (4, .int .i64 x3)]) h = some (.agg #[.int .i64 x0, .int .i64 x1, .int .i64 x2, .bool false, .int .i64 x3]) := by kernel_rfl
theorem bd_51_  {h : Heap} : runD Tryz.prog (iBuild 51 #[]) h = some (.agg #[.bool false, .bool false, .int .i64 0, .int .i64 0]) := by kernel_rfl
theorem bd_51_0_1_2_3 (x0 : Bool) (x1 : Bool) (x2 : Int) (x3 : Int) {h : Heap} : runD Tryz.prog (iBuild 51 #[(0, .bool x0), (1, .bool x1), (2, .int .i64 x2), (3, .int .i64 x3)]) h = some (.agg #[.bool x0, .bool x1, .int .i64 x2, .int .i64 x3]) := by kernel_rfl
theorem bd_51_0_3 (x0 : Bool) (x1 : Int) {h : Heap} : runD Tryz.prog (iBuild 51 #[(0, .bool x0), (3, .int .i64 x1)]) h = some (.agg #[.bool x0, .bool false, .int .i64 0, .int .i64 x1]) := by kernel_rfl
theorem bd_56_  {h : Heap} : runD Tryz.prog (iBuild 56 #[]) h = some (.agg #[.int .i64 0, .int .i64 0, .int .i64 0, .int .i64 0, .int .i64 0, .int .i64 0, .bool false, .int .i64 0]) := by kernel_rfl
theorem bd_56_0_1 (x0 : Int) (x1 : Int) {h : Heap} : runD Tryz.prog (iBuild 56 #[(0, .int .i64 x0), (1, .int .i64 x1)]) h = some (.agg #[.int .i64 x0, .int .i64 x1, .int .i64 0, .int .i64 0, .int .i64 0, .int .i64 0, .bool false, .int .i64 0]) := by kernel_rfl
theorem bd_56_0_1_2 (x0 : Int) (x1 : Int) (x2 : Int) {h : Heap} : runD Tryz.prog (iBuild 56 #[(0, .int .i64 x0), (1, .int .i64 x1), (2, .int .i64 x2)]) h = some (.agg #[.int .i64 x0, .int .i64 x1, .int .i64 x2, .int .i64 0, .int .i64 0, .int .i64 0, .bool false, .int .i64 0]) := by kernel_rfl
theorem bd_56_0_2 (x0 : Int) (x1 : Int) {h : Heap} : runD Tryz.prog (iBuild 56 #[(0, .int .i64 x0), (2, .int .i64 x1)]) h = some (.agg #[.int .i64 x0, .int .i64 0, .int .i64 x1, .int .i64 0, .int .i64 0, .int .i64 0, .bool false, .int .i64 0]) := by kernel_rfl
theorem bd_56_0_2_3 (x0 : Int) (x1 : Int) (x2 : Int) (x3 : Int) (x4 : Int) (x5 : Bool) (x6 : Int) {h : Heap} : runD Tryz.prog (iBuild 56 #[(0, .int .i64 x0), (2, .int .i64 x1), (3, .agg #[.int .i64 x2, .int .i64 x3, .int .i64 x4, .bool x5, .int .i64 x6])]) h = some (.agg #[.int .i64 x0, .int .i64 0, .int .i64 x1, .int .i64 x2, .int .i64 x3, .int .i64 x4, .bool x5, .int .i64 x6]) := by kernel_rfl
theorem bd_78_0_2_3 (x0 : Int) (x1 : Int) (x2 : Int) {h : Heap} : runD Tryz.prog (iBuild 78 #[(0, .int .i64 x0), (2, .int .i64 x1), (3, .int .i64 x2)]) h = some (.agg #[.int .i64 x0, .int .i64 0, .int .i64 x1, .int .i64 x2]) := by kernel_rfl
theorem bd_84_  {h : Heap} : runD Tryz.prog (iBuild 84 #[]) h = some (.agg #[.int .i64 0, .int .i64 0, .int .i64 0, .int .i64 0, .int .i64 0]) := by kernel_rfl
theorem bd_84_0_1_2 (x0 : Int) (x1 : Int) (x2 : Int) {h : Heap} : runD Tryz.prog (iBuild 84 #[(0, .int .i64 x0), (1, .int .i64 x1), (2, .int .i64 x2)]) h = some (.agg #[.int .i64 x0, .int .i64 x1, .int .i64 x2, .int .i64 0, .int .i64 0]) := by kernel_rfl
theorem bd_84_0_1_4 (x0 : Int) (x1 : Int) (x2 : Int) {h : Heap} : runD Tryz.prog (iBuild 84 #[(0, .int .i64 x0), (1, .int .i64 x1), (4, .int .i64 x2)]) h = some (.agg #[.int .i64 x0, .int .i64 x1, .int .i64 0, .int .i64 0, .int .i64 x2]) := by kernel_rfl
theorem bd_84_0_4 (x0 : Int) (x1 : Int) {h : Heap} : runD Tryz.prog (iBuild 84 #[(0, .int .i64 x0), (4, .int .i64 x1)]) h = some (.agg #[.int .i64 x0, .int .i64 0, .int .i64 0, .int .i64 0, .int .i64 x1]) := by kernel_rfl
theorem bd_92_0_1_2 (x0 : Int) (x1 : Int) (x2 : Bool) (x3 : Bool) (x4 : Int) (x5 : Int) {h : Heap} : runD Tryz.prog (iBuild 92 #[(0, .int .i64 x0), (1, .int .i64 x1), (2, .agg #[.bool x2, .bool x3, .int .i64 x4, .int .i64 x5])]) h = some (.agg #[.int .i64 x0, .int .i64 x1, .bool x2, .bool x3, .int .i64 x4, .int .i64 x5]) := by kernel_rfl
theorem bd_96_0_1 (x0 : Int) (x1 : Int) {h : Heap} : runD Tryz.prog (iBuild 96 #[(0, .int .i64 x0), (1, .int .u32 x1)]) h = some (.agg #[.int .i64 x0, .int .u32 x1]) := by kernel_rfl
theorem bd_98_  {h : Heap} : runD Tryz.prog (iBuild 98 #[]) h = some (.agg #[.int .i64 0, .int .i64 0, .int .i64 0, .int .i64 0, .int .i64 0]) := by kernel_rfl
theorem bd_98_0_1_2_3_4 (x0 : Int) (x1 : Int) (x2 : Int) (x3 : Int) (x4 : Int) {h : Heap} : runD Tryz.prog (iBuild 98 #[(0, .int .i64 x0), (1, .int .i64 x1), (2, .int .i64 x2), (3, .int .i64 x3), (4, .int .i64 x4)]) h = some (.agg #[.int .i64 x0, .int .i64 x1, .int .i64 x2, .int .i64 x3, .int .i64 x4]) := by kernel_rfl
theorem bd_101_  {h : Heap} : runD Tryz.prog (iBuild 101 #[]) h = some (.agg #[.int .i64 0, .int .i64 0, .int .i64 0, .int .i64 0, .int .i64 0, .int .i64 0, .int .i64 0, .int .i64 0, .int .i64 0, .int .i64 0, .int .i64 0, .int .i64 0, .int .i64 0, .int .i64 0, .int .i64 0, .int .i64 0, .int .i64 0, .int .i64 0, .int .i64 0, .int .i64 0, .int .i64 0, .int .i64 0, .int .i64 0, .int .i64 0, .int .i64 0, .int .i64 0, .int .i64 0, .int .i64 0, .int .i64 0, .int .i64 0, .int .i64 0, .int .i64 0, .int .i64 0, .int .i64 0, .int .i64 0, .int .i64 0, .int .i64 0, .int .i64 0, .int .i64 0, .int .i64 0, .int .i64 0, .int .i64 0]) := by kernel_rfl
theorem bd_129_0 (x0 : Option Addr) (x0l x0c : Nat) {h : Heap} : runD Tryz.prog (iBuild 129 #[(0, .slice x0 x0l x0c)]) h = some (.agg #[.slice x0 x0l x0c]) := by kernel_rfl
theorem bd_131_0 (x0 : Option Addr) {h : Heap} : runD Tryz.prog (iBuild 131 #[(0, .pointer x0)]) h = some (.agg #[.pointer x0]) := by kernel_rfl
theorem bd_143_0_1 (x0 : Int) (x1 : Bool) {h : Heap} : runD Tryz.prog (iBuild 143 #[(0, .int .i64 x0), (1, .bool x1)]) h = some (.agg #[.int .i64 x0, .bool x1]) := by kernel_rfl
theorem bd_156_  {h : Heap} : runD Tryz.prog (iBuild 156 #[]) h = some (.agg #[.int .i64 0, .int .i64 0, .int .i64 0, .int .i64 0, .int .i64 0, .int .i64 0, .int .i64 0, .int .i64 0, .int .i64 0, .int .i64 0, .int .i64 0, .int .i64 0, .int .i64 0, .int .i64 0, .int .i64 0, .int .i64 0, .int .i64 0, .int .i64 0, .int .i64 0, .int .i64 0, .int .i64 0, .int .i64 0, .int .i64 0, .int .i64 0, .int .i64 0, .int .i64 0, .int .i64 0, .int .i64 0, .int .i64 0, .int .i64 0, .int .i64 0, .int .i64 0, .int .i64 0, .int .i64 0, .int .i64 0, .int .i64 0, .int .i64 0, .int .i64 0, .int .i64 0, .int .i64 0, .int .i64 0, .int .i64 0]) := by kernel_rfl
theorem bd_163_0_1_2_3 (x0 : Int) (x1 : Int) (x2 : Bool) (x3 : Bool) {h : Heap} : runD Tryz.prog (iBuild 163 #[(0, .int .i64 x0), (1, .int .i64 x1), (2, .bool x2), (3, .bool x3)]) h = some (.agg #[.int .i64 x0, .int .i64 x1, .bool x2, .bool x3, .bool false]) := by kernel_rfl
theorem bd_163_0_1_2_3_4 (x0 : Int) (x1 : Int) (x2 : Bool) (x3 : Bool) (x4 : Bool) {h : Heap} : runD Tryz.prog (iBuild 163 #[(0, .int .i64 x0), (1, .int .i64 x1), (2, .bool x2), (3, .bool x3), (4, .bool x4)]) h = some (.agg #[.int .i64 x0, .int .i64 x1, .bool x2, .bool x3, .bool x4]) := by kernel_rfl
theorem bd_167_0 (x0 : Option Addr) (x0l x0c : Nat) {h : Heap} : runD Tryz.prog (iBuild 167 #[(0, .slice x0 x0l x0c)]) h = some (.agg #[.slice x0 x0l x0c]) := by kernel_rfl
theorem flatOk_51 : flatOk Tryz.prog 51 [.bool, .bool, .int .i64, .int .i64] = true := by kernel_rfl
theorem eqls_51 {h : Heap} {x y : Operand} {xs ys : List Value} (h1 : fitL [.bool, .bool, .int .i64, .int .i64] xs) (h2 : fitL [.bool, .bool, .int .i64, .int .i64] ys) : binD Tryz.prog h .eql 51 x y (.agg xs.toArray) (.agg ys.toArray) = some (.bool (eqL xs ys)) := binD_eql_flat flatOk_51 h1 h2
theorem flatOk_56 : flatOk Tryz.prog 56 [.int .i64, .int .i64, .int .i64, .int .i64, .int .i64, .int .i64, .bool, .int .i64] = true := by kernel_rfl
theorem eqls_56 {h : Heap} {x y : Operand} {xs ys : List Value} (h1 : fitL [.int .i64, .int .i64, .int .i64, .int .i64, .int .i64, .int .i64, .bool, .int .i64] xs) (h2 : fitL [.int .i64, .int .i64, .int .i64, .int .i64, .int .i64, .int .i64, .bool, .int .i64] ys) : binD Tryz.prog h .eql 56 x y (.agg xs.toArray) (.agg ys.toArray) = some (.bool (eqL xs ys)) := binD_eql_flat flatOk_56 h1 h2
theorem neqs_56 {h : Heap} {x y : Operand} {xs ys : List Value} (h1 : fitL [.int .i64, .int .i64, .int .i64, .int .i64, .int .i64, .int .i64, .bool, .int .i64] xs) (h2 : fitL [.int .i64, .int .i64, .int .i64, .int .i64, .int .i64, .int .i64, .bool, .int .i64] ys) : binD Tryz.prog h .neq 56 x y (.agg xs.toArray) (.agg ys.toArray) = some (.bool (!eqL xs ys)) := binD_neq_flat flatOk_56 h1 h2
theorem flatOk_78 : flatOk Tryz.prog 78 [.int .i64, .int .i64, .int .i64, .int .i64] = true := by kernel_rfl
theorem neqs_78 {h : Heap} {x y : Operand} {xs ys : List Value} (h1 : fitL [.int .i64, .int .i64, .int .i64, .int .i64] xs) (h2 : fitL [.int .i64, .int .i64, .int .i64, .int .i64] ys) : binD Tryz.prog h .neq 78 x y (.agg xs.toArray) (.agg ys.toArray) = some (.bool (!eqL xs ys)) := binD_neq_flat flatOk_78 h1 h2
theorem flatOk_84 : flatOk Tryz.prog 84 [.int .i64, .int .i64, .int .i64, .int .i64, .int .i64] = true := by kernel_rfl
theorem eqls_84 {h : Heap} {x y : Operand} {xs ys : List Value} (h1 : fitL [.int .i64, .int .i64, .int .i64, .int .i64, .int .i64] xs) (h2 : fitL [.int .i64, .int .i64, .int .i64, .int .i64, .int .i64] ys) : binD Tryz.prog h .eql 84 x y (.agg xs.toArray) (.agg ys.toArray) = some (.bool (eqL xs ys)) := binD_eql_flat flatOk_84 h1 h2
theorem flatOk_98 : flatOk Tryz.prog 98 [.int .i64, .int .i64, .int .i64, .int .i64, .int .i64] = true := by kernel_rfl
theorem eqls_98 {h : Heap} {x y : Operand} {xs ys : List Value} (h1 : fitL [.int .i64, .int .i64, .int .i64, .int .i64, .int .i64] xs) (h2 : fitL [.int .i64, .int .i64, .int .i64, .int .i64, .int .i64] ys) : binD Tryz.prog h .eql 98 x y (.agg xs.toArray) (.agg ys.toArray) = some (.bool (eqL xs ys)) := binD_eql_flat flatOk_98 h1 h2
theorem neqs_98 {h : Heap} {x y : Operand} {xs ys : List Value} (h1 : fitL [.int .i64, .int .i64, .int .i64, .int .i64, .int .i64] xs) (h2 : fitL [.int .i64, .int .i64, .int .i64, .int .i64, .int .i64] ys) : binD Tryz.prog h .neq 98 x y (.agg xs.toArray) (.agg ys.toArray) = some (.bool (!eqL xs ys)) := binD_neq_flat flatOk_98 h1 h2
theorem flatOk_163 : flatOk Tryz.prog 163 [.int .i64, .int .i64, .bool, .bool, .bool] = true := by kernel_rfl
theorem neqs_163 {h : Heap} {x y : Operand} {xs ys : List Value} (h1 : fitL [.int .i64, .int .i64, .bool, .bool, .bool] xs) (h2 : fitL [.int .i64, .int .i64, .bool, .bool, .bool] ys) : binD Tryz.prog h .neq 163 x y (.agg xs.toArray) (.agg ys.toArray) = some (.bool (!eqL xs ys)) := binD_neq_flat flatOk_163 h1 h2
theorem okFn_7 : okFn Tryz.prog 7 = true := by kernel_rfl
theorem okFn_8 : okFn Tryz.prog 8 = true := by kernel_rfl
theorem okFn_9 : okFn Tryz.prog 9 = true := by kernel_rfl
theorem okFn_10 : okFn Tryz.prog 10 = true := by kernel_rfl
theorem okFn_11 : okFn Tryz.prog 11 = true := by kernel_rfl
theorem okFn_13 : okFn Tryz.prog 13 = true := by kernel_rfl
theorem okFn_14 : okFn Tryz.prog 14 = true := by kernel_rfl
theorem okFn_15 : okFn Tryz.prog 15 = true := by kernel_rfl
theorem okFn_16 : okFn Tryz.prog 16 = true := by kernel_rfl
theorem okFn_17 : okFn Tryz.prog 17 = true := by kernel_rfl
theorem okFn_18 : okFn Tryz.prog 18 = true := by kernel_rfl
theorem okFn_19 : okFn Tryz.prog 19 = true := by kernel_rfl
theorem okFn_20 : okFn Tryz.prog 20 = true := by kernel_rfl
theorem okFn_21 : okFn Tryz.prog 21 = true := by kernel_rfl
theorem okFn_22 : okFn Tryz.prog 22 = true := by kernel_rfl
theorem okFn_23 : okFn Tryz.prog 23 = true := by kernel_rfl
theorem okFn_24 : okFn Tryz.prog 24 = true := by kernel_rfl
theorem okFn_25 : okFn Tryz.prog 25 = true := by kernel_rfl
theorem okFn_26 : okFn Tryz.prog 26 = true := by kernel_rfl
theorem okFn_27 : okFn Tryz.prog 27 = true := by kernel_rfl
theorem okFn_28 : okFn Tryz.prog 28 = true := by kernel_rfl
theorem okFn_29 : okFn Tryz.prog 29 = true := by kernel_rfl
theorem okFn_30 : okFn Tryz.prog 30 = true := by kernel_rfl
theorem okFn_31 : okFn Tryz.prog 31 = true := by kernel_rfl
theorem okFn_32 : okFn Tryz.prog 32 = true := by kernel_rfl
theorem okFn_33 : okFn Tryz.prog 33 = true := by kernel_rfl
theorem okFn_34 : okFn Tryz.prog 34 = true := by kernel_rfl
theorem okFn_35 : okFn Tryz.prog 35 = true := by kernel_rfl
theorem okFn_36 : okFn Tryz.prog 36 = true := by kernel_rfl
theorem okFn_37 : okFn Tryz.prog 37 = true := by kernel_rfl
theorem okFn_38 : okFn Tryz.prog 38 = true := by kernel_rfl
theorem okFn_39 : okFn Tryz.prog 39 = true := by kernel_rfl
theorem okFn_40 : okFn Tryz.prog 40 = true := by kernel_rfl
theorem okFn_41 : okFn Tryz.prog 41 = true := by kernel_rfl
theorem okFn_42 : okFn Tryz.prog 42 = true := by kernel_rfl
theorem okFn_43 : okFn Tryz.prog 43 = true := by kernel_rfl
theorem okFn_45 : okFn Tryz.prog 45 = true := by kernel_rfl
theorem okFn_46 : okFn Tryz.prog 46 = true := by kernel_rfl
theorem okFn_47 : okFn Tryz.prog 47 = true := by kernel_rfl
theorem okFn_48 : okFn Tryz.prog 48 = true := by kernel_rfl
theorem okFn_49 : okFn Tryz.prog 49 = true := by kernel_rfl
theorem okFn_50 : okFn Tryz.prog 50 = true := by kernel_rfl
theorem okFn_51 : okFn Tryz.prog 51 = true := by kernel_rfl
theorem okFn_52 : okFn Tryz.prog 52 = true := by kernel_rfl
theorem okFn_53 : okFn Tryz.prog 53 = true := by kernel_rfl
theorem okFn_54 : okFn Tryz.prog 54 = true := by kernel_rfl
theorem okFn_55 : okFn Tryz.prog 55 = true := by kernel_rfl
theorem okFn_56 : okFn Tryz.prog 56 = true := by kernel_rfl
theorem okFn_57 : okFn Tryz.prog 57 = true := by kernel_rfl
theorem okFn_58 : okFn Tryz.prog 58 = true := by kernel_rfl
theorem okFn_59 : okFn Tryz.prog 59 = true := by kernel_rfl
theorem okFn_60 : okFn Tryz.prog 60 = true := by kernel_rfl
theorem okFn_61 : okFn Tryz.prog 61 = true := by kernel_rfl
theorem okFn_62 : okFn Tryz.prog 62 = true := by kernel_rfl
theorem okFn_63 : okFn Tryz.prog 63 = true := by kernel_rfl
theorem okFn_64 : okFn Tryz.prog 64 = true := by kernel_rfl
theorem okFn_65 : okFn Tryz.prog 65 = true := by kernel_rfl
theorem okFn_66 : okFn Tryz.prog 66 = true := by kernel_rfl
theorem okFn_67 : okFn Tryz.prog 67 = true := by kernel_rfl
theorem okFn_68 : okFn Tryz.prog 68 = true := by kernel_rfl
theorem okFn_69 : okFn Tryz.prog 69 = true := by kernel_rfl
theorem okFn_70 : okFn Tryz.prog 70 = true := by kernel_rfl
theorem okFn_71 : okFn Tryz.prog 71 = true := by kernel_rfl
theorem okFn_72 : okFn Tryz.prog 72 = true := by kernel_rfl
theorem okFn_73 : okFn Tryz.prog 73 = true := by kernel_rfl
theorem okFn_74 : okFn Tryz.prog 74 = true := by kernel_rfl
theorem okFn_75 : okFn Tryz.prog 75 = true := by kernel_rfl
theorem okFn_77 : okFn Tryz.prog 77 = true := by kernel_rfl
theorem okFn_83 : okFn Tryz.prog 83 = true := by kernel_rfl
theorem okFn_84 : okFn Tryz.prog 84 = true := by kernel_rfl
theorem okFn_91 : okFn Tryz.prog 91 = true := by kernel_rfl
theorem okFn_96 : okFn Tryz.prog 96 = true := by kernel_rfl
theorem okFn_99 : okFn Tryz.prog 99 = true := by kernel_rfl
theorem okFn_101 : okFn Tryz.prog 101 = true := by kernel_rfl
theorem okFn_102 : okFn Tryz.prog 102 = true := by kernel_rfl
theorem okFn_103 : okFn Tryz.prog 103 = true := by kernel_rfl
theorem okFn_104 : okFn Tryz.prog 104 = true := by kernel_rfl
theorem okFn_105 : okFn Tryz.prog 105 = true := by kernel_rfl
theorem okFn_106 : okFn Tryz.prog 106 = true := by kernel_rfl
theorem okFn_107 : okFn Tryz.prog 107 = true := by kernel_rfl
theorem okFn_108 : okFn Tryz.prog 108 = true := by kernel_rfl
theorem okFn_109 : okFn Tryz.prog 109 = true := by kernel_rfl
theorem okFn_110 : okFn Tryz.prog 110 = true := by kernel_rfl
theorem okFn_111 : okFn Tryz.prog 111 = true := by kernel_rfl
theorem okFn_112 : okFn Tryz.prog 112 = true := by kernel_rfl
theorem okFn_113 : okFn Tryz.prog 113 = true := by kernel_rfl
theorem okFn_114 : okFn Tryz.prog 114 = true := by kernel_rfl
theorem okFn_116 : okFn Tryz.prog 116 = true := by kernel_rfl
theorem okFn_117 : okFn Tryz.prog 117 = true := by kernel_rfl
theorem okFn_118 : okFn Tryz.prog 118 = true := by kernel_rfl
theorem okFn_119 : okFn Tryz.prog 119 = true := by kernel_rfl
theorem okFn_120 : okFn Tryz.prog 120 = true := by kernel_rfl
theorem okFn_121 : okFn Tryz.prog 121 = true := by kernel_rfl
theorem okFn_122 : okFn Tryz.prog 122 = true := by kernel_rfl
theorem okFn_124 : okFn Tryz.prog 124 = true := by kernel_rfl
theorem okFn_128 : okFn Tryz.prog 128 = true := by kernel_rfl
theorem okFn_129 : okFn Tryz.prog 129 = true := by kernel_rfl
theorem okFn_130 : okFn Tryz.prog 130 = true := by kernel_rfl
theorem okFn_132 : okFn Tryz.prog 132 = true := by kernel_rfl
theorem okFn_133 : okFn Tryz.prog 133 = true := by kernel_rfl
theorem okFn_134 : okFn Tryz.prog 134 = true := by kernel_rfl
theorem okFn_135 : okFn Tryz.prog 135 = true := by kernel_rfl
theorem okFn_136 : okFn Tryz.prog 136 = true := by kernel_rfl
theorem okFn_137 : okFn Tryz.prog 137 = true := by kernel_rfl
theorem okFn_138 : okFn Tryz.prog 138 = true := by kernel_rfl
theorem okFn_139 : okFn Tryz.prog 139 = true := by kernel_rfl
theorem okFn_140 : okFn Tryz.prog 140 = true := by kernel_rfl
theorem okFn_141 : okFn Tryz.prog 141 = true := by kernel_rfl
theorem okFn_142 : okFn Tryz.prog 142 = true := by kernel_rfl
theorem okFn_143 : okFn Tryz.prog 143 = true := by kernel_rfl
theorem okFn_144 : okFn Tryz.prog 144 = true := by kernel_rfl
theorem okFn_146 : okFn Tryz.prog 146 = true := by kernel_rfl
theorem okFn_147 : okFn Tryz.prog 147 = true := by kernel_rfl
theorem okFn_148 : okFn Tryz.prog 148 = true := by kernel_rfl
theorem okFn_149 : okFn Tryz.prog 149 = true := by kernel_rfl
theorem okFn_150 : okFn Tryz.prog 150 = true := by kernel_rfl
theorem okFn_151 : okFn Tryz.prog 151 = true := by kernel_rfl
theorem okFn_152 : okFn Tryz.prog 152 = true := by kernel_rfl
theorem okFn_153 : okFn Tryz.prog 153 = true := by kernel_rfl
theorem okFn_154 : okFn Tryz.prog 154 = true := by kernel_rfl
theorem okFn_155 : okFn Tryz.prog 155 = true := by kernel_rfl
theorem okFn_156 : okFn Tryz.prog 156 = true := by kernel_rfl
theorem okFn_157 : okFn Tryz.prog 157 = true := by kernel_rfl
theorem okFn_160 : okFn Tryz.prog 160 = true := by kernel_rfl
theorem okFn_161 : okFn Tryz.prog 161 = true := by kernel_rfl
theorem okFn_162 : okFn Tryz.prog 162 = true := by kernel_rfl
theorem okFn_163 : okFn Tryz.prog 163 = true := by kernel_rfl
theorem okFn_168 : okFn Tryz.prog 168 = true := by kernel_rfl
theorem okFn_169 : okFn Tryz.prog 169 = true := by kernel_rfl
theorem okFn_170 : okFn Tryz.prog 170 = true := by kernel_rfl
theorem okFn_171 : okFn Tryz.prog 171 = true := by kernel_rfl
attribute [go_sem ↓] fa_25_0 fa_25_1 fa_25_2 fa_25_3 fa_25_4 fa_30_0 fa_30_1 fa_30_2 fa_36_0 fa_36_1 fa_36_2 fa_41_0 fa_41_1 fa_41_2 fa_43_0 fa_43_1 fa_47_0 fa_47_3 fa_51_0 fa_51_1
attribute [go_sem ↓] fa_51_2 fa_51_3 fa_56_0 fa_72_0 fa_72_1 fa_72_2 fa_72_3 fa_78_0 fa_78_1 fa_78_2 fa_78_3 fa_84_0 fa_84_1 fa_84_2 fa_84_3 fa_84_4 fa_92_0 fa_92_1 fa_92_2 fa_96_0
attribute [go_sem ↓] fa_96_1 fa_98_0 fa_98_1 fa_98_2 fa_98_3 fa_98_4 fa_101_0 fa_101_1 fa_101_2 fa_116_0 fa_116_1 fa_116_2 fa_116_3 fa_116_4 fa_116_5 fa_116_6 fa_116_7 fa_120_0 fa_120_1 fa_129_0
attribute [go_sem ↓] fa_131_0 fa_143_0 fa_143_1 fa_148_1 fa_148_2 fa_148_3 fa_148_4 fa_148_5 fa_148_6 fa_148_7 fa_150_0 fa_150_1 fa_150_2 fa_150_3 fa_150_4 fa_150_5 fa_150_6 fa_153_0 fa_153_2 fa_153_3
attribute [go_sem ↓] fa_153_4 fa_153_5 fa_156_0 fa_156_1 fa_156_2 fa_163_0 fa_163_1 fa_163_4 fa_167_0 bd_25_0_1_2_3_4 bd_30_ bd_36_0_1 bd_41_0_1 bd_43_0_1 bd_47_ bd_47_0 bd_47_0_1_2_4
attribute [go_sem ↓] bd_51_ bd_51_0_1_2_3 bd_51_0_3 bd_56_ bd_56_0_1 bd_56_0_1_2 bd_56_0_2 bd_56_0_2_3 bd_78_0_2_3 bd_84_ bd_84_0_1_2 bd_84_0_1_4 bd_84_0_4 bd_92_0_1_2 bd_96_0_1 bd_98_ bd_98_0_1_2_3_4 bd_101_ bd_129_0
attribute [go_sem ↓] bd_131_0 bd_143_0_1 bd_156_ bd_163_0_1_2_3 bd_163_0_1_2_3_4 bd_167_0
attribute [go_sem] tsz_3 aggB_3 isInt_3 intK_3 tsz_4 aggB_4
attribute [go_sem] tsz_5 aggB_5 tbytes_5 isInt_5 intK_5 tzeroD_5 tzero_5 tsz_9 aggB_9 tbytes_9 isStr_9
attribute [go_sem] aggB_22 isSlice_22 ssz_22 selem_22 aggB_23 isSlice_23 ssz_23 selem_23
attribute [go_sem] tsz_25 aggB_25 tszD_25 tzeroD_25 tzero_25 tsz_26 aggB_26 isInt_26 intK_26
attribute [go_sem] isArr_27 arrLen_27 arrSz_27 isArr_28 arrLen_28 arrSz_28
attribute [go_sem] tsz_30 aggB_30 tszD_30 tzeroD_30 tzero_30 aggB_32 isPtr_32 aggB_33
attribute [go_sem] isPtr_33 tsz_34 aggB_34 isPtr_34 aggB_36
attribute [go_sem] tszD_36 aggB_37 aggB_38 tsz_39 aggB_39
attribute [go_sem] isPtr_39 aggB_41 tszD_41
attribute [go_sem] tsz_43 aggB_43 tszD_43 tzeroD_43 tzero_43
attribute [go_sem] tsz_47 aggB_47 tszD_47 tzeroD_47 tzero_47 tsz_51
attribute [go_sem] aggB_51 tszD_51 tzeroD_51 tzero_51
attribute [go_sem] tsz_56 aggB_56 tszD_56 tzeroD_56 tzero_56 aggB_60
attribute [go_sem] isSlice_60 ssz_60 selem_60
attribute [go_sem] isSlice_70 ssz_70 tsz_72 aggB_72 tszD_72 tzeroD_72 tzero_72
attribute [go_sem] tsz_78 aggB_78 tszD_78 tzeroD_78 tzero_78 tsz_84 aggB_84 tszD_84 tzeroD_84
attribute [go_sem] tzero_84
attribute [go_sem] tzeroD_92 tzero_92 tzeroD_96 tzero_96
attribute [go_sem] tsz_98 aggB_98 tszD_98 tzeroD_98 tzero_98 tsz_99 aggB_99 tszD_99 isArr_99 arrLen_99 arrSz_99 tzeroD_99 tzero_99
attribute [go_sem] isInt_112 intK_112
attribute [go_sem] aggB_114
attribute [go_sem] aggB_118
attribute [go_sem] tsz_120 aggB_120 tszD_120 tzeroD_120 tzero_120 tsz_121 aggB_121 tszD_121 tzeroD_121 tzero_121
attribute [go_sem] tsz_126 aggB_126 tszD_126 tbytes_126 isArr_126 arrLen_126 arrSz_126 tzeroD_126 tzero_126 aggB_127 isSlice_127 ssz_127 selem_127
attribute [go_sem] tsz_131 aggB_131 tszD_131
attribute [go_sem] tzeroD_131 tzero_131
attribute [go_sem] tsz_143 tszD_143 tzeroD_143 tzero_143 isArr_145 arrLen_145 arrSz_145
attribute [go_sem] aggB_146
attribute [go_sem] tsz_150 aggB_150 tszD_150 tzeroD_150 tzero_150 isArr_151 arrLen_151 arrSz_151
attribute [go_sem] isInt_157 intK_157 isSlice_158 ssz_158 isSlice_160 ssz_160
attribute [go_sem] selem_160 tsz_163 aggB_163 tszD_163 tbytes_163 tzeroD_163 tzero_163
attribute [go_sem] aggB_178 aggB_181
attribute [go_sem] isSlice_218 ssz_218 selem_218
attribute [go_sem] eqls_51
attribute [go_sem] eqls_56 neqs_56 neqs_78 eqls_84 eqls_98 neqs_98 neqs_163 okFn_7 okFn_8 okFn_9 okFn_10 okFn_11 okFn_13 okFn_14 okFn_15 okFn_16
attribute [go_sem] okFn_17 okFn_18 okFn_19 okFn_20 okFn_21 okFn_22 okFn_23 okFn_24 okFn_25 okFn_26 okFn_27 okFn_28 okFn_29 okFn_30 okFn_31 okFn_32 okFn_33 okFn_34 okFn_35 okFn_36
attribute [go_sem] okFn_37 okFn_38 okFn_39 okFn_40 okFn_41 okFn_42 okFn_43 okFn_45 okFn_46 okFn_47 okFn_48 okFn_49 okFn_50 okFn_51 okFn_52 okFn_53 okFn_54 okFn_55 okFn_56 okFn_57
attribute [go_sem] okFn_58 okFn_59 okFn_60 okFn_61 okFn_62 okFn_63 okFn_64 okFn_65 okFn_66 okFn_67 okFn_68 okFn_69 okFn_70 okFn_71 okFn_72 okFn_73 okFn_74 okFn_75 okFn_77 okFn_83
attribute [go_sem] okFn_84 okFn_91 okFn_96 okFn_99 okFn_101 okFn_102 okFn_103 okFn_104 okFn_105 okFn_106 okFn_107 okFn_108 okFn_109 okFn_110 okFn_111 okFn_112 okFn_113 okFn_114 okFn_116 okFn_117
attribute [go_sem] okFn_118 okFn_119 okFn_120 okFn_121 okFn_122 okFn_124 okFn_128 okFn_129 okFn_130 okFn_132 okFn_133 okFn_134 okFn_135 okFn_136 okFn_137
attribute [go_sem] okFn_138 okFn_139 okFn_140 okFn_141 okFn_142 okFn_143 okFn_144 okFn_146 okFn_147 okFn_148 okFn_149 okFn_150 okFn_151 okFn_152 okFn_153 okFn_154 okFn_155 okFn_156 okFn_157
attribute [go_sem] okFn_160 okFn_161 okFn_162 okFn_163 okFn_168 okFn_169 okFn_170 okFn_171
attribute [go_sem] Tryz.underlying0 Tryz.underlying3 Tryz.underlying4 Tryz.underlying5 Tryz.underlying9 Tryz.underlying21 Tryz.underlying22 Tryz.underlying23 Tryz.underlying24 Tryz.underlying25 Tryz.underlying26 Tryz.underlying27 Tryz.underlying28 Tryz.underlying29 Tryz.underlying30 Tryz.underlying32 Tryz.underlying33 Tryz.underlying34 Tryz.underlying35
attribute [go_sem] Tryz.underlying36 Tryz.underlying37 Tryz.underlying38 Tryz.underlying39 Tryz.underlying40 Tryz.underlying41 Tryz.underlying42 Tryz.underlying43 Tryz.underlying44 Tryz.underlying46 Tryz.underlying47 Tryz.underlying48 Tryz.underlying50 Tryz.underlying51 Tryz.underlying52 Tryz.underlying53 Tryz.underlying55 Tryz.underlying56 Tryz.underlying57 Tryz.underlying60
attribute [go_sem] Tryz.underlying61 Tryz.underlying65 Tryz.underlying67 Tryz.underlying68 Tryz.underlying70 Tryz.underlying71 Tryz.underlying72 Tryz.underlying77 Tryz.underlying78 Tryz.underlying83 Tryz.underlying84 Tryz.underlying85 Tryz.underlying87 Tryz.underlying91 Tryz.underlying92 Tryz.underlying95 Tryz.underlying96 Tryz.underlying97 Tryz.underlying98 Tryz.underlying99
attribute [go_sem] Tryz.underlying100 Tryz.underlying101 Tryz.underlying102 Tryz.underlying104 Tryz.underlying106 Tryz.underlying109 Tryz.underlying112 Tryz.underlying113 Tryz.underlying114 Tryz.underlying115 Tryz.underlying116 Tryz.underlying118 Tryz.underlying119 Tryz.underlying120 Tryz.underlying121 Tryz.underlying124 Tryz.underlying126 Tryz.underlying127 Tryz.underlying128 Tryz.underlying129
attribute [go_sem] Tryz.underlying130 Tryz.underlying131 Tryz.underlying133 Tryz.underlying135 Tryz.underlying142 Tryz.underlying143 Tryz.underlying144 Tryz.underlying145 Tryz.underlying146 Tryz.underlying147 Tryz.underlying148 Tryz.underlying149 Tryz.underlying150 Tryz.underlying151 Tryz.underlying152 Tryz.underlying153 Tryz.underlying155 Tryz.underlying156 Tryz.underlying157 Tryz.underlying158
attribute [go_sem] Tryz.underlying160 Tryz.underlying162 Tryz.underlying163 Tryz.underlying166 Tryz.underlying167 Tryz.underlying168 Tryz.underlying170 Tryz.underlying178 Tryz.underlying181 Tryz.underlying187 Tryz.underlying189 Tryz.underlying193 Tryz.underlying198 Tryz.underlying199 Tryz.underlying201 Tryz.underlying208 Tryz.underlying211 Tryz.underlying218 Tryz.underlying223 Tryz.underlying224
attribute [go_sem] Tryz.underlying225 Tryz.underlying231 Tryz.underlying233 Tryz.underlying235 Tryz.underlying236 Tryz.underlying237 Tryz.underlying238 Tryz.underlying239
def T2 : Tab := ⟨[(0, [])], [], []⟩
def T6 : Tab := ⟨[(0, [2, 3, 4]), (1, [2, 3, 4, 7]), (2, [2, 3, 4, 7, 8, 9]), (3, [2, 3, 4, 7, 8, 35]), (4, [6]), (5, [2, 3, 4, 7, 8, 10]), (6, [2, 3, 4, 7, 8, 10, 11]), (7, [2, 3, 4, 7, 8, 10, 11, 44]), (8, [2, 3, 4, 7, 8, 10, 11]), (9, [2, 3, 4, 7, 8, 10, 11, 12]), (10, [2, 3, 4, 7, 8, 10, 11, 12, 52]), (11, [2, 3, 4, 7, 8, 10, 11, 12, 52, 53]), (12, [2, 3, 4, 7, 8, 10, 11, 12, 13, 14]), (13, [2, 3, 4, 7, 8, 10, 11, 13, 14, 15, 16]), (14, [2, 3, 4, 7, 8, 10, 11, 14, 15, 16]), (15, [2, 3, 4, 7, 8, 10, 11, 14, 16]), (16, [2, 3, 4, 7, 8, 10, 11, 85]), (17, [6]), (18, [2, 3, 4, 7, 8, 10, 11, 12, 52, 86]), (19, [2, 3, 4, 7, 8, 10, 11, 12, 17, 18, 19]), (20, [2, 3, 4, 7, 8, 10, 11, 17, 18, 19, 20, 21, 22]), (21, [2, 3, 4, 7, 8, 10, 11, 18, 19, 20, 21, 22]), (22, [2, 3, 4, 7, 8, 10, 11, 18, 19, 21, 22]), (23, [2, 3, 4, 7, 8, 10, 11, 125]), (24, [6]), (25, [2, 3, 4, 7, 8, 10, 11, 12, 52, 126]), (26, [2, 3, 4, 7, 8, 10, 11, 12, 131]), (27, [2, 3, 4, 7, 8, 10, 11, 12, 23]), (28, [2, 3, 4, 7, 8, 10, 11, 23, 24]), (29, [2, 3, 4, 7, 8, 10, 11, 154]), (30, [6]), (31, [2, 3, 4, 7, 8, 10, 11, 12, 155]), (32, [2, 3, 4, 7, 8, 10, 11, 12]), (33, [2, 3, 4, 7, 8, 10, 11]), (34, [2, 3, 4, 7, 8, 10, 11, 25]), (35, [2, 3, 4, 7, 8, 10, 11, 25, 26]), (36, [2, 3, 4, 7, 8, 10, 11, 25, 26, 27]), (37, [2, 3, 4, 7, 8, 10, 11, 198]), (38, [6]), (39, [6])], [(0, [2, 3, 4, 7, 8, 10, 11])], []⟩
theorem T6_sch : T6.sch = [] := (rfl)
theorem T6_reg : T6.reg = [(0, [2, 3, 4]), (1, [2, 3, 4, 7]), (2, [2, 3, 4, 7, 8, 9]), (3, [2, 3, 4, 7, 8, 35]), (4, [6]), (5, [2, 3, 4, 7, 8, 10]), (6, [2, 3, 4, 7, 8, 10, 11]), (7, [2, 3, 4, 7, 8, 10, 11, 44]), (8, [2, 3, 4, 7, 8, 10, 11]), (9, [2, 3, 4, 7, 8, 10, 11, 12]), (10, [2, 3, 4, 7, 8, 10, 11, 12, 52]), (11, [2, 3, 4, 7, 8, 10, 11, 12, 52, 53]), (12, [2, 3, 4, 7, 8, 10, 11, 12, 13, 14]), (13, [2, 3, 4, 7, 8, 10, 11, 13, 14, 15, 16]), (14, [2, 3, 4, 7, 8, 10, 11, 14, 15, 16]), (15, [2, 3, 4, 7, 8, 10, 11, 14, 16]), (16, [2, 3, 4, 7, 8, 10, 11, 85]), (17, [6]), (18, [2, 3, 4, 7, 8, 10, 11, 12, 52, 86]), (19, [2, 3, 4, 7, 8, 10, 11, 12, 17, 18, 19]), (20, [2, 3, 4, 7, 8, 10, 11, 17, 18, 19, 20, 21, 22]), (21, [2, 3, 4, 7, 8, 10, 11, 18, 19, 20, 21, 22]), (22, [2, 3, 4, 7, 8, 10, 11, 18, 19, 21, 22]), (23, [2, 3, 4, 7, 8, 10, 11, 125]), (24, [6]), (25, [2, 3, 4, 7, 8, 10, 11, 12, 52, 126]), (26, [2, 3, 4, 7, 8, 10, 11, 12, 131]), (27, [2, 3, 4, 7, 8, 10, 11, 12, 23]), (28, [2, 3, 4, 7, 8, 10, 11, 23, 24]), (29, [2, 3, 4, 7, 8, 10, 11, 154]), (30, [6]), (31, [2, 3, 4, 7, 8, 10, 11, 12, 155]), (32, [2, 3, 4, 7, 8, 10, 11, 12]), (33, [2, 3, 4, 7, 8, 10, 11]), (34, [2, 3, 4, 7, 8, 10, 11, 25]), (35, [2, 3, 4, 7, 8, 10, 11, 25, 26]), (36, [2, 3, 4, 7, 8, 10, 11, 25, 26, 27]), (37, [2, 3, 4, 7, 8, 10, 11, 198]), (38, [6]), (39, [6])] := (rfl)
theorem T6_loops : T6.loops = [(0, [2, 3, 4, 7, 8, 10, 11])] := (rfl)
def T7 : Tab := ⟨[(0, []), (1, [1, 2]), (2, [1, 2, 3, 4]), (3, [1, 2, 3, 4, 5, 6]), (4, [1, 2, 3, 4, 5, 6, 7, 8]), (5, [1, 3, 5, 7, 55]), (6, [0]), (7, [3, 5, 7, 9, 10]), (8, [3, 5, 7, 9, 10, 11]), (9, [3, 5, 7, 9, 10, 11]), (10, [5, 7, 9, 10, 12, 13]), (11, [7, 9, 10, 12, 13, 15]), (12, [9, 10, 12, 13, 15, 17]), (13, [0])], [], []⟩
theorem T7_sch : T7.sch = [] := (rfl)
theorem T7_reg : T7.reg = [(0, []), (1, [1, 2]), (2, [1, 2, 3, 4]), (3, [1, 2, 3, 4, 5, 6]), (4, [1, 2, 3, 4, 5, 6, 7, 8]), (5, [1, 3, 5, 7, 55]), (6, [0]), (7, [3, 5, 7, 9, 10]), (8, [3, 5, 7, 9, 10, 11]), (9, [3, 5, 7, 9, 10, 11]), (10, [5, 7, 9, 10, 12, 13]), (11, [7, 9, 10, 12, 13, 15]), (12, [9, 10, 12, 13, 15, 17]), (13, [0])] := (rfl)
def T8 : Tab := ⟨[(0, [1, 2]), (1, [1, 2, 4, 5]), (2, [1, 2, 4, 5, 6]), (3, [1, 2, 4, 5, 6, 8]), (4, [1, 2, 4, 6, 8, 34]), (5, [2, 3]), (6, [1, 2, 4, 6, 8, 9]), (7, [1, 2, 4, 6, 8, 9, 44]), (8, [1, 2, 4, 6, 8, 9]), (9, [1, 2, 4, 6, 8, 9]), (10, [1, 2, 4, 6, 8, 9]), (11, [1, 2, 4, 6, 8, 10]), (12, [1, 2, 4, 6, 8, 10, 95]), (13, [1, 2, 4, 6, 8, 10]), (14, [1, 2, 4, 6, 8, 10]), (15, [1, 2, 4, 6, 8, 10]), (16, [1, 2, 11]), (17, [2, 11, 135]), (18, [2, 11, 12, 13]), (19, [2, 11, 12, 13, 14]), (20, [2, 11, 12, 14, 149]), (21, [2, 3]), (22, [2, 11, 14]), (23, [2, 11]), (24, [2, 3])], [(0, [1, 2, 4, 6, 8, 9]), (2, [1, 2, 4, 6, 8, 10])], []⟩
theorem T8_sch : T8.sch = [] := (rfl)
theorem T8_reg : T8.reg = [(0, [1, 2]), (1, [1, 2, 4, 5]), (2, [1, 2, 4, 5, 6]), (3, [1, 2, 4, 5, 6, 8]), (4, [1, 2, 4, 6, 8, 34]), (5, [2, 3]), (6, [1, 2, 4, 6, 8, 9]), (7, [1, 2, 4, 6, 8, 9, 44]), (8, [1, 2, 4, 6, 8, 9]), (9, [1, 2, 4, 6, 8, 9]), (10, [1, 2, 4, 6, 8, 9]), (11, [1, 2, 4, 6, 8, 10]), (12, [1, 2, 4, 6, 8, 10, 95]), (13, [1, 2, 4, 6, 8, 10]), (14, [1, 2, 4, 6, 8, 10]), (15, [1, 2, 4, 6, 8, 10]), (16, [1, 2, 11]), (17, [2, 11, 135]), (18, [2, 11, 12, 13]), (19, [2, 11, 12, 13, 14]), (20, [2, 11, 12, 14, 149]), (21, [2, 3]), (22, [2, 11, 14]), (23, [2, 11]), (24, [2, 3])] := (rfl)
theorem T8_loops : T8.loops = [(0, [1, 2, 4, 6, 8, 9]), (2, [1, 2, 4, 6, 8, 10])] := (rfl)
def T9 : Tab := ⟨[(0, [0, 1, 2, 8]), (1, [0, 1, 2, 8, 18]), (2, [6, 7, 8]), (3, [0, 2, 8, 9, 10]), (4, [0, 2, 8, 9, 10, 28]), (5, [6, 7, 8]), (6, [2, 8, 11, 12]), (7, [2, 8, 11, 12, 41]), (8, [6, 7, 8]), (9, [6, 7, 8])], [], []⟩
theorem T9_sch : T9.sch = [] := (rfl)
theorem T9_reg : T9.reg = [(0, [0, 1, 2, 8]), (1, [0, 1, 2, 8, 18]), (2, [6, 7, 8]), (3, [0, 2, 8, 9, 10]), (4, [0, 2, 8, 9, 10, 28]), (5, [6, 7, 8]), (6, [2, 8, 11, 12]), (7, [2, 8, 11, 12, 41]), (8, [6, 7, 8]), (9, [6, 7, 8])] := (rfl)
def T10 : Tab := ⟨[(0, [0, 1, 2, 6]), (1, [0, 1, 2, 6, 8]), (2, [0, 1, 2, 6, 8, 16]), (3, [6, 7]), (4, [6, 9]), (5, [6, 7])], [], []⟩
theorem T10_sch : T10.sch = [] := (rfl)
theorem T10_reg : T10.reg = [(0, [0, 1, 2, 6]), (1, [0, 1, 2, 6, 8]), (2, [0, 1, 2, 6, 8, 16]), (3, [6, 7]), (4, [6, 9]), (5, [6, 7])] := (rfl)
def T11 : Tab := ⟨[(0, [2, 3, 4, 5, 6, 10, 11]), (1, [2, 3, 4, 5, 6, 10, 11, 12]), (2, [5, 6, 10, 11, 12, 13]), (3, [5, 6, 10, 11, 12, 13, 14]), (4, [5, 6, 10, 11, 12, 13, 14, 31]), (5, [10, 11]), (6, [5, 6, 10, 11, 12, 13, 15]), (7, [6, 10, 11, 12, 13, 15, 47]), (8, [10, 11]), (9, [6, 10, 11, 12, 13, 16]), (10, [6, 10, 11, 12, 13, 16, 64]), (11, [10, 11]), (12, [6, 10, 11, 16]), (13, [10, 11])], [], [(2, ⟨928, 95, [0, 0, 0, 0, 0, 30, 0, 127, 255, 511], (.rd 0 false (.rd 1 false (.rd 2 false (.rd 3 false (.rd 4 false (.rd 6 false (.wr 5 (.rd 0 true (.rd 6 true (.wr 7 (.wr 8 (.wr 9 .done .no) .no) .no))) .no)))))))⟩), (5, ⟨12, 3, [0, 0, 1, 7], (.rd 0 false (.rd 1 false (.wr 2 (.rd 1 true (.wr 3 .done .no)) .no)))⟩), (6, ⟨385, 126, [0, 0, 2, 6, 14, 30, 63, 0, 255], (.rd 1 false (.rd 2 false (.rd 3 false (.rd 4 false (.rd 5 false (.wr 0 (.rd 1 true (.rd 2 true (.rd 3 true (.rd 4 true (.rd 5 true (.rd 6 false (.wr 7 (.rd 1 true (.rd 2 true (.rd 3 true (.rd 4 true (.rd 5 true (.rd 6 true (.wr 8 .done .no))))))) .no))))))) (.wr 7 (.rd 1 true (.rd 2 true (.rd 3 true (.rd 4 true (.rd 5 true (.wr 0 (.rd 1 true (.rd 2 true (.rd 3 true (.rd 4 true (.rd 5 true (.rd 6 false (.wr 8 .done .no))))))) .no)))))) .no)))))))⟩), (8, ⟨28, 3, [0, 0, 2, 7, 15], (.rd 0 false (.rd 1 false (.wr 2 (.rd 0 true (.wr 3 (.wr 4 .done .no) .no)) .no)))⟩), (11, ⟨12, 3, [0, 0, 1, 7], (.rd 0 false (.rd 1 false (.wr 2 (.rd 1 true (.wr 3 .done .no)) .no)))⟩), (13, ⟨12, 3, [0, 0, 1, 7], (.rd 0 false (.rd 1 false (.wr 2 (.rd 1 true (.wr 3 .done .no)) .no)))⟩)]⟩
theorem T11_sch : T11.sch = [(2, ⟨928, 95, [0, 0, 0, 0, 0, 30, 0, 127, 255, 511], (.rd 0 false (.rd 1 false (.rd 2 false (.rd 3 false (.rd 4 false (.rd 6 false (.wr 5 (.rd 0 true (.rd 6 true (.wr 7 (.wr 8 (.wr 9 .done .no) .no) .no))) .no)))))))⟩), (5, ⟨12, 3, [0, 0, 1, 7], (.rd 0 false (.rd 1 false (.wr 2 (.rd 1 true (.wr 3 .done .no)) .no)))⟩), (6, ⟨385, 126, [0, 0, 2, 6, 14, 30, 63, 0, 255], (.rd 1 false (.rd 2 false (.rd 3 false (.rd 4 false (.rd 5 false (.wr 0 (.rd 1 true (.rd 2 true (.rd 3 true (.rd 4 true (.rd 5 true (.rd 6 false (.wr 7 (.rd 1 true (.rd 2 true (.rd 3 true (.rd 4 true (.rd 5 true (.rd 6 true (.wr 8 .done .no))))))) .no))))))) (.wr 7 (.rd 1 true (.rd 2 true (.rd 3 true (.rd 4 true (.rd 5 true (.wr 0 (.rd 1 true (.rd 2 true (.rd 3 true (.rd 4 true (.rd 5 true (.rd 6 false (.wr 8 .done .no))))))) .no)))))) .no)))))))⟩), (8, ⟨28, 3, [0, 0, 2, 7, 15], (.rd 0 false (.rd 1 false (.wr 2 (.rd 0 true (.wr 3 (.wr 4 .done .no) .no)) .no)))⟩), (11, ⟨12, 3, [0, 0, 1, 7], (.rd 0 false (.rd 1 false (.wr 2 (.rd 1 true (.wr 3 .done .no)) .no)))⟩), (13, ⟨12, 3, [0, 0, 1, 7], (.rd 0 false (.rd 1 false (.wr 2 (.rd 1 true (.wr 3 .done .no)) .no)))⟩)] := (rfl)
theorem T11_reg : T11.reg = [(0, [2, 3, 4, 5, 6, 10, 11]), (1, [2, 3, 4, 5, 6, 10, 11, 12]), (2, [5, 6, 10, 11, 12, 13]), (3, [5, 6, 10, 11, 12, 13, 14]), (4, [5, 6, 10, 11, 12, 13, 14, 31]), (5, [10, 11]), (6, [5, 6, 10, 11, 12, 13, 15]), (7, [6, 10, 11, 12, 13, 15, 47]), (8, [10, 11]), (9, [6, 10, 11, 12, 13, 16]), (10, [6, 10, 11, 12, 13, 16, 64]), (11, [10, 11]), (12, [6, 10, 11, 16]), (13, [10, 11])] := (rfl)
def T13 : Tab := ⟨[(0, [0, 1]), (1, [0, 1, 10]), (2, [4, 5]), (3, [6]), (4, [4, 5])], [], []⟩
theorem T13_sch : T13.sch = [] := (rfl)
theorem T13_reg : T13.reg = [(0, [0, 1]), (1, [0, 1, 10]), (2, [4, 5]), (3, [6]), (4, [4, 5])] := (rfl)
def T14 : Tab := ⟨[(0, [0, 1]), (1, [0, 1, 10]), (2, [4]), (3, [0, 1, 5]), (4, [0, 1, 5, 14]), (5, [0, 1, 5]), (6, [0, 1, 5, 25]), (7, [4]), (8, [4])], [(0, [0, 1, 5])], []⟩
theorem T14_sch : T14.sch = [] := (rfl)
theorem T14_reg : T14.reg = [(0, [0, 1]), (1, [0, 1, 10]), (2, [4]), (3, [0, 1, 5]), (4, [0, 1, 5, 14]), (5, [0, 1, 5]), (6, [0, 1, 5, 25]), (7, [4]), (8, [4])] := (rfl)
theorem T14_loops : T14.loops = [(0, [0, 1, 5])] := (rfl)
def T15 : Tab := ⟨[(0, [0, 1, 2, 8]), (1, [0, 1, 2, 8, 16]), (2, [6, 7, 8]), (3, [2, 8, 9, 10]), (4, [2, 8, 9, 10, 11]), (5, [2, 8, 9, 10, 11, 12]), (6, [2, 8, 9, 10, 11, 12]), (7, [2, 8, 9, 10, 11, 12]), (8, [2, 8, 9, 11, 12, 13]), (9, [2, 8, 9, 11, 12, 13, 32]), (10, [6, 7, 8]), (11, [2, 8, 9, 11, 12, 38]), (12, [2, 8, 9, 10, 11, 12]), (13, [6, 7, 8])], [(0, [2, 8, 9, 10, 11, 12])], []⟩
theorem T15_sch : T15.sch = [] := (rfl)
theorem T15_reg : T15.reg = [(0, [0, 1, 2, 8]), (1, [0, 1, 2, 8, 16]), (2, [6, 7, 8]), (3, [2, 8, 9, 10]), (4, [2, 8, 9, 10, 11]), (5, [2, 8, 9, 10, 11, 12]), (6, [2, 8, 9, 10, 11, 12]), (7, [2, 8, 9, 10, 11, 12]), (8, [2, 8, 9, 11, 12, 13]), (9, [2, 8, 9, 11, 12, 13, 32]), (10, [6, 7, 8]), (11, [2, 8, 9, 11, 12, 38]), (12, [2, 8, 9, 10, 11, 12]), (13, [6, 7, 8])] := (rfl)
theorem T15_loops : T15.loops = [(0, [2, 8, 9, 10, 11, 12])] := (rfl)
def T16 : Tab := ⟨[(0, [2, 3, 4, 5, 6, 10, 11]), (1, [2, 3, 4, 5, 6, 10, 11, 13]), (2, [2, 3, 4, 5, 6, 10, 11, 13, 19]), (3, [2, 3, 4, 5, 6, 10, 11, 13, 14, 15]), (4, [2, 3, 4, 5, 6, 10, 11, 13, 15]), (5, [2, 3, 4, 5, 6, 10, 11, 13, 15, 35]), (6, [10, 11, 12]), (7, [2, 3, 4, 5, 6, 10, 11, 13]), (8, [10, 11, 12])], [(0, [2, 3, 4, 5, 6, 10, 11, 13])], [(6, ⟨56, 7, [0, 0, 0, 1, 11, 31], (.rd 0 false (.rd 1 false (.rd 2 false (.wr 3 (.rd 1 true (.rd 2 true (.wr 4 (.rd 2 true (.wr 5 .done .no)) .no))) .no))))⟩)]⟩
theorem T16_sch : T16.sch = [(6, ⟨56, 7, [0, 0, 0, 1, 11, 31], (.rd 0 false (.rd 1 false (.rd 2 false (.wr 3 (.rd 1 true (.rd 2 true (.wr 4 (.rd 2 true (.wr 5 .done .no)) .no))) .no))))⟩)] := (rfl)
theorem T16_reg : T16.reg = [(0, [2, 3, 4, 5, 6, 10, 11]), (1, [2, 3, 4, 5, 6, 10, 11, 13]), (2, [2, 3, 4, 5, 6, 10, 11, 13, 19]), (3, [2, 3, 4, 5, 6, 10, 11, 13, 14, 15]), (4, [2, 3, 4, 5, 6, 10, 11, 13, 15]), (5, [2, 3, 4, 5, 6, 10, 11, 13, 15, 35]), (6, [10, 11, 12]), (7, [2, 3, 4, 5, 6, 10, 11, 13]), (8, [10, 11, 12])] := (rfl)
theorem T16_loops : T16.loops = [(0, [2, 3, 4, 5, 6, 10, 11, 13])] := (rfl)
def T17 : Tab := ⟨[(0, [2, 3, 4, 5, 6, 10, 11]), (1, [2, 3, 4, 5, 6, 10, 11, 32]), (2, [10, 11]), (3, [4, 5, 6, 10, 11, 12]), (4, [4, 5, 6, 10, 11, 12, 13, 14]), (5, [4, 5, 6, 10, 11, 12, 13, 14, 53]), (6, [10, 11]), (7, [4, 5, 6, 10, 11, 12, 15]), (8, [4, 5, 6, 10, 11, 12, 15, 17, 18]), (9, [4, 5, 6, 10, 11, 12, 15, 17, 82]), (10, [10, 11]), (11, [4, 5, 6, 10, 11, 12, 17, 91]), (12, [6, 10, 11]), (13, [10, 11]), (14, [4, 5, 6, 10, 11, 12, 17, 116]), (15, [10, 11]), (16, [5, 6, 10, 11, 12, 17, 127]), (17, [10, 11]), (18, [10, 11])], [], [(2, ⟨48, 15, [0, 0, 2, 6, 1, 31], (.rd 0 false (.rd 1 false (.rd 2 false (.rd 3 false (.wr 4 (.rd 1 true (.rd 2 true (.rd 3 true (.wr 5 .done .no)))) .no)))))⟩), (6, ⟨96, 31, [0, 0, 2, 0, 14, 1, 63], (.rd 0 false (.rd 1 false (.rd 2 false (.rd 3 false (.rd 4 false (.wr 5 (.rd 1 true (.rd 2 true (.rd 3 true (.rd 4 true (.wr 6 .done .no))))) .no))))))⟩), (10, ⟨192, 63, [0, 0, 2, 0, 8, 30, 1, 127], (.rd 0 false (.rd 1 false (.rd 2 false (.rd 3 false (.rd 4 false (.rd 5 false (.wr 6 (.rd 1 true (.rd 2 true (.rd 3 true (.rd 4 true (.rd 5 true (.wr 7 .done .no)))))) .no)))))))⟩), (12, ⟨106496, 24575, [0, 1, 0, 0, 8, 0, 56, 120, 0, 256, 0, 1792, 3840, 8188, 0, 32767, 65535], (.rd 0 false (.rd 1 false (.rd 2 false (.rd 3 false (.rd 4 false (.rd 5 false (.rd 6 false (.rd 7 false (.rd 8 false (.rd 9 false (.rd 10 false (.rd 11 false (.rd 12 false (.rd 14 false (.wr 13 (.rd 0 true (.rd 1 true (.rd 14 true (.wr 15 (.wr 16 .done .no) .no)))) .no)))))))))))))))⟩)]⟩
theorem T17_sch : T17.sch = [(2, ⟨48, 15, [0, 0, 2, 6, 1, 31], (.rd 0 false (.rd 1 false (.rd 2 false (.rd 3 false (.wr 4 (.rd 1 true (.rd 2 true (.rd 3 true (.wr 5 .done .no)))) .no)))))⟩), (6, ⟨96, 31, [0, 0, 2, 0, 14, 1, 63], (.rd 0 false (.rd 1 false (.rd 2 false (.rd 3 false (.rd 4 false (.wr 5 (.rd 1 true (.rd 2 true (.rd 3 true (.rd 4 true (.wr 6 .done .no))))) .no))))))⟩), (10, ⟨192, 63, [0, 0, 2, 0, 8, 30, 1, 127], (.rd 0 false (.rd 1 false (.rd 2 false (.rd 3 false (.rd 4 false (.rd 5 false (.wr 6 (.rd 1 true (.rd 2 true (.rd 3 true (.rd 4 true (.rd 5 true (.wr 7 .done .no)))))) .no)))))))⟩), (12, ⟨106496, 24575, [0, 1, 0, 0, 8, 0, 56, 120, 0, 256, 0, 1792, 3840, 8188, 0, 32767, 65535], (.rd 0 false (.rd 1 false (.rd 2 false (.rd 3 false (.rd 4 false (.rd 5 false (.rd 6 false (.rd 7 false (.rd 8 false (.rd 9 false (.rd 10 false (.rd 11 false (.rd 12 false (.rd 14 false (.wr 13 (.rd 0 true (.rd 1 true (.rd 14 true (.wr 15 (.wr 16 .done .no) .no)))) .no)))))))))))))))⟩)] := (rfl)
theorem T17_reg : T17.reg = [(0, [2, 3, 4, 5, 6, 10, 11]), (1, [2, 3, 4, 5, 6, 10, 11, 32]), (2, [10, 11]), (3, [4, 5, 6, 10, 11, 12]), (4, [4, 5, 6, 10, 11, 12, 13, 14]), (5, [4, 5, 6, 10, 11, 12, 13, 14, 53]), (6, [10, 11]), (7, [4, 5, 6, 10, 11, 12, 15]), (8, [4, 5, 6, 10, 11, 12, 15, 17, 18]), (9, [4, 5, 6, 10, 11, 12, 15, 17, 82]), (10, [10, 11]), (11, [4, 5, 6, 10, 11, 12, 17, 91]), (12, [6, 10, 11]), (13, [10, 11]), (14, [4, 5, 6, 10, 11, 12, 17, 116]), (15, [10, 11]), (16, [5, 6, 10, 11, 12, 17, 127]), (17, [10, 11]), (18, [10, 11])] := (rfl)
def T18 : Tab := ⟨[(0, [2, 3, 4, 5, 6, 10, 11]), (1, [2, 3, 4, 5, 6, 10, 11, 13]), (2, [2, 3, 4, 5, 6, 10, 11, 13, 23]), (3, [2, 3, 4, 5, 6, 10, 11, 13, 14]), (4, [2, 3, 4, 5, 6, 10, 11, 13, 14, 29]), (5, [2, 3, 4, 5, 6, 10, 11, 13, 14]), (6, [2, 3, 4, 5, 6, 10, 11, 13, 15, 16]), (7, [2, 3, 4, 5, 6, 10, 11, 13, 15, 16, 43]), (8, [10, 11, 12]), (9, [2, 3, 4, 5, 6, 10, 11, 13]), (10, [2, 3, 4, 5, 6, 10, 11, 13]), (11, [10, 11, 12])], [(0, [2, 3, 4, 5, 6, 10, 11, 13])], [(8, ⟨56, 7, [0, 0, 0, 1, 11, 31], (.rd 0 false (.rd 1 false (.rd 2 false (.wr 3 (.rd 1 true (.rd 2 true (.wr 4 (.rd 2 true (.wr 5 .done .no)) .no))) .no))))⟩)]⟩
theorem T18_sch : T18.sch = [(8, ⟨56, 7, [0, 0, 0, 1, 11, 31], (.rd 0 false (.rd 1 false (.rd 2 false (.wr 3 (.rd 1 true (.rd 2 true (.wr 4 (.rd 2 true (.wr 5 .done .no)) .no))) .no))))⟩)] := (rfl)
theorem T18_reg : T18.reg = [(0, [2, 3, 4, 5, 6, 10, 11]), (1, [2, 3, 4, 5, 6, 10, 11, 13]), (2, [2, 3, 4, 5, 6, 10, 11, 13, 23]), (3, [2, 3, 4, 5, 6, 10, 11, 13, 14]), (4, [2, 3, 4, 5, 6, 10, 11, 13, 14, 29]), (5, [2, 3, 4, 5, 6, 10, 11, 13, 14]), (6, [2, 3, 4, 5, 6, 10, 11, 13, 15, 16]), (7, [2, 3, 4, 5, 6, 10, 11, 13, 15, 16, 43]), (8, [10, 11, 12]), (9, [2, 3, 4, 5, 6, 10, 11, 13]), (10, [2, 3, 4, 5, 6, 10, 11, 13]), (11, [10, 11, 12])] := (rfl)
theorem T18_loops : T18.loops = [(0, [2, 3, 4, 5, 6, 10, 11, 13])] := (rfl)
def T19 : Tab := ⟨[(0, [0, 1, 2, 3]), (1, [0, 1, 2, 3, 21]), (2, [8]), (3, [0, 1, 2, 3, 10]), (4, [0, 1, 2, 3, 31]), (5, [8]), (6, [0]), (7, []), (8, [8])], [], []⟩
theorem T19_sch : T19.sch = [] := (rfl)
theorem T19_reg : T19.reg = [(0, [0, 1, 2, 3]), (1, [0, 1, 2, 3, 21]), (2, [8]), (3, [0, 1, 2, 3, 10]), (4, [0, 1, 2, 3, 31]), (5, [8]), (6, [0]), (7, []), (8, [8])] := (rfl)
def T20 : Tab := ⟨[(0, [0, 1, 2, 3]), (1, [0, 1, 2, 3, 9]), (2, [0, 1, 2, 3, 21]), (3, [8]), (4, [0, 1, 2, 3, 28]), (5, [8]), (6, [0, 1, 2, 3]), (7, [0, 1, 3]), (8, [0]), (9, []), (10, [8])], [], []⟩
theorem T20_sch : T20.sch = [] := (rfl)
theorem T20_reg : T20.reg = [(0, [0, 1, 2, 3]), (1, [0, 1, 2, 3, 9]), (2, [0, 1, 2, 3, 21]), (3, [8]), (4, [0, 1, 2, 3, 28]), (5, [8]), (6, [0, 1, 2, 3]), (7, [0, 1, 3]), (8, [0]), (9, []), (10, [8])] := (rfl)
def T21 : Tab := ⟨[(0, [0, 1]), (1, [0, 1, 7]), (2, [4]), (3, []), (4, [4])], [], []⟩
theorem T21_sch : T21.sch = [] := (rfl)
theorem T21_reg : T21.reg = [(0, [0, 1]), (1, [0, 1, 7]), (2, [4]), (3, []), (4, [4])] := (rfl)
def T22 : Tab := ⟨[(0, [0, 1]), (1, [0, 1, 10]), (2, [4]), (3, []), (4, [4])], [], []⟩
theorem T22_sch : T22.sch = [] := (rfl)
theorem T22_reg : T22.reg = [(0, [0, 1]), (1, [0, 1, 10]), (2, [4]), (3, []), (4, [4])] := (rfl)
def T23 : Tab := ⟨[(0, [2, 3, 4, 5, 8]), (1, [4, 5, 8, 9]), (2, [5, 8, 9, 22]), (3, [8, 9]), (4, [8])], [], [(3, ⟨14336, 2047, [0, 1, 3, 7, 15, 0, 32, 96, 224, 480, 31, 1055, 4095, 8191], (.rd 0 false (.rd 1 false (.rd 2 false (.rd 3 false (.rd 4 false (.rd 5 false (.rd 6 false (.rd 7 false (.rd 8 false (.rd 9 false (.rd 10 false (.wr 11 (.rd 5 true (.rd 6 true (.rd 7 true (.rd 8 true (.rd 9 true (.wr 12 (.wr 13 .done .no) .no)))))) .no))))))))))))⟩)]⟩
theorem T23_sch : T23.sch = [(3, ⟨14336, 2047, [0, 1, 3, 7, 15, 0, 32, 96, 224, 480, 31, 1055, 4095, 8191], (.rd 0 false (.rd 1 false (.rd 2 false (.rd 3 false (.rd 4 false (.rd 5 false (.rd 6 false (.rd 7 false (.rd 8 false (.rd 9 false (.rd 10 false (.wr 11 (.rd 5 true (.rd 6 true (.rd 7 true (.rd 8 true (.rd 9 true (.wr 12 (.wr 13 .done .no) .no)))))) .no))))))))))))⟩)] := (rfl)
theorem T23_reg : T23.reg = [(0, [2, 3, 4, 5, 8]), (1, [4, 5, 8, 9]), (2, [5, 8, 9, 22]), (3, [8, 9]), (4, [8])] := (rfl)
def T24 : Tab := ⟨[(0, [2, 3, 4, 5, 8]), (1, [4, 5, 8, 9]), (2, [5, 8, 9, 21]), (3, [5, 8, 9]), (4, [8, 9]), (5, [8])], [], []⟩
theorem T24_sch : T24.sch = [] := (rfl)
theorem T24_reg : T24.reg = [(0, [2, 3, 4, 5, 8]), (1, [4, 5, 8, 9]), (2, [5, 8, 9, 21]), (3, [5, 8, 9]), (4, [8, 9]), (5, [8])] := (rfl)
def T25 : Tab := ⟨[(0, [1]), (1, [1, 3]), (2, [1, 3, 15]), (3, [1, 3]), (4, [1, 3, 4]), (5, [1, 3, 4, 6]), (6, [1, 3, 8]), (7, [1, 3, 38]), (8, [2]), (9, [1, 9]), (10, [1, 9, 10]), (11, [1, 9, 10, 46]), (12, [1, 9, 10]), (13, [1, 9, 10, 61]), (14, [2]), (15, [1, 65]), (16, [2]), (17, [1, 11]), (18, [11, 12]), (19, [11, 12, 78]), (20, [2]), (21, [11, 12, 13]), (22, [11, 12, 13, 82]), (23, [11, 12, 13]), (24, [11, 12, 13, 93]), (25, [2]), (26, [2])], [(0, [1, 3]), (2, [1, 9, 10]), (4, [11, 12, 13])], []⟩
theorem T25_sch : T25.sch = [] := (rfl)
theorem T25_reg : T25.reg = [(0, [1]), (1, [1, 3]), (2, [1, 3, 15]), (3, [1, 3]), (4, [1, 3, 4]), (5, [1, 3, 4, 6]), (6, [1, 3, 8]), (7, [1, 3, 38]), (8, [2]), (9, [1, 9]), (10, [1, 9, 10]), (11, [1, 9, 10, 46]), (12, [1, 9, 10]), (13, [1, 9, 10, 61]), (14, [2]), (15, [1, 65]), (16, [2]), (17, [1, 11]), (18, [11, 12]), (19, [11, 12, 78]), (20, [2]), (21, [11, 12, 13]), (22, [11, 12, 13, 82]), (23, [11, 12, 13]), (24, [11, 12, 13, 93]), (25, [2]), (26, [2])] := (rfl)
theorem T25_loops : T25.loops = [(0, [1, 3]), (2, [1, 9, 10]), (4, [11, 12, 13])] := (rfl)
def T26 : Tab := ⟨[(0, [1, 2, 4]), (1, [1, 4, 5]), (2, [4])], [], []⟩
theorem T26_sch : T26.sch = [] := (rfl)
theorem T26_reg : T26.reg = [(0, [1, 2, 4]), (1, [1, 4, 5]), (2, [4])] := (rfl)
def T27 : Tab := ⟨[(0, [0]), (1, [0, 9]), (2, [2, 3]), (3, [2, 3])], [], []⟩
theorem T27_sch : T27.sch = [] := (rfl)
theorem T27_reg : T27.reg = [(0, [0]), (1, [0, 9]), (2, [2, 3]), (3, [2, 3])] := (rfl)
def T28 : Tab := ⟨[(0, [0]), (1, [0, 9]), (2, [2, 3]), (3, [2, 3])], [], []⟩
theorem T28_sch : T28.sch = [] := (rfl)
theorem T28_reg : T28.reg = [(0, [0]), (1, [0, 9]), (2, [2, 3]), (3, [2, 3])] := (rfl)
def T29 : Tab := ⟨[(0, []), (1, [0])], [], []⟩
theorem T29_sch : T29.sch = [] := (rfl)
theorem T29_reg : T29.reg = [(0, []), (1, [0])] := (rfl)
def T30 : Tab := ⟨[(0, [0, 1, 2, 7]), (1, [0, 7, 9, 10]), (2, [0, 7, 9, 10, 20]), (3, [8]), (4, [0, 9, 10, 11]), (5, [0, 9, 10, 11, 28]), (6, [8]), (7, [8])], [], []⟩
theorem T30_sch : T30.sch = [] := (rfl)
theorem T30_reg : T30.reg = [(0, [0, 1, 2, 7]), (1, [0, 7, 9, 10]), (2, [0, 7, 9, 10, 20]), (3, [8]), (4, [0, 9, 10, 11]), (5, [0, 9, 10, 11, 28]), (6, [8]), (7, [8])] := (rfl)
def T31 : Tab := ⟨[(0, [0, 1, 2, 7]), (1, [0, 1, 2, 7, 9]), (2, [0, 1, 2, 7, 9, 17]), (3, [8]), (4, [0, 1, 2, 10, 11]), (5, [0, 1, 2, 10, 11, 25]), (6, [8]), (7, [8])], [], []⟩
theorem T31_sch : T31.sch = [] := (rfl)
theorem T31_reg : T31.reg = [(0, [0, 1, 2, 7]), (1, [0, 1, 2, 7, 9]), (2, [0, 1, 2, 7, 9, 17]), (3, [8]), (4, [0, 1, 2, 10, 11]), (5, [0, 1, 2, 10, 11, 25]), (6, [8]), (7, [8])] := (rfl)
def T32 : Tab := ⟨[(0, [0, 1, 2, 3]), (1, [3, 9, 10]), (2, [3, 9, 10, 20, 21]), (3, [3, 9, 10, 20, 21, 22]), (4, [3, 9, 10, 11, 20, 21]), (5, [3, 9, 10, 20, 21]), (6, [3, 9, 10, 20, 21]), (7, [8])], [(0, [3, 9, 10, 20, 21])], []⟩
theorem T32_sch : T32.sch = [] := (rfl)
theorem T32_reg : T32.reg = [(0, [0, 1, 2, 3]), (1, [3, 9, 10]), (2, [3, 9, 10, 20, 21]), (3, [3, 9, 10, 20, 21, 22]), (4, [3, 9, 10, 11, 20, 21]), (5, [3, 9, 10, 20, 21]), (6, [3, 9, 10, 20, 21]), (7, [8])] := (rfl)
theorem T32_loops : T32.loops = [(0, [3, 9, 10, 20, 21])] := (rfl)
def T33 : Tab := ⟨[(0, [0, 1, 2, 3]), (1, [0, 1, 2, 3, 9]), (2, [0, 1, 2, 3, 9, 16]), (3, [8]), (4, [0, 1, 2, 3, 10]), (5, [0, 1, 2, 3, 10, 20]), (6, [0, 1, 2, 3, 10]), (7, [0, 1, 2, 3, 10]), (8, [0, 1, 2, 3, 10]), (9, [8])], [(0, [0, 1, 2, 3, 10])], []⟩
theorem T33_sch : T33.sch = [] := (rfl)
theorem T33_reg : T33.reg = [(0, [0, 1, 2, 3]), (1, [0, 1, 2, 3, 9]), (2, [0, 1, 2, 3, 9, 16]), (3, [8]), (4, [0, 1, 2, 3, 10]), (5, [0, 1, 2, 3, 10, 20]), (6, [0, 1, 2, 3, 10]), (7, [0, 1, 2, 3, 10]), (8, [0, 1, 2, 3, 10]), (9, [8])] := (rfl)
theorem T33_loops : T33.loops = [(0, [0, 1, 2, 3, 10])] := (rfl)
def T34 : Tab := ⟨[(0, [0]), (1, [0, 9]), (2, [2, 3]), (3, [2, 3])], [], []⟩
theorem T34_sch : T34.sch = [] := (rfl)
theorem T34_reg : T34.reg = [(0, [0]), (1, [0, 9]), (2, [2, 3]), (3, [2, 3])] := (rfl)
def T35 : Tab := ⟨[(0, [0]), (1, [0, 9]), (2, [2, 3]), (3, [2, 3])], [], []⟩
theorem T35_sch : T35.sch = [] := (rfl)
theorem T35_reg : T35.reg = [(0, [0]), (1, [0, 9]), (2, [2, 3]), (3, [2, 3])] := (rfl)
def T36 : Tab := ⟨[(0, [0, 1, 2, 3, 8]), (1, [0, 1, 2, 3, 8, 20]), (2, [8, 9]), (3, [0, 1, 3, 8, 10]), (4, [3, 8, 11, 12]), (5, [8, 11, 55]), (6, [8, 9]), (7, [8, 9])], [], []⟩
theorem T36_sch : T36.sch = [] := (rfl)
theorem T36_reg : T36.reg = [(0, [0, 1, 2, 3, 8]), (1, [0, 1, 2, 3, 8, 20]), (2, [8, 9]), (3, [0, 1, 3, 8, 10]), (4, [3, 8, 11, 12]), (5, [8, 11, 55]), (6, [8, 9]), (7, [8, 9])] := (rfl)
def T37 : Tab := ⟨[(0, [0, 1, 2]), (1, [0, 1, 12]), (2, [6]), (3, [20]), (4, [6]), (5, [6])], [], []⟩
theorem T37_sch : T37.sch = [] := (rfl)
theorem T37_reg : T37.reg = [(0, [0, 1, 2]), (1, [0, 1, 12]), (2, [6]), (3, [20]), (4, [6]), (5, [6])] := (rfl)
def T38 : Tab := ⟨[(0, [0, 1, 2]), (1, [0, 1, 2, 8]), (2, [0, 1, 2, 8, 17]), (3, [6, 7]), (4, [0, 1, 2, 9]), (5, [0, 1, 2, 9, 10]), (6, [0, 1, 2, 9, 10, 11]), (7, [0, 1, 2, 9, 10, 11, 21]), (8, [0, 1, 2, 9, 10, 11]), (9, [0, 1, 2, 9, 10, 11]), (10, [0, 1, 2, 9, 10, 11]), (11, [6, 7])], [(0, [0, 1, 2, 9, 10, 11])], []⟩
theorem T38_sch : T38.sch = [] := (rfl)
theorem T38_reg : T38.reg = [(0, [0, 1, 2]), (1, [0, 1, 2, 8]), (2, [0, 1, 2, 8, 17]), (3, [6, 7]), (4, [0, 1, 2, 9]), (5, [0, 1, 2, 9, 10]), (6, [0, 1, 2, 9, 10, 11]), (7, [0, 1, 2, 9, 10, 11, 21]), (8, [0, 1, 2, 9, 10, 11]), (9, [0, 1, 2, 9, 10, 11]), (10, [0, 1, 2, 9, 10, 11]), (11, [6, 7])] := (rfl)
theorem T38_loops : T38.loops = [(0, [0, 1, 2, 9, 10, 11])] := (rfl)
def T39 : Tab := ⟨[(0, [0, 2]), (1, [0, 2, 4]), (2, [0, 2, 5]), (3, [0, 2, 5, 6, 7]), (4, [2, 5, 34]), (5, [2, 3]), (6, [2, 3])], [], []⟩
theorem T39_sch : T39.sch = [] := (rfl)
theorem T39_reg : T39.reg = [(0, [0, 2]), (1, [0, 2, 4]), (2, [0, 2, 5]), (3, [0, 2, 5, 6, 7]), (4, [2, 5, 34]), (5, [2, 3]), (6, [2, 3])] := (rfl)
def T40 : Tab := ⟨[(0, [0, 2]), (1, [0, 2, 3]), (2, [0, 2, 3, 25]), (3, [2]), (4, [0, 2, 3, 4, 5]), (5, [0, 2, 3, 4, 5, 36]), (6, [2]), (7, [0, 2, 3]), (8, [0, 2, 3, 6, 7]), (9, [0, 2, 3, 6, 62]), (10, [2]), (11, [2]), (12, [2])], [], [(11, ⟨7744, 447, [0, 0, 0, 0, 8, 24, 56, 125, 253, 509, 1023, 2047, 4095], (.rd 0 false (.rd 1 false (.rd 2 false (.rd 3 false (.rd 4 false (.rd 5 false (.wr 6 (.rd 0 true (.rd 1 true (.rd 2 true (.rd 7 false (.rd 8 false (.wr 9 (.rd 1 true (.wr 10 (.wr 11 (.wr 12 .done .no) .no) .no)) .no)))))) .no)))))))⟩)]⟩
theorem T40_sch : T40.sch = [(11, ⟨7744, 447, [0, 0, 0, 0, 8, 24, 56, 125, 253, 509, 1023, 2047, 4095], (.rd 0 false (.rd 1 false (.rd 2 false (.rd 3 false (.rd 4 false (.rd 5 false (.wr 6 (.rd 0 true (.rd 1 true (.rd 2 true (.rd 7 false (.rd 8 false (.wr 9 (.rd 1 true (.wr 10 (.wr 11 (.wr 12 .done .no) .no) .no)) .no)))))) .no)))))))⟩)] := (rfl)
theorem T40_reg : T40.reg = [(0, [0, 2]), (1, [0, 2, 3]), (2, [0, 2, 3, 25]), (3, [2]), (4, [0, 2, 3, 4, 5]), (5, [0, 2, 3, 4, 5, 36]), (6, [2]), (7, [0, 2, 3]), (8, [0, 2, 3, 6, 7]), (9, [0, 2, 3, 6, 62]), (10, [2]), (11, [2]), (12, [2])] := (rfl)
def T41 : Tab := ⟨[(0, [0]), (1, [0])], [], []⟩
theorem T41_sch : T41.sch = [] := (rfl)
theorem T41_reg : T41.reg = [(0, [0]), (1, [0])] := (rfl)
def T42 : Tab := ⟨[(0, [0, 2]), (1, [2])], [], []⟩
theorem T42_sch : T42.sch = [] := (rfl)
theorem T42_reg : T42.reg = [(0, [0, 2]), (1, [2])] := (rfl)
def T43 : Tab := ⟨[(0, [0, 1]), (1, [0, 1, 5]), (2, [0, 1, 5, 11, 12]), (3, [0, 1, 5, 11, 12, 13]), (4, [0, 1, 5, 6, 7, 11, 12]), (5, [0, 1, 5, 6, 11, 12, 23]), (6, [0, 1, 5, 11, 12]), (7, [0, 1, 5, 11, 12]), (8, [0, 1, 5, 11, 12]), (9, [4])], [(0, [0, 1, 5, 11, 12])], []⟩
theorem T43_sch : T43.sch = [] := (rfl)
theorem T43_reg : T43.reg = [(0, [0, 1]), (1, [0, 1, 5]), (2, [0, 1, 5, 11, 12]), (3, [0, 1, 5, 11, 12, 13]), (4, [0, 1, 5, 6, 7, 11, 12]), (5, [0, 1, 5, 6, 11, 12, 23]), (6, [0, 1, 5, 11, 12]), (7, [0, 1, 5, 11, 12]), (8, [0, 1, 5, 11, 12]), (9, [4])] := (rfl)
theorem T43_loops : T43.loops = [(0, [0, 1, 5, 11, 12])] := (rfl)
def T45 : Tab := ⟨[(0, [0, 1]), (1, [4])], [], []⟩
theorem T45_sch : T45.sch = [] := (rfl)
theorem T45_reg : T45.reg = [(0, [0, 1]), (1, [4])] := (rfl)
def T46 : Tab := ⟨[(0, [0]), (1, [2])], [], []⟩
theorem T46_sch : T46.sch = [] := (rfl)
theorem T46_reg : T46.reg = [(0, [0]), (1, [2])] := (rfl)
def T47 : Tab := ⟨[(0, [1, 2, 3, 4, 8]), (1, [1, 2, 3, 4, 8, 20]), (2, [8, 9]), (3, [3, 8, 10, 11]), (4, [8, 10, 45]), (5, [8, 9]), (6, [8, 9])], [], [(3, ⟨7264, 927, [0, 1, 0, 0, 0, 24, 63, 127, 255, 255, 0, 1535, 4095], (.rd 0 false (.rd 1 false (.rd 2 false (.rd 3 false (.rd 4 false (.wr 5 (.rd 0 true (.rd 1 true (.rd 2 true (.wr 6 (.rd 7 false (.rd 8 false (.rd 9 false (.wr 10 (.rd 7 true (.rd 8 true (.rd 9 true (.wr 11 (.rd 9 true (.wr 12 .done .no)) .no)))) .no)))) (.wr 10 (.rd 0 true (.rd 1 true (.rd 2 true (.wr 6 (.rd 7 false (.rd 8 false (.rd 9 false (.wr 11 (.rd 9 true (.wr 12 .done .no)) .no)))) .no)))) .no))))) (.wr 10 (.rd 0 true (.rd 1 true (.rd 2 true (.rd 3 true (.rd 4 true (.wr 5 (.rd 0 true (.rd 1 true (.rd 2 true (.wr 6 (.rd 7 false (.rd 8 false (.rd 9 false (.wr 11 (.rd 9 true (.wr 12 .done .no)) .no)))) .no)))) .no)))))) .no)))))))⟩)]⟩
theorem T47_sch : T47.sch = [(3, ⟨7264, 927, [0, 1, 0, 0, 0, 24, 63, 127, 255, 255, 0, 1535, 4095], (.rd 0 false (.rd 1 false (.rd 2 false (.rd 3 false (.rd 4 false (.wr 5 (.rd 0 true (.rd 1 true (.rd 2 true (.wr 6 (.rd 7 false (.rd 8 false (.rd 9 false (.wr 10 (.rd 7 true (.rd 8 true (.rd 9 true (.wr 11 (.rd 9 true (.wr 12 .done .no)) .no)))) .no)))) (.wr 10 (.rd 0 true (.rd 1 true (.rd 2 true (.wr 6 (.rd 7 false (.rd 8 false (.rd 9 false (.wr 11 (.rd 9 true (.wr 12 .done .no)) .no)))) .no)))) .no))))) (.wr 10 (.rd 0 true (.rd 1 true (.rd 2 true (.rd 3 true (.rd 4 true (.wr 5 (.rd 0 true (.rd 1 true (.rd 2 true (.wr 6 (.rd 7 false (.rd 8 false (.rd 9 false (.wr 11 (.rd 9 true (.wr 12 .done .no)) .no)))) .no)))) .no)))))) .no)))))))⟩)] := (rfl)
theorem T47_reg : T47.reg = [(0, [1, 2, 3, 4, 8]), (1, [1, 2, 3, 4, 8, 20]), (2, [8, 9]), (3, [3, 8, 10, 11]), (4, [8, 10, 45]), (5, [8, 9]), (6, [8, 9])] := (rfl)
def T48 : Tab := ⟨[(0, [2, 3, 4, 5, 6, 11]), (1, [2, 5, 11, 12, 13]), (2, [2, 5, 11, 12, 13, 29]), (3, [10, 11]), (4, [2, 11, 12, 13, 35]), (5, [10, 11]), (6, [10, 11])], [], []⟩
theorem T48_sch : T48.sch = [] := (rfl)
theorem T48_reg : T48.reg = [(0, [2, 3, 4, 5, 6, 11]), (1, [2, 5, 11, 12, 13]), (2, [2, 5, 11, 12, 13, 29]), (3, [10, 11]), (4, [2, 11, 12, 13, 35]), (5, [10, 11]), (6, [10, 11])] := (rfl)
def T49 : Tab := ⟨[(0, [0, 2]), (1, [0, 2, 4]), (2, [0, 2, 4, 5]), (3, [0, 2, 4, 5, 6]), (4, [0, 2, 4, 5, 7]), (5, [0, 2, 4, 5, 26]), (6, [0, 2, 5]), (7, [0, 2, 5]), (8, [0, 2, 5, 8, 9]), (9, [2, 5, 44]), (10, [2, 3]), (11, [2, 3])], [], []⟩
theorem T49_sch : T49.sch = [] := (rfl)
theorem T49_reg : T49.reg = [(0, [0, 2]), (1, [0, 2, 4]), (2, [0, 2, 4, 5]), (3, [0, 2, 4, 5, 6]), (4, [0, 2, 4, 5, 7]), (5, [0, 2, 4, 5, 26]), (6, [0, 2, 5]), (7, [0, 2, 5]), (8, [0, 2, 5, 8, 9]), (9, [2, 5, 44]), (10, [2, 3]), (11, [2, 3])] := (rfl)
def T50 : Tab := ⟨[(0, [0]), (1, [2])], [], []⟩
theorem T50_sch : T50.sch = [] := (rfl)
theorem T50_reg : T50.reg = [(0, [0]), (1, [2])] := (rfl)
def T51 : Tab := ⟨[(0, [1, 2, 3]), (1, [1, 2, 3, 9]), (2, [1, 2, 3, 9, 10]), (3, [6]), (4, [1, 2, 9, 15]), (5, [6]), (6, [1, 2, 9, 20]), (7, [6]), (8, [1, 2, 9, 25]), (9, [6]), (10, [1, 2, 30]), (11, [6]), (12, [1, 2, 7]), (13, [1, 2, 7, 38]), (14, [1, 2, 7]), (15, [1, 2, 7]), (16, [6])], [(1, [1, 2, 7])], []⟩
theorem T51_sch : T51.sch = [] := (rfl)
theorem T51_reg : T51.reg = [(0, [1, 2, 3]), (1, [1, 2, 3, 9]), (2, [1, 2, 3, 9, 10]), (3, [6]), (4, [1, 2, 9, 15]), (5, [6]), (6, [1, 2, 9, 20]), (7, [6]), (8, [1, 2, 9, 25]), (9, [6]), (10, [1, 2, 30]), (11, [6]), (12, [1, 2, 7]), (13, [1, 2, 7, 38]), (14, [1, 2, 7]), (15, [1, 2, 7]), (16, [6])] := (rfl)
theorem T51_loops : T51.loops = [(1, [1, 2, 7])] := (rfl)
def T52 : Tab := ⟨[(0, [1, 2, 4]), (1, [2, 4]), (2, [4])], [], []⟩
theorem T52_sch : T52.sch = [] := (rfl)
theorem T52_reg : T52.reg = [(0, [1, 2, 4]), (1, [2, 4]), (2, [4])] := (rfl)
def T53 : Tab := ⟨[(0, [4, 5, 6, 7, 8, 10, 11]), (1, [4, 5, 6, 7, 8, 10, 11, 12]), (2, [4, 5, 6, 7, 8, 10, 11, 12, 13]), (3, [4, 5, 6, 7, 8, 10, 11, 12, 13, 39]), (4, [4, 5, 6, 7, 8, 10, 11, 12, 13]), (5, [4, 5, 6, 7, 8, 10, 11, 12, 13, 43]), (6, [10, 11]), (7, [4, 5, 6, 7, 8, 10, 11, 12, 13, 14]), (8, [4, 5, 6, 7, 8, 10, 11, 12, 13, 14, 15]), (9, [4, 5, 6, 7, 8, 10, 11, 12, 13, 14, 15, 16]), (10, [4, 5, 6, 7, 8, 10, 11, 12, 13, 14, 15, 16, 55]), (11, [4, 5, 6, 7, 8, 10, 11, 12, 13, 14, 15]), (12, [4, 5, 6, 7, 8, 10, 11, 12, 13, 14, 15, 16]), (13, [5, 6, 7, 10, 11, 12, 13, 14, 16, 17, 18]), (14, [5, 6, 7, 10, 11, 12, 13, 14, 16, 17, 18, 67]), (15, [10, 11]), (16, [5, 6, 7, 10, 11, 13, 17, 73]), (17, [6, 7, 10, 11, 19]), (18, [6, 10, 11]), (19, [6, 10, 11]), (20, [10, 11])], [], [(1, ⟨3840, 255, [0, 1, 0, 7, 15, 0, 32, 96, 255, 511, 1023, 2047], (.rd 0 false (.rd 1 false (.rd 2 false (.rd 3 false (.rd 4 false (.rd 5 false (.rd 6 false (.rd 7 false (.wr 8 (.wr 9 (.wr 10 (.wr 11 .done .no) .no) .no) .no)))))))))⟩), (15, ⟨96, 31, [0, 0, 0, 0, 14, 1, 63], (.rd 0 false (.rd 1 false (.rd 2 false (.rd 3 false (.rd 4 false (.wr 5 (.rd 1 true (.rd 2 true (.rd 3 true (.rd 4 true (.wr 6 .done .no))))) .no))))))⟩), (19, ⟨512, 511, [0, 1, 0, 0, 0, 16, 0, 112, 240, 511], (.rd 0 false (.rd 1 false (.rd 2 false (.rd 3 false (.rd 4 false (.rd 5 false (.rd 6 false (.rd 7 false (.rd 8 false (.wr 9 .done .no))))))))))⟩)]⟩
theorem T53_sch : T53.sch = [(1, ⟨3840, 255, [0, 1, 0, 7, 15, 0, 32, 96, 255, 511, 1023, 2047], (.rd 0 false (.rd 1 false (.rd 2 false (.rd 3 false (.rd 4 false (.rd 5 false (.rd 6 false (.rd 7 false (.wr 8 (.wr 9 (.wr 10 (.wr 11 .done .no) .no) .no) .no)))))))))⟩), (15, ⟨96, 31, [0, 0, 0, 0, 14, 1, 63], (.rd 0 false (.rd 1 false (.rd 2 false (.rd 3 false (.rd 4 false (.wr 5 (.rd 1 true (.rd 2 true (.rd 3 true (.rd 4 true (.wr 6 .done .no))))) .no))))))⟩), (19, ⟨512, 511, [0, 1, 0, 0, 0, 16, 0, 112, 240, 511], (.rd 0 false (.rd 1 false (.rd 2 false (.rd 3 false (.rd 4 false (.rd 5 false (.rd 6 false (.rd 7 false (.rd 8 false (.wr 9 .done .no))))))))))⟩)] := (rfl)
theorem T53_reg : T53.reg = [(0, [4, 5, 6, 7, 8, 10, 11]), (1, [4, 5, 6, 7, 8, 10, 11, 12]), (2, [4, 5, 6, 7, 8, 10, 11, 12, 13]), (3, [4, 5, 6, 7, 8, 10, 11, 12, 13, 39]), (4, [4, 5, 6, 7, 8, 10, 11, 12, 13]), (5, [4, 5, 6, 7, 8, 10, 11, 12, 13, 43]), (6, [10, 11]), (7, [4, 5, 6, 7, 8, 10, 11, 12, 13, 14]), (8, [4, 5, 6, 7, 8, 10, 11, 12, 13, 14, 15]), (9, [4, 5, 6, 7, 8, 10, 11, 12, 13, 14, 15, 16]), (10, [4, 5, 6, 7, 8, 10, 11, 12, 13, 14, 15, 16, 55]), (11, [4, 5, 6, 7, 8, 10, 11, 12, 13, 14, 15]), (12, [4, 5, 6, 7, 8, 10, 11, 12, 13, 14, 15, 16]), (13, [5, 6, 7, 10, 11, 12, 13, 14, 16, 17, 18]), (14, [5, 6, 7, 10, 11, 12, 13, 14, 16, 17, 18, 67]), (15, [10, 11]), (16, [5, 6, 7, 10, 11, 13, 17, 73]), (17, [6, 7, 10, 11, 19]), (18, [6, 10, 11]), (19, [6, 10, 11]), (20, [10, 11])] := (rfl)
def T54 : Tab := ⟨[(0, [2, 3, 4]), (1, [2, 3, 4, 5]), (2, [2, 3, 4, 5, 6]), (3, [2, 3, 4, 5, 6, 7]), (4, [2, 3, 4, 5, 6, 7, 19]), (5, [2, 3, 4, 5, 6, 7, 19, 20]), (6, [2, 3, 4, 7]), (7, [2, 3, 4, 5, 6, 7, 19, 25]), (8, [2, 3, 4, 7]), (9, [2, 3, 4, 5, 6, 7, 19, 30]), (10, [2, 3, 4, 7]), (11, [2, 3, 4, 6, 7, 19, 35]), (12, [2, 3, 4, 7]), (13, [2, 3, 4, 6, 7, 46]), (14, [4]), (15, [2, 3, 4, 53]), (16, [4]), (17, [4])], [], []⟩
theorem T54_sch : T54.sch = [] := (rfl)
theorem T54_reg : T54.reg = [(0, [2, 3, 4]), (1, [2, 3, 4, 5]), (2, [2, 3, 4, 5, 6]), (3, [2, 3, 4, 5, 6, 7]), (4, [2, 3, 4, 5, 6, 7, 19]), (5, [2, 3, 4, 5, 6, 7, 19, 20]), (6, [2, 3, 4, 7]), (7, [2, 3, 4, 5, 6, 7, 19, 25]), (8, [2, 3, 4, 7]), (9, [2, 3, 4, 5, 6, 7, 19, 30]), (10, [2, 3, 4, 7]), (11, [2, 3, 4, 6, 7, 19, 35]), (12, [2, 3, 4, 7]), (13, [2, 3, 4, 6, 7, 46]), (14, [4]), (15, [2, 3, 4, 53]), (16, [4]), (17, [4])] := (rfl)
def T55 : Tab := ⟨[(0, [4, 5, 6, 7, 8, 9]), (1, [4, 5, 6, 7, 8, 9, 10]), (2, [4, 5, 6, 7, 8, 9, 10, 20]), (3, [4, 5, 6, 7, 8, 9, 10, 20, 21]), (4, [8, 9]), (5, [4, 5, 6, 7, 8, 9, 10, 20, 29]), (6, [8, 9]), (7, [4, 5, 6, 7, 8, 9, 10, 20, 37]), (8, [5, 6, 8, 9, 10, 41]), (9, [8, 9]), (10, [8, 9, 10]), (11, [4, 5, 6, 7, 8, 9, 10, 20, 57]), (12, [4, 5, 6, 8, 9, 10, 61]), (13, [8, 9]), (14, [4, 5, 6, 8, 9, 10]), (15, [4, 5, 6, 8, 9, 10, 79]), (16, [8, 9, 10]), (17, [4, 5, 6, 7, 8, 9, 10, 20, 90]), (18, [4, 5, 8, 9, 10, 11]), (19, [4, 5, 8, 9, 10, 11, 94]), (20, [5, 8, 9, 10, 11]), (21, [5, 8, 9, 10, 102]), (22, [8, 9]), (23, [4, 5, 6, 7, 8, 9, 10, 20, 107]), (24, [8, 9, 10]), (25, [4, 5, 6, 7, 8, 9, 10, 20, 117]), (26, [5, 6, 8, 9, 10, 12]), (27, [5, 6, 8, 9, 10, 132]), (28, [8, 9]), (29, [4, 7, 8, 9, 10, 143]), (30, [8, 9, 10]), (31, [8, 9])], [], [(4, ⟨192, 63, [0, 0, 2, 0, 8, 30, 1, 127], (.rd 0 false (.rd 1 false (.rd 2 false (.rd 3 false (.rd 4 false (.rd 5 false (.wr 6 (.rd 1 true (.rd 2 true (.rd 3 true (.rd 4 true (.rd 5 true (.wr 7 .done .no)))))) .no)))))))⟩), (6, ⟨192, 63, [0, 0, 2, 0, 8, 30, 1, 127], (.rd 0 false (.rd 1 false (.rd 2 false (.rd 3 false (.rd 4 false (.rd 5 false (.wr 6 (.rd 1 true (.rd 2 true (.rd 3 true (.rd 4 true (.rd 5 true (.wr 7 .done .no)))))) .no)))))))⟩), (9, ⟨192, 63, [0, 0, 2, 0, 8, 30, 1, 127], (.rd 0 false (.rd 1 false (.rd 2 false (.rd 3 false (.rd 4 false (.rd 5 false (.wr 6 (.rd 1 true (.rd 2 true (.rd 3 true (.rd 4 true (.rd 5 true (.wr 7 .done .no)))))) .no)))))))⟩), (10, ⟨768, 255, [0, 1, 0, 4, 0, 28, 60, 0, 255, 511], (.rd 0 false (.rd 1 false (.rd 2 false (.rd 3 false (.rd 4 false (.rd 5 false (.rd 6 false (.rd 7 false (.wr 8 (.wr 9 .done .no) .no)))))))))⟩), (13, ⟨192, 63, [0, 0, 2, 0, 8, 30, 1, 127], (.rd 0 false (.rd 1 false (.rd 2 false (.rd 3 false (.rd 4 false (.rd 5 false (.wr 6 (.rd 1 true (.rd 2 true (.rd 3 true (.rd 4 true (.rd 5 true (.wr 7 .done .no)))))) .no)))))))⟩), (14, ⟨768, 255, [0, 1, 0, 4, 0, 28, 60, 0, 255, 511], (.rd 0 false (.rd 1 false (.rd 2 false (.rd 3 false (.rd 4 false (.rd 5 false (.rd 6 false (.rd 7 false (.wr 8 (.wr 9 .done .no) .no)))))))))⟩), (16, ⟨512, 511, [0, 1, 0, 4, 0, 28, 60, 124, 252, 511], (.rd 0 false (.rd 1 false (.rd 2 false (.rd 3 false (.rd 4 false (.rd 5 false (.rd 6 false (.rd 7 false (.rd 8 false (.wr 9 .done .no))))))))))⟩), (22, ⟨48, 15, [0, 0, 2, 6, 1, 31], (.rd 0 false (.rd 1 false (.rd 2 false (.rd 3 false (.wr 4 (.rd 1 true (.rd 2 true (.rd 3 true (.wr 5 .done .no)))) .no)))))⟩), (24, ⟨400, 111, [0, 1, 0, 4, 12, 28, 0, 127, 255], (.rd 0 false (.rd 1 false (.rd 2 false (.rd 3 false (.rd 6 false (.wr 4 (.rd 0 true (.rd 1 true (.rd 5 false (.rd 6 true (.wr 7 (.wr 8 .done .no) .no))))) .no))))))⟩), (26, ⟨16896, 15871, [0, 1, 0, 4, 0, 28, 60, 124, 252, 511, 1023, 2047, 2047, 4095, 16383], (.rd 0 false (.rd 1 false (.rd 2 false (.rd 3 false (.rd 4 false (.rd 5 false (.rd 6 false (.rd 7 false (.rd 8 false (.wr 9 (.rd 10 false (.rd 11 false (.rd 12 false (.rd 13 false (.wr 14 .done .no))))) .no))))))))))⟩), (28, ⟨3072, 1023, [0, 0, 2, 0, 14, 30, 62, 0, 128, 510, 1, 2047], (.rd 0 false (.rd 1 false (.rd 2 false (.rd 3 false (.rd 4 false (.rd 5 false (.rd 6 false (.rd 7 false (.rd 8 false (.rd 9 false (.wr 10 (.rd 1 true (.rd 2 true (.rd 3 true (.rd 4 true (.rd 5 true (.rd 6 true (.rd 7 true (.rd 8 true (.rd 9 true (.wr 11 .done .no)))))))))) .no)))))))))))⟩)]⟩
theorem T55_sch : T55.sch = [(4, ⟨192, 63, [0, 0, 2, 0, 8, 30, 1, 127], (.rd 0 false (.rd 1 false (.rd 2 false (.rd 3 false (.rd 4 false (.rd 5 false (.wr 6 (.rd 1 true (.rd 2 true (.rd 3 true (.rd 4 true (.rd 5 true (.wr 7 .done .no)))))) .no)))))))⟩), (6, ⟨192, 63, [0, 0, 2, 0, 8, 30, 1, 127], (.rd 0 false (.rd 1 false (.rd 2 false (.rd 3 false (.rd 4 false (.rd 5 false (.wr 6 (.rd 1 true (.rd 2 true (.rd 3 true (.rd 4 true (.rd 5 true (.wr 7 .done .no)))))) .no)))))))⟩), (9, ⟨192, 63, [0, 0, 2, 0, 8, 30, 1, 127], (.rd 0 false (.rd 1 false (.rd 2 false (.rd 3 false (.rd 4 false (.rd 5 false (.wr 6 (.rd 1 true (.rd 2 true (.rd 3 true (.rd 4 true (.rd 5 true (.wr 7 .done .no)))))) .no)))))))⟩), (10, ⟨768, 255, [0, 1, 0, 4, 0, 28, 60, 0, 255, 511], (.rd 0 false (.rd 1 false (.rd 2 false (.rd 3 false (.rd 4 false (.rd 5 false (.rd 6 false (.rd 7 false (.wr 8 (.wr 9 .done .no) .no)))))))))⟩), (13, ⟨192, 63, [0, 0, 2, 0, 8, 30, 1, 127], (.rd 0 false (.rd 1 false (.rd 2 false (.rd 3 false (.rd 4 false (.rd 5 false (.wr 6 (.rd 1 true (.rd 2 true (.rd 3 true (.rd 4 true (.rd 5 true (.wr 7 .done .no)))))) .no)))))))⟩), (14, ⟨768, 255, [0, 1, 0, 4, 0, 28, 60, 0, 255, 511], (.rd 0 false (.rd 1 false (.rd 2 false (.rd 3 false (.rd 4 false (.rd 5 false (.rd 6 false (.rd 7 false (.wr 8 (.wr 9 .done .no) .no)))))))))⟩), (16, ⟨512, 511, [0, 1, 0, 4, 0, 28, 60, 124, 252, 511], (.rd 0 false (.rd 1 false (.rd 2 false (.rd 3 false (.rd 4 false (.rd 5 false (.rd 6 false (.rd 7 false (.rd 8 false (.wr 9 .done .no))))))))))⟩), (22, ⟨48, 15, [0, 0, 2, 6, 1, 31], (.rd 0 false (.rd 1 false (.rd 2 false (.rd 3 false (.wr 4 (.rd 1 true (.rd 2 true (.rd 3 true (.wr 5 .done .no)))) .no)))))⟩), (24, ⟨400, 111, [0, 1, 0, 4, 12, 28, 0, 127, 255], (.rd 0 false (.rd 1 false (.rd 2 false (.rd 3 false (.rd 6 false (.wr 4 (.rd 0 true (.rd 1 true (.rd 5 false (.rd 6 true (.wr 7 (.wr 8 .done .no) .no))))) .no))))))⟩), (26, ⟨16896, 15871, [0, 1, 0, 4, 0, 28, 60, 124, 252, 511, 1023, 2047, 2047, 4095, 16383], (.rd 0 false (.rd 1 false (.rd 2 false (.rd 3 false (.rd 4 false (.rd 5 false (.rd 6 false (.rd 7 false (.rd 8 false (.wr 9 (.rd 10 false (.rd 11 false (.rd 12 false (.rd 13 false (.wr 14 .done .no))))) .no))))))))))⟩), (28, ⟨3072, 1023, [0, 0, 2, 0, 14, 30, 62, 0, 128, 510, 1, 2047], (.rd 0 false (.rd 1 false (.rd 2 false (.rd 3 false (.rd 4 false (.rd 5 false (.rd 6 false (.rd 7 false (.rd 8 false (.rd 9 false (.wr 10 (.rd 1 true (.rd 2 true (.rd 3 true (.rd 4 true (.rd 5 true (.rd 6 true (.rd 7 true (.rd 8 true (.rd 9 true (.wr 11 .done .no)))))))))) .no)))))))))))⟩)] := (rfl)
theorem T55_reg : T55.reg = [(0, [4, 5, 6, 7, 8, 9]), (1, [4, 5, 6, 7, 8, 9, 10]), (2, [4, 5, 6, 7, 8, 9, 10, 20]), (3, [4, 5, 6, 7, 8, 9, 10, 20, 21]), (4, [8, 9]), (5, [4, 5, 6, 7, 8, 9, 10, 20, 29]), (6, [8, 9]), (7, [4, 5, 6, 7, 8, 9, 10, 20, 37]), (8, [5, 6, 8, 9, 10, 41]), (9, [8, 9]), (10, [8, 9, 10]), (11, [4, 5, 6, 7, 8, 9, 10, 20, 57]), (12, [4, 5, 6, 8, 9, 10, 61]), (13, [8, 9]), (14, [4, 5, 6, 8, 9, 10]), (15, [4, 5, 6, 8, 9, 10, 79]), (16, [8, 9, 10]), (17, [4, 5, 6, 7, 8, 9, 10, 20, 90]), (18, [4, 5, 8, 9, 10, 11]), (19, [4, 5, 8, 9, 10, 11, 94]), (20, [5, 8, 9, 10, 11]), (21, [5, 8, 9, 10, 102]), (22, [8, 9]), (23, [4, 5, 6, 7, 8, 9, 10, 20, 107]), (24, [8, 9, 10]), (25, [4, 5, 6, 7, 8, 9, 10, 20, 117]), (26, [5, 6, 8, 9, 10, 12]), (27, [5, 6, 8, 9, 10, 132]), (28, [8, 9]), (29, [4, 7, 8, 9, 10, 143]), (30, [8, 9, 10]), (31, [8, 9])] := (rfl)
def T56 : Tab := ⟨[(0, [0]), (1, [2])], [], []⟩
theorem T56_sch : T56.sch = [] := (rfl)
theorem T56_reg : T56.reg = [(0, [0]), (1, [2])] := (rfl)
def T57 : Tab := ⟨[(0, [0]), (1, [2])], [], []⟩
theorem T57_sch : T57.sch = [] := (rfl)
theorem T57_reg : T57.reg = [(0, [0]), (1, [2])] := (rfl)
def T58 : Tab := ⟨[(0, [0, 1, 2]), (1, [6])], [], []⟩
theorem T58_sch : T58.sch = [] := (rfl)
theorem T58_reg : T58.reg = [(0, [0, 1, 2]), (1, [6])] := (rfl)
def T59 : Tab := ⟨[(0, [0, 1]), (1, [0, 1, 6]), (2, [0, 1, 11]), (3, [4, 5]), (4, [4, 5])], [], []⟩
theorem T59_sch : T59.sch = [] := (rfl)
theorem T59_reg : T59.reg = [(0, [0, 1]), (1, [0, 1, 6]), (2, [0, 1, 11]), (3, [4, 5]), (4, [4, 5])] := (rfl)
def T60 : Tab := ⟨[(0, [0]), (1, [3]), (2, [2])], [], []⟩
theorem T60_sch : T60.sch = [] := (rfl)
theorem T60_reg : T60.reg = [(0, [0]), (1, [3]), (2, [2])] := (rfl)
def T61 : Tab := ⟨[(0, [0]), (1, [0, 3]), (2, [0, 3, 9]), (3, [0, 3, 9, 10]), (4, [0, 3, 4, 9]), (5, [0, 3, 4, 5, 6, 9]), (6, [0, 3, 4, 5, 6, 7, 8, 9]), (7, [0, 3, 4, 5, 6, 7, 9, 30]), (8, [0, 3, 9]), (9, [0, 3, 4, 5, 9, 42]), (10, [0, 3, 9]), (11, [0, 3, 9]), (12, [3]), (13, [2])], [(0, [0, 3, 9])], []⟩
theorem T61_sch : T61.sch = [] := (rfl)
theorem T61_reg : T61.reg = [(0, [0]), (1, [0, 3]), (2, [0, 3, 9]), (3, [0, 3, 9, 10]), (4, [0, 3, 4, 9]), (5, [0, 3, 4, 5, 6, 9]), (6, [0, 3, 4, 5, 6, 7, 8, 9]), (7, [0, 3, 4, 5, 6, 7, 9, 30]), (8, [0, 3, 9]), (9, [0, 3, 4, 5, 9, 42]), (10, [0, 3, 9]), (11, [0, 3, 9]), (12, [3]), (13, [2])] := (rfl)
theorem T61_loops : T61.loops = [(0, [0, 3, 9])] := (rfl)
def T62 : Tab := ⟨[(0, [0]), (1, [0, 3]), (2, [0, 3, 4]), (3, [0, 3, 4, 11]), (4, [0, 3, 4]), (5, [0, 3, 4, 5]), (6, [0, 3, 4, 5, 15]), (7, [0, 3, 4, 5]), (8, [0, 3, 4, 5, 6]), (9, [0, 3, 4, 5, 6, 31]), (10, [0, 3, 4, 5]), (11, [0, 3, 7]), (12, [0, 3, 7, 43]), (13, [0, 3, 7]), (14, [0, 3, 7, 8]), (15, [0, 3, 7, 8, 47]), (16, [0, 3, 7, 8]), (17, [0, 3, 7, 8, 9]), (18, [0, 3, 7, 8, 9, 68]), (19, [0, 3, 7, 8]), (20, [2])], [(0, [0, 3, 4]), (2, [0, 3, 4, 5]), (4, [0, 3, 7]), (6, [0, 3, 7, 8])], []⟩
theorem T62_sch : T62.sch = [] := (rfl)
theorem T62_reg : T62.reg = [(0, [0]), (1, [0, 3]), (2, [0, 3, 4]), (3, [0, 3, 4, 11]), (4, [0, 3, 4]), (5, [0, 3, 4, 5]), (6, [0, 3, 4, 5, 15]), (7, [0, 3, 4, 5]), (8, [0, 3, 4, 5, 6]), (9, [0, 3, 4, 5, 6, 31]), (10, [0, 3, 4, 5]), (11, [0, 3, 7]), (12, [0, 3, 7, 43]), (13, [0, 3, 7]), (14, [0, 3, 7, 8]), (15, [0, 3, 7, 8, 47]), (16, [0, 3, 7, 8]), (17, [0, 3, 7, 8, 9]), (18, [0, 3, 7, 8, 9, 68]), (19, [0, 3, 7, 8]), (20, [2])] := (rfl)
theorem T62_loops : T62.loops = [(0, [0, 3, 4]), (2, [0, 3, 4, 5]), (4, [0, 3, 7]), (6, [0, 3, 7, 8])] := (rfl)
def T63 : Tab := ⟨[(0, [1]), (1, [1, 6]), (2, [2, 3]), (3, [2, 3])], [], []⟩
theorem T63_sch : T63.sch = [] := (rfl)
theorem T63_reg : T63.reg = [(0, [1]), (1, [1, 6]), (2, [2, 3]), (3, [2, 3])] := (rfl)
def T64 : Tab := ⟨[(0, [0, 1, 4]), (1, [4])], [], []⟩
theorem T64_sch : T64.sch = [] := (rfl)
theorem T64_reg : T64.reg = [(0, [0, 1, 4]), (1, [4])] := (rfl)
def T65 : Tab := ⟨[(0, [0, 1, 2]), (1, [0, 1, 2, 8]), (2, [6, 7]), (3, [1, 2, 15]), (4, [6, 7]), (5, [6, 7])], [], []⟩
theorem T65_sch : T65.sch = [] := (rfl)
theorem T65_reg : T65.reg = [(0, [0, 1, 2]), (1, [0, 1, 2, 8]), (2, [6, 7]), (3, [1, 2, 15]), (4, [6, 7]), (5, [6, 7])] := (rfl)
def T66 : Tab := ⟨[(0, [1]), (1, [1, 7]), (2, [2, 3]), (3, [1, 4]), (4, [1, 4, 16]), (5, [1, 4]), (6, [4, 20]), (7, [4]), (8, [2, 3])], [], []⟩
theorem T66_sch : T66.sch = [] := (rfl)
theorem T66_reg : T66.reg = [(0, [1]), (1, [1, 7]), (2, [2, 3]), (3, [1, 4]), (4, [1, 4, 16]), (5, [1, 4]), (6, [4, 20]), (7, [4]), (8, [2, 3])] := (rfl)
def T67 : Tab := ⟨[(0, [1]), (1, [1, 4]), (2, [1, 9]), (3, [2, 3]), (4, [1, 5]), (5, [1, 5, 18]), (6, [1, 5]), (7, [5, 22]), (8, [5]), (9, [2, 3])], [], []⟩
theorem T67_sch : T67.sch = [] := (rfl)
theorem T67_reg : T67.reg = [(0, [1]), (1, [1, 4]), (2, [1, 9]), (3, [2, 3]), (4, [1, 5]), (5, [1, 5, 18]), (6, [1, 5]), (7, [5, 22]), (8, [5]), (9, [2, 3])] := (rfl)
def T68 : Tab := ⟨[(0, [0, 1, 2]), (1, [0, 1, 2, 9]), (2, [6, 7]), (3, [0, 1, 2, 20]), (4, [6, 7]), (5, [0, 1, 2, 25]), (6, [6, 7]), (7, [0, 1, 2, 8]), (8, [6, 7])], [], []⟩
theorem T68_sch : T68.sch = [] := (rfl)
theorem T68_reg : T68.reg = [(0, [0, 1, 2]), (1, [0, 1, 2, 9]), (2, [6, 7]), (3, [0, 1, 2, 20]), (4, [6, 7]), (5, [0, 1, 2, 25]), (6, [6, 7]), (7, [0, 1, 2, 8]), (8, [6, 7])] := (rfl)
def T69 : Tab := ⟨[(0, [0, 1, 2]), (1, [0, 1, 2, 16]), (2, [6]), (3, [0, 1, 20]), (4, [6]), (5, [31]), (6, [6]), (7, [6])], [], []⟩
theorem T69_sch : T69.sch = [] := (rfl)
theorem T69_reg : T69.reg = [(0, [0, 1, 2]), (1, [0, 1, 2, 16]), (2, [6]), (3, [0, 1, 20]), (4, [6]), (5, [31]), (6, [6]), (7, [6])] := (rfl)
def T70 : Tab := ⟨[(0, [0]), (1, [2])], [], []⟩
theorem T70_sch : T70.sch = [] := (rfl)
theorem T70_reg : T70.reg = [(0, [0]), (1, [2])] := (rfl)
def T71 : Tab := ⟨[(0, [0, 1]), (1, [0, 1, 10]), (2, [4]), (3, [0, 1, 12]), (4, [4]), (5, [0, 16]), (6, [4]), (7, [4])], [], []⟩
theorem T71_sch : T71.sch = [] := (rfl)
theorem T71_reg : T71.reg = [(0, [0, 1]), (1, [0, 1, 10]), (2, [4]), (3, [0, 1, 12]), (4, [4]), (5, [0, 16]), (6, [4]), (7, [4])] := (rfl)
def T72 : Tab := ⟨[(0, [0, 1, 2, 7]), (1, [0, 1, 7, 8, 9]), (2, [1, 7, 8, 9, 47]), (3, [1, 7, 8, 9]), (4, [6, 7])], [], [(1, ⟨169869312, 98566143, [0, 1, 3, 7, 15, 0, 32, 96, 224, 480, 0, 1024, 3072, 7168, 0, 16384, 0, 0, 131072, 393216, 917504, 2097151, 4194303, 8388607, 8388607, 0, 50331647, 134217727], (.rd 0 false (.rd 1 false (.rd 2 false (.rd 3 false (.rd 4 false (.rd 5 false (.rd 6 false (.rd 7 false (.rd 8 false (.rd 9 false (.rd 10 false (.rd 11 false (.rd 12 false (.rd 13 false (.rd 14 false (.rd 15 false (.rd 16 false (.rd 17 false (.rd 18 false (.rd 19 false (.rd 20 false (.wr 21 (.rd 22 false (.rd 23 false (.rd 24 false (.wr 25 (.rd 22 true (.rd 23 true (.rd 24 true (.rd 26 false (.wr 27 .done .no))))) .no)))) (.wr 25 (.rd 0 true (.rd 1 true (.rd 2 true (.rd 3 true (.rd 4 true (.rd 5 true (.rd 6 true (.rd 7 true (.rd 8 true (.rd 9 true (.rd 10 true (.rd 11 true (.rd 12 true (.rd 13 true (.rd 14 true (.rd 15 true (.rd 16 true (.rd 17 true (.rd 18 true (.rd 19 true (.rd 20 true (.wr 21 (.rd 22 false (.rd 23 false (.rd 24 false (.rd 26 false (.wr 27 .done .no))))) .no)))))))))))))))))))))) .no)))))))))))))))))))))))⟩), (4, ⟨128, 127, [0, 1, 0, 4, 15, 0, 31, 127], (.rd 0 false (.rd 1 false (.rd 2 false (.rd 3 false (.rd 4 false (.rd 5 false (.rd 6 false (.wr 7 .done .no))))))))⟩)]⟩
theorem T72_sch : T72.sch = [(1, ⟨169869312, 98566143, [0, 1, 3, 7, 15, 0, 32, 96, 224, 480, 0, 1024, 3072, 7168, 0, 16384, 0, 0, 131072, 393216, 917504, 2097151, 4194303, 8388607, 8388607, 0, 50331647, 134217727], (.rd 0 false (.rd 1 false (.rd 2 false (.rd 3 false (.rd 4 false (.rd 5 false (.rd 6 false (.rd 7 false (.rd 8 false (.rd 9 false (.rd 10 false (.rd 11 false (.rd 12 false (.rd 13 false (.rd 14 false (.rd 15 false (.rd 16 false (.rd 17 false (.rd 18 false (.rd 19 false (.rd 20 false (.wr 21 (.rd 22 false (.rd 23 false (.rd 24 false (.wr 25 (.rd 22 true (.rd 23 true (.rd 24 true (.rd 26 false (.wr 27 .done .no))))) .no)))) (.wr 25 (.rd 0 true (.rd 1 true (.rd 2 true (.rd 3 true (.rd 4 true (.rd 5 true (.rd 6 true (.rd 7 true (.rd 8 true (.rd 9 true (.rd 10 true (.rd 11 true (.rd 12 true (.rd 13 true (.rd 14 true (.rd 15 true (.rd 16 true (.rd 17 true (.rd 18 true (.rd 19 true (.rd 20 true (.wr 21 (.rd 22 false (.rd 23 false (.rd 24 false (.rd 26 false (.wr 27 .done .no))))) .no)))))))))))))))))))))) .no)))))))))))))))))))))))⟩), (4, ⟨128, 127, [0, 1, 0, 4, 15, 0, 31, 127], (.rd 0 false (.rd 1 false (.rd 2 false (.rd 3 false (.rd 4 false (.rd 5 false (.rd 6 false (.wr 7 .done .no))))))))⟩)] := (rfl)
theorem T72_reg : T72.reg = [(0, [0, 1, 2, 7]), (1, [0, 1, 7, 8, 9]), (2, [1, 7, 8, 9, 47]), (3, [1, 7, 8, 9]), (4, [6, 7])] := (rfl)
def T73 : Tab := ⟨[(0, [0, 1, 2]), (1, [8, 9]), (2, [8, 9, 10]), (3, [8, 9, 10, 11]), (4, [8, 9, 10, 11, 23]), (5, [8, 9, 10, 11]), (6, [8, 9, 10, 11]), (7, [6, 7])], [(0, [8, 9, 10, 11])], []⟩
theorem T73_sch : T73.sch = [] := (rfl)
theorem T73_reg : T73.reg = [(0, [0, 1, 2]), (1, [8, 9]), (2, [8, 9, 10]), (3, [8, 9, 10, 11]), (4, [8, 9, 10, 11, 23]), (5, [8, 9, 10, 11]), (6, [8, 9, 10, 11]), (7, [6, 7])] := (rfl)
theorem T73_loops : T73.loops = [(0, [8, 9, 10, 11])] := (rfl)
def T74 : Tab := ⟨[(0, [0, 2]), (1, [0, 2, 4]), (2, [0, 2, 4, 21]), (3, [2, 4]), (4, [2, 4]), (5, [2, 4, 32]), (6, [2, 3]), (7, [2, 3])], [], []⟩
theorem T74_sch : T74.sch = [] := (rfl)
theorem T74_reg : T74.reg = [(0, [0, 2]), (1, [0, 2, 4]), (2, [0, 2, 4, 21]), (3, [2, 4]), (4, [2, 4]), (5, [2, 4, 32]), (6, [2, 3]), (7, [2, 3])] := (rfl)
def T75 : Tab := ⟨[(0, [0]), (1, [2])], [], []⟩
theorem T75_sch : T75.sch = [] := (rfl)
theorem T75_reg : T75.reg = [(0, [0]), (1, [2])] := (rfl)
def T76 : Tab := ⟨[(0, [0, 2]), (1, [2]), (2, [2])], [], []⟩
theorem T76_sch : T76.sch = [] := (rfl)
theorem T76_reg : T76.reg = [(0, [0, 2]), (1, [2]), (2, [2])] := (rfl)
def T77 : Tab := ⟨[(0, [1, 2]), (1, [2])], [], []⟩
theorem T77_sch : T77.sch = [] := (rfl)
theorem T77_reg : T77.reg = [(0, [1, 2]), (1, [2])] := (rfl)
def T78 : Tab := ⟨[(0, [0, 1]), (1, [4])], [], []⟩
theorem T78_sch : T78.sch = [] := (rfl)
theorem T78_reg : T78.reg = [(0, [0, 1]), (1, [4])] := (rfl)
def T79 : Tab := ⟨[(0, [0, 1]), (1, [4])], [], []⟩
theorem T79_sch : T79.sch = [] := (rfl)
theorem T79_reg : T79.reg = [(0, [0, 1]), (1, [4])] := (rfl)
def T80 : Tab := ⟨[(0, [0, 1]), (1, [4])], [], []⟩
theorem T80_sch : T80.sch = [] := (rfl)
theorem T80_reg : T80.reg = [(0, [0, 1]), (1, [4])] := (rfl)
def T81 : Tab := ⟨[(0, [0, 1]), (1, [4])], [], []⟩
theorem T81_sch : T81.sch = [] := (rfl)
theorem T81_reg : T81.reg = [(0, [0, 1]), (1, [4])] := (rfl)
def T82 : Tab := ⟨[(0, [0, 1]), (1, [4])], [], []⟩
theorem T82_sch : T82.sch = [] := (rfl)
theorem T82_reg : T82.reg = [(0, [0, 1]), (1, [4])] := (rfl)
def T83 : Tab := ⟨[(0, [3, 4, 5, 6]), (1, [6])], [], []⟩
theorem T83_sch : T83.sch = [] := (rfl)
theorem T83_reg : T83.reg = [(0, [3, 4, 5, 6]), (1, [6])] := (rfl)
def T84 : Tab := ⟨[(0, [1, 2]), (1, [2])], [], []⟩
theorem T84_sch : T84.sch = [] := (rfl)
theorem T84_reg : T84.reg = [(0, [1, 2]), (1, [2])] := (rfl)
def T85 : Tab := ⟨[(0, [0, 1]), (1, [4])], [], []⟩
theorem T85_sch : T85.sch = [] := (rfl)
theorem T85_reg : T85.reg = [(0, [0, 1]), (1, [4])] := (rfl)
def T86 : Tab := ⟨[(0, [0, 1]), (1, [4])], [], []⟩
theorem T86_sch : T86.sch = [] := (rfl)
theorem T86_reg : T86.reg = [(0, [0, 1]), (1, [4])] := (rfl)
def T87 : Tab := ⟨[(0, [0, 1]), (1, [4])], [], []⟩
theorem T87_sch : T87.sch = [] := (rfl)
theorem T87_reg : T87.reg = [(0, [0, 1]), (1, [4])] := (rfl)
def T88 : Tab := ⟨[(0, []), (1, [4])], [], []⟩
theorem T88_sch : T88.sch = [] := (rfl)
theorem T88_reg : T88.reg = [(0, []), (1, [4])] := (rfl)
def T89 : Tab := ⟨[(0, [0, 2]), (1, [2]), (2, [2])], [], [(1, ⟨125829120, 8388607, [0, 1, 3, 7, 0, 16, 48, 112, 240, 0, 0, 1024, 3072, 7168, 15360, 0, 32768, 98304, 229376, 491520, 15, 1048591, 4193791, 8388095, 16777215, 33554431, 67108863], (.rd 0 false (.rd 1 false (.rd 2 false (.rd 3 false (.rd 4 false (.rd 5 false (.rd 6 false (.rd 7 false (.rd 8 false (.rd 9 false (.rd 10 false (.rd 11 false (.rd 12 false (.rd 13 false (.rd 14 false (.rd 15 false (.rd 16 false (.rd 17 false (.rd 18 false (.rd 19 false (.rd 20 false (.rd 21 false (.rd 22 false (.wr 23 (.rd 9 true (.wr 24 (.wr 25 (.wr 26 .done .no) .no) .no)) .no))))))))))))))))))))))))⟩)]⟩
theorem T89_sch : T89.sch = [(1, ⟨125829120, 8388607, [0, 1, 3, 7, 0, 16, 48, 112, 240, 0, 0, 1024, 3072, 7168, 15360, 0, 32768, 98304, 229376, 491520, 15, 1048591, 4193791, 8388095, 16777215, 33554431, 67108863], (.rd 0 false (.rd 1 false (.rd 2 false (.rd 3 false (.rd 4 false (.rd 5 false (.rd 6 false (.rd 7 false (.rd 8 false (.rd 9 false (.rd 10 false (.rd 11 false (.rd 12 false (.rd 13 false (.rd 14 false (.rd 15 false (.rd 16 false (.rd 17 false (.rd 18 false (.rd 19 false (.rd 20 false (.rd 21 false (.rd 22 false (.wr 23 (.rd 9 true (.wr 24 (.wr 25 (.wr 26 .done .no) .no) .no)) .no))))))))))))))))))))))))⟩)] := (rfl)
theorem T89_reg : T89.reg = [(0, [0, 2]), (1, [2]), (2, [2])] := (rfl)
def T90 : Tab := ⟨[(0, [0, 2]), (1, [2]), (2, [2])], [], [(1, ⟨245760, 16383, [0, 0, 2, 6, 14, 0, 32, 96, 224, 480, 30, 1054, 4094, 8190, 16382, 32767, 65535, 131071], (.rd 0 false (.rd 1 false (.rd 2 false (.rd 3 false (.rd 4 false (.rd 5 false (.rd 6 false (.rd 7 false (.rd 8 false (.rd 9 false (.rd 10 false (.rd 11 false (.rd 12 false (.rd 13 false (.wr 14 (.rd 0 true (.wr 15 (.wr 16 (.wr 17 .done .no) .no) .no)) .no)))))))))))))))⟩)]⟩
theorem T90_sch : T90.sch = [(1, ⟨245760, 16383, [0, 0, 2, 6, 14, 0, 32, 96, 224, 480, 30, 1054, 4094, 8190, 16382, 32767, 65535, 131071], (.rd 0 false (.rd 1 false (.rd 2 false (.rd 3 false (.rd 4 false (.rd 5 false (.rd 6 false (.rd 7 false (.rd 8 false (.rd 9 false (.rd 10 false (.rd 11 false (.rd 12 false (.rd 13 false (.wr 14 (.rd 0 true (.wr 15 (.wr 16 (.wr 17 .done .no) .no) .no)) .no)))))))))))))))⟩)] := (rfl)
theorem T90_reg : T90.reg = [(0, [0, 2]), (1, [2]), (2, [2])] := (rfl)
def T91 : Tab := ⟨[(0, [0, 3, 4]), (1, [4])], [], []⟩
theorem T91_sch : T91.sch = [] := (rfl)
theorem T91_reg : T91.reg = [(0, [0, 3, 4]), (1, [4])] := (rfl)
def T92 : Tab := ⟨[(0, [0, 2]), (1, [0, 2, 8]), (2, [2]), (3, [2]), (4, [2])], [], []⟩
theorem T92_sch : T92.sch = [] := (rfl)
theorem T92_reg : T92.reg = [(0, [0, 2]), (1, [0, 2, 8]), (2, [2]), (3, [2]), (4, [2])] := (rfl)
def T93 : Tab := ⟨[(0, [0, 2]), (1, [0, 2, 8]), (2, [2]), (3, [0, 2]), (4, [0, 2, 52]), (5, [2]), (6, [2])], [], []⟩
theorem T93_sch : T93.sch = [] := (rfl)
theorem T93_reg : T93.reg = [(0, [0, 2]), (1, [0, 2, 8]), (2, [2]), (3, [0, 2]), (4, [0, 2, 52]), (5, [2]), (6, [2])] := (rfl)
def T94 : Tab := ⟨[(0, [0, 2]), (1, [0, 2, 10]), (2, [0, 2, 4]), (3, [0, 2, 20]), (4, [2]), (5, [2])], [], []⟩
theorem T94_sch : T94.sch = [] := (rfl)
theorem T94_reg : T94.reg = [(0, [0, 2]), (1, [0, 2, 10]), (2, [0, 2, 4]), (3, [0, 2, 20]), (4, [2]), (5, [2])] := (rfl)
def T95 : Tab := ⟨[(0, [0, 2]), (1, [2]), (2, [2])], [], [(1, ⟨802816, 245759, [0, 1, 3, 7, 0, 16, 48, 112, 240, 0, 512, 1536, 3584, 7680, 15872, 32256, 15, 65551, 262143, 524287], (.rd 0 false (.rd 1 false (.rd 2 false (.rd 3 false (.rd 4 false (.rd 5 false (.rd 6 false (.rd 7 false (.rd 8 false (.rd 9 false (.rd 10 false (.rd 11 false (.rd 12 false (.rd 13 false (.rd 16 false (.rd 17 false (.wr 14 (.rd 0 true (.rd 1 true (.rd 2 true (.rd 3 true (.rd 4 true (.rd 5 true (.rd 6 true (.rd 7 true (.rd 8 true (.rd 15 false (.rd 16 true (.rd 17 true (.wr 18 (.wr 19 .done .no) .no))))))))))))) .no)))))))))))))))))⟩)]⟩
theorem T95_sch : T95.sch = [(1, ⟨802816, 245759, [0, 1, 3, 7, 0, 16, 48, 112, 240, 0, 512, 1536, 3584, 7680, 15872, 32256, 15, 65551, 262143, 524287], (.rd 0 false (.rd 1 false (.rd 2 false (.rd 3 false (.rd 4 false (.rd 5 false (.rd 6 false (.rd 7 false (.rd 8 false (.rd 9 false (.rd 10 false (.rd 11 false (.rd 12 false (.rd 13 false (.rd 16 false (.rd 17 false (.wr 14 (.rd 0 true (.rd 1 true (.rd 2 true (.rd 3 true (.rd 4 true (.rd 5 true (.rd 6 true (.rd 7 true (.rd 8 true (.rd 15 false (.rd 16 true (.rd 17 true (.wr 18 (.wr 19 .done .no) .no))))))))))))) .no)))))))))))))))))⟩)] := (rfl)
theorem T95_reg : T95.reg = [(0, [0, 2]), (1, [2]), (2, [2])] := (rfl)
def T96 : Tab := ⟨[(0, [0]), (1, [0, 3, 4]), (2, [0, 3, 11]), (3, [2]), (4, [0, 3]), (5, [0, 3]), (6, [3]), (7, [2])], [], []⟩
theorem T96_sch : T96.sch = [] := (rfl)
theorem T96_reg : T96.reg = [(0, [0]), (1, [0, 3, 4]), (2, [0, 3, 11]), (3, [2]), (4, [0, 3]), (5, [0, 3]), (6, [3]), (7, [2])] := (rfl)
def T97 : Tab := ⟨[(0, [0, 2]), (1, [0, 2, 3]), (2, [0, 2, 3, 4]), (3, [0, 2, 3, 31]), (4, [0, 2, 3]), (5, [2]), (6, [2])], [], []⟩
theorem T97_sch : T97.sch = [] := (rfl)
theorem T97_reg : T97.reg = [(0, [0, 2]), (1, [0, 2, 3]), (2, [0, 2, 3, 4]), (3, [0, 2, 3, 31]), (4, [0, 2, 3]), (5, [2]), (6, [2])] := (rfl)
def T98 : Tab := ⟨[(0, [0, 2]), (1, [2]), (2, [2])], [], []⟩
theorem T98_sch : T98.sch = [] := (rfl)
theorem T98_reg : T98.reg = [(0, [0, 2]), (1, [2]), (2, [2])] := (rfl)
def T99 : Tab := ⟨[(0, [0, 4, 5]), (1, [6])], [], []⟩
theorem T99_sch : T99.sch = [] := (rfl)
theorem T99_reg : T99.reg = [(0, [0, 4, 5]), (1, [6])] := (rfl)
def T100 : Tab := ⟨[(0, [2]), (1, [2])], [], []⟩
theorem T100_sch : T100.sch = [] := (rfl)
theorem T100_reg : T100.reg = [(0, [2]), (1, [2])] := (rfl)
def T101 : Tab := ⟨[(0, [0]), (1, [2])], [], []⟩
theorem T101_sch : T101.sch = [] := (rfl)
theorem T101_reg : T101.reg = [(0, [0]), (1, [2])] := (rfl)
def T102 : Tab := ⟨[(0, [0, 1, 2, 6]), (1, [0, 6, 8, 9]), (2, [0, 6, 8, 9, 20]), (3, [6, 7]), (4, [6, 10]), (5, [6, 7])], [], []⟩
theorem T102_sch : T102.sch = [] := (rfl)
theorem T102_reg : T102.reg = [(0, [0, 1, 2, 6]), (1, [0, 6, 8, 9]), (2, [0, 6, 8, 9, 20]), (3, [6, 7]), (4, [6, 10]), (5, [6, 7])] := (rfl)
def T103 : Tab := ⟨[(0, [0, 1]), (1, [0, 1, 5]), (2, [4]), (3, [0, 1, 12]), (4, [4]), (5, [0, 17]), (6, [4]), (7, [4])], [], []⟩
theorem T103_sch : T103.sch = [] := (rfl)
theorem T103_reg : T103.reg = [(0, [0, 1]), (1, [0, 1, 5]), (2, [4]), (3, [0, 1, 12]), (4, [4]), (5, [0, 17]), (6, [4]), (7, [4])] := (rfl)
def T104 : Tab := ⟨[(0, [0, 1, 3, 4, 5, 8, 13]), (1, [0, 1, 3, 4, 5, 8, 13, 14, 15, 16]), (2, [0, 1, 3, 4, 5, 8, 13, 14, 49]), (3, [12, 13]), (4, [1, 3, 5, 8, 13, 17, 18, 19]), (5, [1, 3, 5, 8, 13, 17, 18, 19, 63]), (6, [12, 13]), (7, [13, 17, 19]), (8, [12, 13])], [], []⟩
theorem T104_sch : T104.sch = [] := (rfl)
theorem T104_reg : T104.reg = [(0, [0, 1, 3, 4, 5, 8, 13]), (1, [0, 1, 3, 4, 5, 8, 13, 14, 15, 16]), (2, [0, 1, 3, 4, 5, 8, 13, 14, 49]), (3, [12, 13]), (4, [1, 3, 5, 8, 13, 17, 18, 19]), (5, [1, 3, 5, 8, 13, 17, 18, 19, 63]), (6, [12, 13]), (7, [13, 17, 19]), (8, [12, 13])] := (rfl)
def T105 : Tab := ⟨[(0, [0]), (1, [3]), (2, [3, 4]), (3, [3, 4]), (4, [3, 4]), (5, [2]), (6, [3, 8]), (7, [3, 8]), (8, [3, 8]), (9, [3, 8]), (10, [3, 8]), (11, [2]), (12, [3, 14]), (13, [3, 14]), (14, [3, 14]), (15, [3, 14]), (16, [3, 14]), (17, [3, 14]), (18, [3, 14]), (19, [2]), (20, [3, 22]), (21, [3, 22]), (22, [3, 22]), (23, [2]), (24, [3, 26]), (25, [3, 26]), (26, [2]), (27, [3, 29]), (28, [2]), (29, [3, 31]), (30, [2]), (31, [3, 33]), (32, [3, 33]), (33, [33]), (34, [2]), (35, [2])], [], []⟩
theorem T105_sch : T105.sch = [] := (rfl)
theorem T105_reg : T105.reg = [(0, [0]), (1, [3]), (2, [3, 4]), (3, [3, 4]), (4, [3, 4]), (5, [2]), (6, [3, 8]), (7, [3, 8]), (8, [3, 8]), (9, [3, 8]), (10, [3, 8]), (11, [2]), (12, [3, 14]), (13, [3, 14]), (14, [3, 14]), (15, [3, 14]), (16, [3, 14]), (17, [3, 14]), (18, [3, 14]), (19, [2]), (20, [3, 22]), (21, [3, 22]), (22, [3, 22]), (23, [2]), (24, [3, 26]), (25, [3, 26]), (26, [2]), (27, [3, 29]), (28, [2]), (29, [3, 31]), (30, [2]), (31, [3, 33]), (32, [3, 33]), (33, [33]), (34, [2]), (35, [2])] := (rfl)
def T106 : Tab := ⟨[(0, [0, 1]), (1, [0, 1, 5]), (2, [0, 1, 5, 9]), (3, [0, 1, 5]), (4, [0, 1, 5, 16]), (5, [4]), (6, [4])], [(0, [0, 1, 5])], []⟩
theorem T106_sch : T106.sch = [] := (rfl)
theorem T106_reg : T106.reg = [(0, [0, 1]), (1, [0, 1, 5]), (2, [0, 1, 5, 9]), (3, [0, 1, 5]), (4, [0, 1, 5, 16]), (5, [4]), (6, [4])] := (rfl)
theorem T106_loops : T106.loops = [(0, [0, 1, 5])] := (rfl)
def T107 : Tab := ⟨[(0, [1]), (1, [1, 4]), (2, [1, 8]), (3, [2, 3]), (4, [2, 3])], [], []⟩
theorem T107_sch : T107.sch = [] := (rfl)
theorem T107_reg : T107.reg = [(0, [1]), (1, [1, 4]), (2, [1, 8]), (3, [2, 3]), (4, [2, 3])] := (rfl)
def T108 : Tab := ⟨[(0, [0, 1]), (1, [0, 1, 10]), (2, [4]), (3, []), (4, [4])], [], []⟩
theorem T108_sch : T108.sch = [] := (rfl)
theorem T108_reg : T108.reg = [(0, [0, 1]), (1, [0, 1, 10]), (2, [4]), (3, []), (4, [4])] := (rfl)
def T109 : Tab := ⟨[(0, [0]), (1, [0, 4]), (2, [0, 4, 5]), (3, [0, 4, 5, 6]), (4, [0, 4, 5, 6, 12]), (5, [0, 4, 5, 6]), (6, [0, 4, 5, 6, 7]), (7, [0, 4, 5, 6, 7, 8]), (8, [0, 4, 5, 6, 64]), (9, [0, 4, 5, 6]), (10, [5, 67]), (11, [2, 3]), (12, [2, 3])], [(0, [0, 4, 5, 6])], []⟩
theorem T109_sch : T109.sch = [] := (rfl)
theorem T109_reg : T109.reg = [(0, [0]), (1, [0, 4]), (2, [0, 4, 5]), (3, [0, 4, 5, 6]), (4, [0, 4, 5, 6, 12]), (5, [0, 4, 5, 6]), (6, [0, 4, 5, 6, 7]), (7, [0, 4, 5, 6, 7, 8]), (8, [0, 4, 5, 6, 64]), (9, [0, 4, 5, 6]), (10, [5, 67]), (11, [2, 3]), (12, [2, 3])] := (rfl)
theorem T109_loops : T109.loops = [(0, [0, 4, 5, 6])] := (rfl)
def T110 : Tab := ⟨[(0, [0]), (1, [0, 3, 4]), (2, [0, 3, 11]), (3, [2]), (4, [0, 3]), (5, [0, 3]), (6, [0, 3]), (7, [0, 3]), (8, [3]), (9, [2])], [], []⟩
theorem T110_sch : T110.sch = [] := (rfl)
theorem T110_reg : T110.reg = [(0, [0]), (1, [0, 3, 4]), (2, [0, 3, 11]), (3, [2]), (4, [0, 3]), (5, [0, 3]), (6, [0, 3]), (7, [0, 3]), (8, [3]), (9, [2])] := (rfl)
def T111 : Tab := ⟨[(0, [0, 1]), (1, [0, 1, 6]), (2, [0, 1, 10]), (3, [4, 5]), (4, [0, 1, 18]), (5, [4, 5]), (6, [0, 1]), (7, [0, 1]), (8, [4, 5])], [], []⟩
theorem T111_sch : T111.sch = [] := (rfl)
theorem T111_reg : T111.reg = [(0, [0, 1]), (1, [0, 1, 6]), (2, [0, 1, 10]), (3, [4, 5]), (4, [0, 1, 18]), (5, [4, 5]), (6, [0, 1]), (7, [0, 1]), (8, [4, 5])] := (rfl)
def T112 : Tab := ⟨[(0, [0, 1, 2, 3]), (1, [0, 1, 2, 3, 9]), (2, [0, 1, 2, 3, 9, 10]), (3, [0, 1, 2, 3, 9, 10, 13]), (4, [0, 1, 2, 3, 9, 10]), (5, [0, 1, 2, 3, 9, 10, 11]), (6, [0, 1, 2, 3, 9, 10, 54]), (7, [0, 1, 2, 3, 9, 10]), (8, [0, 1, 2, 3, 9, 10]), (9, [8])], [(0, [0, 1, 2, 3, 9, 10])], []⟩
theorem T112_sch : T112.sch = [] := (rfl)
theorem T112_reg : T112.reg = [(0, [0, 1, 2, 3]), (1, [0, 1, 2, 3, 9]), (2, [0, 1, 2, 3, 9, 10]), (3, [0, 1, 2, 3, 9, 10, 13]), (4, [0, 1, 2, 3, 9, 10]), (5, [0, 1, 2, 3, 9, 10, 11]), (6, [0, 1, 2, 3, 9, 10, 54]), (7, [0, 1, 2, 3, 9, 10]), (8, [0, 1, 2, 3, 9, 10]), (9, [8])] := (rfl)
theorem T112_loops : T112.loops = [(0, [0, 1, 2, 3, 9, 10])] := (rfl)
def T113 : Tab := ⟨[(0, [0, 1]), (1, [4])], [], []⟩
theorem T113_sch : T113.sch = [] := (rfl)
theorem T113_reg : T113.reg = [(0, [0, 1]), (1, [4])] := (rfl)
def T114 : Tab := ⟨[(0, [])], [], []⟩
theorem T114_sch : T114.sch = [] := (rfl)
theorem T114_reg : T114.reg = [(0, [])] := (rfl)
def T115 : Tab := ⟨[(0, [2, 3]), (1, [2, 3, 9]), (2, [11]), (3, [4]), (4, [4]), (5, [4])], [], []⟩
theorem T115_sch : T115.sch = [] := (rfl)
theorem T115_reg : T115.reg = [(0, [2, 3]), (1, [2, 3, 9]), (2, [11]), (3, [4]), (4, [4]), (5, [4])] := (rfl)
def T116 : Tab := ⟨[(0, [0, 1]), (1, [0, 1, 5]), (2, [0, 1, 5, 6]), (3, [0, 1, 6, 11]), (4, [12]), (5, [4]), (6, [4]), (7, [0, 1, 13]), (8, [4]), (9, [0, 1, 16]), (10, [4]), (11, [19]), (12, [4]), (13, [4])], [], []⟩
theorem T116_sch : T116.sch = [] := (rfl)
theorem T116_reg : T116.reg = [(0, [0, 1]), (1, [0, 1, 5]), (2, [0, 1, 5, 6]), (3, [0, 1, 6, 11]), (4, [12]), (5, [4]), (6, [4]), (7, [0, 1, 13]), (8, [4]), (9, [0, 1, 16]), (10, [4]), (11, [19]), (12, [4]), (13, [4])] := (rfl)
def T117 : Tab := ⟨[(0, [1]), (1, [1, 3]), (2, [1, 3]), (3, [1, 3, 4]), (4, [1, 3, 4, 16]), (5, [1, 3, 4, 16, 17, 18]), (6, [1, 3, 4, 6, 16]), (7, [1, 3, 4, 16, 20]), (8, [1, 3, 4, 16, 20, 21]), (9, [1, 3, 4, 16]), (10, [1, 3, 4, 16, 20, 30]), (11, [1, 3, 4, 16]), (12, [1, 3, 4, 16, 20, 39]), (13, [1, 3, 4, 16]), (14, [1, 3, 4, 16, 48]), (15, [1, 3, 4, 16]), (16, [2])], [(0, [1, 3, 4, 16])], []⟩
theorem T117_sch : T117.sch = [] := (rfl)
theorem T117_reg : T117.reg = [(0, [1]), (1, [1, 3]), (2, [1, 3]), (3, [1, 3, 4]), (4, [1, 3, 4, 16]), (5, [1, 3, 4, 16, 17, 18]), (6, [1, 3, 4, 6, 16]), (7, [1, 3, 4, 16, 20]), (8, [1, 3, 4, 16, 20, 21]), (9, [1, 3, 4, 16]), (10, [1, 3, 4, 16, 20, 30]), (11, [1, 3, 4, 16]), (12, [1, 3, 4, 16, 20, 39]), (13, [1, 3, 4, 16]), (14, [1, 3, 4, 16, 48]), (15, [1, 3, 4, 16]), (16, [2])] := (rfl)
theorem T117_loops : T117.loops = [(0, [1, 3, 4, 16])] := (rfl)
def T118 : Tab := ⟨[(0, [1]), (1, [1, 3]), (2, [2]), (3, [1, 10]), (4, [2]), (5, [1, 19]), (6, [2]), (7, [2])], [], []⟩
theorem T118_sch : T118.sch = [] := (rfl)
theorem T118_reg : T118.reg = [(0, [1]), (1, [1, 3]), (2, [2]), (3, [1, 10]), (4, [2]), (5, [1, 19]), (6, [2]), (7, [2])] := (rfl)
def T119 : Tab := ⟨[(0, [1]), (1, [1, 5]), (2, [2]), (3, [1, 26]), (4, [2]), (5, [1, 29]), (6, [2]), (7, [2])], [], []⟩
theorem T119_sch : T119.sch = [] := (rfl)
theorem T119_reg : T119.reg = [(0, [1]), (1, [1, 5]), (2, [2]), (3, [1, 26]), (4, [2]), (5, [1, 29]), (6, [2]), (7, [2])] := (rfl)
def T120 : Tab := ⟨[(0, [0, 1, 3, 4, 5, 8, 13]), (1, [0, 1, 3, 4, 5, 8, 13, 14, 15, 16]), (2, [0, 1, 3, 4, 5, 8, 13, 14, 41]), (3, [12, 13]), (4, [1, 3, 5, 8, 13, 17, 18, 19]), (5, [1, 3, 5, 8, 13, 17, 18, 19, 55]), (6, [12, 13]), (7, [13, 17]), (8, [12, 13])], [], []⟩
theorem T120_sch : T120.sch = [] := (rfl)
theorem T120_reg : T120.reg = [(0, [0, 1, 3, 4, 5, 8, 13]), (1, [0, 1, 3, 4, 5, 8, 13, 14, 15, 16]), (2, [0, 1, 3, 4, 5, 8, 13, 14, 41]), (3, [12, 13]), (4, [1, 3, 5, 8, 13, 17, 18, 19]), (5, [1, 3, 5, 8, 13, 17, 18, 19, 55]), (6, [12, 13]), (7, [13, 17]), (8, [12, 13])] := (rfl)
def T122 : Tab := ⟨[(0, [0]), (1, [3]), (2, [2])], [], []⟩
theorem T122_sch : T122.sch = [] := (rfl)
theorem T122_reg : T122.reg = [(0, [0]), (1, [3]), (2, [2])] := (rfl)
def T123 : Tab := ⟨[(0, [0, 1, 3]), (1, [1, 3, 4, 5, 6]), (2, [3]), (3, [3])], [], []⟩
theorem T123_sch : T123.sch = [] := (rfl)
theorem T123_reg : T123.reg = [(0, [0, 1, 3]), (1, [1, 3, 4, 5, 6]), (2, [3]), (3, [3])] := (rfl)
def T124 : Tab := ⟨[(0, [0]), (1, [2, 3, 4])], [], []⟩
theorem T124_sch : T124.sch = [] := (rfl)
theorem T124_reg : T124.reg = [(0, [0]), (1, [2, 3, 4])] := (rfl)
def T125 : Tab := ⟨[(0, [0, 1, 2, 3, 5]), (1, [0, 1, 2, 3, 5, 6, 7]), (2, [0, 1, 2, 3, 5, 6, 9]), (3, [0, 1, 2, 3, 5, 6, 9, 30]), (4, [5]), (5, [0, 1, 2, 3, 5, 6, 9, 10, 11]), (6, [5]), (7, [0, 1, 2, 3, 5, 6, 9, 10, 11, 53]), (8, [5]), (9, [0, 1, 5, 6, 10, 61]), (10, [5]), (11, [5])], [], [(10, ⟨1024, 1023, [0, 1, 3, 7, 15, 0, 0, 0, 128, 384, 1023], (.rd 0 false (.rd 1 false (.rd 2 false (.rd 3 false (.rd 4 false (.rd 5 false (.rd 6 false (.rd 7 false (.rd 8 false (.rd 9 false (.wr 10 .done .no)))))))))))⟩), (6, ⟨8448, 7935, [0, 0, 2, 6, 14, 30, 0, 0, 254, 510, 1022, 1022, 2047, 6143], (.rd 0 false (.rd 1 false (.rd 2 false (.rd 3 false (.rd 4 false (.rd 5 false (.rd 6 false (.rd 7 false (.wr 8 (.rd 0 true (.rd 9 false (.rd 10 false (.rd 11 false (.rd 12 false (.wr 13 (.rd 11 true .done) .no)))))) .no)))))))))⟩)]⟩
theorem T125_sch : T125.sch = [(10, ⟨1024, 1023, [0, 1, 3, 7, 15, 0, 0, 0, 128, 384, 1023], (.rd 0 false (.rd 1 false (.rd 2 false (.rd 3 false (.rd 4 false (.rd 5 false (.rd 6 false (.rd 7 false (.rd 8 false (.rd 9 false (.wr 10 .done .no)))))))))))⟩), (6, ⟨8448, 7935, [0, 0, 2, 6, 14, 30, 0, 0, 254, 510, 1022, 1022, 2047, 6143], (.rd 0 false (.rd 1 false (.rd 2 false (.rd 3 false (.rd 4 false (.rd 5 false (.rd 6 false (.rd 7 false (.wr 8 (.rd 0 true (.rd 9 false (.rd 10 false (.rd 11 false (.rd 12 false (.wr 13 (.rd 11 true .done) .no)))))) .no)))))))))⟩)] := (rfl)
theorem T125_reg : T125.reg = [(0, [0, 1, 2, 3, 5]), (1, [0, 1, 2, 3, 5, 6, 7]), (2, [0, 1, 2, 3, 5, 6, 9]), (3, [0, 1, 2, 3, 5, 6, 9, 30]), (4, [5]), (5, [0, 1, 2, 3, 5, 6, 9, 10, 11]), (6, [5]), (7, [0, 1, 2, 3, 5, 6, 9, 10, 11, 53]), (8, [5]), (9, [0, 1, 5, 6, 10, 61]), (10, [5]), (11, [5])] := (rfl)
def T126 : Tab := ⟨[(0, [0, 1, 3]), (1, [0, 1, 3, 4, 5]), (2, [0, 3, 18]), (3, [3]), (4, [3])], [], []⟩
theorem T126_sch : T126.sch = [] := (rfl)
theorem T126_reg : T126.reg = [(0, [0, 1, 3]), (1, [0, 1, 3, 4, 5]), (2, [0, 3, 18]), (3, [3]), (4, [3])] := (rfl)
def T127 : Tab := ⟨[(0, [0, 1, 3]), (1, [3])], [], []⟩
theorem T127_sch : T127.sch = [] := (rfl)
theorem T127_reg : T127.reg = [(0, [0, 1, 3]), (1, [3])] := (rfl)
def T128 : Tab := ⟨[(0, [0, 1]), (1, [0, 1, 10]), (2, [4]), (3, []), (4, [4])], [], []⟩
theorem T128_sch : T128.sch = [] := (rfl)
theorem T128_reg : T128.reg = [(0, [0, 1]), (1, [0, 1, 10]), (2, [4]), (3, []), (4, [4])] := (rfl)
def T129 : Tab := ⟨[(0, [0]), (1, [0, 4]), (2, [0, 4, 15, 16, 17]), (3, [0, 4, 15, 16, 17, 18]), (4, [0, 4, 6, 15, 16, 17]), (5, [0, 4, 6, 15, 16, 17, 39]), (6, [2, 3]), (7, [0, 4, 15, 16, 17]), (8, [2, 3])], [(0, [0, 4, 15, 16, 17])], [(1, ⟨224, 31, [0, 1, 3, 7, 0, 16, 63, 127], (.rd 0 false (.rd 1 false (.rd 2 false (.rd 3 false (.rd 4 false (.wr 5 (.rd 0 true (.rd 1 true (.rd 2 true (.rd 3 true (.wr 6 (.wr 7 .done .no) .no))))) .no))))))⟩), (5, ⟨393216, 131071, [0, 1, 3, 7, 15, 15, 47, 31, 159, 511, 1023, 2047, 4095, 8191, 16383, 32767, 16383, 131071, 262143], (.rd 0 false (.rd 1 false (.rd 2 false (.rd 3 false (.rd 4 false (.rd 5 false (.rd 6 false (.rd 7 false (.rd 8 false (.rd 9 false (.rd 10 false (.rd 11 false (.rd 12 false (.rd 13 false (.rd 14 false (.rd 15 false (.rd 16 false (.wr 17 (.wr 18 .done .no) .no))))))))))))))))))⟩)]⟩
theorem T129_sch : T129.sch = [(1, ⟨224, 31, [0, 1, 3, 7, 0, 16, 63, 127], (.rd 0 false (.rd 1 false (.rd 2 false (.rd 3 false (.rd 4 false (.wr 5 (.rd 0 true (.rd 1 true (.rd 2 true (.rd 3 true (.wr 6 (.wr 7 .done .no) .no))))) .no))))))⟩), (5, ⟨393216, 131071, [0, 1, 3, 7, 15, 15, 47, 31, 159, 511, 1023, 2047, 4095, 8191, 16383, 32767, 16383, 131071, 262143], (.rd 0 false (.rd 1 false (.rd 2 false (.rd 3 false (.rd 4 false (.rd 5 false (.rd 6 false (.rd 7 false (.rd 8 false (.rd 9 false (.rd 10 false (.rd 11 false (.rd 12 false (.rd 13 false (.rd 14 false (.rd 15 false (.rd 16 false (.wr 17 (.wr 18 .done .no) .no))))))))))))))))))⟩)] := (rfl)
theorem T129_reg : T129.reg = [(0, [0]), (1, [0, 4]), (2, [0, 4, 15, 16, 17]), (3, [0, 4, 15, 16, 17, 18]), (4, [0, 4, 6, 15, 16, 17]), (5, [0, 4, 6, 15, 16, 17, 39]), (6, [2, 3]), (7, [0, 4, 15, 16, 17]), (8, [2, 3])] := (rfl)
theorem T129_loops : T129.loops = [(0, [0, 4, 15, 16, 17])] := (rfl)
def T130 : Tab := ⟨[(0, [0, 1]), (1, [0, 1, 10]), (2, [4, 5]), (3, [0, 1, 6, 7]), (4, [0, 1, 6, 21]), (5, [4, 5]), (6, [0, 6]), (7, [6]), (8, [4, 5])], [], []⟩
theorem T130_sch : T130.sch = [] := (rfl)
theorem T130_reg : T130.reg = [(0, [0, 1]), (1, [0, 1, 10]), (2, [4, 5]), (3, [0, 1, 6, 7]), (4, [0, 1, 6, 21]), (5, [4, 5]), (6, [0, 6]), (7, [6]), (8, [4, 5])] := (rfl)
def T131 : Tab := ⟨[(0, [1, 2, 3]), (1, [4])], [], []⟩
theorem T131_sch : T131.sch = [] := (rfl)
theorem T131_reg : T131.reg = [(0, [1, 2, 3]), (1, [4])] := (rfl)
def T132 : Tab := ⟨[(0, [0, 2]), (1, [0, 2, 4]), (2, [2, 4, 26]), (3, [2, 3]), (4, [2, 3])], [], []⟩
theorem T132_sch : T132.sch = [] := (rfl)
theorem T132_reg : T132.reg = [(0, [0, 2]), (1, [0, 2, 4]), (2, [2, 4, 26]), (3, [2, 3]), (4, [2, 3])] := (rfl)
def T133 : Tab := ⟨[(0, [0, 1, 2, 3]), (1, [0, 11]), (2, [0, 11, 18]), (3, []), (4, [8, 9, 10]), (5, [0, 11]), (6, [8, 9, 10])], [], []⟩
theorem T133_sch : T133.sch = [] := (rfl)
theorem T133_reg : T133.reg = [(0, [0, 1, 2, 3]), (1, [0, 11]), (2, [0, 11, 18]), (3, []), (4, [8, 9, 10]), (5, [0, 11]), (6, [8, 9, 10])] := (rfl)
def T134 : Tab := ⟨[(0, [0, 2, 3, 5, 10]), (1, [0, 2, 3, 5, 10, 35]), (2, [8, 9, 10]), (3, [0, 2, 3, 5, 10, 39]), (4, [8, 9, 10]), (5, [0, 2, 3, 5, 10, 11, 12]), (6, [0, 2, 3, 5, 10, 11, 12, 60]), (7, [8, 9, 10]), (8, [0, 2, 3, 5, 10, 13, 14]), (9, [0, 2, 3, 5, 10, 13, 14, 73]), (10, [8, 9, 10]), (11, [0, 2, 3, 5, 10, 13, 79]), (12, [8, 9, 10]), (13, [10, 13, 15, 16, 17]), (14, [8, 9, 10])], [], []⟩
theorem T134_sch : T134.sch = [] := (rfl)
theorem T134_reg : T134.reg = [(0, [0, 2, 3, 5, 10]), (1, [0, 2, 3, 5, 10, 35]), (2, [8, 9, 10]), (3, [0, 2, 3, 5, 10, 39]), (4, [8, 9, 10]), (5, [0, 2, 3, 5, 10, 11, 12]), (6, [0, 2, 3, 5, 10, 11, 12, 60]), (7, [8, 9, 10]), (8, [0, 2, 3, 5, 10, 13, 14]), (9, [0, 2, 3, 5, 10, 13, 14, 73]), (10, [8, 9, 10]), (11, [0, 2, 3, 5, 10, 13, 79]), (12, [8, 9, 10]), (13, [10, 13, 15, 16, 17]), (14, [8, 9, 10])] := (rfl)
def T135 : Tab := ⟨[(0, [0, 1, 5]), (1, [0, 1, 5, 14]), (2, [6]), (3, [0, 1, 5, 7]), (4, [0, 1, 5, 18]), (5, [6]), (6, [0, 1, 5, 8]), (7, [0, 1, 5, 8, 28]), (8, [0, 1, 5]), (9, []), (10, [6])], [], []⟩
theorem T135_sch : T135.sch = [] := (rfl)
theorem T135_reg : T135.reg = [(0, [0, 1, 5]), (1, [0, 1, 5, 14]), (2, [6]), (3, [0, 1, 5, 7]), (4, [0, 1, 5, 18]), (5, [6]), (6, [0, 1, 5, 8]), (7, [0, 1, 5, 8, 28]), (8, [0, 1, 5]), (9, []), (10, [6])] := (rfl)
def T136 : Tab := ⟨[(0, [1]), (1, [1, 3]), (2, [1, 3, 4]), (3, [1, 3, 4, 5]), (4, [1, 3, 4, 5, 6]), (5, [3, 4, 5, 6, 7]), (6, [2])], [], []⟩
theorem T136_sch : T136.sch = [] := (rfl)
theorem T136_reg : T136.reg = [(0, [1]), (1, [1, 3]), (2, [1, 3, 4]), (3, [1, 3, 4, 5]), (4, [1, 3, 4, 5, 6]), (5, [3, 4, 5, 6, 7]), (6, [2])] := (rfl)
def T137 : Tab := ⟨[(0, [0]), (1, [0, 3]), (2, [0, 3, 4]), (3, [0, 3, 4, 6]), (4, [0, 3, 4]), (5, [0, 3, 4, 26]), (6, [0, 3, 4]), (7, [2])], [(0, [0, 3, 4])], []⟩
theorem T137_sch : T137.sch = [] := (rfl)
theorem T137_reg : T137.reg = [(0, [0]), (1, [0, 3]), (2, [0, 3, 4]), (3, [0, 3, 4, 6]), (4, [0, 3, 4]), (5, [0, 3, 4, 26]), (6, [0, 3, 4]), (7, [2])] := (rfl)
theorem T137_loops : T137.loops = [(0, [0, 3, 4])] := (rfl)
def T138 : Tab := ⟨[(0, [0, 1, 2, 6]), (1, [0, 1, 2, 6, 7, 8]), (2, [0, 1, 2, 6, 7, 8, 13]), (3, [0, 1, 2, 6, 8]), (4, [0, 1, 2, 6, 7, 8]), (5, [0, 1, 2, 6, 7, 8]), (6, [0, 1, 2, 6]), (7, [0, 1, 2, 6, 30]), (8, [0, 1, 2, 6, 7, 8]), (9, [0, 1, 2, 6, 7, 8, 35]), (10, [0, 1, 2, 6, 8]), (11, [0, 1, 2, 6, 7, 8]), (12, [0, 1, 2, 6, 7, 8]), (13, [0, 1, 2, 6, 7, 9]), (14, [0, 1, 2, 6, 7, 9, 54]), (15, [0, 1, 2, 6]), (16, [0, 1, 2, 6])], [(0, [0, 1, 2, 6, 7, 8]), (2, [0, 1, 2, 6]), (4, [0, 1, 2, 6, 7, 8])], []⟩
theorem T138_sch : T138.sch = [] := (rfl)
theorem T138_reg : T138.reg = [(0, [0, 1, 2, 6]), (1, [0, 1, 2, 6, 7, 8]), (2, [0, 1, 2, 6, 7, 8, 13]), (3, [0, 1, 2, 6, 8]), (4, [0, 1, 2, 6, 7, 8]), (5, [0, 1, 2, 6, 7, 8]), (6, [0, 1, 2, 6]), (7, [0, 1, 2, 6, 30]), (8, [0, 1, 2, 6, 7, 8]), (9, [0, 1, 2, 6, 7, 8, 35]), (10, [0, 1, 2, 6, 8]), (11, [0, 1, 2, 6, 7, 8]), (12, [0, 1, 2, 6, 7, 8]), (13, [0, 1, 2, 6, 7, 9]), (14, [0, 1, 2, 6, 7, 9, 54]), (15, [0, 1, 2, 6]), (16, [0, 1, 2, 6])] := (rfl)
theorem T138_loops : T138.loops = [(0, [0, 1, 2, 6, 7, 8]), (2, [0, 1, 2, 6]), (4, [0, 1, 2, 6, 7, 8])] := (rfl)
def T139 : Tab := ⟨[(0, [0]), (1, [2])], [], []⟩
theorem T139_sch : T139.sch = [] := (rfl)
theorem T139_reg : T139.reg = [(0, [0]), (1, [2])] := (rfl)
def T140 : Tab := ⟨[(0, [0, 1]), (1, [4])], [], []⟩
theorem T140_sch : T140.sch = [] := (rfl)
theorem T140_reg : T140.reg = [(0, [0, 1]), (1, [4])] := (rfl)
def T141 : Tab := ⟨[(0, [0, 1, 2, 3]), (1, [0, 1, 2, 3, 16, 17]), (2, [0, 1, 2, 3, 16, 17, 18]), (3, [0, 1, 2, 3, 12, 16, 17]), (4, [0, 1, 2, 3, 12, 16, 17, 40]), (5, [12]), (6, [8, 9, 10]), (7, [0, 1, 2, 3, 16, 17]), (8, []), (9, [8, 9, 10])], [(0, [0, 1, 2, 3, 16, 17])], []⟩
theorem T141_sch : T141.sch = [] := (rfl)
theorem T141_reg : T141.reg = [(0, [0, 1, 2, 3]), (1, [0, 1, 2, 3, 16, 17]), (2, [0, 1, 2, 3, 16, 17, 18]), (3, [0, 1, 2, 3, 12, 16, 17]), (4, [0, 1, 2, 3, 12, 16, 17, 40]), (5, [12]), (6, [8, 9, 10]), (7, [0, 1, 2, 3, 16, 17]), (8, []), (9, [8, 9, 10])] := (rfl)
theorem T141_loops : T141.loops = [(0, [0, 1, 2, 3, 16, 17])] := (rfl)
def T142 : Tab := ⟨[(0, [0]), (1, [2])], [], []⟩
theorem T142_sch : T142.sch = [] := (rfl)
theorem T142_reg : T142.reg = [(0, [0]), (1, [2])] := (rfl)
def T143 : Tab := ⟨[(0, [0, 2, 3, 5, 10]), (1, [0, 2, 3, 5, 10, 19]), (2, [8, 9, 10]), (3, [0, 2, 3, 5, 10, 23]), (4, [8, 9, 10]), (5, [0, 2, 3, 5, 10, 11]), (6, [0, 2, 3, 5, 10, 11, 40]), (7, [8, 9, 10]), (8, [0, 2, 3, 5, 10, 11, 45]), (9, [8, 9, 10]), (10, [8, 9, 10, 11]), (11, [8, 9, 10])], [], []⟩
theorem T143_sch : T143.sch = [] := (rfl)
theorem T143_reg : T143.reg = [(0, [0, 2, 3, 5, 10]), (1, [0, 2, 3, 5, 10, 19]), (2, [8, 9, 10]), (3, [0, 2, 3, 5, 10, 23]), (4, [8, 9, 10]), (5, [0, 2, 3, 5, 10, 11]), (6, [0, 2, 3, 5, 10, 11, 40]), (7, [8, 9, 10]), (8, [0, 2, 3, 5, 10, 11, 45]), (9, [8, 9, 10]), (10, [8, 9, 10, 11]), (11, [8, 9, 10])] := (rfl)
def T144 : Tab := ⟨[(0, [0, 1, 5]), (1, [0, 1, 5, 7]), (2, [6]), (3, [0, 1, 5, 11]), (4, [6]), (5, [0, 1, 5]), (6, []), (7, [6])], [], []⟩
theorem T144_sch : T144.sch = [] := (rfl)
theorem T144_reg : T144.reg = [(0, [0, 1, 5]), (1, [0, 1, 5, 7]), (2, [6]), (3, [0, 1, 5, 11]), (4, [6]), (5, [0, 1, 5]), (6, []), (7, [6])] := (rfl)
def T146 : Tab := ⟨[(0, [0]), (1, [0, 12]), (2, [2, 3, 4]), (3, [5]), (4, [5, 6]), (5, [5, 6, 20]), (6, [2, 3, 4]), (7, [2, 3, 4])], [], []⟩
theorem T146_sch : T146.sch = [] := (rfl)
theorem T146_reg : T146.reg = [(0, [0]), (1, [0, 12]), (2, [2, 3, 4]), (3, [5]), (4, [5, 6]), (5, [5, 6, 20]), (6, [2, 3, 4]), (7, [2, 3, 4])] := (rfl)
def T147 : Tab := ⟨[(0, [0]), (1, [0, 3]), (2, [3, 10]), (3, [3, 10, 12]), (4, [3, 5, 10]), (5, [3, 10]), (6, [2])], [(0, [3, 10])], []⟩
theorem T147_sch : T147.sch = [] := (rfl)
theorem T147_reg : T147.reg = [(0, [0]), (1, [0, 3]), (2, [3, 10]), (3, [3, 10, 12]), (4, [3, 5, 10]), (5, [3, 10]), (6, [2])] := (rfl)
theorem T147_loops : T147.loops = [(0, [3, 10])] := (rfl)
def T148 : Tab := ⟨[(0, [0, 1, 2, 3]), (1, [0, 1, 2, 3, 9]), (2, [0, 1, 2, 3, 9, 11]), (3, [0, 1, 2, 3, 9]), (4, [0, 1, 2, 3, 9, 54]), (5, [8]), (6, [8])], [(0, [0, 1, 2, 3, 9])], []⟩
theorem T148_sch : T148.sch = [] := (rfl)
theorem T148_reg : T148.reg = [(0, [0, 1, 2, 3]), (1, [0, 1, 2, 3, 9]), (2, [0, 1, 2, 3, 9, 11]), (3, [0, 1, 2, 3, 9]), (4, [0, 1, 2, 3, 9, 54]), (5, [8]), (6, [8])] := (rfl)
theorem T148_loops : T148.loops = [(0, [0, 1, 2, 3, 9])] := (rfl)
def T149 : Tab := ⟨[(0, [0, 1, 2, 3, 10]), (1, [2, 3, 10, 11, 12, 13]), (2, [2, 3, 10, 11, 12, 13, 24]), (3, [8, 9, 10]), (4, [2, 10, 11, 12, 13, 29]), (5, [8, 9, 10]), (6, [8, 9, 10])], [], []⟩
theorem T149_sch : T149.sch = [] := (rfl)
theorem T149_reg : T149.reg = [(0, [0, 1, 2, 3, 10]), (1, [2, 3, 10, 11, 12, 13]), (2, [2, 3, 10, 11, 12, 13, 24]), (3, [8, 9, 10]), (4, [2, 10, 11, 12, 13, 29]), (5, [8, 9, 10]), (6, [8, 9, 10])] := (rfl)
def T150 : Tab := ⟨[(0, [0, 2, 3, 4, 6, 10, 11]), (1, [0, 3, 4, 10, 11, 12, 14]), (2, [0, 3, 4, 10, 11, 12, 14, 28]), (3, [10, 11, 14]), (4, [10, 11]), (5, [3, 4, 10, 11, 15, 16]), (6, [3, 4, 10, 11, 15, 16, 41]), (7, [10, 11]), (8, [10, 11])], [], [(4, ⟨12, 3, [0, 0, 1, 7], (.rd 0 false (.rd 1 false (.wr 2 (.rd 1 true (.wr 3 .done .no)) .no)))⟩)]⟩
theorem T150_sch : T150.sch = [(4, ⟨12, 3, [0, 0, 1, 7], (.rd 0 false (.rd 1 false (.wr 2 (.rd 1 true (.wr 3 .done .no)) .no)))⟩)] := (rfl)
theorem T150_reg : T150.reg = [(0, [0, 2, 3, 4, 6, 10, 11]), (1, [0, 3, 4, 10, 11, 12, 14]), (2, [0, 3, 4, 10, 11, 12, 14, 28]), (3, [10, 11, 14]), (4, [10, 11]), (5, [3, 4, 10, 11, 15, 16]), (6, [3, 4, 10, 11, 15, 16, 41]), (7, [10, 11]), (8, [10, 11])] := (rfl)
def T151 : Tab := ⟨[(0, [1]), (1, [2])], [], []⟩
theorem T151_sch : T151.sch = [] := (rfl)
theorem T151_reg : T151.reg = [(0, [1]), (1, [2])] := (rfl)
def T152 : Tab := ⟨[(0, [0, 1, 2, 3]), (1, [2, 3, 9]), (2, [2, 3, 14]), (3, [8]), (4, [8])], [], []⟩
theorem T152_sch : T152.sch = [] := (rfl)
theorem T152_reg : T152.reg = [(0, [0, 1, 2, 3]), (1, [2, 3, 9]), (2, [2, 3, 14]), (3, [8]), (4, [8])] := (rfl)
def T153 : Tab := ⟨[(0, [0, 1, 2, 3, 8]), (1, [0, 1, 2, 3, 8, 14]), (2, [0, 1, 2, 3, 8]), (3, [0, 1, 2, 3, 8, 9]), (4, [0, 1, 2, 3, 8, 9, 34]), (5, [0, 1, 2, 3, 8, 9]), (6, [0, 1, 2, 3, 8, 9])], [(0, [0, 1, 2, 3, 8]), (2, [0, 1, 2, 3, 8, 9])], [(4, ⟨114688, 16383, [0, 0, 3, 7, 15, 15, 15, 111, 239, 15, 15, 1039, 3599, 7695, 16383, 32767, 65535], (.rd 0 false (.rd 1 false (.rd 2 false (.rd 3 false (.rd 4 false (.rd 5 false (.rd 6 false (.rd 7 false (.rd 8 false (.rd 9 false (.rd 10 false (.rd 11 false (.rd 12 false (.rd 13 false (.wr 14 (.wr 15 (.wr 16 .done .no) .no) .no)))))))))))))))⟩), (6, ⟨229376, 32767, [0, 0, 0, 0, 8, 0, 0, 64, 224, 480, 0, 0, 3072, 7168, 16355, 32739, 65535, 131071], (.rd 0 false (.rd 1 false (.rd 2 false (.rd 3 false (.rd 4 false (.rd 5 false (.rd 6 false (.rd 7 false (.rd 8 false (.rd 9 false (.rd 10 false (.rd 11 false (.rd 12 false (.rd 13 false (.rd 14 false (.wr 15 (.rd 2 true (.rd 3 true (.rd 4 true (.wr 16 (.wr 17 .done .no) .no)))) .no))))))))))))))))⟩)]⟩
theorem T153_sch : T153.sch = [(4, ⟨114688, 16383, [0, 0, 3, 7, 15, 15, 15, 111, 239, 15, 15, 1039, 3599, 7695, 16383, 32767, 65535], (.rd 0 false (.rd 1 false (.rd 2 false (.rd 3 false (.rd 4 false (.rd 5 false (.rd 6 false (.rd 7 false (.rd 8 false (.rd 9 false (.rd 10 false (.rd 11 false (.rd 12 false (.rd 13 false (.wr 14 (.wr 15 (.wr 16 .done .no) .no) .no)))))))))))))))⟩), (6, ⟨229376, 32767, [0, 0, 0, 0, 8, 0, 0, 64, 224, 480, 0, 0, 3072, 7168, 16355, 32739, 65535, 131071], (.rd 0 false (.rd 1 false (.rd 2 false (.rd 3 false (.rd 4 false (.rd 5 false (.rd 6 false (.rd 7 false (.rd 8 false (.rd 9 false (.rd 10 false (.rd 11 false (.rd 12 false (.rd 13 false (.rd 14 false (.wr 15 (.rd 2 true (.rd 3 true (.rd 4 true (.wr 16 (.wr 17 .done .no) .no)))) .no))))))))))))))))⟩)] := (rfl)
theorem T153_reg : T153.reg = [(0, [0, 1, 2, 3, 8]), (1, [0, 1, 2, 3, 8, 14]), (2, [0, 1, 2, 3, 8]), (3, [0, 1, 2, 3, 8, 9]), (4, [0, 1, 2, 3, 8, 9, 34]), (5, [0, 1, 2, 3, 8, 9]), (6, [0, 1, 2, 3, 8, 9])] := (rfl)
theorem T153_loops : T153.loops = [(0, [0, 1, 2, 3, 8]), (2, [0, 1, 2, 3, 8, 9])] := (rfl)
def T154 : Tab := ⟨[(0, [0, 1, 2, 3, 4, 28]), (1, [0, 1, 3, 4, 10]), (2, [0, 1, 4, 10, 11]), (3, [0, 1, 4, 10, 11, 33]), (4, [0, 1, 4, 10, 11, 12]), (5, [0, 1, 4, 10, 11, 12, 50]), (6, [0, 1, 4, 10, 11]), (7, [0, 1, 4, 10, 11]), (8, [0, 10, 13]), (9, [0, 10, 13, 58]), (10, [0, 10, 13]), (11, [0, 10, 13]), (12, [0, 1, 2, 3, 4, 80]), (13, [0, 2, 4, 14]), (14, [0, 2, 4, 14, 15]), (15, [0, 2, 4, 14, 15, 85]), (16, [0, 2, 4, 14, 15, 16]), (17, [0, 2, 4, 14, 15, 16, 103]), (18, [0, 2, 4, 14, 15]), (19, [0, 2, 4, 14, 15]), (20, [0, 14, 17]), (21, [0, 14, 17, 110]), (22, [0, 14, 17]), (23, [0, 14, 17]), (24, [0, 1, 2, 3, 4, 18]), (25, [0, 1, 2, 3, 4, 18, 19]), (26, [0, 1, 2, 3, 4, 18, 19]), (27, [0, 1, 2, 3, 4, 18, 19, 140]), (28, [0, 1, 2, 3, 4, 18, 19, 20]), (29, [0, 1, 2, 3, 4, 18, 19, 20, 21]), (30, [0, 1, 2, 3, 4, 18, 19, 20]), (31, [0, 1, 2, 3, 4, 18, 19, 20, 21]), (32, [0, 1, 2, 3, 4, 18, 19, 20, 21, 22]), (33, [0, 1, 2, 3, 4, 18, 19, 20, 21, 22, 151]), (34, [0, 1, 2, 3, 4, 18, 19, 20, 21, 22, 23]), (35, [0, 1, 2, 3, 4, 18, 19, 20, 21, 22, 23, 171]), (36, [0, 1, 2, 3, 4, 18, 19, 20, 21, 22]), (37, [0, 1, 2, 3, 4, 18, 19, 20, 21, 22]), (38, [0, 1, 2, 3, 4, 18, 20, 24]), (39, [0, 1, 2, 3, 4, 18, 20, 24, 185]), (40, [0, 1, 3, 4, 18, 20, 24]), (41, [0, 1, 3, 4, 18, 20, 24, 199]), (42, [0, 3, 4, 18, 24]), (43, [0, 3, 4, 18, 24, 213]), (44, [])], [(0, [0, 1, 4, 10, 11]), (2, [0, 10, 13]), (4, [0, 2, 4, 14, 15]), (6, [0, 14, 17]), (8, [0, 1, 2, 3, 4, 18, 19, 20, 21, 22])], [(5, ⟨1536, 511, [0, 0, 0, 6, 14, 0, 0, 96, 224, 511, 1023], (.rd 0 false (.rd 1 false (.rd 2 false (.rd 3 false (.rd 4 false (.rd 5 false (.rd 6 false (.rd 7 false (.rd 8 false (.wr 9 (.wr 10 .done .no) .no))))))))))⟩), (11, ⟨229376, 32767, [0, 0, 0, 0, 8, 0, 0, 64, 224, 480, 0, 0, 3072, 7168, 16355, 32739, 65535, 131071], (.rd 0 false (.rd 1 false (.rd 2 false (.rd 3 false (.rd 4 false (.rd 5 false (.rd 6 false (.rd 7 false (.rd 8 false (.rd 9 false (.rd 10 false (.rd 11 false (.rd 12 false (.rd 13 false (.rd 14 false (.wr 15 (.rd 2 true (.rd 3 true (.rd 4 true (.wr 16 (.wr 17 .done .no) .no)))) .no))))))))))))))))⟩), (17, ⟨3584, 511, [0, 0, 0, 6, 14, 0, 0, 96, 224, 511, 1023, 2047], (.rd 0 false (.rd 1 false (.rd 2 false (.rd 3 false (.rd 4 false (.rd 5 false (.rd 6 false (.rd 7 false (.rd 8 false (.wr 9 (.wr 10 (.wr 11 .done .no) .no) .no))))))))))⟩), (23, ⟨229376, 32767, [0, 0, 0, 0, 8, 0, 0, 64, 224, 480, 0, 0, 3072, 7168, 16355, 32739, 65535, 131071], (.rd 0 false (.rd 1 false (.rd 2 false (.rd 3 false (.rd 4 false (.rd 5 false (.rd 6 false (.rd 7 false (.rd 8 false (.rd 9 false (.rd 10 false (.rd 11 false (.rd 12 false (.rd 13 false (.rd 14 false (.wr 15 (.rd 2 true (.rd 3 true (.rd 4 true (.wr 16 (.wr 17 .done .no) .no)))) .no))))))))))))))))⟩), (35, ⟨14336, 2047, [0, 0, 0, 0, 12, 30, 62, 0, 0, 384, 896, 2047, 4095, 8191], (.rd 0 false (.rd 1 false (.rd 2 false (.rd 3 false (.rd 4 false (.rd 5 false (.rd 6 false (.rd 7 false (.rd 8 false (.rd 9 false (.rd 10 false (.wr 11 (.wr 12 (.wr 13 .done .no) .no) .no))))))))))))⟩)]⟩
theorem T154_sch : T154.sch = [(5, ⟨1536, 511, [0, 0, 0, 6, 14, 0, 0, 96, 224, 511, 1023], (.rd 0 false (.rd 1 false (.rd 2 false (.rd 3 false (.rd 4 false (.rd 5 false (.rd 6 false (.rd 7 false (.rd 8 false (.wr 9 (.wr 10 .done .no) .no))))))))))⟩), (11, ⟨229376, 32767, [0, 0, 0, 0, 8, 0, 0, 64, 224, 480, 0, 0, 3072, 7168, 16355, 32739, 65535, 131071], (.rd 0 false (.rd 1 false (.rd 2 false (.rd 3 false (.rd 4 false (.rd 5 false (.rd 6 false (.rd 7 false (.rd 8 false (.rd 9 false (.rd 10 false (.rd 11 false (.rd 12 false (.rd 13 false (.rd 14 false (.wr 15 (.rd 2 true (.rd 3 true (.rd 4 true (.wr 16 (.wr 17 .done .no) .no)))) .no))))))))))))))))⟩), (17, ⟨3584, 511, [0, 0, 0, 6, 14, 0, 0, 96, 224, 511, 1023, 2047], (.rd 0 false (.rd 1 false (.rd 2 false (.rd 3 false (.rd 4 false (.rd 5 false (.rd 6 false (.rd 7 false (.rd 8 false (.wr 9 (.wr 10 (.wr 11 .done .no) .no) .no))))))))))⟩), (23, ⟨229376, 32767, [0, 0, 0, 0, 8, 0, 0, 64, 224, 480, 0, 0, 3072, 7168, 16355, 32739, 65535, 131071], (.rd 0 false (.rd 1 false (.rd 2 false (.rd 3 false (.rd 4 false (.rd 5 false (.rd 6 false (.rd 7 false (.rd 8 false (.rd 9 false (.rd 10 false (.rd 11 false (.rd 12 false (.rd 13 false (.rd 14 false (.wr 15 (.rd 2 true (.rd 3 true (.rd 4 true (.wr 16 (.wr 17 .done .no) .no)))) .no))))))))))))))))⟩), (35, ⟨14336, 2047, [0, 0, 0, 0, 12, 30, 62, 0, 0, 384, 896, 2047, 4095, 8191], (.rd 0 false (.rd 1 false (.rd 2 false (.rd 3 false (.rd 4 false (.rd 5 false (.rd 6 false (.rd 7 false (.rd 8 false (.rd 9 false (.rd 10 false (.wr 11 (.wr 12 (.wr 13 .done .no) .no) .no))))))))))))⟩)] := (rfl)
theorem T154_reg : T154.reg = [(0, [0, 1, 2, 3, 4, 28]), (1, [0, 1, 3, 4, 10]), (2, [0, 1, 4, 10, 11]), (3, [0, 1, 4, 10, 11, 33]), (4, [0, 1, 4, 10, 11, 12]), (5, [0, 1, 4, 10, 11, 12, 50]), (6, [0, 1, 4, 10, 11]), (7, [0, 1, 4, 10, 11]), (8, [0, 10, 13]), (9, [0, 10, 13, 58]), (10, [0, 10, 13]), (11, [0, 10, 13]), (12, [0, 1, 2, 3, 4, 80]), (13, [0, 2, 4, 14]), (14, [0, 2, 4, 14, 15]), (15, [0, 2, 4, 14, 15, 85]), (16, [0, 2, 4, 14, 15, 16]), (17, [0, 2, 4, 14, 15, 16, 103]), (18, [0, 2, 4, 14, 15]), (19, [0, 2, 4, 14, 15]), (20, [0, 14, 17]), (21, [0, 14, 17, 110]), (22, [0, 14, 17]), (23, [0, 14, 17]), (24, [0, 1, 2, 3, 4, 18]), (25, [0, 1, 2, 3, 4, 18, 19]), (26, [0, 1, 2, 3, 4, 18, 19]), (27, [0, 1, 2, 3, 4, 18, 19, 140]), (28, [0, 1, 2, 3, 4, 18, 19, 20]), (29, [0, 1, 2, 3, 4, 18, 19, 20, 21]), (30, [0, 1, 2, 3, 4, 18, 19, 20]), (31, [0, 1, 2, 3, 4, 18, 19, 20, 21]), (32, [0, 1, 2, 3, 4, 18, 19, 20, 21, 22]), (33, [0, 1, 2, 3, 4, 18, 19, 20, 21, 22, 151]), (34, [0, 1, 2, 3, 4, 18, 19, 20, 21, 22, 23]), (35, [0, 1, 2, 3, 4, 18, 19, 20, 21, 22, 23, 171]), (36, [0, 1, 2, 3, 4, 18, 19, 20, 21, 22]), (37, [0, 1, 2, 3, 4, 18, 19, 20, 21, 22]), (38, [0, 1, 2, 3, 4, 18, 20, 24]), (39, [0, 1, 2, 3, 4, 18, 20, 24, 185]), (40, [0, 1, 3, 4, 18, 20, 24]), (41, [0, 1, 3, 4, 18, 20, 24, 199]), (42, [0, 3, 4, 18, 24]), (43, [0, 3, 4, 18, 24, 213]), (44, [])] := (rfl)
theorem T154_loops : T154.loops = [(0, [0, 1, 4, 10, 11]), (2, [0, 10, 13]), (4, [0, 2, 4, 14, 15]), (6, [0, 14, 17]), (8, [0, 1, 2, 3, 4, 18, 19, 20, 21, 22])] := (rfl)
def T155 : Tab := ⟨[(0, [0, 1, 2, 3, 10]), (1, [2, 3, 8, 9, 10]), (2, [2, 3, 8, 9, 10, 19]), (3, [8, 9, 10]), (4, [2, 8, 9, 10, 24]), (5, [8, 9, 10]), (6, [8, 9, 10])], [], []⟩
theorem T155_sch : T155.sch = [] := (rfl)
theorem T155_reg : T155.reg = [(0, [0, 1, 2, 3, 10]), (1, [2, 3, 8, 9, 10]), (2, [2, 3, 8, 9, 10, 19]), (3, [8, 9, 10]), (4, [2, 8, 9, 10, 24]), (5, [8, 9, 10]), (6, [8, 9, 10])] := (rfl)
def T156 : Tab := ⟨[(0, [0, 2, 4, 6, 7]), (1, [0, 2, 4, 6, 7, 8]), (2, [0, 2, 4, 6, 7, 8, 9]), (3, [0, 2, 4, 6, 7, 8, 9, 17]), (4, [0, 2, 4, 6, 7, 8, 9, 17, 18]), (5, [0, 2, 4, 6, 7, 8, 9, 10, 17]), (6, [0, 2, 4, 6, 7, 9, 10, 11, 13, 17]), (7, [0, 2, 4, 6, 7, 9, 10, 11, 13, 17, 31]), (8, [6, 7, 13]), (9, [6, 7]), (10, [0, 2, 4, 6, 7, 9, 10, 11, 17]), (11, [0, 2, 4, 6, 7, 9, 10, 14, 17]), (12, [0, 2, 4, 6, 7, 9, 10, 14, 17, 45]), (13, [6, 7]), (14, [0, 2, 4, 6, 7, 8, 9, 17]), (15, [0, 2, 4, 6, 7, 8, 9, 17]), (16, [6, 7])], [(0, [0, 2, 4, 6, 7, 8, 9, 17])], [(9, ⟨12, 3, [0, 0, 1, 7], (.rd 0 false (.rd 1 false (.wr 2 (.rd 1 true (.wr 3 .done .no)) .no)))⟩)]⟩
theorem T156_sch : T156.sch = [(9, ⟨12, 3, [0, 0, 1, 7], (.rd 0 false (.rd 1 false (.wr 2 (.rd 1 true (.wr 3 .done .no)) .no)))⟩)] := (rfl)
theorem T156_reg : T156.reg = [(0, [0, 2, 4, 6, 7]), (1, [0, 2, 4, 6, 7, 8]), (2, [0, 2, 4, 6, 7, 8, 9]), (3, [0, 2, 4, 6, 7, 8, 9, 17]), (4, [0, 2, 4, 6, 7, 8, 9, 17, 18]), (5, [0, 2, 4, 6, 7, 8, 9, 10, 17]), (6, [0, 2, 4, 6, 7, 9, 10, 11, 13, 17]), (7, [0, 2, 4, 6, 7, 9, 10, 11, 13, 17, 31]), (8, [6, 7, 13]), (9, [6, 7]), (10, [0, 2, 4, 6, 7, 9, 10, 11, 17]), (11, [0, 2, 4, 6, 7, 9, 10, 14, 17]), (12, [0, 2, 4, 6, 7, 9, 10, 14, 17, 45]), (13, [6, 7]), (14, [0, 2, 4, 6, 7, 8, 9, 17]), (15, [0, 2, 4, 6, 7, 8, 9, 17]), (16, [6, 7])] := (rfl)
theorem T156_loops : T156.loops = [(0, [0, 2, 4, 6, 7, 8, 9, 17])] := (rfl)
def T157 : Tab := ⟨[(0, [1]), (1, [2])], [], []⟩
theorem T157_sch : T157.sch = [] := (rfl)
theorem T157_reg : T157.reg = [(0, [1]), (1, [2])] := (rfl)
def T158 : Tab := ⟨[(0, [1, 2]), (1, [3])], [], []⟩
theorem T158_sch : T158.sch = [] := (rfl)
theorem T158_reg : T158.reg = [(0, [1, 2]), (1, [3])] := (rfl)
def T160 : Tab := ⟨[(0, [0, 1]), (1, [4])], [], []⟩
theorem T160_sch : T160.sch = [] := (rfl)
theorem T160_reg : T160.reg = [(0, [0, 1]), (1, [4])] := (rfl)
def T162 : Tab := ⟨[(0, [0, 2, 3, 4, 10]), (1, [0, 2, 4, 10, 11]), (2, [0, 2, 4, 10, 11, 20]), (3, [0, 2, 4, 10, 11, 23]), (4, [0, 2, 4, 10, 11]), (5, [0, 2, 4, 10, 11]), (6, [0, 2, 4, 10, 11]), (7, [0, 2, 4, 10, 11]), (8, [])], [(0, [0, 2, 4, 10, 11])], []⟩
theorem T162_sch : T162.sch = [] := (rfl)
theorem T162_reg : T162.reg = [(0, [0, 2, 3, 4, 10]), (1, [0, 2, 4, 10, 11]), (2, [0, 2, 4, 10, 11, 20]), (3, [0, 2, 4, 10, 11, 23]), (4, [0, 2, 4, 10, 11]), (5, [0, 2, 4, 10, 11]), (6, [0, 2, 4, 10, 11]), (7, [0, 2, 4, 10, 11]), (8, [])] := (rfl)
theorem T162_loops : T162.loops = [(0, [0, 2, 4, 10, 11])] := (rfl)
def T163 : Tab := ⟨[(0, [0, 1, 2, 3]), (1, [0, 1, 2, 3, 13]), (2, [8]), (3, [0, 1, 2, 3, 15]), (4, [8]), (5, [0, 1, 2, 3, 20]), (6, [0, 1, 2, 3]), (7, [0, 1, 2, 3]), (8, [0, 1, 2, 3, 9]), (9, [0, 1, 2, 3, 9]), (10, [0, 1, 2, 3, 9, 10]), (11, [0, 1, 2, 3, 9, 10, 36]), (12, [0, 1, 2, 3, 9, 10, 11]), (13, [0, 1, 2, 3, 9, 10, 11, 41]), (14, [0, 1, 2, 3, 9, 10, 11]), (15, [0, 1, 2, 3, 9, 10]), (16, [0, 1, 2, 3, 9, 10]), (17, [9, 10]), (18, [8])], [(0, [0, 1, 2, 3, 9, 10])], []⟩
theorem T163_sch : T163.sch = [] := (rfl)
theorem T163_reg : T163.reg = [(0, [0, 1, 2, 3]), (1, [0, 1, 2, 3, 13]), (2, [8]), (3, [0, 1, 2, 3, 15]), (4, [8]), (5, [0, 1, 2, 3, 20]), (6, [0, 1, 2, 3]), (7, [0, 1, 2, 3]), (8, [0, 1, 2, 3, 9]), (9, [0, 1, 2, 3, 9]), (10, [0, 1, 2, 3, 9, 10]), (11, [0, 1, 2, 3, 9, 10, 36]), (12, [0, 1, 2, 3, 9, 10, 11]), (13, [0, 1, 2, 3, 9, 10, 11, 41]), (14, [0, 1, 2, 3, 9, 10, 11]), (15, [0, 1, 2, 3, 9, 10]), (16, [0, 1, 2, 3, 9, 10]), (17, [9, 10]), (18, [8])] := (rfl)
theorem T163_loops : T163.loops = [(0, [0, 1, 2, 3, 9, 10])] := (rfl)
def T168 : Tab := ⟨[(0, [0, 1, 2, 3, 10]), (1, [0, 1, 2, 3, 10, 13]), (2, [0, 1, 2, 3, 10]), (3, [0, 1, 2, 3, 10])], [(0, [0, 1, 2, 3, 10])], [(3, ⟨14680064, 2097151, [0, 0, 0, 6, 0, 0, 0, 96, 0, 0, 0, 1536, 3840, 7936, 0, 0, 0, 98304, 245760, 507904, 1048335, 2096911, 4194303, 8388607], (.rd 0 false (.rd 1 false (.rd 2 false (.rd 3 false (.rd 4 false (.rd 5 false (.rd 6 false (.rd 7 false (.rd 8 false (.rd 9 false (.rd 10 false (.rd 11 false (.rd 12 false (.rd 13 false (.rd 14 false (.rd 15 false (.rd 16 false (.rd 17 false (.rd 18 false (.rd 19 false (.rd 20 false (.wr 21 (.rd 4 true (.rd 5 true (.rd 6 true (.rd 7 true (.wr 22 (.wr 23 .done .no) .no))))) .no))))))))))))))))))))))⟩)]⟩
theorem T168_sch : T168.sch = [(3, ⟨14680064, 2097151, [0, 0, 0, 6, 0, 0, 0, 96, 0, 0, 0, 1536, 3840, 7936, 0, 0, 0, 98304, 245760, 507904, 1048335, 2096911, 4194303, 8388607], (.rd 0 false (.rd 1 false (.rd 2 false (.rd 3 false (.rd 4 false (.rd 5 false (.rd 6 false (.rd 7 false (.rd 8 false (.rd 9 false (.rd 10 false (.rd 11 false (.rd 12 false (.rd 13 false (.rd 14 false (.rd 15 false (.rd 16 false (.rd 17 false (.rd 18 false (.rd 19 false (.rd 20 false (.wr 21 (.rd 4 true (.rd 5 true (.rd 6 true (.rd 7 true (.wr 22 (.wr 23 .done .no) .no))))) .no))))))))))))))))))))))⟩)] := (rfl)
theorem T168_reg : T168.reg = [(0, [0, 1, 2, 3, 10]), (1, [0, 1, 2, 3, 10, 13]), (2, [0, 1, 2, 3, 10]), (3, [0, 1, 2, 3, 10])] := (rfl)
theorem T168_loops : T168.loops = [(0, [0, 1, 2, 3, 10])] := (rfl)
attribute [go_sem] T6_reg T6_loops T6_sch T7_reg T7_sch T8_reg T8_loops T8_sch T9_reg T9_sch T10_reg T10_sch T11_reg T11_sch T13_reg T13_sch T14_reg T14_loops T14_sch T15_reg T15_loops T15_sch T16_reg T16_loops T16_sch T17_reg T17_sch T18_reg T18_loops T18_sch T19_reg T19_sch T20_reg T20_sch T21_reg T21_sch T22_reg T22_sch T23_reg T23_sch T24_reg T24_sch T25_reg T25_loops T25_sch T26_reg T26_sch T27_reg T27_sch T28_reg T28_sch T29_reg T29_sch T30_reg T30_sch T31_reg T31_sch T32_reg T32_loops T32_sch T33_reg T33_loops T33_sch T34_reg T34_sch T35_reg T35_sch T36_reg T36_sch T37_reg T37_sch T38_reg T38_loops T38_sch T39_reg T39_sch T40_reg T40_sch T41_reg T41_sch T42_reg T42_sch T43_reg T43_loops T43_sch T45_reg T45_sch T46_reg T46_sch T47_reg T47_sch T48_reg T48_sch T49_reg T49_sch T50_reg T50_sch T51_reg T51_loops T51_sch T52_reg T52_sch T53_reg T53_sch T54_reg T54_sch T55_reg T55_sch T56_reg T56_sch T57_reg T57_sch T58_reg T58_sch T59_reg T59_sch T60_reg T60_sch T61_reg T61_loops T61_sch T62_reg T62_loops T62_sch T63_reg T63_sch T64_reg T64_sch T65_reg T65_sch T66_reg T66_sch T67_reg T67_sch T68_reg T68_sch T69_reg T69_sch T70_reg T70_sch T71_reg T71_sch T72_reg T72_sch T73_reg T73_loops T73_sch T74_reg T74_sch T75_reg T75_sch T76_reg T76_sch T77_reg T77_sch T78_reg T78_sch T79_reg T79_sch T80_reg T80_sch T81_reg T81_sch T82_reg T82_sch T83_reg T83_sch T84_reg T84_sch T85_reg T85_sch T86_reg T86_sch T87_reg T87_sch T88_reg T88_sch T89_reg T89_sch T90_reg T90_sch T91_reg T91_sch T92_reg T92_sch T93_reg T93_sch T94_reg T94_sch T95_reg T95_sch T96_reg T96_sch T97_reg T97_sch T98_reg T98_sch T99_reg T99_sch T100_reg T100_sch T101_reg T101_sch T102_reg T102_sch T103_reg T103_sch T104_reg T104_sch T105_reg T105_sch T106_reg T106_loops T106_sch T107_reg T107_sch T108_reg T108_sch T109_reg T109_loops T109_sch T110_reg T110_sch T111_reg T111_sch T112_reg T112_loops T112_sch T113_reg T113_sch T114_reg T114_sch T115_reg T115_sch T116_reg T116_sch T117_reg T117_loops T117_sch T118_reg T118_sch T119_reg T119_sch T120_reg T120_sch T122_reg T122_sch T123_reg T123_sch T124_reg T124_sch T125_reg T125_sch T126_reg T126_sch T127_reg T127_sch T128_reg T128_sch T129_reg T129_loops T129_sch T130_reg T130_sch T131_reg T131_sch T132_reg T132_sch T133_reg T133_sch T134_reg T134_sch T135_reg T135_sch T136_reg T136_sch T137_reg T137_loops T137_sch T138_reg T138_loops T138_sch T139_reg T139_sch T140_reg T140_sch T141_reg T141_loops T141_sch T142_reg T142_sch T143_reg T143_sch T144_reg T144_sch T146_reg T146_sch T147_reg T147_loops T147_sch T148_reg T148_loops T148_sch T149_reg T149_sch T150_reg T150_sch T151_reg T151_sch T152_reg T152_sch T153_reg T153_loops T153_sch T154_reg T154_loops T154_sch T155_reg T155_sch T156_reg T156_loops T156_sch T157_reg T157_sch T158_reg T158_sch T160_reg T160_sch T162_reg T162_loops T162_sch T163_reg T163_loops T163_sch T168_reg T168_loops T168_sch
theorem mixed : Tryz.prog.follows .mixedOrders = true := by kernel_rfl
end Go.Eng
