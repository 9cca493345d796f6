/-
  FACTS ON THE PROGRAM: types, fields, functions (closed, each reckoned by the kernel), and each function's table of live slots. Printed by mk.py.
-/
import Derived.Test.YtfjacnhmmilafaaDoorStrE
import Derived.Test.YtfjacnhmmilafaaDoorEng9
import Derived.Test.YtfjacnhmmilafaaDoorProg
import Derived.KernelRfl
namespace Go.Eng
open Go Go.Proofs
theorem tsz_0 : tsz Tryd.prog 0 = some 1 := by kernel_rfl
theorem aggB_0 : aggB Tryd.prog 0 = some false := by kernel_rfl
theorem tszD_0 : tszD Tryd.prog 0 = 1 := by kernel_rfl
theorem tbytes_0 : tbytes Tryd.prog 0 = some 0 := by kernel_rfl
theorem tzeroD_0 : tzeroD Tryd.prog 0 = .tuple #[] := by kernel_rfl
theorem tzero_0 : tzero Tryd.prog 0 = some (.tuple #[]) := by kernel_rfl
theorem tsz_3 : tsz Tryd.prog 3 = some 1 := by kernel_rfl
theorem aggB_3 : aggB Tryd.prog 3 = some false := by kernel_rfl
theorem tszD_3 : tszD Tryd.prog 3 = 1 := by kernel_rfl
theorem tbytes_3 : tbytes Tryd.prog 3 = some 8 := by kernel_rfl
theorem isInt_3 : isIntB Tryd.prog 3 = true := by kernel_rfl
theorem intK_3 : intKD Tryd.prog 3 = .i64 := by kernel_rfl
theorem tzeroD_3 : tzeroD Tryd.prog 3 = .int .i64 0 := by kernel_rfl
theorem tzero_3 : tzero Tryd.prog 3 = some (.int .i64 0) := by kernel_rfl
theorem tsz_4 : tsz Tryd.prog 4 = some 1 := by kernel_rfl
theorem aggB_4 : aggB Tryd.prog 4 = some false := by kernel_rfl
theorem tszD_4 : tszD Tryd.prog 4 = 1 := by kernel_rfl
theorem tbytes_4 : tbytes Tryd.prog 4 = some 1 := by kernel_rfl
theorem tzeroD_4 : tzeroD Tryd.prog 4 = .bool false := by kernel_rfl
theorem tzero_4 : tzero Tryd.prog 4 = some (.bool false) := by kernel_rfl
theorem tsz_5 : tsz Tryd.prog 5 = some 1 := by kernel_rfl
theorem aggB_5 : aggB Tryd.prog 5 = some false := by kernel_rfl
theorem tszD_5 : tszD Tryd.prog 5 = 1 := by kernel_rfl
theorem tbytes_5 : tbytes Tryd.prog 5 = some 1 := by kernel_rfl
theorem isInt_5 : isIntB Tryd.prog 5 = true := by kernel_rfl
theorem intK_5 : intKD Tryd.prog 5 = .u8 := by kernel_rfl
theorem tzeroD_5 : tzeroD Tryd.prog 5 = .int .u8 0 := by kernel_rfl
theorem tzero_5 : tzero Tryd.prog 5 = some (.int .u8 0) := by kernel_rfl
theorem tsz_9 : tsz Tryd.prog 9 = some 1 := by kernel_rfl
theorem aggB_9 : aggB Tryd.prog 9 = some false := by kernel_rfl
theorem tszD_9 : tszD Tryd.prog 9 = 1 := by kernel_rfl
theorem tbytes_9 : tbytes Tryd.prog 9 = some 16 := by kernel_rfl
theorem isStr_9 : isStrB Tryd.prog 9 = true := by kernel_rfl
theorem tzeroD_9 : tzeroD Tryd.prog 9 = .string ByteArray.empty := by kernel_rfl
theorem tzero_9 : tzero Tryd.prog 9 = some (.string ByteArray.empty) := by kernel_rfl
theorem tsz_21 : tsz Tryd.prog 21 = some 1 := by kernel_rfl
theorem aggB_21 : aggB Tryd.prog 21 = some false := by kernel_rfl
theorem tszD_21 : tszD Tryd.prog 21 = 1 := by kernel_rfl
theorem tbytes_21 : tbytes Tryd.prog 21 = some 4 := by kernel_rfl
theorem isInt_21 : isIntB Tryd.prog 21 = true := by kernel_rfl
theorem intK_21 : intKD Tryd.prog 21 = .i32 := by kernel_rfl
theorem tzeroD_21 : tzeroD Tryd.prog 21 = .int .i32 0 := by kernel_rfl
theorem tzero_21 : tzero Tryd.prog 21 = some (.int .i32 0) := by kernel_rfl
theorem tsz_22 : tsz Tryd.prog 22 = some 5 := by kernel_rfl
theorem aggB_22 : aggB Tryd.prog 22 = some true := by kernel_rfl
theorem tszD_22 : tszD Tryd.prog 22 = 5 := by kernel_rfl
theorem tbytes_22 : tbytes Tryd.prog 22 = some 40 := by kernel_rfl
theorem tzeroD_22 : tzeroD Tryd.prog 22 = .agg #[.int .i64 0, .int .i64 0, .int .i64 0, .int .i64 0, .int .i64 0] := by kernel_rfl
theorem tzero_22 : tzero Tryd.prog 22 = some (.agg #[.int .i64 0, .int .i64 0, .int .i64 0, .int .i64 0, .int .i64 0]) := by kernel_rfl
theorem tsz_23 : tsz Tryd.prog 23 = some 5 := by kernel_rfl
theorem aggB_23 : aggB Tryd.prog 23 = some true := by kernel_rfl
theorem tszD_23 : tszD Tryd.prog 23 = 5 := by kernel_rfl
theorem tbytes_23 : tbytes Tryd.prog 23 = some 40 := by kernel_rfl
theorem tzeroD_23 : tzeroD Tryd.prog 23 = .agg #[.int .i64 0, .int .i64 0, .int .i64 0, .int .i64 0, .int .i64 0] := by kernel_rfl
theorem tzero_23 : tzero Tryd.prog 23 = some (.agg #[.int .i64 0, .int .i64 0, .int .i64 0, .int .i64 0, .int .i64 0]) := by kernel_rfl
theorem tsz_24 : tsz Tryd.prog 24 = some 1 := by kernel_rfl
theorem aggB_24 : aggB Tryd.prog 24 = some false := by kernel_rfl
theorem tszD_24 : tszD Tryd.prog 24 = 1 := by kernel_rfl
theorem tbytes_24 : tbytes Tryd.prog 24 = some 4 := by kernel_rfl
theorem isInt_24 : isIntB Tryd.prog 24 = true := by kernel_rfl
theorem intK_24 : intKD Tryd.prog 24 = .u32 := by kernel_rfl
theorem tzeroD_24 : tzeroD Tryd.prog 24 = .int .u32 0 := by kernel_rfl
theorem tzero_24 : tzero Tryd.prog 24 = some (.int .u32 0) := by kernel_rfl
theorem tsz_27 : tsz Tryd.prog 27 = some 1 := by kernel_rfl
theorem aggB_27 : aggB Tryd.prog 27 = some false := by kernel_rfl
theorem tszD_27 : tszD Tryd.prog 27 = 1 := by kernel_rfl
theorem tbytes_27 : tbytes Tryd.prog 27 = some 8 := by kernel_rfl
theorem isInt_27 : isIntB Tryd.prog 27 = true := by kernel_rfl
theorem intK_27 : intKD Tryd.prog 27 = .i64 := by kernel_rfl
theorem tzeroD_27 : tzeroD Tryd.prog 27 = .int .i64 0 := by kernel_rfl
theorem tzero_27 : tzero Tryd.prog 27 = some (.int .i64 0) := by kernel_rfl
theorem tsz_28 : tsz Tryd.prog 28 = some 1 := by kernel_rfl
theorem aggB_28 : aggB Tryd.prog 28 = some false := by kernel_rfl
theorem tszD_28 : tszD Tryd.prog 28 = 1 := by kernel_rfl
theorem tbytes_28 : tbytes Tryd.prog 28 = some 0 := by kernel_rfl
theorem tzeroD_28 : tzeroD Tryd.prog 28 = .tuple #[.int .u32 0, .int .i64 0] := by kernel_rfl
theorem tzero_28 : tzero Tryd.prog 28 = some (.tuple #[.int .u32 0, .int .i64 0]) := by kernel_rfl
theorem tsz_30 : tsz Tryd.prog 30 = some 1 := by kernel_rfl
theorem aggB_30 : aggB Tryd.prog 30 = some false := by kernel_rfl
theorem tszD_30 : tszD Tryd.prog 30 = 1 := by kernel_rfl
theorem tbytes_30 : tbytes Tryd.prog 30 = some 0 := by kernel_rfl
theorem tzeroD_30 : tzeroD Tryd.prog 30 = .tuple #[.agg #[.int .i64 0, .int .i64 0, .int .i64 0, .int .i64 0, .int .i64 0], .int .i64 0] := by kernel_rfl
theorem tzero_30 : tzero Tryd.prog 30 = some (.tuple #[.agg #[.int .i64 0, .int .i64 0, .int .i64 0, .int .i64 0, .int .i64 0], .int .i64 0]) := by kernel_rfl
theorem tsz_34 : tsz Tryd.prog 34 = some 1 := by kernel_rfl
theorem aggB_34 : aggB Tryd.prog 34 = some false := by kernel_rfl
theorem tszD_34 : tszD Tryd.prog 34 = 1 := by kernel_rfl
theorem tbytes_34 : tbytes Tryd.prog 34 = some 24 := by kernel_rfl
theorem isSlice_34 : isSliceB Tryd.prog 34 = true := by kernel_rfl
theorem ssz_34 : sliceSz Tryd.prog 34 = 1 := by kernel_rfl
theorem selem_34 : sliceElem Tryd.prog 34 = 3 := by kernel_rfl
theorem tzeroD_34 : tzeroD Tryd.prog 34 = .slice none 0 0 := by kernel_rfl
theorem tzero_34 : tzero Tryd.prog 34 = some (.slice none 0 0) := by kernel_rfl
theorem tsz_43 : tsz Tryd.prog 43 = some 1 := by kernel_rfl
theorem aggB_43 : aggB Tryd.prog 43 = some false := by kernel_rfl
theorem tszD_43 : tszD Tryd.prog 43 = 1 := by kernel_rfl
theorem tbytes_43 : tbytes Tryd.prog 43 = some 8 := by kernel_rfl
theorem isInt_43 : isIntB Tryd.prog 43 = true := by kernel_rfl
theorem intK_43 : intKD Tryd.prog 43 = .u64 := by kernel_rfl
theorem tzeroD_43 : tzeroD Tryd.prog 43 = .int .u64 0 := by kernel_rfl
theorem tzero_43 : tzero Tryd.prog 43 = some (.int .u64 0) := by kernel_rfl
theorem tsz_46 : tsz Tryd.prog 46 = some 1 := by kernel_rfl
theorem aggB_46 : aggB Tryd.prog 46 = some false := by kernel_rfl
theorem tszD_46 : tszD Tryd.prog 46 = 1 := by kernel_rfl
theorem tbytes_46 : tbytes Tryd.prog 46 = some 0 := by kernel_rfl
theorem tzeroD_46 : tzeroD Tryd.prog 46 = .tuple #[.string ByteArray.empty, .string ByteArray.empty, .string ByteArray.empty] := by kernel_rfl
theorem tzero_46 : tzero Tryd.prog 46 = some (.tuple #[.string ByteArray.empty, .string ByteArray.empty, .string ByteArray.empty]) := by kernel_rfl
theorem tsz_48 : tsz Tryd.prog 48 = some 1 := by kernel_rfl
theorem aggB_48 : aggB Tryd.prog 48 = some false := by kernel_rfl
theorem tszD_48 : tszD Tryd.prog 48 = 1 := by kernel_rfl
theorem tbytes_48 : tbytes Tryd.prog 48 = some 8 := by kernel_rfl
theorem intMap_48 : intMapB Tryd.prog 48 = true := by kernel_rfl
theorem elemT_48 : elemT Tryd.prog 48 = 3 := by kernel_rfl
theorem tzeroD_48 : tzeroD Tryd.prog 48 = .map none := by kernel_rfl
theorem tzero_48 : tzero Tryd.prog 48 = some (.map none) := by kernel_rfl
theorem tsz_51 : tsz Tryd.prog 51 = some 1 := by kernel_rfl
theorem aggB_51 : aggB Tryd.prog 51 = some false := by kernel_rfl
theorem tszD_51 : tszD Tryd.prog 51 = 1 := by kernel_rfl
theorem tbytes_51 : tbytes Tryd.prog 51 = some 24 := by kernel_rfl
theorem isSlice_51 : isSliceB Tryd.prog 51 = true := by kernel_rfl
theorem ssz_51 : sliceSz Tryd.prog 51 = 1 := by kernel_rfl
theorem selem_51 : sliceElem Tryd.prog 51 = 9 := by kernel_rfl
theorem tzeroD_51 : tzeroD Tryd.prog 51 = .slice none 0 0 := by kernel_rfl
theorem tzero_51 : tzero Tryd.prog 51 = some (.slice none 0 0) := by kernel_rfl
theorem tsz_59 : tsz Tryd.prog 59 = some 256 := by kernel_rfl
theorem aggB_59 : aggB Tryd.prog 59 = some true := by kernel_rfl
theorem tszD_59 : tszD Tryd.prog 59 = 256 := by kernel_rfl
theorem tbytes_59 : tbytes Tryd.prog 59 = some 256 := by kernel_rfl
theorem isArr_59 : isArrB Tryd.prog 59 = true := by kernel_rfl
theorem arrLen_59 : arrLen Tryd.prog 59 = 256 := by kernel_rfl
theorem arrSz_59 : arrSz Tryd.prog 59 = 1 := by kernel_rfl
theorem tsz_60 : tsz Tryd.prog 60 = some 256 := by kernel_rfl
theorem aggB_60 : aggB Tryd.prog 60 = some true := by kernel_rfl
theorem tszD_60 : tszD Tryd.prog 60 = 256 := by kernel_rfl
theorem tbytes_60 : tbytes Tryd.prog 60 = some 256 := by kernel_rfl
theorem isArr_60 : isArrB Tryd.prog 60 = true := by kernel_rfl
theorem arrLen_60 : arrLen Tryd.prog 60 = 256 := by kernel_rfl
theorem arrSz_60 : arrSz Tryd.prog 60 = 1 := by kernel_rfl
theorem tsz_61 : tsz Tryd.prog 61 = some 1 := by kernel_rfl
theorem aggB_61 : aggB Tryd.prog 61 = some false := by kernel_rfl
theorem tszD_61 : tszD Tryd.prog 61 = 1 := by kernel_rfl
theorem tbytes_61 : tbytes Tryd.prog 61 = some 0 := by kernel_rfl
theorem tzeroD_61 : tzeroD Tryd.prog 61 = .tuple #[.agg #[.bool false, .bool false, .bool false, .bool false, .bool false, .bool false, .bool false, .bool false, .bool false, .bool false, .bool false, .bool false, .bool false, .bool false, .bool false, .bool false, .bool false, .bool false, .bool false, .bool false, .bool false, .bool false, .bool false, .bool false, .bool false, .bool false, .bool false, .bool false, .bool false, .bool false, .bool false, .bool false, .bool false, .bool false, .bool false, .bool false, .bool false, .bool false, .bool false, .bool false, .bool false, .bool false, .bool false, .bool false, .bool false, .bool false, .bool false, .bool false, .bool false, .bool false, .bool false, .bool false, .bool false, .bool false, .bool false, .bool false, .bool false, .bool false, .bool false, .bool false, .bool false, .bool false, .bool false, .bool false, .bool false, .bool false, .bool false, .bool false, .bool false, .bool false, .bool false, .bool false, .bool false, .bool false, .bool false, .bool false, .bool false, .bool false, .bool false, .bool false, .bool false, .bool false, .bool false, .bool false, .bool false, .bool false, .bool false, .bool false, .bool false, .bool false, .bool false, .bool false, .bool false, .bool false, .bool false, .bool false, .bool false, .bool false, .bool false, .bool false, .bool false, .bool false, .bool false, .bool false, .bool false, .bool false, .bool false, .bool false, .bool false, .bool false, .bool false, .bool false, .bool false, .bool false, .bool false, .bool false, .bool false, .bool false, .bool false, .bool false, .bool false, .bool false, .bool false, .bool false, .bool false, .bool false, .bool false, .bool false, .bool false, .bool false, .bool false, .bool false, .bool false, .bool false, .bool false, .bool false, .bool false, .bool false, .bool false, .bool false, .bool false, .bool false, .bool false, .bool false, .bool false, .bool false, .bool false, .bool false, .bool false, .bool false, .bool false, .bool false, .bool false, .bool false, .bool false, .bool false, .bool false, .bool false, .bool false, .bool false, .bool false, .bool false, .bool false, .bool false, .bool false, .bool false, .bool false, .bool false, .bool false, .bool false, .bool false, .bool false, .bool false, .bool false, .bool false, .bool false, .bool false, .bool false, .bool false, .bool false, .bool false, .bool false, .bool false, .bool false, .bool false, .bool false, .bool false, .bool false, .bool false, .bool false, .bool false, .bool false, .bool false, .bool false, .bool false, .bool false, .bool false, .bool false, .bool false, .bool false, .bool false, .bool false, .bool false, .bool false, .bool false, .bool false, .bool false, .bool false, .bool false, .bool false, .bool false, .bool false, .bool false, .bool false, .bool false, .bool false, .bool false, .bool false, .bool false, .bool false, .bool false, .bool false, .bool false, .bool false, .bool false, .bool false, .bool false, .bool false, .bool false, .bool false, .bool false, .bool false, .bool false, .bool false, .bool false, .bool false, .bool false, .bool false, .bool false, .bool false, .bool false, .bool false, .bool false, .bool false, .bool false, .bool false, .bool false, .bool false, .bool false, .bool false, .bool false, .bool false, .bool false, .bool false, .bool false, .bool false], .bool false] := by kernel_rfl
theorem tzero_61 : tzero Tryd.prog 61 = some (.tuple #[.agg #[.bool false, .bool false, .bool false, .bool false, .bool false, .bool false, .bool false, .bool false, .bool false, .bool false, .bool false, .bool false, .bool false, .bool false, .bool false, .bool false, .bool false, .bool false, .bool false, .bool false, .bool false, .bool false, .bool false, .bool false, .bool false, .bool false, .bool false, .bool false, .bool false, .bool false, .bool false, .bool false, .bool false, .bool false, .bool false, .bool false, .bool false, .bool false, .bool false, .bool false, .bool false, .bool false, .bool false, .bool false, .bool false, .bool false, .bool false, .bool false, .bool false, .bool false, .bool false, .bool false, .bool false, .bool false, .bool false, .bool false, .bool false, .bool false, .bool false, .bool false, .bool false, .bool false, .bool false, .bool false, .bool false, .bool false, .bool false, .bool false, .bool false, .bool false, .bool false, .bool false, .bool false, .bool false, .bool false, .bool false, .bool false, .bool false, .bool false, .bool false, .bool false, .bool false, .bool false, .bool false, .bool false, .bool false, .bool false, .bool false, .bool false, .bool false, .bool false, .bool false, .bool false, .bool false, .bool false, .bool false, .bool false, .bool false, .bool false, .bool false, .bool false, .bool false, .bool false, .bool false, .bool false, .bool false, .bool false, .bool false, .bool false, .bool false, .bool false, .bool false, .bool false, .bool false, .bool false, .bool false, .bool false, .bool false, .bool false, .bool false, .bool false, .bool false, .bool false, .bool false, .bool false, .bool false, .bool false, .bool false, .bool false, .bool false, .bool false, .bool false, .bool false, .bool false, .bool false, .bool false, .bool false, .bool false, .bool false, .bool false, .bool false, .bool false, .bool false, .bool false, .bool false, .bool false, .bool false, .bool false, .bool false, .bool false, .bool false, .bool false, .bool false, .bool false, .bool false, .bool false, .bool false, .bool false, .bool false, .bool false, .bool false, .bool false, .bool false, .bool false, .bool false, .bool false, .bool false, .bool false, .bool false, .bool false, .bool false, .bool false, .bool false, .bool false, .bool false, .bool false, .bool false, .bool false, .bool false, .bool false, .bool false, .bool false, .bool false, .bool false, .bool false, .bool false, .bool false, .bool false, .bool false, .bool false, .bool false, .bool false, .bool false, .bool false, .bool false, .bool false, .bool false, .bool false, .bool false, .bool false, .bool false, .bool false, .bool false, .bool false, .bool false, .bool false, .bool false, .bool false, .bool false, .bool false, .bool false, .bool false, .bool false, .bool false, .bool false, .bool false, .bool false, .bool false, .bool false, .bool false, .bool false, .bool false, .bool false, .bool false, .bool false, .bool false, .bool false, .bool false, .bool false, .bool false, .bool false, .bool false, .bool false, .bool false, .bool false, .bool false, .bool false, .bool false, .bool false, .bool false, .bool false, .bool false, .bool false, .bool false, .bool false, .bool false, .bool false, .bool false, .bool false, .bool false, .bool false, .bool false, .bool false, .bool false, .bool false, .bool false], .bool false]) := by kernel_rfl
theorem tsz_65 : tsz Tryd.prog 65 = some 1 := by kernel_rfl
theorem aggB_65 : aggB Tryd.prog 65 = some false := by kernel_rfl
theorem tszD_65 : tszD Tryd.prog 65 = 1 := by kernel_rfl
theorem tbytes_65 : tbytes Tryd.prog 65 = some 8 := by kernel_rfl
theorem isInt_65 : isIntB Tryd.prog 65 = true := by kernel_rfl
theorem intK_65 : intKD Tryd.prog 65 = .i64 := by kernel_rfl
theorem tzeroD_65 : tzeroD Tryd.prog 65 = .int .i64 0 := by kernel_rfl
theorem tzero_65 : tzero Tryd.prog 65 = some (.int .i64 0) := by kernel_rfl
theorem tsz_66 : tsz Tryd.prog 66 = some 1 := by kernel_rfl
theorem aggB_66 : aggB Tryd.prog 66 = some false := by kernel_rfl
theorem tszD_66 : tszD Tryd.prog 66 = 1 := by kernel_rfl
theorem tbytes_66 : tbytes Tryd.prog 66 = some 0 := by kernel_rfl
theorem tzeroD_66 : tzeroD Tryd.prog 66 = .tuple #[.int .i64 0, .int .i64 0] := by kernel_rfl
theorem tzero_66 : tzero Tryd.prog 66 = some (.tuple #[.int .i64 0, .int .i64 0]) := by kernel_rfl
theorem tsz_70 : tsz Tryd.prog 70 = some 1 := by kernel_rfl
theorem aggB_70 : aggB Tryd.prog 70 = some false := by kernel_rfl
theorem tszD_70 : tszD Tryd.prog 70 = 1 := by kernel_rfl
theorem tbytes_70 : tbytes Tryd.prog 70 = some 0 := by kernel_rfl
theorem tzeroD_70 : tzeroD Tryd.prog 70 = .tuple #[.int .i64 0, .bool false] := by kernel_rfl
theorem tzero_70 : tzero Tryd.prog 70 = some (.tuple #[.int .i64 0, .bool false]) := by kernel_rfl
theorem tsz_74 : tsz Tryd.prog 74 = some 1 := by kernel_rfl
theorem aggB_74 : aggB Tryd.prog 74 = some false := by kernel_rfl
theorem tszD_74 : tszD Tryd.prog 74 = 1 := by kernel_rfl
theorem tbytes_74 : tbytes Tryd.prog 74 = some 8 := by kernel_rfl
theorem isInt_74 : isIntB Tryd.prog 74 = true := by kernel_rfl
theorem intK_74 : intKD Tryd.prog 74 = .u64 := by kernel_rfl
theorem tzeroD_74 : tzeroD Tryd.prog 74 = .int .u64 0 := by kernel_rfl
theorem tzero_74 : tzero Tryd.prog 74 = some (.int .u64 0) := by kernel_rfl
theorem tsz_78 : tsz Tryd.prog 78 = some 1 := by kernel_rfl
theorem aggB_78 : aggB Tryd.prog 78 = some false := by kernel_rfl
theorem tszD_78 : tszD Tryd.prog 78 = 1 := by kernel_rfl
theorem tbytes_78 : tbytes Tryd.prog 78 = some 8 := by kernel_rfl
theorem isPtr_78 : isPtrB Tryd.prog 78 = true := by kernel_rfl
theorem tzeroD_78 : tzeroD Tryd.prog 78 = .pointer none := by kernel_rfl
theorem tzero_78 : tzero Tryd.prog 78 = some (.pointer none) := by kernel_rfl
theorem tsz_79 : tsz Tryd.prog 79 = some 1 := by kernel_rfl
theorem aggB_79 : aggB Tryd.prog 79 = some false := by kernel_rfl
theorem tszD_79 : tszD Tryd.prog 79 = 1 := by kernel_rfl
theorem tbytes_79 : tbytes Tryd.prog 79 = some 8 := by kernel_rfl
theorem isInt_79 : isIntB Tryd.prog 79 = true := by kernel_rfl
theorem intK_79 : intKD Tryd.prog 79 = .u64 := by kernel_rfl
theorem tzeroD_79 : tzeroD Tryd.prog 79 = .int .u64 0 := by kernel_rfl
theorem tzero_79 : tzero Tryd.prog 79 = some (.int .u64 0) := by kernel_rfl
theorem tsz_83 : tsz Tryd.prog 83 = some 1 := by kernel_rfl
theorem aggB_83 : aggB Tryd.prog 83 = some false := by kernel_rfl
theorem tszD_83 : tszD Tryd.prog 83 = 1 := by kernel_rfl
theorem tbytes_83 : tbytes Tryd.prog 83 = some 8 := by kernel_rfl
theorem isPtr_83 : isPtrB Tryd.prog 83 = true := by kernel_rfl
theorem tzeroD_83 : tzeroD Tryd.prog 83 = .pointer none := by kernel_rfl
theorem tzero_83 : tzero Tryd.prog 83 = some (.pointer none) := by kernel_rfl
theorem tsz_86 : tsz Tryd.prog 86 = some 1 := by kernel_rfl
theorem aggB_86 : aggB Tryd.prog 86 = some false := by kernel_rfl
theorem tszD_86 : tszD Tryd.prog 86 = 1 := by kernel_rfl
theorem tbytes_86 : tbytes Tryd.prog 86 = some 0 := by kernel_rfl
theorem tzeroD_86 : tzeroD Tryd.prog 86 = .tuple #[.int .i32 0, .int .i64 0] := by kernel_rfl
theorem tzero_86 : tzero Tryd.prog 86 = some (.tuple #[.int .i32 0, .int .i64 0]) := by kernel_rfl
theorem tsz_88 : tsz Tryd.prog 88 = some 1 := by kernel_rfl
theorem aggB_88 : aggB Tryd.prog 88 = some false := by kernel_rfl
theorem tszD_88 : tszD Tryd.prog 88 = 1 := by kernel_rfl
theorem tbytes_88 : tbytes Tryd.prog 88 = some 8 := by kernel_rfl
theorem isPtr_88 : isPtrB Tryd.prog 88 = true := by kernel_rfl
theorem tzeroD_88 : tzeroD Tryd.prog 88 = .pointer none := by kernel_rfl
theorem tzero_88 : tzero Tryd.prog 88 = some (.pointer none) := by kernel_rfl
theorem tsz_89 : tsz Tryd.prog 89 = some 1 := by kernel_rfl
theorem aggB_89 : aggB Tryd.prog 89 = some false := by kernel_rfl
theorem tszD_89 : tszD Tryd.prog 89 = 1 := by kernel_rfl
theorem tbytes_89 : tbytes Tryd.prog 89 = some 0 := by kernel_rfl
theorem tzeroD_89 : tzeroD Tryd.prog 89 = .tuple #[.int .i64 0, .int .i64 0] := by kernel_rfl
theorem tzero_89 : tzero Tryd.prog 89 = some (.tuple #[.int .i64 0, .int .i64 0]) := by kernel_rfl
theorem tsz_91 : tsz Tryd.prog 91 = some 256 := by kernel_rfl
theorem aggB_91 : aggB Tryd.prog 91 = some true := by kernel_rfl
theorem tszD_91 : tszD Tryd.prog 91 = 256 := by kernel_rfl
theorem tbytes_91 : tbytes Tryd.prog 91 = some 256 := by kernel_rfl
theorem isArr_91 : isArrB Tryd.prog 91 = true := by kernel_rfl
theorem arrLen_91 : arrLen Tryd.prog 91 = 256 := by kernel_rfl
theorem arrSz_91 : arrSz Tryd.prog 91 = 1 := by kernel_rfl
theorem tsz_92 : tsz Tryd.prog 92 = some 2 := by kernel_rfl
theorem aggB_92 : aggB Tryd.prog 92 = some true := by kernel_rfl
theorem tszD_92 : tszD Tryd.prog 92 = 2 := by kernel_rfl
theorem tbytes_92 : tbytes Tryd.prog 92 = some 2 := by kernel_rfl
theorem tzeroD_92 : tzeroD Tryd.prog 92 = .agg #[.int .u8 0, .int .u8 0] := by kernel_rfl
theorem tzero_92 : tzero Tryd.prog 92 = some (.agg #[.int .u8 0, .int .u8 0]) := by kernel_rfl
theorem tsz_93 : tsz Tryd.prog 93 = some 2 := by kernel_rfl
theorem aggB_93 : aggB Tryd.prog 93 = some true := by kernel_rfl
theorem tszD_93 : tszD Tryd.prog 93 = 2 := by kernel_rfl
theorem tbytes_93 : tbytes Tryd.prog 93 = some 2 := by kernel_rfl
theorem tzeroD_93 : tzeroD Tryd.prog 93 = .agg #[.int .u8 0, .int .u8 0] := by kernel_rfl
theorem tzero_93 : tzero Tryd.prog 93 = some (.agg #[.int .u8 0, .int .u8 0]) := by kernel_rfl
theorem tsz_94 : tsz Tryd.prog 94 = some 32 := by kernel_rfl
theorem aggB_94 : aggB Tryd.prog 94 = some true := by kernel_rfl
theorem tszD_94 : tszD Tryd.prog 94 = 32 := by kernel_rfl
theorem tbytes_94 : tbytes Tryd.prog 94 = some 32 := by kernel_rfl
theorem isArr_94 : isArrB Tryd.prog 94 = true := by kernel_rfl
theorem arrLen_94 : arrLen Tryd.prog 94 = 16 := by kernel_rfl
theorem arrSz_94 : arrSz Tryd.prog 94 = 2 := by kernel_rfl
theorem tzeroD_94 : tzeroD Tryd.prog 94 = .agg #[.int .u8 0, .int .u8 0, .int .u8 0, .int .u8 0, .int .u8 0, .int .u8 0, .int .u8 0, .int .u8 0, .int .u8 0, .int .u8 0, .int .u8 0, .int .u8 0, .int .u8 0, .int .u8 0, .int .u8 0, .int .u8 0, .int .u8 0, .int .u8 0, .int .u8 0, .int .u8 0, .int .u8 0, .int .u8 0, .int .u8 0, .int .u8 0, .int .u8 0, .int .u8 0, .int .u8 0, .int .u8 0, .int .u8 0, .int .u8 0, .int .u8 0, .int .u8 0] := by kernel_rfl
theorem tzero_94 : tzero Tryd.prog 94 = some (.agg #[.int .u8 0, .int .u8 0, .int .u8 0, .int .u8 0, .int .u8 0, .int .u8 0, .int .u8 0, .int .u8 0, .int .u8 0, .int .u8 0, .int .u8 0, .int .u8 0, .int .u8 0, .int .u8 0, .int .u8 0, .int .u8 0, .int .u8 0, .int .u8 0, .int .u8 0, .int .u8 0, .int .u8 0, .int .u8 0, .int .u8 0, .int .u8 0, .int .u8 0, .int .u8 0, .int .u8 0, .int .u8 0, .int .u8 0, .int .u8 0, .int .u8 0, .int .u8 0]) := by kernel_rfl
theorem tsz_95 : tsz Tryd.prog 95 = some 1 := by kernel_rfl
theorem aggB_95 : aggB Tryd.prog 95 = some false := by kernel_rfl
theorem tszD_95 : tszD Tryd.prog 95 = 1 := by kernel_rfl
theorem tbytes_95 : tbytes Tryd.prog 95 = some 0 := by kernel_rfl
theorem tzeroD_95 : tzeroD Tryd.prog 95 = .tuple #[.int .u32 0, .int .u32 0] := by kernel_rfl
theorem tzero_95 : tzero Tryd.prog 95 = some (.tuple #[.int .u32 0, .int .u32 0]) := by kernel_rfl
theorem fa_23_0 {b o : Nat} {h : Heap} : runD Tryd.prog (iFieldAt 23 (.pointer (some ⟨b, o, none⟩)) 0) h = some (.pointer (some ⟨b, o + 0, none⟩)) := by kernel_rfl
theorem fa_23_1 {b o : Nat} {h : Heap} : runD Tryd.prog (iFieldAt 23 (.pointer (some ⟨b, o, none⟩)) 1) h = some (.pointer (some ⟨b, o + 1, none⟩)) := by kernel_rfl
theorem fa_23_2 {b o : Nat} {h : Heap} : runD Tryd.prog (iFieldAt 23 (.pointer (some ⟨b, o, none⟩)) 2) h = some (.pointer (some ⟨b, o + 2, none⟩)) := by kernel_rfl
theorem fa_23_3 {b o : Nat} {h : Heap} : runD Tryd.prog (iFieldAt 23 (.pointer (some ⟨b, o, none⟩)) 3) h = some (.pointer (some ⟨b, o + 3, none⟩)) := by kernel_rfl
theorem fa_23_4 {b o : Nat} {h : Heap} : runD Tryd.prog (iFieldAt 23 (.pointer (some ⟨b, o, none⟩)) 4) h = some (.pointer (some ⟨b, o + 4, none⟩)) := by kernel_rfl
theorem fa_93_0 {b o : Nat} {h : Heap} : runD Tryd.prog (iFieldAt 93 (.pointer (some ⟨b, o, none⟩)) 0) h = some (.pointer (some ⟨b, o + 0, none⟩)) := by kernel_rfl
theorem fa_93_1 {b o : Nat} {h : Heap} : runD Tryd.prog (iFieldAt 93 (.pointer (some ⟨b, o, none⟩)) 1) h = some (.pointer (some ⟨b, o + 1, none⟩)) := by kernel_rfl
theorem bd_23_  {h : Heap} : runD Tryd.prog (iBuild 23 #[]) h = some (.agg #[.int .i64 0, .int .i64 0, .int .i64 0, .int .i64 0, .int .i64 0]) := by kernel_rfl
theorem bd_23_0 (x0 : Int) {h : Heap} : runD Tryd.prog (iBuild 23 #[(0, .int .i64 x0)]) h = some (.agg #[.int .i64 x0, .int .i64 0, .int .i64 0, .int .i64 0, .int .i64 0]) := by kernel_rfl
theorem bd_23_0_1_2 (x0 : Int) (x1 : Int) (x2 : Int) {h : Heap} : runD Tryd.prog (iBuild 23 #[(0, .int .i64 x0), (1, .int .i64 x1), (2, .int .i64 x2)]) h = some (.agg #[.int .i64 x0, .int .i64 x1, .int .i64 x2, .int .i64 0, .int .i64 0]) := by kernel_rfl
theorem bd_23_0_1_2_3 (x0 : Int) (x1 : Int) (x2 : Int) (x3 : Int) {h : Heap} : runD Tryd.prog (iBuild 23 #[(0, .int .i64 x0), (1, .int .i64 x1), (2, .int .i64 x2), (3, .int .i64 x3)]) h = some (.agg #[.int .i64 x0, .int .i64 x1, .int .i64 x2, .int .i64 x3, .int .i64 0]) := by kernel_rfl
theorem bd_23_0_1_2_4 (x0 : Int) (x1 : Int) (x2 : Int) (x3 : Int) {h : Heap} : runD Tryd.prog (iBuild 23 #[(0, .int .i64 x0), (1, .int .i64 x1), (2, .int .i64 x2), (4, .int .i64 x3)]) h = some (.agg #[.int .i64 x0, .int .i64 x1, .int .i64 x2, .int .i64 0, .int .i64 x3]) := by kernel_rfl
theorem bd_23_0_1_4 (x0 : Int) (x1 : Int) (x2 : Int) {h : Heap} : runD Tryd.prog (iBuild 23 #[(0, .int .i64 x0), (1, .int .i64 x1), (4, .int .i64 x2)]) h = some (.agg #[.int .i64 x0, .int .i64 x1, .int .i64 0, .int .i64 0, .int .i64 x2]) := by kernel_rfl
theorem bd_93_0_1 (x0 : Int) (x1 : Int) {h : Heap} : runD Tryd.prog (iBuild 93 #[(0, .int .u8 x0), (1, .int .u8 x1)]) h = some (.agg #[.int .u8 x0, .int .u8 x1]) := by kernel_rfl
theorem flatOk_23 : flatOk Tryd.prog 23 [.int .i64, .int .i64, .int .i64, .int .i64, .int .i64] = true := by kernel_rfl
theorem eqls_23 {h : Heap} {x y : Operand} {xs ys : List Value} (h1 : fitL [.int .i64, .int .i64, .int .i64, .int .i64, .int .i64] xs) (h2 : fitL [.int .i64, .int .i64, .int .i64, .int .i64, .int .i64] ys) : binD Tryd.prog h .eql 23 x y (.agg xs.toArray) (.agg ys.toArray) = some (.bool (eqL xs ys)) := binD_eql_flat flatOk_23 h1 h2
theorem neqs_23 {h : Heap} {x y : Operand} {xs ys : List Value} (h1 : fitL [.int .i64, .int .i64, .int .i64, .int .i64, .int .i64] xs) (h2 : fitL [.int .i64, .int .i64, .int .i64, .int .i64, .int .i64] ys) : binD Tryd.prog h .neq 23 x y (.agg xs.toArray) (.agg ys.toArray) = some (.bool (!eqL xs ys)) := binD_neq_flat flatOk_23 h1 h2
theorem okFn_8 : okFn Tryd.prog 8 = true := by kernel_rfl
theorem okFn_9 : okFn Tryd.prog 9 = true := by kernel_rfl
theorem okFn_10 : okFn Tryd.prog 10 = true := by kernel_rfl
theorem okFn_11 : okFn Tryd.prog 11 = true := by kernel_rfl
theorem okFn_12 : okFn Tryd.prog 12 = true := by kernel_rfl
theorem okFn_13 : okFn Tryd.prog 13 = true := by kernel_rfl
theorem okFn_14 : okFn Tryd.prog 14 = true := by kernel_rfl
theorem okFn_15 : okFn Tryd.prog 15 = true := by kernel_rfl
theorem okFn_16 : okFn Tryd.prog 16 = true := by kernel_rfl
theorem okFn_17 : okFn Tryd.prog 17 = true := by kernel_rfl
theorem okFn_18 : okFn Tryd.prog 18 = true := by kernel_rfl
theorem okFn_19 : okFn Tryd.prog 19 = true := by kernel_rfl
theorem okFn_20 : okFn Tryd.prog 20 = true := by kernel_rfl
theorem okFn_21 : okFn Tryd.prog 21 = true := by kernel_rfl
theorem okFn_22 : okFn Tryd.prog 22 = true := by kernel_rfl
theorem okFn_23 : okFn Tryd.prog 23 = true := by kernel_rfl
theorem okFn_24 : okFn Tryd.prog 24 = true := by kernel_rfl
theorem okFn_25 : okFn Tryd.prog 25 = true := by kernel_rfl
theorem okFn_26 : okFn Tryd.prog 26 = true := by kernel_rfl
theorem okFn_27 : okFn Tryd.prog 27 = true := by kernel_rfl
theorem okFn_28 : okFn Tryd.prog 28 = true := by kernel_rfl
theorem okFn_29 : okFn Tryd.prog 29 = true := by kernel_rfl
theorem okFn_30 : okFn Tryd.prog 30 = true := by kernel_rfl
theorem okFn_31 : okFn Tryd.prog 31 = true := by kernel_rfl
theorem okFn_32 : okFn Tryd.prog 32 = true := by kernel_rfl
theorem okFn_33 : okFn Tryd.prog 33 = true := by kernel_rfl
theorem okFn_35 : okFn Tryd.prog 35 = true := by kernel_rfl
theorem okFn_36 : okFn Tryd.prog 36 = true := by kernel_rfl
theorem okFn_37 : okFn Tryd.prog 37 = true := by kernel_rfl
theorem okFn_38 : okFn Tryd.prog 38 = true := by kernel_rfl
theorem okFn_39 : okFn Tryd.prog 39 = true := by kernel_rfl
theorem okFn_40 : okFn Tryd.prog 40 = true := by kernel_rfl
theorem okFn_41 : okFn Tryd.prog 41 = true := by kernel_rfl
theorem okFn_42 : okFn Tryd.prog 42 = true := by kernel_rfl
theorem okFn_43 : okFn Tryd.prog 43 = true := by kernel_rfl
theorem okFn_44 : okFn Tryd.prog 44 = true := by kernel_rfl
theorem okFn_45 : okFn Tryd.prog 45 = true := by kernel_rfl
theorem okFn_46 : okFn Tryd.prog 46 = true := by kernel_rfl
theorem okFn_47 : okFn Tryd.prog 47 = true := by kernel_rfl
theorem okFn_48 : okFn Tryd.prog 48 = true := by kernel_rfl
theorem okFn_49 : okFn Tryd.prog 49 = true := by kernel_rfl
theorem okFn_50 : okFn Tryd.prog 50 = true := by kernel_rfl
theorem okFn_51 : okFn Tryd.prog 51 = true := by kernel_rfl
theorem okFn_52 : okFn Tryd.prog 52 = true := by kernel_rfl
theorem okFn_53 : okFn Tryd.prog 53 = true := by kernel_rfl
theorem okFn_54 : okFn Tryd.prog 54 = true := by kernel_rfl
theorem okFn_55 : okFn Tryd.prog 55 = true := by kernel_rfl
theorem okFn_57 : okFn Tryd.prog 57 = true := by kernel_rfl
theorem okFn_58 : okFn Tryd.prog 58 = true := by kernel_rfl
theorem okFn_59 : okFn Tryd.prog 59 = true := by kernel_rfl
theorem okFn_60 : okFn Tryd.prog 60 = true := by kernel_rfl
theorem okFn_61 : okFn Tryd.prog 61 = true := by kernel_rfl
theorem okFn_62 : okFn Tryd.prog 62 = true := by kernel_rfl
theorem okFn_63 : okFn Tryd.prog 63 = true := by kernel_rfl
theorem okFn_64 : okFn Tryd.prog 64 = true := by kernel_rfl
theorem okFn_66 : okFn Tryd.prog 66 = true := by kernel_rfl
theorem okFn_67 : okFn Tryd.prog 67 = true := by kernel_rfl
theorem okFn_68 : okFn Tryd.prog 68 = true := by kernel_rfl
theorem okFn_69 : okFn Tryd.prog 69 = true := by kernel_rfl
theorem okFn_70 : okFn Tryd.prog 70 = true := by kernel_rfl
attribute [go_sem ↓] fa_23_0 fa_23_1 fa_23_2 fa_23_3 fa_23_4 fa_93_0 fa_93_1 bd_23_ bd_23_0 bd_23_0_1_2 bd_23_0_1_2_3 bd_23_0_1_2_4 bd_23_0_1_4 bd_93_0_1
attribute [go_sem] tsz_0 aggB_0 tszD_0 tbytes_0 tzeroD_0 tzero_0 tsz_3 aggB_3 tszD_3 tbytes_3 isInt_3 intK_3 tzeroD_3 tzero_3 tsz_4 aggB_4 tszD_4 tbytes_4 tzeroD_4 tzero_4
attribute [go_sem] tsz_5 aggB_5 tszD_5 tbytes_5 isInt_5 intK_5 tzeroD_5 tzero_5 tsz_9 aggB_9 tszD_9 tbytes_9 isStr_9 tzeroD_9 tzero_9 tsz_21 aggB_21 tszD_21 tbytes_21 isInt_21
attribute [go_sem] intK_21 tzeroD_21 tzero_21 tsz_22 aggB_22 tszD_22 tbytes_22 tzeroD_22 tzero_22 tsz_23 aggB_23 tszD_23 tbytes_23 tzeroD_23 tzero_23 tsz_24 aggB_24 tszD_24 tbytes_24 isInt_24
attribute [go_sem] intK_24 tzeroD_24 tzero_24 tsz_27 aggB_27 tszD_27 tbytes_27 isInt_27 intK_27 tzeroD_27 tzero_27 tsz_28 aggB_28 tszD_28 tbytes_28 tzeroD_28 tzero_28 tsz_30 aggB_30 tszD_30
attribute [go_sem] tbytes_30 tzeroD_30 tzero_30 tsz_34 aggB_34 tszD_34 tbytes_34 isSlice_34 ssz_34 selem_34 tzeroD_34 tzero_34 tsz_43 aggB_43 tszD_43 tbytes_43 isInt_43 intK_43 tzeroD_43 tzero_43
attribute [go_sem] tsz_46 aggB_46 tszD_46 tbytes_46 tzeroD_46 tzero_46 tsz_48 aggB_48 tszD_48 tbytes_48 intMap_48 elemT_48 tzeroD_48 tzero_48 tsz_51 aggB_51 tszD_51 tbytes_51 isSlice_51 ssz_51
attribute [go_sem] selem_51 tzeroD_51 tzero_51 tsz_59 aggB_59 tszD_59 tbytes_59 isArr_59 arrLen_59 arrSz_59 tsz_60 aggB_60 tszD_60 tbytes_60 isArr_60 arrLen_60 arrSz_60 tsz_61 aggB_61 tszD_61
attribute [go_sem] tbytes_61 tzeroD_61 tzero_61 tsz_65 aggB_65 tszD_65 tbytes_65 isInt_65 intK_65 tzeroD_65 tzero_65 tsz_66 aggB_66 tszD_66 tbytes_66 tzeroD_66 tzero_66 tsz_70 aggB_70 tszD_70
attribute [go_sem] tbytes_70 tzeroD_70 tzero_70 tsz_74 aggB_74 tszD_74 tbytes_74 isInt_74 intK_74 tzeroD_74 tzero_74 tsz_78 aggB_78 tszD_78 tbytes_78 isPtr_78 tzeroD_78 tzero_78 tsz_79 aggB_79
attribute [go_sem] tszD_79 tbytes_79 isInt_79 intK_79 tzeroD_79 tzero_79 tsz_83 aggB_83 tszD_83 tbytes_83 isPtr_83 tzeroD_83 tzero_83 tsz_86 aggB_86 tszD_86 tbytes_86 tzeroD_86 tzero_86 tsz_88
attribute [go_sem] aggB_88 tszD_88 tbytes_88 isPtr_88 tzeroD_88 tzero_88 tsz_89 aggB_89 tszD_89 tbytes_89 tzeroD_89 tzero_89 tsz_91 aggB_91 tszD_91 tbytes_91 isArr_91 arrLen_91 arrSz_91 tsz_92
attribute [go_sem] aggB_92 tszD_92 tbytes_92 tzeroD_92 tzero_92 tsz_93 aggB_93 tszD_93 tbytes_93 tzeroD_93 tzero_93 tsz_94 aggB_94 tszD_94 tbytes_94 isArr_94 arrLen_94 arrSz_94 tzeroD_94 tzero_94
attribute [go_sem] tsz_95 aggB_95 tszD_95 tbytes_95 tzeroD_95 tzero_95 eqls_23 neqs_23 okFn_8 okFn_9 okFn_10 okFn_11 okFn_12 okFn_13 okFn_14 okFn_15 okFn_16 okFn_17 okFn_18 okFn_19
attribute [go_sem] okFn_20 okFn_21 okFn_22 okFn_23 okFn_24 okFn_25 okFn_26 okFn_27 okFn_28 okFn_29 okFn_30 okFn_31 okFn_32 okFn_33 okFn_35 okFn_36 okFn_37 okFn_38 okFn_39 okFn_40
attribute [go_sem] okFn_41 okFn_42 okFn_43 okFn_44 okFn_45 okFn_46 okFn_47 okFn_48 okFn_49 okFn_50 okFn_51 okFn_52 okFn_53 okFn_54 okFn_55 okFn_57 okFn_58 okFn_59 okFn_60 okFn_61
attribute [go_sem] okFn_62 okFn_63 okFn_64 okFn_66 okFn_67 okFn_68 okFn_69 okFn_70 Tryd.underlying0 Tryd.underlying3 Tryd.underlying4 Tryd.underlying5 Tryd.underlying9 Tryd.underlying21 Tryd.underlying22 Tryd.underlying23 Tryd.underlying24 Tryd.underlying27 Tryd.underlying28 Tryd.underlying30
attribute [go_sem] Tryd.underlying34 Tryd.underlying43 Tryd.underlying46 Tryd.underlying48 Tryd.underlying51 Tryd.underlying59 Tryd.underlying60 Tryd.underlying61 Tryd.underlying65 Tryd.underlying66 Tryd.underlying70 Tryd.underlying74 Tryd.underlying78 Tryd.underlying79 Tryd.underlying83 Tryd.underlying86 Tryd.underlying88 Tryd.underlying89 Tryd.underlying91 Tryd.underlying92
attribute [go_sem] Tryd.underlying93 Tryd.underlying94 Tryd.underlying95
def T2 : Tab := ⟨[(0, [])], [], []⟩
theorem T2_sch : T2.sch = [] := (rfl)
theorem T2_reg : T2.reg = [(0, [])] := (rfl)
theorem T2_loops : T2.loops = [] := (rfl)
def T3 : Tab := ⟨[(0, [1, 2, 3]), (1, [1, 2, 3, 7]), (2, [1, 2, 3, 7, 8]), (3, [1, 2, 3, 7, 8, 9]), (4, [1, 2, 3, 7, 8, 9, 10, 11]), (5, [1, 2, 7, 8, 9, 10, 11, 12, 13]), (6, [1, 2, 7, 8, 9, 10, 11, 12, 13, 14, 15]), (7, [2, 7, 8, 9, 10, 11, 12, 13, 14, 15, 16, 17]), (8, [2, 7, 8, 9, 10, 11, 12, 13, 14, 15, 16, 17, 18]), (9, [7, 8, 9, 10, 11, 12, 13, 14, 15, 16, 17, 18, 19]), (10, [6])], [], []⟩
theorem T3_sch : T3.sch = [] := (rfl)
theorem T3_reg : T3.reg = [(0, [1, 2, 3]), (1, [1, 2, 3, 7]), (2, [1, 2, 3, 7, 8]), (3, [1, 2, 3, 7, 8, 9]), (4, [1, 2, 3, 7, 8, 9, 10, 11]), (5, [1, 2, 7, 8, 9, 10, 11, 12, 13]), (6, [1, 2, 7, 8, 9, 10, 11, 12, 13, 14, 15]), (7, [2, 7, 8, 9, 10, 11, 12, 13, 14, 15, 16, 17]), (8, [2, 7, 8, 9, 10, 11, 12, 13, 14, 15, 16, 17, 18]), (9, [7, 8, 9, 10, 11, 12, 13, 14, 15, 16, 17, 18, 19]), (10, [6])] := (rfl)
theorem T3_loops : T3.loops = [] := (rfl)
def T4 : Tab := ⟨[(0, [1]), (1, [1, 3]), (2, [1, 3, 4]), (3, [1, 3, 4, 5]), (4, [1, 3, 4, 5, 6]), (5, [1, 3, 4, 5, 6, 7]), (6, [1, 3, 4, 5, 6, 7, 8]), (7, [1, 3, 4, 5, 6, 7, 8, 9]), (8, [1, 3, 4, 5, 6, 7, 8, 9, 27]), (9, [1, 3, 4, 5, 6, 7, 8, 9]), (10, [1, 3, 4, 5, 6, 7, 8, 9]), (11, [3, 5, 6, 7, 8, 10]), (12, [3, 6, 7, 8, 11]), (13, [2])], [(0, [1, 3, 4, 5, 6, 7, 8, 9])], []⟩
theorem T4_sch : T4.sch = [] := (rfl)
theorem T4_reg : T4.reg = [(0, [1]), (1, [1, 3]), (2, [1, 3, 4]), (3, [1, 3, 4, 5]), (4, [1, 3, 4, 5, 6]), (5, [1, 3, 4, 5, 6, 7]), (6, [1, 3, 4, 5, 6, 7, 8]), (7, [1, 3, 4, 5, 6, 7, 8, 9]), (8, [1, 3, 4, 5, 6, 7, 8, 9, 27]), (9, [1, 3, 4, 5, 6, 7, 8, 9]), (10, [1, 3, 4, 5, 6, 7, 8, 9]), (11, [3, 5, 6, 7, 8, 10]), (12, [3, 6, 7, 8, 11]), (13, [2])] := (rfl)
theorem T4_loops : T4.loops = [(0, [1, 3, 4, 5, 6, 7, 8, 9])] := (rfl)
def T5 : Tab := ⟨[(0, [2, 3]), (1, [2, 3, 5]), (2, [2, 3, 5, 6, 7]), (3, [2, 3, 5, 6, 7, 8, 9]), (4, [2, 3, 5, 6, 7, 8, 9, 10]), (5, [2, 3, 5, 6, 7, 8, 9, 29]), (6, [4]), (7, [2, 3, 5, 6, 8, 9, 31]), (8, [4]), (9, [2, 3, 5, 6, 8, 9, 11, 12]), (10, [4])], [], []⟩
theorem T5_sch : T5.sch = [] := (rfl)
theorem T5_reg : T5.reg = [(0, [2, 3]), (1, [2, 3, 5]), (2, [2, 3, 5, 6, 7]), (3, [2, 3, 5, 6, 7, 8, 9]), (4, [2, 3, 5, 6, 7, 8, 9, 10]), (5, [2, 3, 5, 6, 7, 8, 9, 29]), (6, [4]), (7, [2, 3, 5, 6, 8, 9, 31]), (8, [4]), (9, [2, 3, 5, 6, 8, 9, 11, 12]), (10, [4])] := (rfl)
theorem T5_loops : T5.loops = [] := (rfl)
def T6 : Tab := ⟨[(0, [0]), (1, [0, 3]), (2, [0, 3, 4, 5]), (3, [0, 3, 4, 5, 18]), (4, [2]), (5, [0, 3, 4, 6, 7]), (6, [0, 3, 4, 6, 7, 8]), (7, [0, 3, 6, 7, 8, 9]), (8, [0, 3, 6, 7, 8, 9, 10]), (9, [0, 3, 6, 7, 8, 9, 10, 41]), (10, [0, 3, 6, 7, 8, 9, 10]), (11, [0, 3, 6, 7, 8, 9, 10, 71]), (12, [2]), (13, [2])], [(0, [0, 3, 6, 7, 8, 9, 10])], []⟩
theorem T6_sch : T6.sch = [] := (rfl)
theorem T6_reg : T6.reg = [(0, [0]), (1, [0, 3]), (2, [0, 3, 4, 5]), (3, [0, 3, 4, 5, 18]), (4, [2]), (5, [0, 3, 4, 6, 7]), (6, [0, 3, 4, 6, 7, 8]), (7, [0, 3, 6, 7, 8, 9]), (8, [0, 3, 6, 7, 8, 9, 10]), (9, [0, 3, 6, 7, 8, 9, 10, 41]), (10, [0, 3, 6, 7, 8, 9, 10]), (11, [0, 3, 6, 7, 8, 9, 10, 71]), (12, [2]), (13, [2])] := (rfl)
theorem T6_loops : T6.loops = [(0, [0, 3, 6, 7, 8, 9, 10])] := (rfl)
def T7 : Tab := ⟨[(0, [1, 2, 3]), (1, [1, 2, 3, 7]), (2, [1, 2, 3, 7, 8]), (3, [1, 2, 3, 7, 20]), (4, [6]), (5, [1, 2, 3, 7, 9]), (6, [1, 2, 3, 7, 9, 10]), (7, [1, 2, 3, 7, 9, 10, 11]), (8, [1, 2, 3, 7, 9, 10, 11, 12]), (9, [1, 2, 7, 9, 10, 11, 12, 13]), (10, [2, 7, 9, 10, 11, 12, 13, 26]), (11, [2, 7, 9, 10, 11, 13]), (12, [2, 7, 9, 10, 11, 12, 13]), (13, [2, 7, 9, 10, 11, 12, 13]), (14, [2, 7, 9, 10, 11, 12, 13, 26, 29]), (15, [2, 7, 9, 10, 11, 12, 13]), (16, [2, 7, 9, 10, 12, 13, 26, 33]), (17, [2, 7, 9, 10, 11, 12, 13]), (18, [2, 7, 9, 10, 11, 12, 13]), (19, [2, 7, 9, 10, 12, 13, 37]), (20, [2, 7, 9, 10, 11, 12, 13]), (21, [2, 7, 9, 10, 11, 12, 13]), (22, [2, 7, 9, 10, 11, 12, 13, 14]), (23, [2, 7, 9, 10, 11, 12, 13, 14, 44]), (24, [2, 7, 9, 10, 11, 12, 13, 14]), (25, [2, 7, 9, 10, 11, 12, 13, 14]), (26, [2, 7, 10, 12, 15]), (27, [6])], [(1, [2, 7, 9, 10, 11, 12, 13, 14])], []⟩
theorem T7_sch : T7.sch = [] := (rfl)
theorem T7_reg : T7.reg = [(0, [1, 2, 3]), (1, [1, 2, 3, 7]), (2, [1, 2, 3, 7, 8]), (3, [1, 2, 3, 7, 20]), (4, [6]), (5, [1, 2, 3, 7, 9]), (6, [1, 2, 3, 7, 9, 10]), (7, [1, 2, 3, 7, 9, 10, 11]), (8, [1, 2, 3, 7, 9, 10, 11, 12]), (9, [1, 2, 7, 9, 10, 11, 12, 13]), (10, [2, 7, 9, 10, 11, 12, 13, 26]), (11, [2, 7, 9, 10, 11, 13]), (12, [2, 7, 9, 10, 11, 12, 13]), (13, [2, 7, 9, 10, 11, 12, 13]), (14, [2, 7, 9, 10, 11, 12, 13, 26, 29]), (15, [2, 7, 9, 10, 11, 12, 13]), (16, [2, 7, 9, 10, 12, 13, 26, 33]), (17, [2, 7, 9, 10, 11, 12, 13]), (18, [2, 7, 9, 10, 11, 12, 13]), (19, [2, 7, 9, 10, 12, 13, 37]), (20, [2, 7, 9, 10, 11, 12, 13]), (21, [2, 7, 9, 10, 11, 12, 13]), (22, [2, 7, 9, 10, 11, 12, 13, 14]), (23, [2, 7, 9, 10, 11, 12, 13, 14, 44]), (24, [2, 7, 9, 10, 11, 12, 13, 14]), (25, [2, 7, 9, 10, 11, 12, 13, 14]), (26, [2, 7, 10, 12, 15]), (27, [6])] := (rfl)
theorem T7_loops : T7.loops = [(1, [2, 7, 9, 10, 11, 12, 13, 14])] := (rfl)
def T8 : Tab := ⟨[(0, []), (1, [1, 2]), (2, [1, 2, 4]), (3, [1, 2, 4, 6]), (4, [1, 2, 4, 6, 7, 8]), (5, [1, 2, 4, 6, 7, 8, 9]), (6, [1, 2, 4, 6, 7, 8, 9, 10]), (7, [1, 2, 4, 6, 7, 8, 9, 10, 11]), (8, [0])], [], []⟩
theorem T8_sch : T8.sch = [] := (rfl)
theorem T8_reg : T8.reg = [(0, []), (1, [1, 2]), (2, [1, 2, 4]), (3, [1, 2, 4, 6]), (4, [1, 2, 4, 6, 7, 8]), (5, [1, 2, 4, 6, 7, 8, 9]), (6, [1, 2, 4, 6, 7, 8, 9, 10]), (7, [1, 2, 4, 6, 7, 8, 9, 10, 11]), (8, [0])] := (rfl)
theorem T8_loops : T8.loops = [] := (rfl)
def T9 : Tab := ⟨[(0, [1]), (1, [1, 3]), (2, [1, 3]), (3, [1, 3, 4]), (4, [1, 3, 4, 16]), (5, [1, 3, 4, 16, 17, 18]), (6, [1, 3, 4, 6, 16]), (7, [1, 3, 4, 16, 20]), (8, [1, 3, 4, 16, 20, 21]), (9, [1, 3, 4, 16]), (10, [1, 3, 4, 16, 20, 30]), (11, [1, 3, 4, 16]), (12, [1, 3, 4, 16, 20, 39]), (13, [1, 3, 4, 16]), (14, [1, 3, 4, 16, 48]), (15, [1, 3, 4, 16]), (16, [2])], [(0, [1, 3, 4, 16])], []⟩
theorem T9_sch : T9.sch = [] := (rfl)
theorem T9_reg : T9.reg = [(0, [1]), (1, [1, 3]), (2, [1, 3]), (3, [1, 3, 4]), (4, [1, 3, 4, 16]), (5, [1, 3, 4, 16, 17, 18]), (6, [1, 3, 4, 6, 16]), (7, [1, 3, 4, 16, 20]), (8, [1, 3, 4, 16, 20, 21]), (9, [1, 3, 4, 16]), (10, [1, 3, 4, 16, 20, 30]), (11, [1, 3, 4, 16]), (12, [1, 3, 4, 16, 20, 39]), (13, [1, 3, 4, 16]), (14, [1, 3, 4, 16, 48]), (15, [1, 3, 4, 16]), (16, [2])] := (rfl)
theorem T9_loops : T9.loops = [(0, [1, 3, 4, 16])] := (rfl)
def T10 : Tab := ⟨[(0, [1]), (1, [1, 3]), (2, [1, 3, 4]), (3, [1, 3, 4, 5]), (4, [1, 3, 4, 5, 6]), (5, [3, 4, 5, 6, 7]), (6, [2])], [], []⟩
theorem T10_sch : T10.sch = [] := (rfl)
theorem T10_reg : T10.reg = [(0, [1]), (1, [1, 3]), (2, [1, 3, 4]), (3, [1, 3, 4, 5]), (4, [1, 3, 4, 5, 6]), (5, [3, 4, 5, 6, 7]), (6, [2])] := (rfl)
theorem T10_loops : T10.loops = [] := (rfl)
def T11 : Tab := ⟨[(0, [1]), (1, [1, 6]), (2, [2, 3]), (3, [2, 3])], [], []⟩
theorem T11_sch : T11.sch = [] := (rfl)
theorem T11_reg : T11.reg = [(0, [1]), (1, [1, 6]), (2, [2, 3]), (3, [2, 3])] := (rfl)
theorem T11_loops : T11.loops = [] := (rfl)
def T12 : Tab := ⟨[(0, [1]), (1, [1, 4]), (2, [1, 8]), (3, [2, 3]), (4, [2, 3])], [], []⟩
theorem T12_sch : T12.sch = [] := (rfl)
theorem T12_reg : T12.reg = [(0, [1]), (1, [1, 4]), (2, [1, 8]), (3, [2, 3]), (4, [2, 3])] := (rfl)
theorem T12_loops : T12.loops = [] := (rfl)
def T13 : Tab := ⟨[(0, [0, 2]), (1, [0, 2, 4]), (2, [0, 2, 4, 21]), (3, [2, 4]), (4, [2, 4]), (5, [2, 4, 32]), (6, [2, 3]), (7, [2, 3])], [], []⟩
theorem T13_sch : T13.sch = [] := (rfl)
theorem T13_reg : T13.reg = [(0, [0, 2]), (1, [0, 2, 4]), (2, [0, 2, 4, 21]), (3, [2, 4]), (4, [2, 4]), (5, [2, 4, 32]), (6, [2, 3]), (7, [2, 3])] := (rfl)
theorem T13_loops : T13.loops = [] := (rfl)
def T14 : Tab := ⟨[(0, [0, 2]), (1, [0, 2, 4]), (2, [0, 2, 4, 5]), (3, [0, 2, 4, 5, 6]), (4, [0, 2, 4, 5, 7]), (5, [0, 2, 4, 5, 26]), (6, [0, 2, 5]), (7, [0, 2, 5]), (8, [0, 2, 5, 8, 9]), (9, [2, 5, 44]), (10, [2, 3]), (11, [2, 3])], [], []⟩
theorem T14_sch : T14.sch = [] := (rfl)
theorem T14_reg : T14.reg = [(0, [0, 2]), (1, [0, 2, 4]), (2, [0, 2, 4, 5]), (3, [0, 2, 4, 5, 6]), (4, [0, 2, 4, 5, 7]), (5, [0, 2, 4, 5, 26]), (6, [0, 2, 5]), (7, [0, 2, 5]), (8, [0, 2, 5, 8, 9]), (9, [2, 5, 44]), (10, [2, 3]), (11, [2, 3])] := (rfl)
theorem T14_loops : T14.loops = [] := (rfl)
def T15 : Tab := ⟨[(0, [0]), (1, [3]), (2, [2])], [], []⟩
theorem T15_sch : T15.sch = [] := (rfl)
theorem T15_reg : T15.reg = [(0, [0]), (1, [3]), (2, [2])] := (rfl)
theorem T15_loops : T15.loops = [] := (rfl)
def T16 : Tab := ⟨[(0, [0]), (1, [3]), (2, [3, 4]), (3, [3, 4]), (4, [3, 4]), (5, [2]), (6, [3, 8]), (7, [3, 8]), (8, [3, 8]), (9, [3, 8]), (10, [3, 8]), (11, [2]), (12, [3, 14]), (13, [3, 14]), (14, [3, 14]), (15, [3, 14]), (16, [3, 14]), (17, [3, 14]), (18, [3, 14]), (19, [2]), (20, [3, 22]), (21, [3, 22]), (22, [3, 22]), (23, [2]), (24, [3, 26]), (25, [3, 26]), (26, [2]), (27, [3, 29]), (28, [2]), (29, [3, 31]), (30, [2]), (31, [3, 33]), (32, [3, 33]), (33, [33]), (34, [2]), (35, [2])], [], []⟩
theorem T16_sch : T16.sch = [] := (rfl)
theorem T16_reg : T16.reg = [(0, [0]), (1, [3]), (2, [3, 4]), (3, [3, 4]), (4, [3, 4]), (5, [2]), (6, [3, 8]), (7, [3, 8]), (8, [3, 8]), (9, [3, 8]), (10, [3, 8]), (11, [2]), (12, [3, 14]), (13, [3, 14]), (14, [3, 14]), (15, [3, 14]), (16, [3, 14]), (17, [3, 14]), (18, [3, 14]), (19, [2]), (20, [3, 22]), (21, [3, 22]), (22, [3, 22]), (23, [2]), (24, [3, 26]), (25, [3, 26]), (26, [2]), (27, [3, 29]), (28, [2]), (29, [3, 31]), (30, [2]), (31, [3, 33]), (32, [3, 33]), (33, [33]), (34, [2]), (35, [2])] := (rfl)
theorem T16_loops : T16.loops = [] := (rfl)
def T17 : Tab := ⟨[(0, [1]), (1, [1, 11]), (2, [2]), (3, [1, 4, 5]), (4, [1, 4, 5, 6]), (5, [1, 4, 6, 20]), (6, [1, 4, 6, 20, 21, 22]), (7, [1, 4, 6, 7, 8, 20]), (8, [1, 4, 6, 8, 20, 30]), (9, [1, 4, 6, 20]), (10, [6]), (11, [2])], [(0, [1, 4, 6, 20])], []⟩
theorem T17_sch : T17.sch = [] := (rfl)
theorem T17_reg : T17.reg = [(0, [1]), (1, [1, 11]), (2, [2]), (3, [1, 4, 5]), (4, [1, 4, 5, 6]), (5, [1, 4, 6, 20]), (6, [1, 4, 6, 20, 21, 22]), (7, [1, 4, 6, 7, 8, 20]), (8, [1, 4, 6, 8, 20, 30]), (9, [1, 4, 6, 20]), (10, [6]), (11, [2])] := (rfl)
theorem T17_loops : T17.loops = [(0, [1, 4, 6, 20])] := (rfl)
def T18 : Tab := ⟨[(0, [1]), (1, [1, 3]), (2, [1, 9]), (3, [2]), (4, [1, 4]), (5, [1, 4, 5]), (6, [1, 4, 5, 15]), (7, [2]), (8, [1, 4, 5, 15, 16]), (9, [1, 4, 5, 15, 16]), (10, [1, 4, 5, 15, 16]), (11, [1, 4, 5, 15, 16]), (12, [1, 4, 5, 15, 16]), (13, [4, 5]), (14, [1, 4, 5, 15, 24]), (15, [1, 4, 5, 15, 24]), (16, [1, 4, 5, 15, 24]), (17, [1, 4, 5, 15, 24]), (18, [1, 4, 5, 15, 24]), (19, [1, 5, 15, 30]), (20, [1, 5, 15, 30]), (21, [1, 5, 15, 30]), (22, [1, 5, 15, 30]), (23, [1, 5, 30]), (24, [4, 5]), (25, [4, 5, 40]), (26, [2]), (27, [4, 5, 45]), (28, [2]), (29, [2])], [], []⟩
theorem T18_sch : T18.sch = [] := (rfl)
theorem T18_reg : T18.reg = [(0, [1]), (1, [1, 3]), (2, [1, 9]), (3, [2]), (4, [1, 4]), (5, [1, 4, 5]), (6, [1, 4, 5, 15]), (7, [2]), (8, [1, 4, 5, 15, 16]), (9, [1, 4, 5, 15, 16]), (10, [1, 4, 5, 15, 16]), (11, [1, 4, 5, 15, 16]), (12, [1, 4, 5, 15, 16]), (13, [4, 5]), (14, [1, 4, 5, 15, 24]), (15, [1, 4, 5, 15, 24]), (16, [1, 4, 5, 15, 24]), (17, [1, 4, 5, 15, 24]), (18, [1, 4, 5, 15, 24]), (19, [1, 5, 15, 30]), (20, [1, 5, 15, 30]), (21, [1, 5, 15, 30]), (22, [1, 5, 15, 30]), (23, [1, 5, 30]), (24, [4, 5]), (25, [4, 5, 40]), (26, [2]), (27, [4, 5, 45]), (28, [2]), (29, [2])] := (rfl)
theorem T18_loops : T18.loops = [] := (rfl)
def T19 : Tab := ⟨[(0, [1]), (1, [1, 4]), (2, [1, 19]), (3, [2]), (4, [2])], [], []⟩
theorem T19_sch : T19.sch = [] := (rfl)
theorem T19_reg : T19.reg = [(0, [1]), (1, [1, 4]), (2, [1, 19]), (3, [2]), (4, [2])] := (rfl)
theorem T19_loops : T19.loops = [] := (rfl)
def T20 : Tab := ⟨[(0, [1]), (1, [1, 3]), (2, [1, 3, 7]), (3, [1, 3, 7, 8]), (4, [1, 3, 7, 8]), (5, [1, 3, 7, 8]), (6, [1, 3, 7, 8]), (7, [1, 3, 7, 8]), (8, [1, 3, 7, 8]), (9, [1, 3, 7, 8]), (10, [1, 3, 7, 8]), (11, [1, 3, 7, 8]), (12, [1, 3, 7, 8]), (13, [1, 3, 8]), (14, [1, 20]), (15, [2]), (16, [2])], [], []⟩
theorem T20_sch : T20.sch = [] := (rfl)
theorem T20_reg : T20.reg = [(0, [1]), (1, [1, 3]), (2, [1, 3, 7]), (3, [1, 3, 7, 8]), (4, [1, 3, 7, 8]), (5, [1, 3, 7, 8]), (6, [1, 3, 7, 8]), (7, [1, 3, 7, 8]), (8, [1, 3, 7, 8]), (9, [1, 3, 7, 8]), (10, [1, 3, 7, 8]), (11, [1, 3, 7, 8]), (12, [1, 3, 7, 8]), (13, [1, 3, 8]), (14, [1, 20]), (15, [2]), (16, [2])] := (rfl)
theorem T20_loops : T20.loops = [] := (rfl)
def T21 : Tab := ⟨[(0, [0, 1]), (1, [0, 1, 10]), (2, [4]), (3, [0, 1, 5]), (4, [0, 1, 5, 14]), (5, [0, 1, 5]), (6, [0, 1, 5, 25]), (7, [4]), (8, [4])], [(0, [0, 1, 5])], []⟩
theorem T21_sch : T21.sch = [] := (rfl)
theorem T21_reg : T21.reg = [(0, [0, 1]), (1, [0, 1, 10]), (2, [4]), (3, [0, 1, 5]), (4, [0, 1, 5, 14]), (5, [0, 1, 5]), (6, [0, 1, 5, 25]), (7, [4]), (8, [4])] := (rfl)
theorem T21_loops : T21.loops = [(0, [0, 1, 5])] := (rfl)
def T22 : Tab := ⟨[(0, [0, 1]), (1, [4])], [], []⟩
theorem T22_sch : T22.sch = [] := (rfl)
theorem T22_reg : T22.reg = [(0, [0, 1]), (1, [4])] := (rfl)
theorem T22_loops : T22.loops = [] := (rfl)
def T23 : Tab := ⟨[(0, [0, 1, 2, 3]), (1, [2, 3, 9]), (2, [2, 3, 14]), (3, [8]), (4, [8])], [], []⟩
theorem T23_sch : T23.sch = [] := (rfl)
theorem T23_reg : T23.reg = [(0, [0, 1, 2, 3]), (1, [2, 3, 9]), (2, [2, 3, 14]), (3, [8]), (4, [8])] := (rfl)
theorem T23_loops : T23.loops = [] := (rfl)
def T24 : Tab := ⟨[(0, [0, 1]), (1, [4])], [], []⟩
theorem T24_sch : T24.sch = [] := (rfl)
theorem T24_reg : T24.reg = [(0, [0, 1]), (1, [4])] := (rfl)
theorem T24_loops : T24.loops = [] := (rfl)
def T25 : Tab := ⟨[(0, [0, 1]), (1, [0, 1, 5]), (2, [0, 1, 5, 9]), (3, [0, 1, 5]), (4, [0, 1, 5, 16]), (5, [4]), (6, [4])], [(0, [0, 1, 5])], []⟩
theorem T25_sch : T25.sch = [] := (rfl)
theorem T25_reg : T25.reg = [(0, [0, 1]), (1, [0, 1, 5]), (2, [0, 1, 5, 9]), (3, [0, 1, 5]), (4, [0, 1, 5, 16]), (5, [4]), (6, [4])] := (rfl)
theorem T25_loops : T25.loops = [(0, [0, 1, 5])] := (rfl)
def T26 : Tab := ⟨[(0, [0]), (1, [0, 12]), (2, [2, 3, 4]), (3, [5]), (4, [5, 6]), (5, [5, 6, 20]), (6, [2, 3, 4]), (7, [2, 3, 4])], [], []⟩
theorem T26_sch : T26.sch = [] := (rfl)
theorem T26_reg : T26.reg = [(0, [0]), (1, [0, 12]), (2, [2, 3, 4]), (3, [5]), (4, [5, 6]), (5, [5, 6, 20]), (6, [2, 3, 4]), (7, [2, 3, 4])] := (rfl)
theorem T26_loops : T26.loops = [] := (rfl)
def T27 : Tab := ⟨[(0, [0, 2]), (1, [])], [], []⟩
theorem T27_sch : T27.sch = [] := (rfl)
theorem T27_reg : T27.reg = [(0, [0, 2]), (1, [])] := (rfl)
theorem T27_loops : T27.loops = [] := (rfl)
def T28 : Tab := ⟨[(0, [0]), (1, [0, 8]), (2, [2]), (3, [0, 3]), (4, [0, 3, 13]), (5, [0, 3]), (6, [0, 3, 25]), (7, [0, 3, 4]), (8, [0, 3, 4, 5]), (9, [0, 3, 4, 5, 32]), (10, [0, 3, 4, 5]), (11, [0, 3, 4, 5, 44]), (12, [0, 3, 4, 5]), (13, [0, 3, 4, 5]), (14, [0, 3]), (15, [2]), (16, [2])], [(0, [0, 3]), (2, [0, 3, 4, 5])], []⟩
theorem T28_sch : T28.sch = [] := (rfl)
theorem T28_reg : T28.reg = [(0, [0]), (1, [0, 8]), (2, [2]), (3, [0, 3]), (4, [0, 3, 13]), (5, [0, 3]), (6, [0, 3, 25]), (7, [0, 3, 4]), (8, [0, 3, 4, 5]), (9, [0, 3, 4, 5, 32]), (10, [0, 3, 4, 5]), (11, [0, 3, 4, 5, 44]), (12, [0, 3, 4, 5]), (13, [0, 3, 4, 5]), (14, [0, 3]), (15, [2]), (16, [2])] := (rfl)
theorem T28_loops : T28.loops = [(0, [0, 3]), (2, [0, 3, 4, 5])] := (rfl)
def T29 : Tab := ⟨[(0, [0, 1]), (1, [4])], [], []⟩
theorem T29_sch : T29.sch = [] := (rfl)
theorem T29_reg : T29.reg = [(0, [0, 1]), (1, [4])] := (rfl)
theorem T29_loops : T29.loops = [] := (rfl)
def T30 : Tab := ⟨[(0, [0, 1]), (1, [4])], [], []⟩
theorem T30_sch : T30.sch = [] := (rfl)
theorem T30_reg : T30.reg = [(0, [0, 1]), (1, [4])] := (rfl)
theorem T30_loops : T30.loops = [] := (rfl)
def T31 : Tab := ⟨[(0, [0, 1]), (1, [0, 1, 12]), (2, [4]), (3, [0, 1, 15]), (4, [0, 5]), (5, [0, 5, 20]), (6, [0, 5]), (7, [4]), (8, [0, 1, 26]), (9, [0, 1, 6, 7]), (10, [0, 1, 6, 32]), (11, [0, 6, 8]), (12, [0, 6, 8, 36]), (13, [0, 6, 8]), (14, [0, 6, 8, 42]), (15, [4]), (16, [4]), (17, [1, 45]), (18, [1, 45, 46, 47]), (19, [1, 9, 10, 45]), (20, [1, 9, 45, 53]), (21, [4]), (22, [4])], [(0, [0, 6, 8]), (2, [1, 45])], []⟩
theorem T31_sch : T31.sch = [] := (rfl)
theorem T31_reg : T31.reg = [(0, [0, 1]), (1, [0, 1, 12]), (2, [4]), (3, [0, 1, 15]), (4, [0, 5]), (5, [0, 5, 20]), (6, [0, 5]), (7, [4]), (8, [0, 1, 26]), (9, [0, 1, 6, 7]), (10, [0, 1, 6, 32]), (11, [0, 6, 8]), (12, [0, 6, 8, 36]), (13, [0, 6, 8]), (14, [0, 6, 8, 42]), (15, [4]), (16, [4]), (17, [1, 45]), (18, [1, 45, 46, 47]), (19, [1, 9, 10, 45]), (20, [1, 9, 45, 53]), (21, [4]), (22, [4])] := (rfl)
theorem T31_loops : T31.loops = [(0, [0, 6, 8]), (2, [1, 45])] := (rfl)
def T32 : Tab := ⟨[(0, [0, 1, 2, 3, 8]), (1, [0, 1, 2, 3, 8, 9]), (2, [0, 1, 2, 3, 8, 9, 10]), (3, [0, 1, 2, 3, 8, 9, 10, 23]), (4, []), (5, [0, 1, 2, 3, 8, 9, 10, 29]), (6, []), (7, [0, 1, 2, 3, 8, 9, 10, 35]), (8, [0, 1, 2, 3, 8, 9, 10]), (9, [0, 1, 2, 3, 8, 9, 10]), (10, [0, 1, 2, 3, 8, 9, 10, 11, 12]), (11, [0, 1, 2, 3, 8, 9, 10, 11, 12, 50]), (12, [0, 1, 2, 3, 8, 9, 10, 11]), (13, [0, 1, 2, 3, 8, 9, 10, 11]), (14, [0, 1, 2, 3, 8, 9, 10, 11, 12]), (15, [0, 1, 2, 3, 8, 9, 10, 11, 68]), (16, [0, 1, 2, 3, 8, 9, 10, 11, 72]), (17, [0, 1, 2, 3, 8, 9, 10, 11, 87]), (18, [0, 2, 3, 8, 9, 13]), (19, [0, 1, 2, 3, 8, 9]), (20, [0, 1, 2, 3, 10, 14, 15]), (21, [0, 1, 2, 3, 9, 10, 14]), (22, [0, 1, 2, 3, 9, 10, 14, 16, 17]), (23, [0, 1, 2, 3, 9, 14, 16, 17, 18]), (24, [0, 1, 2, 3, 9, 14, 16, 17, 18, 113]), (25, [0, 1, 2, 3, 8, 9, 14]), (26, [0, 2, 3, 8, 9, 14]), (27, [0, 1, 2, 3, 8, 9]), (28, [0, 1, 2, 3, 8, 9, 14]), (29, [0, 1, 3, 8, 9, 14]), (30, [0, 1, 2, 3, 8, 9])], [(0, [0, 1, 2, 3, 8, 9])], []⟩
theorem T32_sch : T32.sch = [] := (rfl)
theorem T32_reg : T32.reg = [(0, [0, 1, 2, 3, 8]), (1, [0, 1, 2, 3, 8, 9]), (2, [0, 1, 2, 3, 8, 9, 10]), (3, [0, 1, 2, 3, 8, 9, 10, 23]), (4, []), (5, [0, 1, 2, 3, 8, 9, 10, 29]), (6, []), (7, [0, 1, 2, 3, 8, 9, 10, 35]), (8, [0, 1, 2, 3, 8, 9, 10]), (9, [0, 1, 2, 3, 8, 9, 10]), (10, [0, 1, 2, 3, 8, 9, 10, 11, 12]), (11, [0, 1, 2, 3, 8, 9, 10, 11, 12, 50]), (12, [0, 1, 2, 3, 8, 9, 10, 11]), (13, [0, 1, 2, 3, 8, 9, 10, 11]), (14, [0, 1, 2, 3, 8, 9, 10, 11, 12]), (15, [0, 1, 2, 3, 8, 9, 10, 11, 68]), (16, [0, 1, 2, 3, 8, 9, 10, 11, 72]), (17, [0, 1, 2, 3, 8, 9, 10, 11, 87]), (18, [0, 2, 3, 8, 9, 13]), (19, [0, 1, 2, 3, 8, 9]), (20, [0, 1, 2, 3, 10, 14, 15]), (21, [0, 1, 2, 3, 9, 10, 14]), (22, [0, 1, 2, 3, 9, 10, 14, 16, 17]), (23, [0, 1, 2, 3, 9, 14, 16, 17, 18]), (24, [0, 1, 2, 3, 9, 14, 16, 17, 18, 113]), (25, [0, 1, 2, 3, 8, 9, 14]), (26, [0, 2, 3, 8, 9, 14]), (27, [0, 1, 2, 3, 8, 9]), (28, [0, 1, 2, 3, 8, 9, 14]), (29, [0, 1, 3, 8, 9, 14]), (30, [0, 1, 2, 3, 8, 9])] := (rfl)
theorem T32_loops : T32.loops = [(0, [0, 1, 2, 3, 8, 9])] := (rfl)
def T33 : Tab := ⟨[(0, [0]), (1, [2]), (2, [2])], [], []⟩
theorem T33_sch : T33.sch = [] := (rfl)
theorem T33_reg : T33.reg = [(0, [0]), (1, [2]), (2, [2])] := (rfl)
theorem T33_loops : T33.loops = [] := (rfl)
def T35 : Tab := ⟨[(0, [0, 1, 2, 3]), (1, [0, 1, 2, 3, 13]), (2, [8]), (3, [0, 1, 2, 3, 15]), (4, [8]), (5, [0, 1, 2, 3, 20]), (6, [0, 1, 2, 3]), (7, [0, 1, 2, 3]), (8, [0, 1, 2, 3, 9]), (9, [0, 1, 2, 3, 9]), (10, [0, 1, 2, 3, 9, 10]), (11, [0, 1, 2, 3, 9, 10, 36]), (12, [0, 1, 2, 3, 9, 10, 11]), (13, [0, 1, 2, 3, 9, 10, 11, 41]), (14, [0, 1, 2, 3, 9, 10, 11]), (15, [0, 1, 2, 3, 9, 10]), (16, [0, 1, 2, 3, 9, 10]), (17, [9, 10]), (18, [8])], [(0, [0, 1, 2, 3, 9, 10])], []⟩
theorem T35_sch : T35.sch = [] := (rfl)
theorem T35_reg : T35.reg = [(0, [0, 1, 2, 3]), (1, [0, 1, 2, 3, 13]), (2, [8]), (3, [0, 1, 2, 3, 15]), (4, [8]), (5, [0, 1, 2, 3, 20]), (6, [0, 1, 2, 3]), (7, [0, 1, 2, 3]), (8, [0, 1, 2, 3, 9]), (9, [0, 1, 2, 3, 9]), (10, [0, 1, 2, 3, 9, 10]), (11, [0, 1, 2, 3, 9, 10, 36]), (12, [0, 1, 2, 3, 9, 10, 11]), (13, [0, 1, 2, 3, 9, 10, 11, 41]), (14, [0, 1, 2, 3, 9, 10, 11]), (15, [0, 1, 2, 3, 9, 10]), (16, [0, 1, 2, 3, 9, 10]), (17, [9, 10]), (18, [8])] := (rfl)
theorem T35_loops : T35.loops = [(0, [0, 1, 2, 3, 9, 10])] := (rfl)
def T37 : Tab := ⟨[(0, [0]), (1, [2])], [], []⟩
theorem T37_sch : T37.sch = [] := (rfl)
theorem T37_reg : T37.reg = [(0, [0]), (1, [2])] := (rfl)
theorem T37_loops : T37.loops = [] := (rfl)
def T38 : Tab := ⟨[(0, [0, 2]), (1, [0, 2, 4]), (2, [0, 2, 4, 9]), (3, [0, 2, 4]), (4, [0, 2, 4, 5]), (5, [0, 2, 4, 5, 16]), (6, [2, 3]), (7, [0, 2, 4]), (8, [2, 3])], [(0, [0, 2, 4])], []⟩
theorem T38_sch : T38.sch = [] := (rfl)
theorem T38_reg : T38.reg = [(0, [0, 2]), (1, [0, 2, 4]), (2, [0, 2, 4, 9]), (3, [0, 2, 4]), (4, [0, 2, 4, 5]), (5, [0, 2, 4, 5, 16]), (6, [2, 3]), (7, [0, 2, 4]), (8, [2, 3])] := (rfl)
theorem T38_loops : T38.loops = [(0, [0, 2, 4])] := (rfl)
def T39 : Tab := ⟨[(0, [0, 1]), (1, [4])], [], []⟩
theorem T39_sch : T39.sch = [] := (rfl)
theorem T39_reg : T39.reg = [(0, [0, 1]), (1, [4])] := (rfl)
theorem T39_loops : T39.loops = [] := (rfl)
def T40 : Tab := ⟨[(0, [0, 1, 2, 6]), (1, [0, 1, 2, 6, 12]), (2, [0, 1, 2, 6]), (3, [0, 1, 2, 6, 7]), (4, [0, 1, 2, 6, 7, 30]), (5, [0, 1, 2, 6, 7]), (6, [0, 1, 2, 6, 7])], [(0, [0, 1, 2, 6]), (2, [0, 1, 2, 6, 7])], []⟩
theorem T40_sch : T40.sch = [] := (rfl)
theorem T40_reg : T40.reg = [(0, [0, 1, 2, 6]), (1, [0, 1, 2, 6, 12]), (2, [0, 1, 2, 6]), (3, [0, 1, 2, 6, 7]), (4, [0, 1, 2, 6, 7, 30]), (5, [0, 1, 2, 6, 7]), (6, [0, 1, 2, 6, 7])] := (rfl)
theorem T40_loops : T40.loops = [(0, [0, 1, 2, 6]), (2, [0, 1, 2, 6, 7])] := (rfl)
def T41 : Tab := ⟨[(0, [0, 1, 2, 6]), (1, [0, 1, 2, 6, 7]), (2, [0, 6, 7, 8]), (3, [0, 6, 7, 8, 9]), (4, [0, 6, 7, 8, 9, 19]), (5, [0, 6, 7, 8, 9]), (6, [0, 6, 7, 8, 9]), (7, [0, 6, 7, 10]), (8, [0, 6, 7, 10, 30]), (9, [0, 6, 7, 10]), (10, [0, 6, 7, 10]), (11, [0, 6, 7, 10])], [(0, [0, 6, 7, 8, 9]), (2, [0, 6, 7, 10])], []⟩
theorem T41_sch : T41.sch = [] := (rfl)
theorem T41_reg : T41.reg = [(0, [0, 1, 2, 6]), (1, [0, 1, 2, 6, 7]), (2, [0, 6, 7, 8]), (3, [0, 6, 7, 8, 9]), (4, [0, 6, 7, 8, 9, 19]), (5, [0, 6, 7, 8, 9]), (6, [0, 6, 7, 8, 9]), (7, [0, 6, 7, 10]), (8, [0, 6, 7, 10, 30]), (9, [0, 6, 7, 10]), (10, [0, 6, 7, 10]), (11, [0, 6, 7, 10])] := (rfl)
theorem T41_loops : T41.loops = [(0, [0, 6, 7, 8, 9]), (2, [0, 6, 7, 10])] := (rfl)
def T42 : Tab := ⟨[(0, [0, 1, 6]), (1, [0, 1, 6, 15]), (2, [0, 1, 6, 7]), (3, [0, 1, 6, 7, 8]), (4, [0, 1, 6, 7, 8, 9]), (5, [0, 1, 6, 7, 8, 9, 33]), (6, [0, 1, 6, 7, 8, 9]), (7, [0, 1, 6, 7, 8, 9, 10]), (8, [0, 1, 6, 7, 8, 9, 10, 43]), (9, [0, 1, 6, 7, 8, 9, 10]), (10, [0, 1, 6, 7, 8, 9])], [(0, [0, 1, 6, 7, 8, 9])], []⟩
theorem T42_sch : T42.sch = [] := (rfl)
theorem T42_reg : T42.reg = [(0, [0, 1, 6]), (1, [0, 1, 6, 15]), (2, [0, 1, 6, 7]), (3, [0, 1, 6, 7, 8]), (4, [0, 1, 6, 7, 8, 9]), (5, [0, 1, 6, 7, 8, 9, 33]), (6, [0, 1, 6, 7, 8, 9]), (7, [0, 1, 6, 7, 8, 9, 10]), (8, [0, 1, 6, 7, 8, 9, 10, 43]), (9, [0, 1, 6, 7, 8, 9, 10]), (10, [0, 1, 6, 7, 8, 9])] := (rfl)
theorem T42_loops : T42.loops = [(0, [0, 1, 6, 7, 8, 9])] := (rfl)
def T43 : Tab := ⟨[(0, [0, 1, 2]), (1, [0, 1, 8]), (2, [0, 1, 8, 9]), (3, [0, 1, 8, 9, 10]), (4, [0, 1, 8, 9, 10, 11]), (5, [0, 8, 9, 10, 11, 12]), (6, [0, 8, 9, 10, 11, 12, 32]), (7, [0, 9, 10, 11, 12, 34]), (8, [0, 9, 10, 11, 12]), (9, [0, 9, 10, 11, 12]), (10, [0, 9, 10, 11, 12]), (11, [9, 11]), (12, [11, 49]), (13, [6, 7]), (14, [11, 49, 51]), (15, [6, 7]), (16, [11, 54]), (17, [6, 7])], [], []⟩
theorem T43_sch : T43.sch = [] := (rfl)
theorem T43_reg : T43.reg = [(0, [0, 1, 2]), (1, [0, 1, 8]), (2, [0, 1, 8, 9]), (3, [0, 1, 8, 9, 10]), (4, [0, 1, 8, 9, 10, 11]), (5, [0, 8, 9, 10, 11, 12]), (6, [0, 8, 9, 10, 11, 12, 32]), (7, [0, 9, 10, 11, 12, 34]), (8, [0, 9, 10, 11, 12]), (9, [0, 9, 10, 11, 12]), (10, [0, 9, 10, 11, 12]), (11, [9, 11]), (12, [11, 49]), (13, [6, 7]), (14, [11, 49, 51]), (15, [6, 7]), (16, [11, 54]), (17, [6, 7])] := (rfl)
theorem T43_loops : T43.loops = [] := (rfl)
def T44 : Tab := ⟨[(0, [0, 2, 6]), (1, [0, 6, 7]), (2, [0, 6, 7, 13]), (3, [0, 6, 7]), (4, [0, 6, 7]), (5, [0, 6, 7])], [(0, [0, 6, 7])], []⟩
theorem T44_sch : T44.sch = [] := (rfl)
theorem T44_reg : T44.reg = [(0, [0, 2, 6]), (1, [0, 6, 7]), (2, [0, 6, 7, 13]), (3, [0, 6, 7]), (4, [0, 6, 7]), (5, [0, 6, 7])] := (rfl)
theorem T44_loops : T44.loops = [(0, [0, 6, 7])] := (rfl)
def T45 : Tab := ⟨[(0, [0, 1, 2]), (1, [0, 1, 2, 7]), (2, [0, 1, 2, 7, 8]), (3, [0, 1, 2, 7, 8, 14]), (4, [0, 1, 2, 7, 8]), (5, [0, 1, 2, 7, 8, 32]), (6, [0, 1, 2, 7, 8]), (7, [0, 1, 2, 7, 8, 37]), (8, [6]), (9, [0, 1, 2, 7, 8, 41]), (10, [6]), (11, [0, 1, 2, 7, 8]), (12, [0, 1, 2, 7, 8, 61]), (13, [0, 1, 2, 7, 8, 9]), (14, [0, 1, 2, 7, 8, 9, 65]), (15, [0, 1, 2, 7, 8, 9]), (16, [0, 1, 2, 7, 8, 9, 78]), (17, [0, 1, 2, 7, 8, 9]), (18, [0, 1, 2, 7, 8, 98]), (19, [0, 1, 2, 7, 8, 10]), (20, [0, 1, 2, 7, 8, 10, 103]), (21, [0, 1, 2, 7, 8, 10]), (22, [0, 1, 2, 7, 8, 10, 116]), (23, [0, 1, 2, 7, 8, 10]), (24, [6])], [(0, [0, 1, 2, 7, 8]), (2, [0, 1, 2, 7, 8]), (4, [0, 1, 2, 7, 8, 9]), (6, [0, 1, 2, 7, 8, 10])], []⟩
theorem T45_sch : T45.sch = [] := (rfl)
theorem T45_reg : T45.reg = [(0, [0, 1, 2]), (1, [0, 1, 2, 7]), (2, [0, 1, 2, 7, 8]), (3, [0, 1, 2, 7, 8, 14]), (4, [0, 1, 2, 7, 8]), (5, [0, 1, 2, 7, 8, 32]), (6, [0, 1, 2, 7, 8]), (7, [0, 1, 2, 7, 8, 37]), (8, [6]), (9, [0, 1, 2, 7, 8, 41]), (10, [6]), (11, [0, 1, 2, 7, 8]), (12, [0, 1, 2, 7, 8, 61]), (13, [0, 1, 2, 7, 8, 9]), (14, [0, 1, 2, 7, 8, 9, 65]), (15, [0, 1, 2, 7, 8, 9]), (16, [0, 1, 2, 7, 8, 9, 78]), (17, [0, 1, 2, 7, 8, 9]), (18, [0, 1, 2, 7, 8, 98]), (19, [0, 1, 2, 7, 8, 10]), (20, [0, 1, 2, 7, 8, 10, 103]), (21, [0, 1, 2, 7, 8, 10]), (22, [0, 1, 2, 7, 8, 10, 116]), (23, [0, 1, 2, 7, 8, 10]), (24, [6])] := (rfl)
theorem T45_loops : T45.loops = [(0, [0, 1, 2, 7, 8]), (2, [0, 1, 2, 7, 8]), (4, [0, 1, 2, 7, 8, 9]), (6, [0, 1, 2, 7, 8, 10])] := (rfl)
def T46 : Tab := ⟨[(0, [0, 1]), (1, [4])], [], []⟩
theorem T46_sch : T46.sch = [] := (rfl)
theorem T46_reg : T46.reg = [(0, [0, 1]), (1, [4])] := (rfl)
theorem T46_loops : T46.loops = [] := (rfl)
def T47 : Tab := ⟨[(0, [0, 1, 2, 3]), (1, [0, 1, 2]), (2, [0, 1, 9, 10]), (3, [0, 1, 9, 10, 43]), (4, [0, 1, 9, 10]), (5, [0, 1, 9, 10, 59]), (6, [0, 1, 9, 10]), (7, [0, 1, 9, 10, 64]), (8, [0, 1, 9, 10]), (9, [0, 1, 9, 10]), (10, [0, 1, 9, 10]), (11, [8])], [(0, [0, 1, 9, 10]), (2, [0, 1, 9, 10]), (4, [0, 1, 9, 10])], []⟩
theorem T47_sch : T47.sch = [] := (rfl)
theorem T47_reg : T47.reg = [(0, [0, 1, 2, 3]), (1, [0, 1, 2]), (2, [0, 1, 9, 10]), (3, [0, 1, 9, 10, 43]), (4, [0, 1, 9, 10]), (5, [0, 1, 9, 10, 59]), (6, [0, 1, 9, 10]), (7, [0, 1, 9, 10, 64]), (8, [0, 1, 9, 10]), (9, [0, 1, 9, 10]), (10, [0, 1, 9, 10]), (11, [8])] := (rfl)
theorem T47_loops : T47.loops = [(0, [0, 1, 9, 10]), (2, [0, 1, 9, 10]), (4, [0, 1, 9, 10])] := (rfl)
def T48 : Tab := ⟨[(0, [0, 1, 2, 3]), (1, [0, 1, 2]), (2, [0, 1, 10, 11]), (3, [0, 1, 10, 11, 43]), (4, [0, 1, 10, 11]), (5, [0, 1, 10, 11, 60]), (6, [0, 1, 10, 11]), (7, [0, 1, 10, 11, 65]), (8, [11]), (9, [8, 9]), (10, [0, 1, 10, 11]), (11, [0, 1, 10, 11]), (12, [0, 1, 10, 11]), (13, [0, 1, 10, 11, 112]), (14, [0, 1, 10, 11]), (15, [0, 1, 10, 11, 129]), (16, [0, 1, 10, 11]), (17, [0, 1, 10, 11, 134]), (18, [0, 1, 10, 11]), (19, [0, 1, 10, 11]), (20, [0, 1, 10, 11]), (21, [11]), (22, [8, 9])], [(0, [0, 1, 10, 11]), (2, [0, 1, 10, 11]), (4, [0, 1, 10, 11]), (6, [0, 1, 10, 11]), (8, [0, 1, 10, 11])], []⟩
theorem T48_sch : T48.sch = [] := (rfl)
theorem T48_reg : T48.reg = [(0, [0, 1, 2, 3]), (1, [0, 1, 2]), (2, [0, 1, 10, 11]), (3, [0, 1, 10, 11, 43]), (4, [0, 1, 10, 11]), (5, [0, 1, 10, 11, 60]), (6, [0, 1, 10, 11]), (7, [0, 1, 10, 11, 65]), (8, [11]), (9, [8, 9]), (10, [0, 1, 10, 11]), (11, [0, 1, 10, 11]), (12, [0, 1, 10, 11]), (13, [0, 1, 10, 11, 112]), (14, [0, 1, 10, 11]), (15, [0, 1, 10, 11, 129]), (16, [0, 1, 10, 11]), (17, [0, 1, 10, 11, 134]), (18, [0, 1, 10, 11]), (19, [0, 1, 10, 11]), (20, [0, 1, 10, 11]), (21, [11]), (22, [8, 9])] := (rfl)
theorem T48_loops : T48.loops = [(0, [0, 1, 10, 11]), (2, [0, 1, 10, 11]), (4, [0, 1, 10, 11]), (6, [0, 1, 10, 11]), (8, [0, 1, 10, 11])] := (rfl)
def T49 : Tab := ⟨[(0, [0, 2]), (1, [0, 2, 4]), (2, [0]), (3, [0, 2]), (4, [0, 2, 8]), (5, [0, 2]), (6, [0, 2]), (7, [2])], [], []⟩
theorem T49_sch : T49.sch = [] := (rfl)
theorem T49_reg : T49.reg = [(0, [0, 2]), (1, [0, 2, 4]), (2, [0]), (3, [0, 2]), (4, [0, 2, 8]), (5, [0, 2]), (6, [0, 2]), (7, [2])] := (rfl)
theorem T49_loops : T49.loops = [] := (rfl)
def T50 : Tab := ⟨[(0, [0, 2]), (1, [0, 2, 4]), (2, [0]), (3, [0, 2]), (4, [0, 2, 8]), (5, [0, 2]), (6, [0, 2]), (7, [0, 2, 14]), (8, [0, 2]), (9, [0, 2]), (10, [2])], [], []⟩
theorem T50_sch : T50.sch = [] := (rfl)
theorem T50_reg : T50.reg = [(0, [0, 2]), (1, [0, 2, 4]), (2, [0]), (3, [0, 2]), (4, [0, 2, 8]), (5, [0, 2]), (6, [0, 2]), (7, [0, 2, 14]), (8, [0, 2]), (9, [0, 2]), (10, [2])] := (rfl)
theorem T50_loops : T50.loops = [] := (rfl)
def T51 : Tab := ⟨[(0, [0, 1]), (1, [0, 1, 5]), (2, [0, 1, 5, 18]), (3, [0, 1]), (4, [0, 1, 6]), (5, [0, 1, 6, 7]), (6, [0, 1, 6, 7, 25]), (7, [0, 1, 6, 7]), (8, [0, 1, 6, 7, 9]), (9, [0, 1, 6, 7, 9]), (10, [0, 1, 6, 7]), (11, [0, 1, 6, 43]), (12, [6]), (13, [4])], [(0, [0, 1, 6, 7])], []⟩
theorem T51_sch : T51.sch = [] := (rfl)
theorem T51_reg : T51.reg = [(0, [0, 1]), (1, [0, 1, 5]), (2, [0, 1, 5, 18]), (3, [0, 1]), (4, [0, 1, 6]), (5, [0, 1, 6, 7]), (6, [0, 1, 6, 7, 25]), (7, [0, 1, 6, 7]), (8, [0, 1, 6, 7, 9]), (9, [0, 1, 6, 7, 9]), (10, [0, 1, 6, 7]), (11, [0, 1, 6, 43]), (12, [6]), (13, [4])] := (rfl)
theorem T51_loops : T51.loops = [(0, [0, 1, 6, 7])] := (rfl)
def T52 : Tab := ⟨[(0, [0, 1]), (1, [0, 1, 9]), (2, [4]), (3, [0, 1, 15]), (4, [4]), (5, [0, 1, 5]), (6, [0, 1, 5, 6]), (7, [0, 1, 5, 6, 24]), (8, [4]), (9, [0, 1, 5, 6]), (10, [0, 1, 5])], [(0, [0, 1, 5])], []⟩
theorem T52_sch : T52.sch = [] := (rfl)
theorem T52_reg : T52.reg = [(0, [0, 1]), (1, [0, 1, 9]), (2, [4]), (3, [0, 1, 15]), (4, [4]), (5, [0, 1, 5]), (6, [0, 1, 5, 6]), (7, [0, 1, 5, 6, 24]), (8, [4]), (9, [0, 1, 5, 6]), (10, [0, 1, 5])] := (rfl)
theorem T52_loops : T52.loops = [(0, [0, 1, 5])] := (rfl)
def T53 : Tab := ⟨[(0, [0, 1]), (1, [4])], [], []⟩
theorem T53_sch : T53.sch = [] := (rfl)
theorem T53_reg : T53.reg = [(0, [0, 1]), (1, [4])] := (rfl)
theorem T53_loops : T53.loops = [] := (rfl)
def T54 : Tab := ⟨[(0, [0]), (1, [0, 3]), (2, [2]), (3, [10]), (4, [2]), (5, [2])], [], []⟩
theorem T54_sch : T54.sch = [] := (rfl)
theorem T54_reg : T54.reg = [(0, [0]), (1, [0, 3]), (2, [2]), (3, [10]), (4, [2]), (5, [2])] := (rfl)
theorem T54_loops : T54.loops = [] := (rfl)
def T55 : Tab := ⟨[(0, [0]), (1, [2])], [], []⟩
theorem T55_sch : T55.sch = [] := (rfl)
theorem T55_reg : T55.reg = [(0, [0]), (1, [2])] := (rfl)
theorem T55_loops : T55.loops = [] := (rfl)
def T57 : Tab := ⟨[(0, [0, 2, 3, 8]), (1, [0, 2, 3, 8, 9]), (2, [0, 2, 3, 8, 9, 16]), (3, [0, 2, 3, 8, 9, 36]), (4, [0, 2, 3, 8, 9]), (5, [0, 2, 3, 8, 9, 52]), (6, [0, 2, 3, 9]), (7, [0, 2, 3, 8])], [(0, [0, 2, 3, 8])], []⟩
theorem T57_sch : T57.sch = [] := (rfl)
theorem T57_reg : T57.reg = [(0, [0, 2, 3, 8]), (1, [0, 2, 3, 8, 9]), (2, [0, 2, 3, 8, 9, 16]), (3, [0, 2, 3, 8, 9, 36]), (4, [0, 2, 3, 8, 9]), (5, [0, 2, 3, 8, 9, 52]), (6, [0, 2, 3, 9]), (7, [0, 2, 3, 8])] := (rfl)
theorem T57_loops : T57.loops = [(0, [0, 2, 3, 8])] := (rfl)
def T58 : Tab := ⟨[(0, [0]), (1, [2])], [], []⟩
theorem T58_sch : T58.sch = [] := (rfl)
theorem T58_reg : T58.reg = [(0, [0]), (1, [2])] := (rfl)
theorem T58_loops : T58.loops = [] := (rfl)
def T59 : Tab := ⟨[(0, [0]), (1, [0]), (2, [0]), (3, [0]), (4, [2])], [], []⟩
theorem T59_sch : T59.sch = [] := (rfl)
theorem T59_reg : T59.reg = [(0, [0]), (1, [0]), (2, [0]), (3, [0]), (4, [2])] := (rfl)
theorem T59_loops : T59.loops = [] := (rfl)
def T60 : Tab := ⟨[(0, [0, 1, 2]), (1, [6])], [], []⟩
theorem T60_sch : T60.sch = [] := (rfl)
theorem T60_reg : T60.reg = [(0, [0, 1, 2]), (1, [6])] := (rfl)
theorem T60_loops : T60.loops = [] := (rfl)
def T61 : Tab := ⟨[(0, [0, 1, 2, 3, 4]), (1, [0, 1, 2, 3, 4]), (2, [0, 1, 2, 4]), (3, [2]), (4, [10])], [], []⟩
theorem T61_sch : T61.sch = [] := (rfl)
theorem T61_reg : T61.reg = [(0, [0, 1, 2, 3, 4]), (1, [0, 1, 2, 3, 4]), (2, [0, 1, 2, 4]), (3, [2]), (4, [10])] := (rfl)
theorem T61_loops : T61.loops = [] := (rfl)
def T62 : Tab := ⟨[(0, [0]), (1, [2])], [], []⟩
theorem T62_sch : T62.sch = [] := (rfl)
theorem T62_reg : T62.reg = [(0, [0]), (1, [2])] := (rfl)
theorem T62_loops : T62.loops = [] := (rfl)
def T63 : Tab := ⟨[(0, [0, 2]), (1, [2, 4]), (2, [2, 4, 6]), (3, [2, 4]), (4, [2])], [(0, [2, 4])], []⟩
theorem T63_sch : T63.sch = [] := (rfl)
theorem T63_reg : T63.reg = [(0, [0, 2]), (1, [2, 4]), (2, [2, 4, 6]), (3, [2, 4]), (4, [2])] := (rfl)
theorem T63_loops : T63.loops = [(0, [2, 4])] := (rfl)
def T64 : Tab := ⟨[(0, [0]), (1, [0, 10]), (2, [2, 3]), (3, [2, 3])], [], []⟩
theorem T64_sch : T64.sch = [] := (rfl)
theorem T64_reg : T64.reg = [(0, [0]), (1, [0, 10]), (2, [2, 3]), (3, [2, 3])] := (rfl)
theorem T64_loops : T64.loops = [] := (rfl)
def T66 : Tab := ⟨[(0, [0, 1]), (1, [0, 1, 5]), (2, [0, 1, 5, 16]), (3, [4]), (4, [0, 1, 5, 24]), (5, [4]), (6, [0, 1, 5, 31]), (7, [4]), (8, [0, 1, 5, 36]), (9, [4]), (10, [0, 1, 5, 6]), (11, [0, 1, 5, 6, 7]), (12, [0, 1, 5, 6, 7, 8]), (13, [0, 1, 5, 6, 7, 8, 9]), (14, [0, 1, 5, 6, 7, 8, 9, 10]), (15, [0, 1, 5, 6, 7, 8, 9, 10, 59]), (16, [0, 1, 5, 6, 7, 8, 9, 10, 64]), (17, [0, 1, 5, 6, 7, 8, 9, 10, 11]), (18, [0, 1, 5, 6, 7, 8, 9, 10, 11, 73]), (19, [4]), (20, [0, 1, 5, 6, 7, 8, 9, 10]), (21, [0, 1, 5, 6, 7, 8, 9, 10, 93]), (22, [4]), (23, [0, 1, 5, 6, 7, 8, 9, 10]), (24, [0, 1, 5, 6, 7, 8, 9, 10]), (25, [0, 1, 5, 6, 7, 8, 9, 10, 107]), (26, [8, 12]), (27, [8, 12, 114]), (28, [4]), (29, [4]), (30, [0, 1, 5, 6, 7, 8, 9, 10, 132]), (31, [8, 13]), (32, [8, 13, 139]), (33, [4]), (34, [4]), (35, [4])], [(1, [0, 1, 5, 6, 7, 8, 9, 10])], []⟩
theorem T66_sch : T66.sch = [] := (rfl)
theorem T66_reg : T66.reg = [(0, [0, 1]), (1, [0, 1, 5]), (2, [0, 1, 5, 16]), (3, [4]), (4, [0, 1, 5, 24]), (5, [4]), (6, [0, 1, 5, 31]), (7, [4]), (8, [0, 1, 5, 36]), (9, [4]), (10, [0, 1, 5, 6]), (11, [0, 1, 5, 6, 7]), (12, [0, 1, 5, 6, 7, 8]), (13, [0, 1, 5, 6, 7, 8, 9]), (14, [0, 1, 5, 6, 7, 8, 9, 10]), (15, [0, 1, 5, 6, 7, 8, 9, 10, 59]), (16, [0, 1, 5, 6, 7, 8, 9, 10, 64]), (17, [0, 1, 5, 6, 7, 8, 9, 10, 11]), (18, [0, 1, 5, 6, 7, 8, 9, 10, 11, 73]), (19, [4]), (20, [0, 1, 5, 6, 7, 8, 9, 10]), (21, [0, 1, 5, 6, 7, 8, 9, 10, 93]), (22, [4]), (23, [0, 1, 5, 6, 7, 8, 9, 10]), (24, [0, 1, 5, 6, 7, 8, 9, 10]), (25, [0, 1, 5, 6, 7, 8, 9, 10, 107]), (26, [8, 12]), (27, [8, 12, 114]), (28, [4]), (29, [4]), (30, [0, 1, 5, 6, 7, 8, 9, 10, 132]), (31, [8, 13]), (32, [8, 13, 139]), (33, [4]), (34, [4]), (35, [4])] := (rfl)
theorem T66_loops : T66.loops = [(1, [0, 1, 5, 6, 7, 8, 9, 10])] := (rfl)
def T67 : Tab := ⟨[(0, [0, 1, 2, 3]), (1, [1, 2, 3, 18]), (2, [1, 2]), (3, [8, 9]), (4, [8, 9])], [], []⟩
theorem T67_sch : T67.sch = [] := (rfl)
theorem T67_reg : T67.reg = [(0, [0, 1, 2, 3]), (1, [1, 2, 3, 18]), (2, [1, 2]), (3, [8, 9]), (4, [8, 9])] := (rfl)
theorem T67_loops : T67.loops = [] := (rfl)
def T68 : Tab := ⟨[(0, [0]), (1, [0, 4]), (2, [0, 4, 16]), (3, [2, 3]), (4, [0, 4, 5]), (5, [0, 4, 5, 6]), (6, [0, 4, 5, 6, 23]), (7, [0, 7]), (8, [2, 3]), (9, [0, 4, 5, 6, 8]), (10, [0, 4, 5, 8, 9]), (11, [0, 5, 8, 9, 45]), (12, [2, 3]), (13, [0, 5, 8, 9, 10]), (14, [0, 5, 8, 10, 57]), (15, [2, 3]), (16, [0, 5, 8, 10, 59]), (17, [2, 3]), (18, [0, 5, 8, 10, 11]), (19, [0, 5, 8, 10, 11, 75]), (20, [2, 3]), (21, [0, 5, 10, 11, 77]), (22, [2, 3]), (23, [5, 10, 11, 12]), (24, [5, 10, 11, 12, 98]), (25, [2, 3]), (26, [2, 3])], [], []⟩
theorem T68_sch : T68.sch = [] := (rfl)
theorem T68_reg : T68.reg = [(0, [0]), (1, [0, 4]), (2, [0, 4, 16]), (3, [2, 3]), (4, [0, 4, 5]), (5, [0, 4, 5, 6]), (6, [0, 4, 5, 6, 23]), (7, [0, 7]), (8, [2, 3]), (9, [0, 4, 5, 6, 8]), (10, [0, 4, 5, 8, 9]), (11, [0, 5, 8, 9, 45]), (12, [2, 3]), (13, [0, 5, 8, 9, 10]), (14, [0, 5, 8, 10, 57]), (15, [2, 3]), (16, [0, 5, 8, 10, 59]), (17, [2, 3]), (18, [0, 5, 8, 10, 11]), (19, [0, 5, 8, 10, 11, 75]), (20, [2, 3]), (21, [0, 5, 10, 11, 77]), (22, [2, 3]), (23, [5, 10, 11, 12]), (24, [5, 10, 11, 12, 98]), (25, [2, 3]), (26, [2, 3])] := (rfl)
theorem T68_loops : T68.loops = [] := (rfl)
def T69 : Tab := ⟨[(0, [0, 1]), (1, [0, 1, 5, 6]), (2, [0, 1, 5, 6, 7]), (3, [0, 1, 5, 6, 7, 8]), (4, [0, 1, 5, 6, 7, 8, 9]), (5, [0, 1, 5, 6, 7, 8, 9, 20]), (6, [0, 1, 5, 6, 7, 8, 9]), (7, [0, 1, 5, 6, 7, 8, 9]), (8, [0, 1, 5, 6, 7, 8, 39]), (9, [4]), (10, [0, 1, 5, 6, 7, 8, 10]), (11, [0, 1, 5, 6, 7, 8, 10, 44]), (12, [0, 1, 5, 6, 7, 8, 10]), (13, [0, 1, 5, 6, 7, 8, 10]), (14, [0, 1, 5, 6, 7, 8, 10]), (15, [0, 1, 5, 6, 7, 8, 10]), (16, [0, 1, 5, 6, 7, 8, 10, 77]), (17, [4]), (18, [4])], [(0, [0, 1, 5, 6, 7, 8, 9]), (2, [0, 1, 5, 6, 7, 8, 10])], []⟩
theorem T69_sch : T69.sch = [] := (rfl)
theorem T69_reg : T69.reg = [(0, [0, 1]), (1, [0, 1, 5, 6]), (2, [0, 1, 5, 6, 7]), (3, [0, 1, 5, 6, 7, 8]), (4, [0, 1, 5, 6, 7, 8, 9]), (5, [0, 1, 5, 6, 7, 8, 9, 20]), (6, [0, 1, 5, 6, 7, 8, 9]), (7, [0, 1, 5, 6, 7, 8, 9]), (8, [0, 1, 5, 6, 7, 8, 39]), (9, [4]), (10, [0, 1, 5, 6, 7, 8, 10]), (11, [0, 1, 5, 6, 7, 8, 10, 44]), (12, [0, 1, 5, 6, 7, 8, 10]), (13, [0, 1, 5, 6, 7, 8, 10]), (14, [0, 1, 5, 6, 7, 8, 10]), (15, [0, 1, 5, 6, 7, 8, 10]), (16, [0, 1, 5, 6, 7, 8, 10, 77]), (17, [4]), (18, [4])] := (rfl)
theorem T69_loops : T69.loops = [(0, [0, 1, 5, 6, 7, 8, 9]), (2, [0, 1, 5, 6, 7, 8, 10])] := (rfl)
def T70 : Tab := ⟨[(0, [0]), (1, [0, 4]), (2, [0, 4, 5]), (3, [0, 4, 5, 12]), (4, [0, 4, 5]), (5, [0, 4, 5]), (6, [0, 4, 6, 7]), (7, [4, 6, 7, 8]), (8, [4, 6, 7, 8, 25]), (9, [4, 6, 7, 8]), (10, [4, 6, 7, 8, 30]), (11, [4, 6, 7, 8]), (12, [4, 6, 7, 8]), (13, [2, 3])], [(0, [0, 4, 5]), (2, [4, 6, 7, 8])], []⟩
theorem T70_sch : T70.sch = [] := (rfl)
theorem T70_reg : T70.reg = [(0, [0]), (1, [0, 4]), (2, [0, 4, 5]), (3, [0, 4, 5, 12]), (4, [0, 4, 5]), (5, [0, 4, 5]), (6, [0, 4, 6, 7]), (7, [4, 6, 7, 8]), (8, [4, 6, 7, 8, 25]), (9, [4, 6, 7, 8]), (10, [4, 6, 7, 8, 30]), (11, [4, 6, 7, 8]), (12, [4, 6, 7, 8]), (13, [2, 3])] := (rfl)
theorem T70_loops : T70.loops = [(0, [0, 4, 5]), (2, [4, 6, 7, 8])] := (rfl)
def T92 : Tab := ⟨[(0, [])], [], []⟩
theorem T92_sch : T92.sch = [] := (rfl)
theorem T92_reg : T92.reg = [(0, [])] := (rfl)
theorem T92_loops : T92.loops = [] := (rfl)
attribute [go_sem] T2_reg T2_loops T2_sch T3_reg T3_loops T3_sch T4_reg T4_loops T4_sch T5_reg T5_loops T5_sch T6_reg T6_loops T6_sch T7_reg T7_loops T7_sch T8_reg T8_loops T8_sch T9_reg T9_loops T9_sch T10_reg T10_loops T10_sch T11_reg T11_loops T11_sch T12_reg T12_loops T12_sch T13_reg T13_loops T13_sch T14_reg T14_loops T14_sch T15_reg T15_loops T15_sch T16_reg T16_loops T16_sch T17_reg T17_loops T17_sch T18_reg T18_loops T18_sch T19_reg T19_loops T19_sch T20_reg T20_loops T20_sch T21_reg T21_loops T21_sch T22_reg T22_loops T22_sch T23_reg T23_loops T23_sch T24_reg T24_loops T24_sch T25_reg T25_loops T25_sch T26_reg T26_loops T26_sch T27_reg T27_loops T27_sch T28_reg T28_loops T28_sch T29_reg T29_loops T29_sch T30_reg T30_loops T30_sch T31_reg T31_loops T31_sch T32_reg T32_loops T32_sch T33_reg T33_loops T33_sch T35_reg T35_loops T35_sch T37_reg T37_loops T37_sch T38_reg T38_loops T38_sch T39_reg T39_loops T39_sch T40_reg T40_loops T40_sch T41_reg T41_loops T41_sch T42_reg T42_loops T42_sch T43_reg T43_loops T43_sch T44_reg T44_loops T44_sch T45_reg T45_loops T45_sch T46_reg T46_loops T46_sch T47_reg T47_loops T47_sch T48_reg T48_loops T48_sch T49_reg T49_loops T49_sch T50_reg T50_loops T50_sch T51_reg T51_loops T51_sch T52_reg T52_loops T52_sch T53_reg T53_loops T53_sch T54_reg T54_loops T54_sch T55_reg T55_loops T55_sch T57_reg T57_loops T57_sch T58_reg T58_loops T58_sch T59_reg T59_loops T59_sch T60_reg T60_loops T60_sch T61_reg T61_loops T61_sch T62_reg T62_loops T62_sch T63_reg T63_loops T63_sch T64_reg T64_loops T64_sch T66_reg T66_loops T66_sch T67_reg T67_loops T67_sch T68_reg T68_loops T68_sch T69_reg T69_loops T69_sch T70_reg T70_loops T70_sch T92_reg T92_loops T92_sch
theorem mixed : Tryd.prog.follows .mixedOrders = true := by kernel_rfl
end Go.Eng
