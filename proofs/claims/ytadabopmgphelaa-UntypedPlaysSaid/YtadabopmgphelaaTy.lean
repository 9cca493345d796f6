/-
  FACTS ON THE PROGRAM: types, fields, functions (closed, each reckoned by the kernel), and each function's table of live slots. Printed by mk.py.
-/
import Derived.Test.YtadabopmgphelaaEng9
import Derived.Test.YtadabopmgphelaaProg
import Derived.KernelRfl
namespace Go.Eng
open Go Go.Proofs
theorem tsz_0 : tsz Try.prog 0 = some 1 := by kernel_rfl
theorem aggB_0 : aggB Try.prog 0 = some false := by kernel_rfl
theorem tszD_0 : tszD Try.prog 0 = 1 := by kernel_rfl
theorem tbytes_0 : tbytes Try.prog 0 = some 0 := by kernel_rfl
theorem tzeroD_0 : tzeroD Try.prog 0 = .tuple #[] := by kernel_rfl
theorem tzero_0 : tzero Try.prog 0 = some (.tuple #[]) := by kernel_rfl
theorem tsz_3 : tsz Try.prog 3 = some 1 := by kernel_rfl
theorem aggB_3 : aggB Try.prog 3 = some false := by kernel_rfl
theorem tszD_3 : tszD Try.prog 3 = 1 := by kernel_rfl
theorem tbytes_3 : tbytes Try.prog 3 = some 8 := by kernel_rfl
theorem isInt_3 : isIntB Try.prog 3 = true := by kernel_rfl
theorem intK_3 : intKD Try.prog 3 = .i64 := by kernel_rfl
theorem tzeroD_3 : tzeroD Try.prog 3 = .int .i64 0 := by kernel_rfl
theorem tzero_3 : tzero Try.prog 3 = some (.int .i64 0) := by kernel_rfl
theorem tsz_4 : tsz Try.prog 4 = some 1 := by kernel_rfl
theorem aggB_4 : aggB Try.prog 4 = some false := by kernel_rfl
theorem tszD_4 : tszD Try.prog 4 = 1 := by kernel_rfl
theorem tbytes_4 : tbytes Try.prog 4 = some 1 := by kernel_rfl
theorem tzeroD_4 : tzeroD Try.prog 4 = .bool false := by kernel_rfl
theorem tzero_4 : tzero Try.prog 4 = some (.bool false) := by kernel_rfl
theorem tsz_5 : tsz Try.prog 5 = some 1 := by kernel_rfl
theorem aggB_5 : aggB Try.prog 5 = some false := by kernel_rfl
theorem tszD_5 : tszD Try.prog 5 = 1 := by kernel_rfl
theorem tbytes_5 : tbytes Try.prog 5 = some 1 := by kernel_rfl
theorem isInt_5 : isIntB Try.prog 5 = true := by kernel_rfl
theorem intK_5 : intKD Try.prog 5 = .u8 := by kernel_rfl
theorem tzeroD_5 : tzeroD Try.prog 5 = .int .u8 0 := by kernel_rfl
theorem tzero_5 : tzero Try.prog 5 = some (.int .u8 0) := by kernel_rfl
theorem tsz_9 : tsz Try.prog 9 = some 1 := by kernel_rfl
theorem aggB_9 : aggB Try.prog 9 = some false := by kernel_rfl
theorem tszD_9 : tszD Try.prog 9 = 1 := by kernel_rfl
theorem tbytes_9 : tbytes Try.prog 9 = some 16 := by kernel_rfl
theorem tzeroD_9 : tzeroD Try.prog 9 = .string ByteArray.empty := by kernel_rfl
theorem tzero_9 : tzero Try.prog 9 = some (.string ByteArray.empty) := by kernel_rfl
theorem tsz_23 : tsz Try.prog 23 = some 1 := by kernel_rfl
theorem aggB_23 : aggB Try.prog 23 = some false := by kernel_rfl
theorem tszD_23 : tszD Try.prog 23 = 1 := by kernel_rfl
theorem tbytes_23 : tbytes Try.prog 23 = some 8 := by kernel_rfl
theorem isInt_23 : isIntB Try.prog 23 = true := by kernel_rfl
theorem intK_23 : intKD Try.prog 23 = .i64 := by kernel_rfl
theorem tzeroD_23 : tzeroD Try.prog 23 = .int .i64 0 := by kernel_rfl
theorem tzero_23 : tzero Try.prog 23 = some (.int .i64 0) := by kernel_rfl
theorem tsz_24 : tsz Try.prog 24 = some 1 := by kernel_rfl
theorem aggB_24 : aggB Try.prog 24 = some false := by kernel_rfl
theorem tszD_24 : tszD Try.prog 24 = 1 := by kernel_rfl
theorem tbytes_24 : tbytes Try.prog 24 = some 0 := by kernel_rfl
theorem tzeroD_24 : tzeroD Try.prog 24 = .tuple #[.int .i64 0, .int .i64 0] := by kernel_rfl
theorem tzero_24 : tzero Try.prog 24 = some (.tuple #[.int .i64 0, .int .i64 0]) := by kernel_rfl
theorem tsz_27 : tsz Try.prog 27 = some 4 := by kernel_rfl
theorem aggB_27 : aggB Try.prog 27 = some true := by kernel_rfl
theorem tszD_27 : tszD Try.prog 27 = 4 := by kernel_rfl
theorem tbytes_27 : tbytes Try.prog 27 = some 32 := by kernel_rfl
theorem tzeroD_27 : tzeroD Try.prog 27 = .agg #[.int .i64 0, .int .i64 0, .int .i64 0, .bool false] := by kernel_rfl
theorem tzero_27 : tzero Try.prog 27 = some (.agg #[.int .i64 0, .int .i64 0, .int .i64 0, .bool false]) := by kernel_rfl
theorem tsz_28 : tsz Try.prog 28 = some 4 := by kernel_rfl
theorem aggB_28 : aggB Try.prog 28 = some true := by kernel_rfl
theorem tszD_28 : tszD Try.prog 28 = 4 := by kernel_rfl
theorem tbytes_28 : tbytes Try.prog 28 = some 32 := by kernel_rfl
theorem tzeroD_28 : tzeroD Try.prog 28 = .agg #[.int .i64 0, .int .i64 0, .int .i64 0, .bool false] := by kernel_rfl
theorem tzero_28 : tzero Try.prog 28 = some (.agg #[.int .i64 0, .int .i64 0, .int .i64 0, .bool false]) := by kernel_rfl
theorem tsz_29 : tsz Try.prog 29 = some 1 := by kernel_rfl
theorem aggB_29 : aggB Try.prog 29 = some false := by kernel_rfl
theorem tszD_29 : tszD Try.prog 29 = 1 := by kernel_rfl
theorem tbytes_29 : tbytes Try.prog 29 = some 24 := by kernel_rfl
theorem isSlice_29 : isSliceB Try.prog 29 = true := by kernel_rfl
theorem ssz_29 : sliceSz Try.prog 29 = 10 := by kernel_rfl
theorem selem_29 : sliceElem Try.prog 29 = 35 := by kernel_rfl
theorem tzeroD_29 : tzeroD Try.prog 29 = .slice none 0 0 := by kernel_rfl
theorem tzero_29 : tzero Try.prog 29 = some (.slice none 0 0) := by kernel_rfl
theorem tsz_30 : tsz Try.prog 30 = some 1 := by kernel_rfl
theorem aggB_30 : aggB Try.prog 30 = some false := by kernel_rfl
theorem tszD_30 : tszD Try.prog 30 = 1 := by kernel_rfl
theorem tbytes_30 : tbytes Try.prog 30 = some 8 := by kernel_rfl
theorem isPtr_30 : isPtrB Try.prog 30 = true := by kernel_rfl
theorem tzeroD_30 : tzeroD Try.prog 30 = .pointer none := by kernel_rfl
theorem tzero_30 : tzero Try.prog 30 = some (.pointer none) := by kernel_rfl
theorem tsz_34 : tsz Try.prog 34 = some 10 := by kernel_rfl
theorem aggB_34 : aggB Try.prog 34 = some true := by kernel_rfl
theorem tszD_34 : tszD Try.prog 34 = 10 := by kernel_rfl
theorem tbytes_34 : tbytes Try.prog 34 = some 80 := by kernel_rfl
theorem tzeroD_34 : tzeroD Try.prog 34 = .agg #[.int .i64 0, .int .i64 0, .int .i64 0, .int .i64 0, .int .i64 0, .bool false, .int .i64 0, .int .i64 0, .int .i64 0, .int .i64 0] := by kernel_rfl
theorem tzero_34 : tzero Try.prog 34 = some (.agg #[.int .i64 0, .int .i64 0, .int .i64 0, .int .i64 0, .int .i64 0, .bool false, .int .i64 0, .int .i64 0, .int .i64 0, .int .i64 0]) := by kernel_rfl
theorem tsz_35 : tsz Try.prog 35 = some 10 := by kernel_rfl
theorem aggB_35 : aggB Try.prog 35 = some true := by kernel_rfl
theorem tszD_35 : tszD Try.prog 35 = 10 := by kernel_rfl
theorem tbytes_35 : tbytes Try.prog 35 = some 80 := by kernel_rfl
theorem tzeroD_35 : tzeroD Try.prog 35 = .agg #[.int .i64 0, .int .i64 0, .int .i64 0, .int .i64 0, .int .i64 0, .bool false, .int .i64 0, .int .i64 0, .int .i64 0, .int .i64 0] := by kernel_rfl
theorem tzero_35 : tzero Try.prog 35 = some (.agg #[.int .i64 0, .int .i64 0, .int .i64 0, .int .i64 0, .int .i64 0, .bool false, .int .i64 0, .int .i64 0, .int .i64 0, .int .i64 0]) := by kernel_rfl
theorem tsz_36 : tsz Try.prog 36 = some 1 := by kernel_rfl
theorem aggB_36 : aggB Try.prog 36 = some false := by kernel_rfl
theorem tszD_36 : tszD Try.prog 36 = 1 := by kernel_rfl
theorem tbytes_36 : tbytes Try.prog 36 = some 0 := by kernel_rfl
theorem tzeroD_36 : tzeroD Try.prog 36 = .tuple #[.agg #[.int .i64 0, .int .i64 0, .int .i64 0, .bool false], .int .i64 0] := by kernel_rfl
theorem tzero_36 : tzero Try.prog 36 = some (.tuple #[.agg #[.int .i64 0, .int .i64 0, .int .i64 0, .bool false], .int .i64 0]) := by kernel_rfl
theorem tsz_40 : tsz Try.prog 40 = some 1 := by kernel_rfl
theorem aggB_40 : aggB Try.prog 40 = some false := by kernel_rfl
theorem tszD_40 : tszD Try.prog 40 = 1 := by kernel_rfl
theorem tbytes_40 : tbytes Try.prog 40 = some 24 := by kernel_rfl
theorem isSlice_40 : isSliceB Try.prog 40 = true := by kernel_rfl
theorem ssz_40 : sliceSz Try.prog 40 = 1 := by kernel_rfl
theorem selem_40 : sliceElem Try.prog 40 = 5 := by kernel_rfl
theorem tzeroD_40 : tzeroD Try.prog 40 = .slice none 0 0 := by kernel_rfl
theorem tzero_40 : tzero Try.prog 40 = some (.slice none 0 0) := by kernel_rfl
theorem tsz_41 : tsz Try.prog 41 = some 1 := by kernel_rfl
theorem aggB_41 : aggB Try.prog 41 = some false := by kernel_rfl
theorem tszD_41 : tszD Try.prog 41 = 1 := by kernel_rfl
theorem tbytes_41 : tbytes Try.prog 41 = some 8 := by kernel_rfl
theorem isPtr_41 : isPtrB Try.prog 41 = true := by kernel_rfl
theorem tzeroD_41 : tzeroD Try.prog 41 = .pointer none := by kernel_rfl
theorem tzero_41 : tzero Try.prog 41 = some (.pointer none) := by kernel_rfl
theorem tsz_42 : tsz Try.prog 42 = some 1 := by kernel_rfl
theorem aggB_42 : aggB Try.prog 42 = some false := by kernel_rfl
theorem tszD_42 : tszD Try.prog 42 = 1 := by kernel_rfl
theorem tbytes_42 : tbytes Try.prog 42 = some 0 := by kernel_rfl
theorem tzeroD_42 : tzeroD Try.prog 42 = .tuple #[.pointer none, .int .i64 0] := by kernel_rfl
theorem tzero_42 : tzero Try.prog 42 = some (.tuple #[.pointer none, .int .i64 0]) := by kernel_rfl
theorem tsz_45 : tsz Try.prog 45 = some 1 := by kernel_rfl
theorem aggB_45 : aggB Try.prog 45 = some false := by kernel_rfl
theorem tszD_45 : tszD Try.prog 45 = 1 := by kernel_rfl
theorem tbytes_45 : tbytes Try.prog 45 = some 4 := by kernel_rfl
theorem isInt_45 : isIntB Try.prog 45 = true := by kernel_rfl
theorem intK_45 : intKD Try.prog 45 = .u32 := by kernel_rfl
theorem tzeroD_45 : tzeroD Try.prog 45 = .int .u32 0 := by kernel_rfl
theorem tzero_45 : tzero Try.prog 45 = some (.int .u32 0) := by kernel_rfl
theorem tsz_46 : tsz Try.prog 46 = some 32 := by kernel_rfl
theorem aggB_46 : aggB Try.prog 46 = some true := by kernel_rfl
theorem tszD_46 : tszD Try.prog 46 = 32 := by kernel_rfl
theorem tbytes_46 : tbytes Try.prog 46 = some 768 := by kernel_rfl
theorem isArr_46 : isArrB Try.prog 46 = true := by kernel_rfl
theorem arrLen_46 : arrLen Try.prog 46 = 32 := by kernel_rfl
theorem arrSz_46 : arrSz Try.prog 46 = 1 := by kernel_rfl
theorem tzeroD_46 : tzeroD Try.prog 46 = .agg #[.slice none 0 0, .slice none 0 0, .slice none 0 0, .slice none 0 0, .slice none 0 0, .slice none 0 0, .slice none 0 0, .slice none 0 0, .slice none 0 0, .slice none 0 0, .slice none 0 0, .slice none 0 0, .slice none 0 0, .slice none 0 0, .slice none 0 0, .slice none 0 0, .slice none 0 0, .slice none 0 0, .slice none 0 0, .slice none 0 0, .slice none 0 0, .slice none 0 0, .slice none 0 0, .slice none 0 0, .slice none 0 0, .slice none 0 0, .slice none 0 0, .slice none 0 0, .slice none 0 0, .slice none 0 0, .slice none 0 0, .slice none 0 0] := by kernel_rfl
theorem tzero_46 : tzero Try.prog 46 = some (.agg #[.slice none 0 0, .slice none 0 0, .slice none 0 0, .slice none 0 0, .slice none 0 0, .slice none 0 0, .slice none 0 0, .slice none 0 0, .slice none 0 0, .slice none 0 0, .slice none 0 0, .slice none 0 0, .slice none 0 0, .slice none 0 0, .slice none 0 0, .slice none 0 0, .slice none 0 0, .slice none 0 0, .slice none 0 0, .slice none 0 0, .slice none 0 0, .slice none 0 0, .slice none 0 0, .slice none 0 0, .slice none 0 0, .slice none 0 0, .slice none 0 0, .slice none 0 0, .slice none 0 0, .slice none 0 0, .slice none 0 0, .slice none 0 0]) := by kernel_rfl
theorem tsz_47 : tsz Try.prog 47 = some 1 := by kernel_rfl
theorem aggB_47 : aggB Try.prog 47 = some false := by kernel_rfl
theorem tszD_47 : tszD Try.prog 47 = 1 := by kernel_rfl
theorem tbytes_47 : tbytes Try.prog 47 = some 0 := by kernel_rfl
theorem tzeroD_47 : tzeroD Try.prog 47 = .tuple #[.slice none 0 0, .int .i64 0] := by kernel_rfl
theorem tzero_47 : tzero Try.prog 47 = some (.tuple #[.slice none 0 0, .int .i64 0]) := by kernel_rfl
theorem tsz_50 : tsz Try.prog 50 = some 1 := by kernel_rfl
theorem aggB_50 : aggB Try.prog 50 = some false := by kernel_rfl
theorem tszD_50 : tszD Try.prog 50 = 1 := by kernel_rfl
theorem tbytes_50 : tbytes Try.prog 50 = some 8 := by kernel_rfl
theorem isPtr_50 : isPtrB Try.prog 50 = true := by kernel_rfl
theorem tzeroD_50 : tzeroD Try.prog 50 = .pointer none := by kernel_rfl
theorem tzero_50 : tzero Try.prog 50 = some (.pointer none) := by kernel_rfl
theorem tsz_52 : tsz Try.prog 52 = some 1 := by kernel_rfl
theorem aggB_52 : aggB Try.prog 52 = some false := by kernel_rfl
theorem tszD_52 : tszD Try.prog 52 = 1 := by kernel_rfl
theorem tbytes_52 : tbytes Try.prog 52 = some 8 := by kernel_rfl
theorem isPtr_52 : isPtrB Try.prog 52 = true := by kernel_rfl
theorem tzeroD_52 : tzeroD Try.prog 52 = .pointer none := by kernel_rfl
theorem tzero_52 : tzero Try.prog 52 = some (.pointer none) := by kernel_rfl
theorem tsz_53 : tsz Try.prog 53 = some 1 := by kernel_rfl
theorem aggB_53 : aggB Try.prog 53 = some false := by kernel_rfl
theorem tszD_53 : tszD Try.prog 53 = 1 := by kernel_rfl
theorem tbytes_53 : tbytes Try.prog 53 = some 24 := by kernel_rfl
theorem isSlice_53 : isSliceB Try.prog 53 = true := by kernel_rfl
theorem ssz_53 : sliceSz Try.prog 53 = 4 := by kernel_rfl
theorem selem_53 : sliceElem Try.prog 53 = 28 := by kernel_rfl
theorem tzeroD_53 : tzeroD Try.prog 53 = .slice none 0 0 := by kernel_rfl
theorem tzero_53 : tzero Try.prog 53 = some (.slice none 0 0) := by kernel_rfl
theorem tsz_54 : tsz Try.prog 54 = some 1 := by kernel_rfl
theorem aggB_54 : aggB Try.prog 54 = some true := by kernel_rfl
theorem tszD_54 : tszD Try.prog 54 = 1 := by kernel_rfl
theorem tbytes_54 : tbytes Try.prog 54 = some 24 := by kernel_rfl
theorem tzeroD_54 : tzeroD Try.prog 54 = .agg #[.slice none 0 0] := by kernel_rfl
theorem tzero_54 : tzero Try.prog 54 = some (.agg #[.slice none 0 0]) := by kernel_rfl
theorem tsz_55 : tsz Try.prog 55 = some 1 := by kernel_rfl
theorem aggB_55 : aggB Try.prog 55 = some true := by kernel_rfl
theorem tszD_55 : tszD Try.prog 55 = 1 := by kernel_rfl
theorem tbytes_55 : tbytes Try.prog 55 = some 24 := by kernel_rfl
theorem tzeroD_55 : tzeroD Try.prog 55 = .agg #[.slice none 0 0] := by kernel_rfl
theorem tzero_55 : tzero Try.prog 55 = some (.agg #[.slice none 0 0]) := by kernel_rfl
theorem tsz_56 : tsz Try.prog 56 = some 1 := by kernel_rfl
theorem aggB_56 : aggB Try.prog 56 = some false := by kernel_rfl
theorem tszD_56 : tszD Try.prog 56 = 1 := by kernel_rfl
theorem tbytes_56 : tbytes Try.prog 56 = some 8 := by kernel_rfl
theorem isPtr_56 : isPtrB Try.prog 56 = true := by kernel_rfl
theorem tzeroD_56 : tzeroD Try.prog 56 = .pointer none := by kernel_rfl
theorem tzero_56 : tzero Try.prog 56 = some (.pointer none) := by kernel_rfl
theorem tsz_57 : tsz Try.prog 57 = some 1 := by kernel_rfl
theorem aggB_57 : aggB Try.prog 57 = some false := by kernel_rfl
theorem tszD_57 : tszD Try.prog 57 = 1 := by kernel_rfl
theorem tbytes_57 : tbytes Try.prog 57 = some 0 := by kernel_rfl
theorem tzeroD_57 : tzeroD Try.prog 57 = .tuple #[.pointer none, .int .i64 0] := by kernel_rfl
theorem tzero_57 : tzero Try.prog 57 = some (.tuple #[.pointer none, .int .i64 0]) := by kernel_rfl
theorem tsz_64 : tsz Try.prog 64 = some 1 := by kernel_rfl
theorem aggB_64 : aggB Try.prog 64 = some false := by kernel_rfl
theorem tszD_64 : tszD Try.prog 64 = 1 := by kernel_rfl
theorem tbytes_64 : tbytes Try.prog 64 = some 8 := by kernel_rfl
theorem intMap_64 : intMapB Try.prog 64 = true := by kernel_rfl
theorem elemT_64 : elemT Try.prog 64 = 67 := by kernel_rfl
theorem tzeroD_64 : tzeroD Try.prog 64 = .map none := by kernel_rfl
theorem tzero_64 : tzero Try.prog 64 = some (.map none) := by kernel_rfl
theorem tsz_65 : tsz Try.prog 65 = some 1 := by kernel_rfl
theorem aggB_65 : aggB Try.prog 65 = some true := by kernel_rfl
theorem tszD_65 : tszD Try.prog 65 = 1 := by kernel_rfl
theorem tbytes_65 : tbytes Try.prog 65 = some 8 := by kernel_rfl
theorem tzeroD_65 : tzeroD Try.prog 65 = .agg #[.map none] := by kernel_rfl
theorem tzero_65 : tzero Try.prog 65 = some (.agg #[.map none]) := by kernel_rfl
theorem tsz_66 : tsz Try.prog 66 = some 1 := by kernel_rfl
theorem aggB_66 : aggB Try.prog 66 = some true := by kernel_rfl
theorem tszD_66 : tszD Try.prog 66 = 1 := by kernel_rfl
theorem tbytes_66 : tbytes Try.prog 66 = some 8 := by kernel_rfl
theorem tzeroD_66 : tzeroD Try.prog 66 = .agg #[.map none] := by kernel_rfl
theorem tzero_66 : tzero Try.prog 66 = some (.agg #[.map none]) := by kernel_rfl
theorem tsz_67 : tsz Try.prog 67 = some 1 := by kernel_rfl
theorem aggB_67 : aggB Try.prog 67 = some false := by kernel_rfl
theorem tszD_67 : tszD Try.prog 67 = 1 := by kernel_rfl
theorem tbytes_67 : tbytes Try.prog 67 = some 8 := by kernel_rfl
theorem isPtr_67 : isPtrB Try.prog 67 = true := by kernel_rfl
theorem tzeroD_67 : tzeroD Try.prog 67 = .pointer none := by kernel_rfl
theorem tzero_67 : tzero Try.prog 67 = some (.pointer none) := by kernel_rfl
theorem tsz_68 : tsz Try.prog 68 = some 1 := by kernel_rfl
theorem aggB_68 : aggB Try.prog 68 = some false := by kernel_rfl
theorem tszD_68 : tszD Try.prog 68 = 1 := by kernel_rfl
theorem tbytes_68 : tbytes Try.prog 68 = some 24 := by kernel_rfl
theorem isSlice_68 : isSliceB Try.prog 68 = true := by kernel_rfl
theorem ssz_68 : sliceSz Try.prog 68 = 64 := by kernel_rfl
theorem selem_68 : sliceElem Try.prog 68 = 73 := by kernel_rfl
theorem tzeroD_68 : tzeroD Try.prog 68 = .slice none 0 0 := by kernel_rfl
theorem tzero_68 : tzero Try.prog 68 = some (.slice none 0 0) := by kernel_rfl
theorem tsz_69 : tsz Try.prog 69 = some 1 := by kernel_rfl
theorem aggB_69 : aggB Try.prog 69 = some true := by kernel_rfl
theorem tszD_69 : tszD Try.prog 69 = 1 := by kernel_rfl
theorem tbytes_69 : tbytes Try.prog 69 = some 24 := by kernel_rfl
theorem tzeroD_69 : tzeroD Try.prog 69 = .agg #[.slice none 0 0] := by kernel_rfl
theorem tzero_69 : tzero Try.prog 69 = some (.agg #[.slice none 0 0]) := by kernel_rfl
theorem tsz_70 : tsz Try.prog 70 = some 1 := by kernel_rfl
theorem aggB_70 : aggB Try.prog 70 = some true := by kernel_rfl
theorem tszD_70 : tszD Try.prog 70 = 1 := by kernel_rfl
theorem tbytes_70 : tbytes Try.prog 70 = some 24 := by kernel_rfl
theorem tzeroD_70 : tzeroD Try.prog 70 = .agg #[.slice none 0 0] := by kernel_rfl
theorem tzero_70 : tzero Try.prog 70 = some (.agg #[.slice none 0 0]) := by kernel_rfl
theorem tsz_73 : tsz Try.prog 73 = some 64 := by kernel_rfl
theorem aggB_73 : aggB Try.prog 73 = some true := by kernel_rfl
theorem tszD_73 : tszD Try.prog 73 = 64 := by kernel_rfl
theorem tbytes_73 : tbytes Try.prog 73 = some 64 := by kernel_rfl
theorem isArr_73 : isArrB Try.prog 73 = true := by kernel_rfl
theorem arrLen_73 : arrLen Try.prog 73 = 64 := by kernel_rfl
theorem arrSz_73 : arrSz Try.prog 73 = 1 := by kernel_rfl
theorem tzeroD_73 : tzeroD Try.prog 73 = .agg #[.int .u8 0, .int .u8 0, .int .u8 0, .int .u8 0, .int .u8 0, .int .u8 0, .int .u8 0, .int .u8 0, .int .u8 0, .int .u8 0, .int .u8 0, .int .u8 0, .int .u8 0, .int .u8 0, .int .u8 0, .int .u8 0, .int .u8 0, .int .u8 0, .int .u8 0, .int .u8 0, .int .u8 0, .int .u8 0, .int .u8 0, .int .u8 0, .int .u8 0, .int .u8 0, .int .u8 0, .int .u8 0, .int .u8 0, .int .u8 0, .int .u8 0, .int .u8 0, .int .u8 0, .int .u8 0, .int .u8 0, .int .u8 0, .int .u8 0, .int .u8 0, .int .u8 0, .int .u8 0, .int .u8 0, .int .u8 0, .int .u8 0, .int .u8 0, .int .u8 0, .int .u8 0, .int .u8 0, .int .u8 0, .int .u8 0, .int .u8 0, .int .u8 0, .int .u8 0, .int .u8 0, .int .u8 0, .int .u8 0, .int .u8 0, .int .u8 0, .int .u8 0, .int .u8 0, .int .u8 0, .int .u8 0, .int .u8 0, .int .u8 0, .int .u8 0] := by kernel_rfl
theorem tzero_73 : tzero Try.prog 73 = some (.agg #[.int .u8 0, .int .u8 0, .int .u8 0, .int .u8 0, .int .u8 0, .int .u8 0, .int .u8 0, .int .u8 0, .int .u8 0, .int .u8 0, .int .u8 0, .int .u8 0, .int .u8 0, .int .u8 0, .int .u8 0, .int .u8 0, .int .u8 0, .int .u8 0, .int .u8 0, .int .u8 0, .int .u8 0, .int .u8 0, .int .u8 0, .int .u8 0, .int .u8 0, .int .u8 0, .int .u8 0, .int .u8 0, .int .u8 0, .int .u8 0, .int .u8 0, .int .u8 0, .int .u8 0, .int .u8 0, .int .u8 0, .int .u8 0, .int .u8 0, .int .u8 0, .int .u8 0, .int .u8 0, .int .u8 0, .int .u8 0, .int .u8 0, .int .u8 0, .int .u8 0, .int .u8 0, .int .u8 0, .int .u8 0, .int .u8 0, .int .u8 0, .int .u8 0, .int .u8 0, .int .u8 0, .int .u8 0, .int .u8 0, .int .u8 0, .int .u8 0, .int .u8 0, .int .u8 0, .int .u8 0, .int .u8 0, .int .u8 0, .int .u8 0, .int .u8 0]) := by kernel_rfl
theorem tsz_75 : tsz Try.prog 75 = some 1 := by kernel_rfl
theorem aggB_75 : aggB Try.prog 75 = some true := by kernel_rfl
theorem tszD_75 : tszD Try.prog 75 = 1 := by kernel_rfl
theorem tbytes_75 : tbytes Try.prog 75 = some 24 := by kernel_rfl
theorem tzeroD_75 : tzeroD Try.prog 75 = .agg #[.slice none 0 0] := by kernel_rfl
theorem tzero_75 : tzero Try.prog 75 = some (.agg #[.slice none 0 0]) := by kernel_rfl
theorem tsz_76 : tsz Try.prog 76 = some 1 := by kernel_rfl
theorem aggB_76 : aggB Try.prog 76 = some true := by kernel_rfl
theorem tszD_76 : tszD Try.prog 76 = 1 := by kernel_rfl
theorem tbytes_76 : tbytes Try.prog 76 = some 24 := by kernel_rfl
theorem tzeroD_76 : tzeroD Try.prog 76 = .agg #[.slice none 0 0] := by kernel_rfl
theorem tzero_76 : tzero Try.prog 76 = some (.agg #[.slice none 0 0]) := by kernel_rfl
theorem tsz_77 : tsz Try.prog 77 = some 1 := by kernel_rfl
theorem aggB_77 : aggB Try.prog 77 = some false := by kernel_rfl
theorem tszD_77 : tszD Try.prog 77 = 1 := by kernel_rfl
theorem tbytes_77 : tbytes Try.prog 77 = some 8 := by kernel_rfl
theorem isPtr_77 : isPtrB Try.prog 77 = true := by kernel_rfl
theorem tzeroD_77 : tzeroD Try.prog 77 = .pointer none := by kernel_rfl
theorem tzero_77 : tzero Try.prog 77 = some (.pointer none) := by kernel_rfl
theorem tsz_78 : tsz Try.prog 78 = some 1 := by kernel_rfl
theorem aggB_78 : aggB Try.prog 78 = some true := by kernel_rfl
theorem tszD_78 : tszD Try.prog 78 = 1 := by kernel_rfl
theorem tbytes_78 : tbytes Try.prog 78 = some 8 := by kernel_rfl
theorem tzeroD_78 : tzeroD Try.prog 78 = .agg #[.int .i64 0] := by kernel_rfl
theorem tzero_78 : tzero Try.prog 78 = some (.agg #[.int .i64 0]) := by kernel_rfl
theorem tsz_79 : tsz Try.prog 79 = some 1 := by kernel_rfl
theorem aggB_79 : aggB Try.prog 79 = some true := by kernel_rfl
theorem tszD_79 : tszD Try.prog 79 = 1 := by kernel_rfl
theorem tbytes_79 : tbytes Try.prog 79 = some 8 := by kernel_rfl
theorem tzeroD_79 : tzeroD Try.prog 79 = .agg #[.int .i64 0] := by kernel_rfl
theorem tzero_79 : tzero Try.prog 79 = some (.agg #[.int .i64 0]) := by kernel_rfl
theorem tsz_83 : tsz Try.prog 83 = some 1 := by kernel_rfl
theorem aggB_83 : aggB Try.prog 83 = some false := by kernel_rfl
theorem tszD_83 : tszD Try.prog 83 = 1 := by kernel_rfl
theorem tbytes_83 : tbytes Try.prog 83 = some 8 := by kernel_rfl
theorem tzeroD_83 : tzeroD Try.prog 83 = .nilFunc := by kernel_rfl
theorem tzero_83 : tzero Try.prog 83 = some (.nilFunc) := by kernel_rfl
theorem tsz_89 : tsz Try.prog 89 = some 1 := by kernel_rfl
theorem aggB_89 : aggB Try.prog 89 = some false := by kernel_rfl
theorem tszD_89 : tszD Try.prog 89 = 1 := by kernel_rfl
theorem tbytes_89 : tbytes Try.prog 89 = some 8 := by kernel_rfl
theorem isInt_89 : isIntB Try.prog 89 = true := by kernel_rfl
theorem intK_89 : intKD Try.prog 89 = .u64 := by kernel_rfl
theorem tzeroD_89 : tzeroD Try.prog 89 = .int .u64 0 := by kernel_rfl
theorem tzero_89 : tzero Try.prog 89 = some (.int .u64 0) := by kernel_rfl
theorem tsz_91 : tsz Try.prog 91 = some 1 := by kernel_rfl
theorem aggB_91 : aggB Try.prog 91 = some false := by kernel_rfl
theorem tszD_91 : tszD Try.prog 91 = 1 := by kernel_rfl
theorem tbytes_91 : tbytes Try.prog 91 = some 8 := by kernel_rfl
theorem isInt_91 : isIntB Try.prog 91 = true := by kernel_rfl
theorem intK_91 : intKD Try.prog 91 = .i64 := by kernel_rfl
theorem tzeroD_91 : tzeroD Try.prog 91 = .int .i64 0 := by kernel_rfl
theorem tzero_91 : tzero Try.prog 91 = some (.int .i64 0) := by kernel_rfl
theorem tsz_92 : tsz Try.prog 92 = some 1 := by kernel_rfl
theorem aggB_92 : aggB Try.prog 92 = some false := by kernel_rfl
theorem tszD_92 : tszD Try.prog 92 = 1 := by kernel_rfl
theorem tbytes_92 : tbytes Try.prog 92 = some 0 := by kernel_rfl
theorem tzeroD_92 : tzeroD Try.prog 92 = .tuple #[.int .i64 0, .int .i64 0] := by kernel_rfl
theorem tzero_92 : tzero Try.prog 92 = some (.tuple #[.int .i64 0, .int .i64 0]) := by kernel_rfl
theorem tsz_96 : tsz Try.prog 96 = some 1 := by kernel_rfl
theorem aggB_96 : aggB Try.prog 96 = some false := by kernel_rfl
theorem tszD_96 : tszD Try.prog 96 = 1 := by kernel_rfl
theorem tbytes_96 : tbytes Try.prog 96 = some 0 := by kernel_rfl
theorem tzeroD_96 : tzeroD Try.prog 96 = .tuple #[.int .i64 0, .bool false] := by kernel_rfl
theorem tzero_96 : tzero Try.prog 96 = some (.tuple #[.int .i64 0, .bool false]) := by kernel_rfl
theorem tsz_100 : tsz Try.prog 100 = some 1 := by kernel_rfl
theorem aggB_100 : aggB Try.prog 100 = some false := by kernel_rfl
theorem tszD_100 : tszD Try.prog 100 = 1 := by kernel_rfl
theorem tbytes_100 : tbytes Try.prog 100 = some 8 := by kernel_rfl
theorem isInt_100 : isIntB Try.prog 100 = true := by kernel_rfl
theorem intK_100 : intKD Try.prog 100 = .u64 := by kernel_rfl
theorem tzeroD_100 : tzeroD Try.prog 100 = .int .u64 0 := by kernel_rfl
theorem tzero_100 : tzero Try.prog 100 = some (.int .u64 0) := by kernel_rfl
theorem tsz_101 : tsz Try.prog 101 = some 1 := by kernel_rfl
theorem aggB_101 : aggB Try.prog 101 = some false := by kernel_rfl
theorem tszD_101 : tszD Try.prog 101 = 1 := by kernel_rfl
theorem tbytes_101 : tbytes Try.prog 101 = some 8 := by kernel_rfl
theorem isInt_101 : isIntB Try.prog 101 = true := by kernel_rfl
theorem intK_101 : intKD Try.prog 101 = .u64 := by kernel_rfl
theorem tzeroD_101 : tzeroD Try.prog 101 = .int .u64 0 := by kernel_rfl
theorem tzero_101 : tzero Try.prog 101 = some (.int .u64 0) := by kernel_rfl
theorem tsz_106 : tsz Try.prog 106 = some 1 := by kernel_rfl
theorem aggB_106 : aggB Try.prog 106 = some false := by kernel_rfl
theorem tszD_106 : tszD Try.prog 106 = 1 := by kernel_rfl
theorem tbytes_106 : tbytes Try.prog 106 = some 8 := by kernel_rfl
theorem isPtr_106 : isPtrB Try.prog 106 = true := by kernel_rfl
theorem tzeroD_106 : tzeroD Try.prog 106 = .pointer none := by kernel_rfl
theorem tzero_106 : tzero Try.prog 106 = some (.pointer none) := by kernel_rfl
theorem tsz_107 : tsz Try.prog 107 = some 1 := by kernel_rfl
theorem aggB_107 : aggB Try.prog 107 = some false := by kernel_rfl
theorem tszD_107 : tszD Try.prog 107 = 1 := by kernel_rfl
theorem tbytes_107 : tbytes Try.prog 107 = some 0 := by kernel_rfl
theorem tzeroD_107 : tzeroD Try.prog 107 = .tuple #[.int .i64 0, .int .i64 0] := by kernel_rfl
theorem tzero_107 : tzero Try.prog 107 = some (.tuple #[.int .i64 0, .int .i64 0]) := by kernel_rfl
theorem fa_28_0 {b o : Nat} {h : Heap} : runD Try.prog (iFieldAt 28 (.pointer (some ⟨b, o, none⟩)) 0) h = some (.pointer (some ⟨b, o + 0, none⟩)) := by kernel_rfl
theorem fa_28_1 {b o : Nat} {h : Heap} : runD Try.prog (iFieldAt 28 (.pointer (some ⟨b, o, none⟩)) 1) h = some (.pointer (some ⟨b, o + 1, none⟩)) := by kernel_rfl
theorem fa_28_2 {b o : Nat} {h : Heap} : runD Try.prog (iFieldAt 28 (.pointer (some ⟨b, o, none⟩)) 2) h = some (.pointer (some ⟨b, o + 2, none⟩)) := by kernel_rfl
theorem fa_28_3 {b o : Nat} {h : Heap} : runD Try.prog (iFieldAt 28 (.pointer (some ⟨b, o, none⟩)) 3) h = some (.pointer (some ⟨b, o + 3, none⟩)) := by kernel_rfl
theorem fa_35_0 {b o : Nat} {h : Heap} : runD Try.prog (iFieldAt 35 (.pointer (some ⟨b, o, none⟩)) 0) h = some (.pointer (some ⟨b, o + 0, none⟩)) := by kernel_rfl
theorem fa_35_1 {b o : Nat} {h : Heap} : runD Try.prog (iFieldAt 35 (.pointer (some ⟨b, o, none⟩)) 1) h = some (.pointer (some ⟨b, o + 1, none⟩)) := by kernel_rfl
theorem fa_35_2 {b o : Nat} {h : Heap} : runD Try.prog (iFieldAt 35 (.pointer (some ⟨b, o, none⟩)) 2) h = some (.pointer (some ⟨b, o + 2, none⟩)) := by kernel_rfl
theorem fa_35_3 {b o : Nat} {h : Heap} : runD Try.prog (iFieldAt 35 (.pointer (some ⟨b, o, none⟩)) 3) h = some (.pointer (some ⟨b, o + 6, none⟩)) := by kernel_rfl
theorem fa_35_4 {b o : Nat} {h : Heap} : runD Try.prog (iFieldAt 35 (.pointer (some ⟨b, o, none⟩)) 4) h = some (.pointer (some ⟨b, o + 7, none⟩)) := by kernel_rfl
theorem fa_35_5 {b o : Nat} {h : Heap} : runD Try.prog (iFieldAt 35 (.pointer (some ⟨b, o, none⟩)) 5) h = some (.pointer (some ⟨b, o + 8, none⟩)) := by kernel_rfl
theorem fa_35_6 {b o : Nat} {h : Heap} : runD Try.prog (iFieldAt 35 (.pointer (some ⟨b, o, none⟩)) 6) h = some (.pointer (some ⟨b, o + 9, none⟩)) := by kernel_rfl
theorem fa_55_0 {b o : Nat} {h : Heap} : runD Try.prog (iFieldAt 55 (.pointer (some ⟨b, o, none⟩)) 0) h = some (.pointer (some ⟨b, o + 0, none⟩)) := by kernel_rfl
theorem fa_66_0 {b o : Nat} {h : Heap} : runD Try.prog (iFieldAt 66 (.pointer (some ⟨b, o, none⟩)) 0) h = some (.pointer (some ⟨b, o + 0, none⟩)) := by kernel_rfl
theorem fa_70_0 {b o : Nat} {h : Heap} : runD Try.prog (iFieldAt 70 (.pointer (some ⟨b, o, none⟩)) 0) h = some (.pointer (some ⟨b, o + 0, none⟩)) := by kernel_rfl
theorem fa_76_0 {b o : Nat} {h : Heap} : runD Try.prog (iFieldAt 76 (.pointer (some ⟨b, o, none⟩)) 0) h = some (.pointer (some ⟨b, o + 0, none⟩)) := by kernel_rfl
theorem fa_79_0 {b o : Nat} {h : Heap} : runD Try.prog (iFieldAt 79 (.pointer (some ⟨b, o, none⟩)) 0) h = some (.pointer (some ⟨b, o + 0, none⟩)) := by kernel_rfl
theorem bd_28_  {h : Heap} : runD Try.prog (iBuild 28 #[]) h = some (.agg #[.int .i64 0, .int .i64 0, .int .i64 0, .bool false]) := by kernel_rfl
theorem bd_28_0_1 (x0 : Int) (x1 : Int) {h : Heap} : runD Try.prog (iBuild 28 #[(0, .int .i64 x0), (1, .int .i64 x1)]) h = some (.agg #[.int .i64 x0, .int .i64 x1, .int .i64 0, .bool false]) := by kernel_rfl
theorem bd_28_0_1_2 (x0 : Int) (x1 : Int) (x2 : Int) {h : Heap} : runD Try.prog (iBuild 28 #[(0, .int .i64 x0), (1, .int .i64 x1), (2, .int .i64 x2)]) h = some (.agg #[.int .i64 x0, .int .i64 x1, .int .i64 x2, .bool false]) := by kernel_rfl
theorem bd_55_  {h : Heap} : runD Try.prog (iBuild 55 #[]) h = some (.agg #[.slice none 0 0]) := by kernel_rfl
theorem bd_66_0 (x0 : Option Nat) {h : Heap} : runD Try.prog (iBuild 66 #[(0, .map x0)]) h = some (.agg #[.map x0]) := by kernel_rfl
theorem bd_70_0 (x0 : Option Addr) (x0l x0c : Nat) {h : Heap} : runD Try.prog (iBuild 70 #[(0, .slice x0 x0l x0c)]) h = some (.agg #[.slice x0 x0l x0c]) := by kernel_rfl
theorem bd_76_0 (x0 : Option Addr) (x0l x0c : Nat) {h : Heap} : runD Try.prog (iBuild 76 #[(0, .slice x0 x0l x0c)]) h = some (.agg #[.slice x0 x0l x0c]) := by kernel_rfl
theorem bd_79_0 (x0 : Int) {h : Heap} : runD Try.prog (iBuild 79 #[(0, .int .i64 x0)]) h = some (.agg #[.int .i64 x0]) := by kernel_rfl
theorem flatOk_28 : flatOk Try.prog 28 [.int .i64, .int .i64, .int .i64, .bool] = true := by kernel_rfl
theorem eqls_28 {h : Heap} {x y : Operand} {xs ys : List Value} (h1 : fitL [.int .i64, .int .i64, .int .i64, .bool] xs) (h2 : fitL [.int .i64, .int .i64, .int .i64, .bool] ys) : binD Try.prog h .eql 28 x y (.agg xs.toArray) (.agg ys.toArray) = some (.bool (eqL xs ys)) := binD_eql_flat flatOk_28 h1 h2
theorem neqs_28 {h : Heap} {x y : Operand} {xs ys : List Value} (h1 : fitL [.int .i64, .int .i64, .int .i64, .bool] xs) (h2 : fitL [.int .i64, .int .i64, .int .i64, .bool] ys) : binD Try.prog h .neq 28 x y (.agg xs.toArray) (.agg ys.toArray) = some (.bool (!eqL xs ys)) := binD_neq_flat flatOk_28 h1 h2
theorem okFn_9 : okFn Try.prog 9 = true := by kernel_rfl
theorem okFn_10 : okFn Try.prog 10 = true := by kernel_rfl
theorem okFn_11 : okFn Try.prog 11 = true := by kernel_rfl
theorem okFn_12 : okFn Try.prog 12 = true := by kernel_rfl
theorem okFn_13 : okFn Try.prog 13 = true := by kernel_rfl
theorem okFn_14 : okFn Try.prog 14 = true := by kernel_rfl
theorem okFn_15 : okFn Try.prog 15 = true := by kernel_rfl
theorem okFn_16 : okFn Try.prog 16 = true := by kernel_rfl
theorem okFn_17 : okFn Try.prog 17 = true := by kernel_rfl
theorem okFn_18 : okFn Try.prog 18 = true := by kernel_rfl
theorem okFn_19 : okFn Try.prog 19 = true := by kernel_rfl
theorem okFn_20 : okFn Try.prog 20 = true := by kernel_rfl
theorem okFn_21 : okFn Try.prog 21 = true := by kernel_rfl
theorem okFn_22 : okFn Try.prog 22 = true := by kernel_rfl
theorem okFn_23 : okFn Try.prog 23 = true := by kernel_rfl
theorem okFn_24 : okFn Try.prog 24 = true := by kernel_rfl
theorem okFn_25 : okFn Try.prog 25 = true := by kernel_rfl
theorem okFn_26 : okFn Try.prog 26 = true := by kernel_rfl
theorem okFn_27 : okFn Try.prog 27 = true := by kernel_rfl
theorem okFn_28 : okFn Try.prog 28 = true := by kernel_rfl
theorem okFn_29 : okFn Try.prog 29 = true := by kernel_rfl
theorem okFn_30 : okFn Try.prog 30 = true := by kernel_rfl
theorem okFn_31 : okFn Try.prog 31 = true := by kernel_rfl
theorem okFn_32 : okFn Try.prog 32 = true := by kernel_rfl
theorem okFn_33 : okFn Try.prog 33 = true := by kernel_rfl
theorem okFn_34 : okFn Try.prog 34 = true := by kernel_rfl
theorem okFn_35 : okFn Try.prog 35 = true := by kernel_rfl
theorem okFn_36 : okFn Try.prog 36 = true := by kernel_rfl
theorem okFn_37 : okFn Try.prog 37 = true := by kernel_rfl
theorem okFn_38 : okFn Try.prog 38 = true := by kernel_rfl
theorem okFn_40 : okFn Try.prog 40 = true := by kernel_rfl
theorem okFn_41 : okFn Try.prog 41 = true := by kernel_rfl
theorem okFn_42 : okFn Try.prog 42 = true := by kernel_rfl
theorem okFn_43 : okFn Try.prog 43 = true := by kernel_rfl
theorem okFn_44 : okFn Try.prog 44 = true := by kernel_rfl
theorem okFn_45 : okFn Try.prog 45 = true := by kernel_rfl
theorem okFn_46 : okFn Try.prog 46 = true := by kernel_rfl
theorem okFn_47 : okFn Try.prog 47 = true := by kernel_rfl
theorem okFn_48 : okFn Try.prog 48 = true := by kernel_rfl
theorem okFn_49 : okFn Try.prog 49 = true := by kernel_rfl
theorem okFn_50 : okFn Try.prog 50 = true := by kernel_rfl
theorem okFn_51 : okFn Try.prog 51 = true := by kernel_rfl
theorem okFn_52 : okFn Try.prog 52 = true := by kernel_rfl
theorem okFn_53 : okFn Try.prog 53 = true := by kernel_rfl
theorem okFn_54 : okFn Try.prog 54 = true := by kernel_rfl
theorem okFn_55 : okFn Try.prog 55 = true := by kernel_rfl
theorem okFn_56 : okFn Try.prog 56 = true := by kernel_rfl
theorem okFn_57 : okFn Try.prog 57 = true := by kernel_rfl
theorem okFn_58 : okFn Try.prog 58 = true := by kernel_rfl
theorem okFn_59 : okFn Try.prog 59 = true := by kernel_rfl
theorem okFn_60 : okFn Try.prog 60 = true := by kernel_rfl
theorem okFn_61 : okFn Try.prog 61 = true := by kernel_rfl
theorem okFn_62 : okFn Try.prog 62 = true := by kernel_rfl
theorem okFn_63 : okFn Try.prog 63 = true := by kernel_rfl
theorem okFn_64 : okFn Try.prog 64 = true := by kernel_rfl
theorem okFn_65 : okFn Try.prog 65 = true := by kernel_rfl
attribute [go_sem ↓] fa_28_0 fa_28_1 fa_28_2 fa_28_3 fa_35_0 fa_35_1 fa_35_2 fa_35_3 fa_35_4 fa_35_5 fa_35_6 fa_55_0 fa_66_0 fa_70_0 fa_76_0 fa_79_0 bd_28_ bd_28_0_1 bd_28_0_1_2 bd_55_
attribute [go_sem ↓] bd_66_0 bd_70_0 bd_76_0 bd_79_0
attribute [go_sem] tsz_0 aggB_0 tszD_0 tbytes_0 tzeroD_0 tzero_0 tsz_3 aggB_3 tszD_3 tbytes_3 isInt_3 intK_3 tzeroD_3 tzero_3 tsz_4 aggB_4 tszD_4 tbytes_4 tzeroD_4 tzero_4
attribute [go_sem] tsz_5 aggB_5 tszD_5 tbytes_5 isInt_5 intK_5 tzeroD_5 tzero_5 tsz_9 aggB_9 tszD_9 tbytes_9 tzeroD_9 tzero_9 tsz_23 aggB_23 tszD_23 tbytes_23 isInt_23 intK_23
attribute [go_sem] tzeroD_23 tzero_23 tsz_24 aggB_24 tszD_24 tbytes_24 tzeroD_24 tzero_24 tsz_27 aggB_27 tszD_27 tbytes_27 tzeroD_27 tzero_27 tsz_28 aggB_28 tszD_28 tbytes_28 tzeroD_28 tzero_28
attribute [go_sem] tsz_29 aggB_29 tszD_29 tbytes_29 isSlice_29 ssz_29 selem_29 tzeroD_29 tzero_29 tsz_30 aggB_30 tszD_30 tbytes_30 isPtr_30 tzeroD_30 tzero_30 tsz_34 aggB_34 tszD_34 tbytes_34
attribute [go_sem] tzeroD_34 tzero_34 tsz_35 aggB_35 tszD_35 tbytes_35 tzeroD_35 tzero_35 tsz_36 aggB_36 tszD_36 tbytes_36 tzeroD_36 tzero_36 tsz_40 aggB_40 tszD_40 tbytes_40 isSlice_40 ssz_40
attribute [go_sem] selem_40 tzeroD_40 tzero_40 tsz_41 aggB_41 tszD_41 tbytes_41 isPtr_41 tzeroD_41 tzero_41 tsz_42 aggB_42 tszD_42 tbytes_42 tzeroD_42 tzero_42 tsz_45 aggB_45 tszD_45 tbytes_45
attribute [go_sem] isInt_45 intK_45 tzeroD_45 tzero_45 tsz_46 aggB_46 tszD_46 tbytes_46 isArr_46 arrLen_46 arrSz_46 tzeroD_46 tzero_46 tsz_47 aggB_47 tszD_47 tbytes_47 tzeroD_47 tzero_47 tsz_50
attribute [go_sem] aggB_50 tszD_50 tbytes_50 isPtr_50 tzeroD_50 tzero_50 tsz_52 aggB_52 tszD_52 tbytes_52 isPtr_52 tzeroD_52 tzero_52 tsz_53 aggB_53 tszD_53 tbytes_53 isSlice_53 ssz_53 selem_53
attribute [go_sem] tzeroD_53 tzero_53 tsz_54 aggB_54 tszD_54 tbytes_54 tzeroD_54 tzero_54 tsz_55 aggB_55 tszD_55 tbytes_55 tzeroD_55 tzero_55 tsz_56 aggB_56 tszD_56 tbytes_56 isPtr_56 tzeroD_56
attribute [go_sem] tzero_56 tsz_57 aggB_57 tszD_57 tbytes_57 tzeroD_57 tzero_57 tsz_64 aggB_64 tszD_64 tbytes_64 intMap_64 elemT_64 tzeroD_64 tzero_64 tsz_65 aggB_65 tszD_65 tbytes_65 tzeroD_65
attribute [go_sem] tzero_65 tsz_66 aggB_66 tszD_66 tbytes_66 tzeroD_66 tzero_66 tsz_67 aggB_67 tszD_67 tbytes_67 isPtr_67 tzeroD_67 tzero_67 tsz_68 aggB_68 tszD_68 tbytes_68 isSlice_68 ssz_68
attribute [go_sem] selem_68 tzeroD_68 tzero_68 tsz_69 aggB_69 tszD_69 tbytes_69 tzeroD_69 tzero_69 tsz_70 aggB_70 tszD_70 tbytes_70 tzeroD_70 tzero_70 tsz_73 aggB_73 tszD_73 tbytes_73 isArr_73
attribute [go_sem] arrLen_73 arrSz_73 tzeroD_73 tzero_73 tsz_75 aggB_75 tszD_75 tbytes_75 tzeroD_75 tzero_75 tsz_76 aggB_76 tszD_76 tbytes_76 tzeroD_76 tzero_76 tsz_77 aggB_77 tszD_77 tbytes_77
attribute [go_sem] isPtr_77 tzeroD_77 tzero_77 tsz_78 aggB_78 tszD_78 tbytes_78 tzeroD_78 tzero_78 tsz_79 aggB_79 tszD_79 tbytes_79 tzeroD_79 tzero_79 tsz_83 aggB_83 tszD_83 tbytes_83 tzeroD_83
attribute [go_sem] tzero_83 tsz_89 aggB_89 tszD_89 tbytes_89 isInt_89 intK_89 tzeroD_89 tzero_89 tsz_91 aggB_91 tszD_91 tbytes_91 isInt_91 intK_91 tzeroD_91 tzero_91 tsz_92 aggB_92 tszD_92
attribute [go_sem] tbytes_92 tzeroD_92 tzero_92 tsz_96 aggB_96 tszD_96 tbytes_96 tzeroD_96 tzero_96 tsz_100 aggB_100 tszD_100 tbytes_100 isInt_100 intK_100 tzeroD_100 tzero_100 tsz_101 aggB_101 tszD_101
attribute [go_sem] tbytes_101 isInt_101 intK_101 tzeroD_101 tzero_101 tsz_106 aggB_106 tszD_106 tbytes_106 isPtr_106 tzeroD_106 tzero_106 tsz_107 aggB_107 tszD_107 tbytes_107 tzeroD_107 tzero_107 eqls_28 neqs_28
attribute [go_sem] okFn_9 okFn_10 okFn_11 okFn_12 okFn_13 okFn_14 okFn_15 okFn_16 okFn_17 okFn_18 okFn_19 okFn_20 okFn_21 okFn_22 okFn_23 okFn_24 okFn_25 okFn_26 okFn_27 okFn_28
attribute [go_sem] okFn_29 okFn_30 okFn_31 okFn_32 okFn_33 okFn_34 okFn_35 okFn_36 okFn_37 okFn_38 okFn_40 okFn_41 okFn_42 okFn_43 okFn_44 okFn_45 okFn_46 okFn_47 okFn_48 okFn_49
attribute [go_sem] okFn_50 okFn_51 okFn_52 okFn_53 okFn_54 okFn_55 okFn_56 okFn_57 okFn_58 okFn_59 okFn_60 okFn_61 okFn_62 okFn_63 okFn_64 okFn_65 Try.underlying0 Try.underlying3 Try.underlying4 Try.underlying5
attribute [go_sem] Try.underlying9 Try.underlying23 Try.underlying24 Try.underlying27 Try.underlying28 Try.underlying29 Try.underlying30 Try.underlying34 Try.underlying35 Try.underlying36 Try.underlying40 Try.underlying41 Try.underlying42 Try.underlying45 Try.underlying46 Try.underlying47 Try.underlying50 Try.underlying52 Try.underlying53 Try.underlying54
attribute [go_sem] Try.underlying55 Try.underlying56 Try.underlying57 Try.underlying64 Try.underlying65 Try.underlying66 Try.underlying67 Try.underlying68 Try.underlying69 Try.underlying70 Try.underlying73 Try.underlying75 Try.underlying76 Try.underlying77 Try.underlying78 Try.underlying79 Try.underlying83 Try.underlying89 Try.underlying91 Try.underlying92
attribute [go_sem] Try.underlying96 Try.underlying100 Try.underlying101 Try.underlying106 Try.underlying107
def T2 : Tab := ⟨[(0, [])], [], []⟩
theorem T2_sch : T2.sch = [] := (rfl)
theorem T2_reg : T2.reg = [(0, [])] := (rfl)
theorem T2_loops : T2.loops = [] := (rfl)
def T3 : Tab := ⟨[(0, [0, 1]), (1, [0, 1, 5]), (2, [0, 1, 5, 6, 7]), (3, [5, 6, 7, 8, 9]), (4, [4])], [], []⟩
theorem T3_sch : T3.sch = [] := (rfl)
theorem T3_reg : T3.reg = [(0, [0, 1]), (1, [0, 1, 5]), (2, [0, 1, 5, 6, 7]), (3, [5, 6, 7, 8, 9]), (4, [4])] := (rfl)
theorem T3_loops : T3.loops = [] := (rfl)
def T4 : Tab := ⟨[(0, [1, 2]), (1, [1, 2, 5]), (2, [1, 2, 5, 6]), (3, [1, 2, 5, 6, 19]), (4, [4]), (5, [1, 2, 5, 6, 7]), (6, [1, 2, 5, 6, 24]), (7, [4]), (8, [1, 2, 5, 6, 8]), (9, [1, 2, 5, 6, 8, 9]), (10, [1, 2, 5, 6, 8, 9, 38]), (11, [1, 2, 5, 6, 8, 9]), (12, [1, 2, 5, 6, 8, 9, 10, 11]), (13, [1, 2, 5, 6, 8, 9, 10, 64]), (14, [1, 2, 5, 6, 8, 9, 10, 12, 13]), (15, [1, 2, 5, 6, 8, 9, 10, 12, 13, 14]), (16, [1, 2, 5, 6, 9, 10, 12, 136]), (17, [4]), (18, [1, 2, 5, 6, 8, 9]), (19, [4])], [(0, [1, 2, 5, 6, 8, 9])], []⟩
theorem T4_sch : T4.sch = [] := (rfl)
theorem T4_reg : T4.reg = [(0, [1, 2]), (1, [1, 2, 5]), (2, [1, 2, 5, 6]), (3, [1, 2, 5, 6, 19]), (4, [4]), (5, [1, 2, 5, 6, 7]), (6, [1, 2, 5, 6, 24]), (7, [4]), (8, [1, 2, 5, 6, 8]), (9, [1, 2, 5, 6, 8, 9]), (10, [1, 2, 5, 6, 8, 9, 38]), (11, [1, 2, 5, 6, 8, 9]), (12, [1, 2, 5, 6, 8, 9, 10, 11]), (13, [1, 2, 5, 6, 8, 9, 10, 64]), (14, [1, 2, 5, 6, 8, 9, 10, 12, 13]), (15, [1, 2, 5, 6, 8, 9, 10, 12, 13, 14]), (16, [1, 2, 5, 6, 9, 10, 12, 136]), (17, [4]), (18, [1, 2, 5, 6, 8, 9]), (19, [4])] := (rfl)
theorem T4_loops : T4.loops = [(0, [1, 2, 5, 6, 8, 9])] := (rfl)
def T5 : Tab := ⟨[(0, [1, 2]), (1, [1, 2, 5]), (2, [1, 2, 5, 6]), (3, [1, 2, 5, 6, 14]), (4, [4]), (5, [1, 2, 5, 6, 7]), (6, [1, 2, 5, 6, 27]), (7, [4]), (8, [1, 2, 5, 6, 8]), (9, [1, 2, 5, 6, 8, 30]), (10, [1, 2, 5, 6, 8, 10]), (11, [1, 2, 5, 6, 8, 10, 40]), (12, [2, 5, 8, 10, 46]), (13, [4]), (14, [4]), (15, [1, 2, 5, 6, 8]), (16, [4])], [(0, [1, 2, 5, 6, 8])], []⟩
theorem T5_sch : T5.sch = [] := (rfl)
theorem T5_reg : T5.reg = [(0, [1, 2]), (1, [1, 2, 5]), (2, [1, 2, 5, 6]), (3, [1, 2, 5, 6, 14]), (4, [4]), (5, [1, 2, 5, 6, 7]), (6, [1, 2, 5, 6, 27]), (7, [4]), (8, [1, 2, 5, 6, 8]), (9, [1, 2, 5, 6, 8, 30]), (10, [1, 2, 5, 6, 8, 10]), (11, [1, 2, 5, 6, 8, 10, 40]), (12, [2, 5, 8, 10, 46]), (13, [4]), (14, [4]), (15, [1, 2, 5, 6, 8]), (16, [4])] := (rfl)
theorem T5_loops : T5.loops = [(0, [1, 2, 5, 6, 8])] := (rfl)
def T6 : Tab := ⟨[(0, [1, 2, 3]), (1, [1, 2, 3, 7]), (2, [1, 2, 3, 7, 8]), (3, [1, 2, 3, 7, 8, 9]), (4, [1, 2, 3, 7, 8, 9, 39]), (5, [6]), (6, [1, 2, 3, 7, 8, 9, 11]), (7, [1, 2, 3, 7, 8, 9, 48]), (8, [6]), (9, [1, 2, 3, 7, 8, 9, 12]), (10, [1, 2, 3, 7, 8, 9, 12, 56]), (11, [1, 2, 3, 7, 8, 9, 12]), (12, [1, 2, 3, 7, 8, 9, 12]), (13, [2, 3, 7, 8, 9, 13]), (14, [2, 3, 7, 8, 9, 13, 14]), (15, [2, 3, 7, 8, 9, 13, 14, 72]), (16, [2, 3, 7, 8, 9, 13, 14]), (17, [2, 3, 7, 8, 9, 13, 14, 15]), (18, [2, 3, 7, 8, 9, 13, 14]), (19, [2, 3, 7, 8, 9, 13, 17]), (20, [2, 3, 7, 8, 9, 13, 17, 18]), (21, [2, 3, 7, 8, 9, 13, 17, 18, 19]), (22, [2, 3, 7, 8, 9, 13, 17, 18, 19, 89]), (23, [2, 3, 7, 8, 9, 13, 17, 18, 19]), (24, [2, 3, 7, 8, 9, 13, 17, 19, 20]), (25, [2, 3, 7, 8, 9, 13, 17, 18, 19, 20]), (26, [2, 3, 7, 8, 9, 13, 17, 18, 19]), (27, [3, 7, 9, 13, 17, 18, 21, 22]), (28, [3, 7, 9, 13, 17, 18, 21, 22, 23]), (29, [3, 7, 9, 13, 17, 18, 21, 22, 23, 113]), (30, [3, 7, 9, 13, 17, 18, 21, 22, 23]), (31, [3, 7, 9, 13, 17, 18, 21, 22, 23, 24]), (32, [3, 7, 9, 13, 17, 18, 21, 22, 23, 24, 26]), (33, [3, 7, 9, 13, 17, 18, 21, 22, 23, 24, 26, 27]), (34, [3, 7, 9, 13, 17, 18, 21, 22, 23, 24, 26, 27, 151]), (35, [3, 7, 9, 13, 17, 18, 21, 22, 23, 24, 26, 27]), (36, [3, 7, 9, 13, 17, 18, 21, 22, 23, 24, 26, 27, 178]), (37, [6]), (38, [6])], [(0, [1, 2, 3, 7, 8, 9, 12]), (2, [2, 3, 7, 8, 9, 13, 14]), (4, [2, 3, 7, 8, 9, 13, 17, 18, 19]), (6, [3, 7, 9, 13, 17, 18, 21, 22, 23]), (8, [3, 7, 9, 13, 17, 18, 21, 22, 23, 24, 26, 27])], []⟩
theorem T6_sch : T6.sch = [] := (rfl)
theorem T6_reg : T6.reg = [(0, [1, 2, 3]), (1, [1, 2, 3, 7]), (2, [1, 2, 3, 7, 8]), (3, [1, 2, 3, 7, 8, 9]), (4, [1, 2, 3, 7, 8, 9, 39]), (5, [6]), (6, [1, 2, 3, 7, 8, 9, 11]), (7, [1, 2, 3, 7, 8, 9, 48]), (8, [6]), (9, [1, 2, 3, 7, 8, 9, 12]), (10, [1, 2, 3, 7, 8, 9, 12, 56]), (11, [1, 2, 3, 7, 8, 9, 12]), (12, [1, 2, 3, 7, 8, 9, 12]), (13, [2, 3, 7, 8, 9, 13]), (14, [2, 3, 7, 8, 9, 13, 14]), (15, [2, 3, 7, 8, 9, 13, 14, 72]), (16, [2, 3, 7, 8, 9, 13, 14]), (17, [2, 3, 7, 8, 9, 13, 14, 15]), (18, [2, 3, 7, 8, 9, 13, 14]), (19, [2, 3, 7, 8, 9, 13, 17]), (20, [2, 3, 7, 8, 9, 13, 17, 18]), (21, [2, 3, 7, 8, 9, 13, 17, 18, 19]), (22, [2, 3, 7, 8, 9, 13, 17, 18, 19, 89]), (23, [2, 3, 7, 8, 9, 13, 17, 18, 19]), (24, [2, 3, 7, 8, 9, 13, 17, 19, 20]), (25, [2, 3, 7, 8, 9, 13, 17, 18, 19, 20]), (26, [2, 3, 7, 8, 9, 13, 17, 18, 19]), (27, [3, 7, 9, 13, 17, 18, 21, 22]), (28, [3, 7, 9, 13, 17, 18, 21, 22, 23]), (29, [3, 7, 9, 13, 17, 18, 21, 22, 23, 113]), (30, [3, 7, 9, 13, 17, 18, 21, 22, 23]), (31, [3, 7, 9, 13, 17, 18, 21, 22, 23, 24]), (32, [3, 7, 9, 13, 17, 18, 21, 22, 23, 24, 26]), (33, [3, 7, 9, 13, 17, 18, 21, 22, 23, 24, 26, 27]), (34, [3, 7, 9, 13, 17, 18, 21, 22, 23, 24, 26, 27, 151]), (35, [3, 7, 9, 13, 17, 18, 21, 22, 23, 24, 26, 27]), (36, [3, 7, 9, 13, 17, 18, 21, 22, 23, 24, 26, 27, 178]), (37, [6]), (38, [6])] := (rfl)
theorem T6_loops : T6.loops = [(0, [1, 2, 3, 7, 8, 9, 12]), (2, [2, 3, 7, 8, 9, 13, 14]), (4, [2, 3, 7, 8, 9, 13, 17, 18, 19]), (6, [3, 7, 9, 13, 17, 18, 21, 22, 23]), (8, [3, 7, 9, 13, 17, 18, 21, 22, 23, 24, 26, 27])] := (rfl)
def T7 : Tab := ⟨[(0, [0, 3]), (1, [0, 3, 5]), (2, [0, 3, 5, 6]), (3, [0, 3, 5, 6, 7]), (4, [0, 3, 5, 6, 7, 9]), (5, [0, 3, 5, 6, 7, 9, 10]), (6, [0, 3, 5, 6, 7, 9, 10, 42]), (7, [4]), (8, [0, 3, 5, 6, 7, 9, 10, 12]), (9, [0, 3, 5, 6, 7, 9, 10, 12, 50]), (10, [0, 3, 5, 6, 7, 9, 10, 12]), (11, [0, 3, 5, 6, 7, 9, 10, 12]), (12, [3, 5, 6, 13, 14]), (13, [3, 5, 6, 13, 14, 15, 16]), (14, [3, 5, 6, 13, 14, 15, 16, 17, 18]), (15, [3, 5, 6, 13, 14, 15, 16, 17, 18, 19]), (16, [3, 5, 6, 13, 14, 15, 16, 17, 18, 19, 21, 22]), (17, [5, 13, 14, 15, 16, 17, 18, 19, 21, 22, 23]), (18, [5, 13, 16, 23, 152]), (19, [4]), (20, [4])], [(0, [0, 3, 5, 6, 7, 9, 10, 12])], []⟩
theorem T7_sch : T7.sch = [] := (rfl)
theorem T7_reg : T7.reg = [(0, [0, 3]), (1, [0, 3, 5]), (2, [0, 3, 5, 6]), (3, [0, 3, 5, 6, 7]), (4, [0, 3, 5, 6, 7, 9]), (5, [0, 3, 5, 6, 7, 9, 10]), (6, [0, 3, 5, 6, 7, 9, 10, 42]), (7, [4]), (8, [0, 3, 5, 6, 7, 9, 10, 12]), (9, [0, 3, 5, 6, 7, 9, 10, 12, 50]), (10, [0, 3, 5, 6, 7, 9, 10, 12]), (11, [0, 3, 5, 6, 7, 9, 10, 12]), (12, [3, 5, 6, 13, 14]), (13, [3, 5, 6, 13, 14, 15, 16]), (14, [3, 5, 6, 13, 14, 15, 16, 17, 18]), (15, [3, 5, 6, 13, 14, 15, 16, 17, 18, 19]), (16, [3, 5, 6, 13, 14, 15, 16, 17, 18, 19, 21, 22]), (17, [5, 13, 14, 15, 16, 17, 18, 19, 21, 22, 23]), (18, [5, 13, 16, 23, 152]), (19, [4]), (20, [4])] := (rfl)
theorem T7_loops : T7.loops = [(0, [0, 3, 5, 6, 7, 9, 10, 12])] := (rfl)
def T8 : Tab := ⟨[(0, [0]), (1, [0, 3]), (2, [0, 3, 4]), (3, [0, 3, 4, 5]), (4, [0, 3, 4, 5, 7]), (5, [0, 3, 4, 5, 7, 8]), (6, [0, 3, 4, 5, 7, 8, 37]), (7, [2]), (8, [0, 3, 4, 5, 7, 8, 10]), (9, [0, 3, 4, 5, 7, 8, 10, 45]), (10, [0, 3, 4, 5, 7, 8, 10]), (11, [0, 3, 4, 5, 7, 8, 10, 11]), (12, [0, 3, 4, 5, 7, 8, 10, 11, 12]), (13, [0, 3, 4, 5, 7, 8, 10, 12, 70]), (14, [2]), (15, [0, 3, 4, 5, 7, 8, 10, 12, 13]), (16, [0, 3, 4, 5, 7, 8, 10, 12, 13, 74]), (17, [0, 3, 4, 5, 7, 8, 10, 12, 13]), (18, [0, 3, 4, 5, 7, 8, 10, 12, 13, 88]), (19, [2]), (20, [3, 5, 8, 14]), (21, [3, 5, 8, 14, 90]), (22, [3, 5, 8, 14]), (23, [3, 5, 8, 14, 15]), (24, [3, 5, 8, 14, 15, 17]), (25, [3, 5, 8, 14, 19]), (26, [3, 5, 8, 14, 109]), (27, [2]), (28, [2])], [(0, [0, 3, 4, 5, 7, 8, 10]), (2, [0, 3, 4, 5, 7, 8, 10, 12, 13]), (4, [3, 5, 8, 14])], []⟩
theorem T8_sch : T8.sch = [] := (rfl)
theorem T8_reg : T8.reg = [(0, [0]), (1, [0, 3]), (2, [0, 3, 4]), (3, [0, 3, 4, 5]), (4, [0, 3, 4, 5, 7]), (5, [0, 3, 4, 5, 7, 8]), (6, [0, 3, 4, 5, 7, 8, 37]), (7, [2]), (8, [0, 3, 4, 5, 7, 8, 10]), (9, [0, 3, 4, 5, 7, 8, 10, 45]), (10, [0, 3, 4, 5, 7, 8, 10]), (11, [0, 3, 4, 5, 7, 8, 10, 11]), (12, [0, 3, 4, 5, 7, 8, 10, 11, 12]), (13, [0, 3, 4, 5, 7, 8, 10, 12, 70]), (14, [2]), (15, [0, 3, 4, 5, 7, 8, 10, 12, 13]), (16, [0, 3, 4, 5, 7, 8, 10, 12, 13, 74]), (17, [0, 3, 4, 5, 7, 8, 10, 12, 13]), (18, [0, 3, 4, 5, 7, 8, 10, 12, 13, 88]), (19, [2]), (20, [3, 5, 8, 14]), (21, [3, 5, 8, 14, 90]), (22, [3, 5, 8, 14]), (23, [3, 5, 8, 14, 15]), (24, [3, 5, 8, 14, 15, 17]), (25, [3, 5, 8, 14, 19]), (26, [3, 5, 8, 14, 109]), (27, [2]), (28, [2])] := (rfl)
theorem T8_loops : T8.loops = [(0, [0, 3, 4, 5, 7, 8, 10]), (2, [0, 3, 4, 5, 7, 8, 10, 12, 13]), (4, [3, 5, 8, 14])] := (rfl)
def T9 : Tab := ⟨[(0, []), (1, [1]), (2, [1, 2]), (3, [1, 2, 28]), (4, [0]), (5, [1, 2, 4]), (6, [1, 2, 4, 5, 6]), (7, [1, 2, 4, 5, 6, 7, 8]), (8, [1, 2, 4, 5, 6, 7, 8, 10]), (9, [1, 2, 4, 5, 6, 7, 8, 10, 11]), (10, [1, 4, 5, 6, 7, 8, 10, 11, 12]), (11, [1, 4, 5, 6, 7, 8, 10, 11, 12, 13, 14]), (12, [1, 4, 5, 6, 7, 8, 10, 11, 12, 13, 14, 16]), (13, [4, 5, 6, 7, 8, 10, 11, 12, 13, 14, 16, 17]), (14, [0])], [], []⟩
theorem T9_sch : T9.sch = [] := (rfl)
theorem T9_reg : T9.reg = [(0, []), (1, [1]), (2, [1, 2]), (3, [1, 2, 28]), (4, [0]), (5, [1, 2, 4]), (6, [1, 2, 4, 5, 6]), (7, [1, 2, 4, 5, 6, 7, 8]), (8, [1, 2, 4, 5, 6, 7, 8, 10]), (9, [1, 2, 4, 5, 6, 7, 8, 10, 11]), (10, [1, 4, 5, 6, 7, 8, 10, 11, 12]), (11, [1, 4, 5, 6, 7, 8, 10, 11, 12, 13, 14]), (12, [1, 4, 5, 6, 7, 8, 10, 11, 12, 13, 14, 16]), (13, [4, 5, 6, 7, 8, 10, 11, 12, 13, 14, 16, 17]), (14, [0])] := (rfl)
theorem T9_loops : T9.loops = [] := (rfl)
def T10 : Tab := ⟨[(0, [0, 1]), (1, [4, 5])], [], []⟩
theorem T10_sch : T10.sch = [] := (rfl)
theorem T10_reg : T10.reg = [(0, [0, 1]), (1, [4, 5])] := (rfl)
theorem T10_loops : T10.loops = [] := (rfl)
def T11 : Tab := ⟨[(0, [0, 1]), (1, [0, 1, 8]), (2, [1, 6]), (3, [1, 6, 15]), (4, [1, 6]), (5, [6, 20]), (6, [4, 5]), (7, [4, 5]), (8, [1, 27]), (9, [4, 5]), (10, [29]), (11, [4, 5]), (12, [4, 5])], [(0, [1, 6])], []⟩
theorem T11_sch : T11.sch = [] := (rfl)
theorem T11_reg : T11.reg = [(0, [0, 1]), (1, [0, 1, 8]), (2, [1, 6]), (3, [1, 6, 15]), (4, [1, 6]), (5, [6, 20]), (6, [4, 5]), (7, [4, 5]), (8, [1, 27]), (9, [4, 5]), (10, [29]), (11, [4, 5]), (12, [4, 5])] := (rfl)
theorem T11_loops : T11.loops = [(0, [1, 6])] := (rfl)
def T12 : Tab := ⟨[(0, []), (1, [0])], [], []⟩
theorem T12_sch : T12.sch = [] := (rfl)
theorem T12_reg : T12.reg = [(0, []), (1, [0])] := (rfl)
theorem T12_loops : T12.loops = [] := (rfl)
def T13 : Tab := ⟨[(0, [0, 3]), (1, [0, 3, 37]), (2, [4]), (3, [0, 3, 45]), (4, [4]), (5, []), (6, [4])], [], []⟩
theorem T13_sch : T13.sch = [] := (rfl)
theorem T13_reg : T13.reg = [(0, [0, 3]), (1, [0, 3, 37]), (2, [4]), (3, [0, 3, 45]), (4, [4]), (5, []), (6, [4])] := (rfl)
theorem T13_loops : T13.loops = [] := (rfl)
def T14 : Tab := ⟨[(0, [0, 1, 2, 3, 4]), (1, [0, 1, 2, 3, 4, 12, 13]), (2, [0, 1, 2, 3, 4, 12, 13, 26]), (3, [10, 11]), (4, [0, 1, 4, 12, 14]), (5, [12]), (6, [10, 11])], [], []⟩
theorem T14_sch : T14.sch = [] := (rfl)
theorem T14_reg : T14.reg = [(0, [0, 1, 2, 3, 4]), (1, [0, 1, 2, 3, 4, 12, 13]), (2, [0, 1, 2, 3, 4, 12, 13, 26]), (3, [10, 11]), (4, [0, 1, 4, 12, 14]), (5, [12]), (6, [10, 11])] := (rfl)
theorem T14_loops : T14.loops = [] := (rfl)
def T15 : Tab := ⟨[(0, [0, 1, 4]), (1, [4, 6]), (2, [4, 6, 14]), (3, [4, 5]), (4, [4, 5])], [], []⟩
theorem T15_sch : T15.sch = [] := (rfl)
theorem T15_reg : T15.reg = [(0, [0, 1, 4]), (1, [4, 6]), (2, [4, 6, 14]), (3, [4, 5]), (4, [4, 5])] := (rfl)
theorem T15_loops : T15.loops = [] := (rfl)
def T16 : Tab := ⟨[(0, [0]), (1, [0, 9]), (2, [2, 3]), (3, [2, 3])], [], []⟩
theorem T16_sch : T16.sch = [] := (rfl)
theorem T16_reg : T16.reg = [(0, [0]), (1, [0, 9]), (2, [2, 3]), (3, [2, 3])] := (rfl)
theorem T16_loops : T16.loops = [] := (rfl)
def T17 : Tab := ⟨[(0, [0, 1, 2, 3]), (1, [3, 9, 10]), (2, [3, 9, 10, 20, 21]), (3, [3, 9, 10, 20, 21, 22]), (4, [3, 9, 10, 11, 20, 21]), (5, [3, 9, 10, 20, 21]), (6, [3, 9, 10, 20, 21]), (7, [8])], [(0, [3, 9, 10, 20, 21])], []⟩
theorem T17_sch : T17.sch = [] := (rfl)
theorem T17_reg : T17.reg = [(0, [0, 1, 2, 3]), (1, [3, 9, 10]), (2, [3, 9, 10, 20, 21]), (3, [3, 9, 10, 20, 21, 22]), (4, [3, 9, 10, 11, 20, 21]), (5, [3, 9, 10, 20, 21]), (6, [3, 9, 10, 20, 21]), (7, [8])] := (rfl)
theorem T17_loops : T17.loops = [(0, [3, 9, 10, 20, 21])] := (rfl)
def T18 : Tab := ⟨[(0, [0, 1]), (1, [0, 1, 10]), (2, [4, 5]), (3, [6]), (4, [4, 5])], [], []⟩
theorem T18_sch : T18.sch = [] := (rfl)
theorem T18_reg : T18.reg = [(0, [0, 1]), (1, [0, 1, 10]), (2, [4, 5]), (3, [6]), (4, [4, 5])] := (rfl)
theorem T18_loops : T18.loops = [] := (rfl)
def T19 : Tab := ⟨[(0, [0, 1, 2, 3]), (1, [1, 3, 9]), (2, [1, 3, 9, 17]), (3, [8]), (4, [1, 3, 9, 22]), (5, [1, 3, 9, 24]), (6, [1, 3, 9, 28]), (7, [8]), (8, [1, 3, 9]), (9, [1, 3, 9]), (10, [1, 3, 9, 45]), (11, [1, 3, 9]), (12, [8])], [(0, [1, 3, 9])], []⟩
theorem T19_sch : T19.sch = [] := (rfl)
theorem T19_reg : T19.reg = [(0, [0, 1, 2, 3]), (1, [1, 3, 9]), (2, [1, 3, 9, 17]), (3, [8]), (4, [1, 3, 9, 22]), (5, [1, 3, 9, 24]), (6, [1, 3, 9, 28]), (7, [8]), (8, [1, 3, 9]), (9, [1, 3, 9]), (10, [1, 3, 9, 45]), (11, [1, 3, 9]), (12, [8])] := (rfl)
theorem T19_loops : T19.loops = [(0, [1, 3, 9])] := (rfl)
def T20 : Tab := ⟨[(0, [0]), (1, [0, 9]), (2, [2, 3]), (3, [2, 3])], [], []⟩
theorem T20_sch : T20.sch = [] := (rfl)
theorem T20_reg : T20.reg = [(0, [0]), (1, [0, 9]), (2, [2, 3]), (3, [2, 3])] := (rfl)
theorem T20_loops : T20.loops = [] := (rfl)
def T21 : Tab := ⟨[(0, [0, 1, 2, 3, 9]), (1, [0, 1, 2, 3, 9, 11]), (2, [0, 1, 2, 3, 9, 11, 12]), (3, [0, 1, 2, 3, 9, 11, 12, 13]), (4, [0, 1, 2, 3, 9, 11, 12, 13, 14]), (5, [0, 1, 2, 3, 9, 11, 12, 13, 14, 22]), (6, [0, 1, 2, 3, 9, 11, 12, 13, 14, 22, 23]), (7, [2, 9, 11, 13, 14]), (8, [11, 12, 13, 14]), (9, [0, 1, 2, 3, 9, 11, 12, 13, 14, 22, 33]), (10, [2, 9, 11, 13, 14]), (11, [11, 12, 13, 14]), (12, [0, 1, 2, 3, 9, 11, 12, 13, 14, 22, 43]), (13, [2, 9, 15, 16]), (14, [15, 16, 17, 18]), (15, [10]), (16, [0, 1, 2, 3, 9, 11, 12, 13, 14, 22, 67]), (17, [2, 9, 11, 13]), (18, [11, 12, 13, 14]), (19, [0, 1, 2, 3, 9, 11, 12, 13, 14, 22, 95]), (20, [0, 1, 2, 3, 9, 19]), (21, [0, 1, 2, 3, 9, 19, 20]), (22, [2, 3, 9, 11, 19, 20]), (23, [11, 12, 19, 20]), (24, [10]), (25, [0, 1, 2, 3, 9, 11, 12, 13, 14, 22, 127]), (26, [2, 9, 11, 13]), (27, [11, 12, 13, 14]), (28, [1, 3, 9, 11, 12, 13, 14, 155]), (29, [3, 9, 11, 13, 14]), (30, [11, 12, 13, 14]), (31, [10])], [], []⟩
theorem T21_sch : T21.sch = [] := (rfl)
theorem T21_reg : T21.reg = [(0, [0, 1, 2, 3, 9]), (1, [0, 1, 2, 3, 9, 11]), (2, [0, 1, 2, 3, 9, 11, 12]), (3, [0, 1, 2, 3, 9, 11, 12, 13]), (4, [0, 1, 2, 3, 9, 11, 12, 13, 14]), (5, [0, 1, 2, 3, 9, 11, 12, 13, 14, 22]), (6, [0, 1, 2, 3, 9, 11, 12, 13, 14, 22, 23]), (7, [2, 9, 11, 13, 14]), (8, [11, 12, 13, 14]), (9, [0, 1, 2, 3, 9, 11, 12, 13, 14, 22, 33]), (10, [2, 9, 11, 13, 14]), (11, [11, 12, 13, 14]), (12, [0, 1, 2, 3, 9, 11, 12, 13, 14, 22, 43]), (13, [2, 9, 15, 16]), (14, [15, 16, 17, 18]), (15, [10]), (16, [0, 1, 2, 3, 9, 11, 12, 13, 14, 22, 67]), (17, [2, 9, 11, 13]), (18, [11, 12, 13, 14]), (19, [0, 1, 2, 3, 9, 11, 12, 13, 14, 22, 95]), (20, [0, 1, 2, 3, 9, 19]), (21, [0, 1, 2, 3, 9, 19, 20]), (22, [2, 3, 9, 11, 19, 20]), (23, [11, 12, 19, 20]), (24, [10]), (25, [0, 1, 2, 3, 9, 11, 12, 13, 14, 22, 127]), (26, [2, 9, 11, 13]), (27, [11, 12, 13, 14]), (28, [1, 3, 9, 11, 12, 13, 14, 155]), (29, [3, 9, 11, 13, 14]), (30, [11, 12, 13, 14]), (31, [10])] := (rfl)
theorem T21_loops : T21.loops = [] := (rfl)
def T22 : Tab := ⟨[(0, [0, 1, 2, 3, 4]), (1, [2, 3, 4, 12]), (2, [2, 3, 4, 12, 23]), (3, [10, 11]), (4, [2, 4, 12, 13, 14]), (5, [2, 4, 12, 13, 14, 30]), (6, [10, 11]), (7, [2, 4, 12, 13, 34]), (8, [10, 11]), (9, [4, 12, 13, 41]), (10, [10, 11]), (11, [4, 12, 13, 15]), (12, [15, 84]), (13, [10, 11]), (14, [10, 11])], [], []⟩
theorem T22_sch : T22.sch = [] := (rfl)
theorem T22_reg : T22.reg = [(0, [0, 1, 2, 3, 4]), (1, [2, 3, 4, 12]), (2, [2, 3, 4, 12, 23]), (3, [10, 11]), (4, [2, 4, 12, 13, 14]), (5, [2, 4, 12, 13, 14, 30]), (6, [10, 11]), (7, [2, 4, 12, 13, 34]), (8, [10, 11]), (9, [4, 12, 13, 41]), (10, [10, 11]), (11, [4, 12, 13, 15]), (12, [15, 84]), (13, [10, 11]), (14, [10, 11])] := (rfl)
theorem T22_loops : T22.loops = [] := (rfl)
def T23 : Tab := ⟨[(0, [0]), (1, [0, 3]), (2, [3, 10]), (3, [3, 10, 12]), (4, [3, 5, 10]), (5, [3, 10]), (6, [3]), (7, [2])], [(0, [3, 10])], []⟩
theorem T23_sch : T23.sch = [] := (rfl)
theorem T23_reg : T23.reg = [(0, [0]), (1, [0, 3]), (2, [3, 10]), (3, [3, 10, 12]), (4, [3, 5, 10]), (5, [3, 10]), (6, [3]), (7, [2])] := (rfl)
theorem T23_loops : T23.loops = [(0, [3, 10])] := (rfl)
def T24 : Tab := ⟨[(0, [0, 1]), (1, [0, 1, 6]), (2, [0, 1, 11]), (3, [4, 5]), (4, [4, 5])], [], []⟩
theorem T24_sch : T24.sch = [] := (rfl)
theorem T24_reg : T24.reg = [(0, [0, 1]), (1, [0, 1, 6]), (2, [0, 1, 11]), (3, [4, 5]), (4, [4, 5])] := (rfl)
theorem T24_loops : T24.loops = [] := (rfl)
def T25 : Tab := ⟨[(0, [0, 1]), (1, [0, 1, 10]), (2, [4]), (3, [0, 1, 5]), (4, [0, 1, 5, 14]), (5, [0, 1, 5]), (6, [0, 1, 5, 25]), (7, [4]), (8, [4])], [(0, [0, 1, 5])], []⟩
theorem T25_sch : T25.sch = [] := (rfl)
theorem T25_reg : T25.reg = [(0, [0, 1]), (1, [0, 1, 10]), (2, [4]), (3, [0, 1, 5]), (4, [0, 1, 5, 14]), (5, [0, 1, 5]), (6, [0, 1, 5, 25]), (7, [4]), (8, [4])] := (rfl)
theorem T25_loops : T25.loops = [(0, [0, 1, 5])] := (rfl)
def T26 : Tab := ⟨[(0, [0, 1]), (1, [1, 7]), (2, [1, 7, 8]), (3, [1, 10]), (4, [1, 10, 11]), (5, [1, 6, 10]), (6, [1, 10, 16]), (7, [4, 5]), (8, [1, 10]), (9, [4, 5]), (10, [1, 7, 19]), (11, [1, 7, 19]), (12, [1, 7, 19]), (13, [1, 7, 19]), (14, [1, 7, 19]), (15, [1, 7, 19]), (16, [1, 19]), (17, [28]), (18, [4, 5]), (19, [4, 5]), (20, [4, 5])], [(1, [1, 10])], []⟩
theorem T26_sch : T26.sch = [] := (rfl)
theorem T26_reg : T26.reg = [(0, [0, 1]), (1, [1, 7]), (2, [1, 7, 8]), (3, [1, 10]), (4, [1, 10, 11]), (5, [1, 6, 10]), (6, [1, 10, 16]), (7, [4, 5]), (8, [1, 10]), (9, [4, 5]), (10, [1, 7, 19]), (11, [1, 7, 19]), (12, [1, 7, 19]), (13, [1, 7, 19]), (14, [1, 7, 19]), (15, [1, 7, 19]), (16, [1, 19]), (17, [28]), (18, [4, 5]), (19, [4, 5]), (20, [4, 5])] := (rfl)
theorem T26_loops : T26.loops = [(1, [1, 10])] := (rfl)
def T27 : Tab := ⟨[(0, [0, 1, 2]), (1, [0, 1, 2, 9]), (2, [6, 7]), (3, [0, 1, 2, 20]), (4, [6, 7]), (5, [0, 1, 2, 25]), (6, [6, 7]), (7, [0, 1, 2, 8]), (8, [6, 7])], [], []⟩
theorem T27_sch : T27.sch = [] := (rfl)
theorem T27_reg : T27.reg = [(0, [0, 1, 2]), (1, [0, 1, 2, 9]), (2, [6, 7]), (3, [0, 1, 2, 20]), (4, [6, 7]), (5, [0, 1, 2, 25]), (6, [6, 7]), (7, [0, 1, 2, 8]), (8, [6, 7])] := (rfl)
theorem T27_loops : T27.loops = [] := (rfl)
def T28 : Tab := ⟨[(0, [0, 1]), (1, [4])], [], []⟩
theorem T28_sch : T28.sch = [] := (rfl)
theorem T28_reg : T28.reg = [(0, [0, 1]), (1, [4])] := (rfl)
theorem T28_loops : T28.loops = [] := (rfl)
def T29 : Tab := ⟨[(0, [0, 1]), (1, [0, 1, 8]), (2, [4]), (3, []), (4, [4])], [], []⟩
theorem T29_sch : T29.sch = [] := (rfl)
theorem T29_reg : T29.reg = [(0, [0, 1]), (1, [0, 1, 8]), (2, [4]), (3, []), (4, [4])] := (rfl)
theorem T29_loops : T29.loops = [] := (rfl)
def T30 : Tab := ⟨[(0, [0, 3]), (1, [0, 3, 5]), (2, [0, 3, 13]), (3, [4]), (4, [0, 3, 6]), (5, [0, 3, 19]), (6, [4]), (7, [0, 3, 7]), (8, [0, 3, 7, 8]), (9, [0, 3, 7, 8, 39]), (10, [0, 3, 7, 8]), (11, [0, 3, 7, 8]), (12, [0, 3, 7, 9]), (13, [0, 7, 9]), (14, [0, 7]), (15, []), (16, [4])], [(0, [0, 3, 7, 8])], []⟩
theorem T30_sch : T30.sch = [] := (rfl)
theorem T30_reg : T30.reg = [(0, [0, 3]), (1, [0, 3, 5]), (2, [0, 3, 13]), (3, [4]), (4, [0, 3, 6]), (5, [0, 3, 19]), (6, [4]), (7, [0, 3, 7]), (8, [0, 3, 7, 8]), (9, [0, 3, 7, 8, 39]), (10, [0, 3, 7, 8]), (11, [0, 3, 7, 8]), (12, [0, 3, 7, 9]), (13, [0, 7, 9]), (14, [0, 7]), (15, []), (16, [4])] := (rfl)
theorem T30_loops : T30.loops = [(0, [0, 3, 7, 8])] := (rfl)
def T31 : Tab := ⟨[(0, [0, 1]), (1, [0, 1, 11]), (2, [4]), (3, []), (4, [4])], [], []⟩
theorem T31_sch : T31.sch = [] := (rfl)
theorem T31_reg : T31.reg = [(0, [0, 1]), (1, [0, 1, 11]), (2, [4]), (3, []), (4, [4])] := (rfl)
theorem T31_loops : T31.loops = [] := (rfl)
def T32 : Tab := ⟨[(0, [0, 1]), (1, [0, 5]), (2, [0, 5, 10]), (3, [4]), (4, []), (5, [4])], [], [(4, ⟨983298, 65277, [0, 0, 0, 4, 12, 28, 0, 124, 254, 0, 512, 1536, 3584, 0, 8192, 32256, 65534, 131071, 262143, 524287], (.rd 0 false (.rd 2 false (.rd 3 false (.rd 4 false (.rd 5 false (.rd 6 false (.rd 7 false (.rd 9 false (.rd 10 false (.rd 11 false (.rd 12 false (.rd 13 false (.rd 14 false (.rd 15 false (.wr 1 (.rd 0 true (.rd 2 true (.rd 3 true (.rd 4 true (.rd 5 true (.rd 6 true (.rd 7 true (.rd 9 true (.rd 10 true (.rd 11 true (.rd 12 true (.rd 13 true (.rd 14 true (.rd 15 true (.wr 8 (.rd 0 true (.rd 9 true (.rd 10 true (.rd 11 true (.rd 12 true (.rd 13 true (.rd 14 true (.rd 15 true (.wr 16 (.rd 0 true (.wr 17 (.wr 18 (.wr 19 .done .no) .no) .no)) .no))))))))) .no))))))))))))))) .no)))))))))))))))⟩)]⟩
theorem T32_sch : T32.sch = [(4, ⟨983298, 65277, [0, 0, 0, 4, 12, 28, 0, 124, 254, 0, 512, 1536, 3584, 0, 8192, 32256, 65534, 131071, 262143, 524287], (.rd 0 false (.rd 2 false (.rd 3 false (.rd 4 false (.rd 5 false (.rd 6 false (.rd 7 false (.rd 9 false (.rd 10 false (.rd 11 false (.rd 12 false (.rd 13 false (.rd 14 false (.rd 15 false (.wr 1 (.rd 0 true (.rd 2 true (.rd 3 true (.rd 4 true (.rd 5 true (.rd 6 true (.rd 7 true (.rd 9 true (.rd 10 true (.rd 11 true (.rd 12 true (.rd 13 true (.rd 14 true (.rd 15 true (.wr 8 (.rd 0 true (.rd 9 true (.rd 10 true (.rd 11 true (.rd 12 true (.rd 13 true (.rd 14 true (.rd 15 true (.wr 16 (.rd 0 true (.wr 17 (.wr 18 (.wr 19 .done .no) .no) .no)) .no))))))))) .no))))))))))))))) .no)))))))))))))))⟩)] := (rfl)
theorem T32_reg : T32.reg = [(0, [0, 1]), (1, [0, 5]), (2, [0, 5, 10]), (3, [4]), (4, []), (5, [4])] := (rfl)
theorem T32_loops : T32.loops = [] := (rfl)
def T33 : Tab := ⟨[(0, [0, 1, 4]), (1, [0, 4, 6]), (2, [0, 4, 6, 11]), (3, [4, 5]), (4, [4, 5])], [], []⟩
theorem T33_sch : T33.sch = [] := (rfl)
theorem T33_reg : T33.reg = [(0, [0, 1, 4]), (1, [0, 4, 6]), (2, [0, 4, 6, 11]), (3, [4, 5]), (4, [4, 5])] := (rfl)
theorem T33_loops : T33.loops = [] := (rfl)
def T34 : Tab := ⟨[(0, [0, 1, 2, 3, 4]), (1, [0, 1, 2, 3, 4, 12, 13]), (2, [0, 1, 2, 3, 4, 12, 13, 27]), (3, [10, 11]), (4, [0, 1, 2, 3, 4, 12, 14]), (5, [0, 1, 4, 12, 14, 15]), (6, [12]), (7, [10, 11])], [], []⟩
theorem T34_sch : T34.sch = [] := (rfl)
theorem T34_reg : T34.reg = [(0, [0, 1, 2, 3, 4]), (1, [0, 1, 2, 3, 4, 12, 13]), (2, [0, 1, 2, 3, 4, 12, 13, 27]), (3, [10, 11]), (4, [0, 1, 2, 3, 4, 12, 14]), (5, [0, 1, 4, 12, 14, 15]), (6, [12]), (7, [10, 11])] := (rfl)
theorem T34_loops : T34.loops = [] := (rfl)
def T35 : Tab := ⟨[(0, [0, 1, 2, 3]), (1, [0, 1, 2, 3, 9]), (2, [0, 1, 2, 3, 9, 15]), (3, [8]), (4, [0, 1, 2, 3, 9, 24]), (5, [0, 1, 2, 3, 9, 10]), (6, [0, 1, 2, 3, 9, 28]), (7, [8]), (8, [0, 1, 2, 3, 9]), (9, [0, 1, 2, 3, 9, 53]), (10, [0, 1, 2, 3, 9]), (11, [8])], [(0, [0, 1, 2, 3, 9])], []⟩
theorem T35_sch : T35.sch = [] := (rfl)
theorem T35_reg : T35.reg = [(0, [0, 1, 2, 3]), (1, [0, 1, 2, 3, 9]), (2, [0, 1, 2, 3, 9, 15]), (3, [8]), (4, [0, 1, 2, 3, 9, 24]), (5, [0, 1, 2, 3, 9, 10]), (6, [0, 1, 2, 3, 9, 28]), (7, [8]), (8, [0, 1, 2, 3, 9]), (9, [0, 1, 2, 3, 9, 53]), (10, [0, 1, 2, 3, 9]), (11, [8])] := (rfl)
theorem T35_loops : T35.loops = [(0, [0, 1, 2, 3, 9])] := (rfl)
def T36 : Tab := ⟨[(0, [0, 1, 2, 3, 4]), (1, [0, 2, 3, 4, 12]), (2, [0, 2, 3, 4, 12, 21]), (3, [10, 11]), (4, [2, 3, 4, 13]), (5, [2, 4, 13, 14, 15]), (6, [2, 4, 13, 14, 15, 36]), (7, [10, 11]), (8, [2, 4, 13, 14, 43]), (9, [10, 11]), (10, [4, 13, 14, 53]), (11, [10, 11]), (12, [4, 13, 14, 16]), (13, [4, 13, 14, 16, 62]), (14, [4, 13, 14, 16]), (15, [16, 75]), (16, [10, 11]), (17, [10, 11])], [(0, [4, 13, 14, 16])], []⟩
theorem T36_sch : T36.sch = [] := (rfl)
theorem T36_reg : T36.reg = [(0, [0, 1, 2, 3, 4]), (1, [0, 2, 3, 4, 12]), (2, [0, 2, 3, 4, 12, 21]), (3, [10, 11]), (4, [2, 3, 4, 13]), (5, [2, 4, 13, 14, 15]), (6, [2, 4, 13, 14, 15, 36]), (7, [10, 11]), (8, [2, 4, 13, 14, 43]), (9, [10, 11]), (10, [4, 13, 14, 53]), (11, [10, 11]), (12, [4, 13, 14, 16]), (13, [4, 13, 14, 16, 62]), (14, [4, 13, 14, 16]), (15, [16, 75]), (16, [10, 11]), (17, [10, 11])] := (rfl)
theorem T36_loops : T36.loops = [(0, [4, 13, 14, 16])] := (rfl)
def T37 : Tab := ⟨[(0, [0, 1, 2, 3]), (1, [0, 1, 2, 3, 9]), (2, [0, 1, 2, 3, 9, 16]), (3, [8]), (4, [0, 1, 2, 3, 10]), (5, [0, 1, 2, 3, 10, 20]), (6, [0, 1, 2, 3, 10]), (7, [0, 1, 2, 3, 10]), (8, [0, 1, 2, 3, 10]), (9, [8])], [(0, [0, 1, 2, 3, 10])], []⟩
theorem T37_sch : T37.sch = [] := (rfl)
theorem T37_reg : T37.reg = [(0, [0, 1, 2, 3]), (1, [0, 1, 2, 3, 9]), (2, [0, 1, 2, 3, 9, 16]), (3, [8]), (4, [0, 1, 2, 3, 10]), (5, [0, 1, 2, 3, 10, 20]), (6, [0, 1, 2, 3, 10]), (7, [0, 1, 2, 3, 10]), (8, [0, 1, 2, 3, 10]), (9, [8])] := (rfl)
theorem T37_loops : T37.loops = [(0, [0, 1, 2, 3, 10])] := (rfl)
def T38 : Tab := ⟨[(0, [0, 1, 4]), (1, [])], [], []⟩
theorem T38_sch : T38.sch = [] := (rfl)
theorem T38_reg : T38.reg = [(0, [0, 1, 4]), (1, [])] := (rfl)
theorem T38_loops : T38.loops = [] := (rfl)
def T39 : Tab := ⟨[(0, [2, 3]), (1, [4])], [], []⟩
theorem T39_sch : T39.sch = [] := (rfl)
theorem T39_reg : T39.reg = [(0, [2, 3]), (1, [4])] := (rfl)
theorem T39_loops : T39.loops = [] := (rfl)
def T40 : Tab := ⟨[(0, [0, 1]), (1, [0, 1, 5]), (2, [0, 1, 5, 6]), (3, [0, 1, 6, 11]), (4, [12]), (5, [4]), (6, [4]), (7, [0, 1, 13]), (8, [4]), (9, [0, 1, 16]), (10, [4]), (11, [19]), (12, [4]), (13, [4])], [], []⟩
theorem T40_sch : T40.sch = [] := (rfl)
theorem T40_reg : T40.reg = [(0, [0, 1]), (1, [0, 1, 5]), (2, [0, 1, 5, 6]), (3, [0, 1, 6, 11]), (4, [12]), (5, [4]), (6, [4]), (7, [0, 1, 13]), (8, [4]), (9, [0, 1, 16]), (10, [4]), (11, [19]), (12, [4]), (13, [4])] := (rfl)
theorem T40_loops : T40.loops = [] := (rfl)
def T41 : Tab := ⟨[(0, [0, 1]), (1, [4])], [], []⟩
theorem T41_sch : T41.sch = [] := (rfl)
theorem T41_reg : T41.reg = [(0, [0, 1]), (1, [4])] := (rfl)
theorem T41_loops : T41.loops = [] := (rfl)
def T42 : Tab := ⟨[(0, [1]), (1, [2])], [], []⟩
theorem T42_sch : T42.sch = [] := (rfl)
theorem T42_reg : T42.reg = [(0, [1]), (1, [2])] := (rfl)
theorem T42_loops : T42.loops = [] := (rfl)
def T43 : Tab := ⟨[(0, [0, 1]), (1, [0, 1, 5]), (2, [0, 1, 5, 12]), (3, [0, 1, 5]), (4, [0, 1, 5, 24]), (5, [4]), (6, [4])], [(0, [0, 1, 5])], []⟩
theorem T43_sch : T43.sch = [] := (rfl)
theorem T43_reg : T43.reg = [(0, [0, 1]), (1, [0, 1, 5]), (2, [0, 1, 5, 12]), (3, [0, 1, 5]), (4, [0, 1, 5, 24]), (5, [4]), (6, [4])] := (rfl)
theorem T43_loops : T43.loops = [(0, [0, 1, 5])] := (rfl)
def T44 : Tab := ⟨[(0, [0]), (1, [0, 7]), (2, [2]), (3, [0, 12]), (4, []), (5, [2])], [], []⟩
theorem T44_sch : T44.sch = [] := (rfl)
theorem T44_reg : T44.reg = [(0, [0]), (1, [0, 7]), (2, [2]), (3, [0, 12]), (4, []), (5, [2])] := (rfl)
theorem T44_loops : T44.loops = [] := (rfl)
def T45 : Tab := ⟨[(0, [0, 1]), (1, [0, 1, 5]), (2, [0, 1, 11]), (3, [4]), (4, [0, 1, 6]), (5, [0, 1, 6, 13]), (6, [0, 1, 6]), (7, [0, 1, 6]), (8, [4])], [(0, [0, 1, 6])], []⟩
theorem T45_sch : T45.sch = [] := (rfl)
theorem T45_reg : T45.reg = [(0, [0, 1]), (1, [0, 1, 5]), (2, [0, 1, 11]), (3, [4]), (4, [0, 1, 6]), (5, [0, 1, 6, 13]), (6, [0, 1, 6]), (7, [0, 1, 6]), (8, [4])] := (rfl)
theorem T45_loops : T45.loops = [(0, [0, 1, 6])] := (rfl)
def T46 : Tab := ⟨[(0, [0, 1, 2]), (1, [0, 1, 2, 16]), (2, [6]), (3, [0, 1, 20]), (4, [6]), (5, [31]), (6, [6]), (7, [6])], [], []⟩
theorem T46_sch : T46.sch = [] := (rfl)
theorem T46_reg : T46.reg = [(0, [0, 1, 2]), (1, [0, 1, 2, 16]), (2, [6]), (3, [0, 1, 20]), (4, [6]), (5, [31]), (6, [6]), (7, [6])] := (rfl)
theorem T46_loops : T46.loops = [] := (rfl)
def T47 : Tab := ⟨[(0, [0, 1, 2, 3, 4, 10]), (1, [0, 1, 2, 3, 4, 10, 11]), (2, [0, 1, 2, 3, 4, 10, 11, 12]), (3, [0, 1, 2, 3, 4, 10, 11, 12, 25]), (4, []), (5, [0, 1, 2, 3, 4, 10, 11, 12, 32]), (6, []), (7, [0, 1, 2, 3, 4, 10, 11, 12, 39]), (8, [0, 1, 2, 3, 4, 10, 11, 12]), (9, [0, 1, 2, 3, 4, 10, 11, 12]), (10, [0, 1, 2, 3, 4, 10, 11, 12, 13, 14]), (11, [0, 1, 2, 3, 4, 10, 11, 12, 13, 14, 56]), (12, [0, 1, 2, 3, 4, 10, 11, 12, 13]), (13, [0, 1, 2, 3, 4, 10, 11, 12, 13]), (14, [0, 1, 2, 3, 4, 10, 11, 12, 13, 14]), (15, [0, 1, 2, 3, 4, 10, 11, 12, 13, 75]), (16, [0, 1, 2, 3, 4, 10, 11, 12, 13, 80]), (17, [0, 1, 2, 3, 4, 10, 11, 12, 13, 97]), (18, [0, 2, 3, 4, 10, 11, 15]), (19, [0, 1, 2, 3, 4, 10, 11]), (20, [0, 1, 2, 3, 4, 12, 16, 17]), (21, [0, 1, 2, 3, 4, 11, 12, 16]), (22, [0, 1, 2, 3, 4, 11, 12, 16, 18, 19]), (23, [0, 1, 2, 3, 4, 11, 16, 18, 19, 20]), (24, [0, 1, 2, 3, 4, 11, 16, 18, 19, 20, 125]), (25, [0, 1, 2, 3, 4, 10, 11, 16]), (26, [0, 2, 3, 4, 10, 11, 16]), (27, [0, 1, 2, 3, 4, 10, 11]), (28, [0, 1, 2, 3, 4, 10, 11, 16]), (29, [0, 1, 3, 4, 10, 11, 16]), (30, [0, 1, 2, 3, 4, 10, 11])], [(0, [0, 1, 2, 3, 4, 10, 11])], []⟩
theorem T47_sch : T47.sch = [] := (rfl)
theorem T47_reg : T47.reg = [(0, [0, 1, 2, 3, 4, 10]), (1, [0, 1, 2, 3, 4, 10, 11]), (2, [0, 1, 2, 3, 4, 10, 11, 12]), (3, [0, 1, 2, 3, 4, 10, 11, 12, 25]), (4, []), (5, [0, 1, 2, 3, 4, 10, 11, 12, 32]), (6, []), (7, [0, 1, 2, 3, 4, 10, 11, 12, 39]), (8, [0, 1, 2, 3, 4, 10, 11, 12]), (9, [0, 1, 2, 3, 4, 10, 11, 12]), (10, [0, 1, 2, 3, 4, 10, 11, 12, 13, 14]), (11, [0, 1, 2, 3, 4, 10, 11, 12, 13, 14, 56]), (12, [0, 1, 2, 3, 4, 10, 11, 12, 13]), (13, [0, 1, 2, 3, 4, 10, 11, 12, 13]), (14, [0, 1, 2, 3, 4, 10, 11, 12, 13, 14]), (15, [0, 1, 2, 3, 4, 10, 11, 12, 13, 75]), (16, [0, 1, 2, 3, 4, 10, 11, 12, 13, 80]), (17, [0, 1, 2, 3, 4, 10, 11, 12, 13, 97]), (18, [0, 2, 3, 4, 10, 11, 15]), (19, [0, 1, 2, 3, 4, 10, 11]), (20, [0, 1, 2, 3, 4, 12, 16, 17]), (21, [0, 1, 2, 3, 4, 11, 12, 16]), (22, [0, 1, 2, 3, 4, 11, 12, 16, 18, 19]), (23, [0, 1, 2, 3, 4, 11, 16, 18, 19, 20]), (24, [0, 1, 2, 3, 4, 11, 16, 18, 19, 20, 125]), (25, [0, 1, 2, 3, 4, 10, 11, 16]), (26, [0, 2, 3, 4, 10, 11, 16]), (27, [0, 1, 2, 3, 4, 10, 11]), (28, [0, 1, 2, 3, 4, 10, 11, 16]), (29, [0, 1, 3, 4, 10, 11, 16]), (30, [0, 1, 2, 3, 4, 10, 11])] := (rfl)
theorem T47_loops : T47.loops = [(0, [0, 1, 2, 3, 4, 10, 11])] := (rfl)
def T48 : Tab := ⟨[(0, [0]), (1, [2]), (2, [2])], [], []⟩
theorem T48_sch : T48.sch = [] := (rfl)
theorem T48_reg : T48.reg = [(0, [0]), (1, [2]), (2, [2])] := (rfl)
theorem T48_loops : T48.loops = [] := (rfl)
def T49 : Tab := ⟨[(0, [0]), (1, [2])], [], []⟩
theorem T49_sch : T49.sch = [] := (rfl)
theorem T49_reg : T49.reg = [(0, [0]), (1, [2])] := (rfl)
theorem T49_loops : T49.loops = [] := (rfl)
def T50 : Tab := ⟨[(0, [0, 1, 2, 3, 8]), (1, [0, 1, 2, 3, 8, 14]), (2, [0, 1, 2, 3, 8]), (3, [0, 1, 2, 3, 8, 9]), (4, [0, 1, 2, 3, 8, 9, 34]), (5, [0, 1, 2, 3, 8, 9]), (6, [0, 1, 2, 3, 8, 9])], [(0, [0, 1, 2, 3, 8]), (2, [0, 1, 2, 3, 8, 9])], [(4, ⟨114688, 16383, [0, 0, 3, 7, 15, 15, 15, 111, 239, 15, 15, 1039, 3599, 7695, 16383, 32767, 65535], (.rd 0 false (.rd 1 false (.rd 2 false (.rd 3 false (.rd 4 false (.rd 5 false (.rd 6 false (.rd 7 false (.rd 8 false (.rd 9 false (.rd 10 false (.rd 11 false (.rd 12 false (.rd 13 false (.wr 14 (.wr 15 (.wr 16 .done .no) .no) .no)))))))))))))))⟩), (6, ⟨229376, 32767, [0, 0, 0, 0, 8, 0, 0, 64, 224, 480, 0, 0, 3072, 7168, 16355, 32739, 65535, 131071], (.rd 0 false (.rd 1 false (.rd 2 false (.rd 3 false (.rd 4 false (.rd 5 false (.rd 6 false (.rd 7 false (.rd 8 false (.rd 9 false (.rd 10 false (.rd 11 false (.rd 12 false (.rd 13 false (.rd 14 false (.wr 15 (.rd 2 true (.rd 3 true (.rd 4 true (.wr 16 (.wr 17 .done .no) .no)))) .no))))))))))))))))⟩)]⟩
theorem T50_sch : T50.sch = [(4, ⟨114688, 16383, [0, 0, 3, 7, 15, 15, 15, 111, 239, 15, 15, 1039, 3599, 7695, 16383, 32767, 65535], (.rd 0 false (.rd 1 false (.rd 2 false (.rd 3 false (.rd 4 false (.rd 5 false (.rd 6 false (.rd 7 false (.rd 8 false (.rd 9 false (.rd 10 false (.rd 11 false (.rd 12 false (.rd 13 false (.wr 14 (.wr 15 (.wr 16 .done .no) .no) .no)))))))))))))))⟩), (6, ⟨229376, 32767, [0, 0, 0, 0, 8, 0, 0, 64, 224, 480, 0, 0, 3072, 7168, 16355, 32739, 65535, 131071], (.rd 0 false (.rd 1 false (.rd 2 false (.rd 3 false (.rd 4 false (.rd 5 false (.rd 6 false (.rd 7 false (.rd 8 false (.rd 9 false (.rd 10 false (.rd 11 false (.rd 12 false (.rd 13 false (.rd 14 false (.wr 15 (.rd 2 true (.rd 3 true (.rd 4 true (.wr 16 (.wr 17 .done .no) .no)))) .no))))))))))))))))⟩)] := (rfl)
theorem T50_reg : T50.reg = [(0, [0, 1, 2, 3, 8]), (1, [0, 1, 2, 3, 8, 14]), (2, [0, 1, 2, 3, 8]), (3, [0, 1, 2, 3, 8, 9]), (4, [0, 1, 2, 3, 8, 9, 34]), (5, [0, 1, 2, 3, 8, 9]), (6, [0, 1, 2, 3, 8, 9])] := (rfl)
theorem T50_loops : T50.loops = [(0, [0, 1, 2, 3, 8]), (2, [0, 1, 2, 3, 8, 9])] := (rfl)
def T51 : Tab := ⟨[(0, [0, 1, 2, 3, 8]), (1, [0, 1, 2, 3, 8, 9]), (2, [0, 3, 8, 9, 10]), (3, [0, 3, 8, 9, 10, 11]), (4, [0, 3, 8, 9, 10, 11, 21]), (5, [0, 3, 8, 9, 10, 11]), (6, [0, 3, 8, 9, 10, 11]), (7, [0, 3, 8, 9, 12]), (8, [0, 3, 8, 9, 12, 33]), (9, [0, 3, 8, 9, 12]), (10, [0, 3, 8, 9, 12]), (11, [0, 3, 8, 9, 12])], [(0, [0, 3, 8, 9, 10, 11]), (2, [0, 3, 8, 9, 12])], [(10, ⟨917504, 131071, [0, 0, 0, 0, 0, 24, 0, 0, 0, 384, 960, 1984, 0, 0, 12288, 28672, 65475, 131011, 262143, 524287], (.rd 0 false (.rd 1 false (.rd 2 false (.rd 3 false (.rd 4 false (.rd 5 false (.rd 6 false (.rd 7 false (.rd 8 false (.rd 9 false (.rd 10 false (.rd 11 false (.rd 12 false (.rd 13 false (.rd 14 false (.rd 15 false (.rd 16 false (.wr 17 (.rd 2 true (.rd 3 true (.rd 4 true (.rd 5 true (.wr 18 (.wr 19 .done .no) .no))))) .no))))))))))))))))))⟩)]⟩
theorem T51_sch : T51.sch = [(10, ⟨917504, 131071, [0, 0, 0, 0, 0, 24, 0, 0, 0, 384, 960, 1984, 0, 0, 12288, 28672, 65475, 131011, 262143, 524287], (.rd 0 false (.rd 1 false (.rd 2 false (.rd 3 false (.rd 4 false (.rd 5 false (.rd 6 false (.rd 7 false (.rd 8 false (.rd 9 false (.rd 10 false (.rd 11 false (.rd 12 false (.rd 13 false (.rd 14 false (.rd 15 false (.rd 16 false (.wr 17 (.rd 2 true (.rd 3 true (.rd 4 true (.rd 5 true (.wr 18 (.wr 19 .done .no) .no))))) .no))))))))))))))))))⟩)] := (rfl)
theorem T51_reg : T51.reg = [(0, [0, 1, 2, 3, 8]), (1, [0, 1, 2, 3, 8, 9]), (2, [0, 3, 8, 9, 10]), (3, [0, 3, 8, 9, 10, 11]), (4, [0, 3, 8, 9, 10, 11, 21]), (5, [0, 3, 8, 9, 10, 11]), (6, [0, 3, 8, 9, 10, 11]), (7, [0, 3, 8, 9, 12]), (8, [0, 3, 8, 9, 12, 33]), (9, [0, 3, 8, 9, 12]), (10, [0, 3, 8, 9, 12]), (11, [0, 3, 8, 9, 12])] := (rfl)
theorem T51_loops : T51.loops = [(0, [0, 3, 8, 9, 10, 11]), (2, [0, 3, 8, 9, 12])] := (rfl)
def T52 : Tab := ⟨[(0, [0, 1, 8]), (1, [0, 1, 8, 17]), (2, [0, 1, 8, 9]), (3, [0, 1, 8, 9, 10]), (4, [0, 1, 8, 9, 10, 11]), (5, [0, 1, 8, 9, 10, 11, 35]), (6, [0, 1, 8, 9, 10, 11]), (7, [0, 1, 8, 9, 10, 11, 12]), (8, [0, 1, 8, 9, 10, 11, 12, 45]), (9, [0, 1, 8, 9, 10, 11, 12]), (10, [0, 1, 8, 9, 10, 11])], [(0, [0, 1, 8, 9, 10, 11])], [(10, ⟨917504, 131071, [0, 0, 0, 0, 0, 24, 0, 0, 0, 384, 960, 1984, 0, 0, 12288, 28672, 65475, 131011, 262143, 524287], (.rd 0 false (.rd 1 false (.rd 2 false (.rd 3 false (.rd 4 false (.rd 5 false (.rd 6 false (.rd 7 false (.rd 8 false (.rd 9 false (.rd 10 false (.rd 11 false (.rd 12 false (.rd 13 false (.rd 14 false (.rd 15 false (.rd 16 false (.wr 17 (.rd 2 true (.rd 3 true (.rd 4 true (.rd 5 true (.wr 18 (.wr 19 .done .no) .no))))) .no))))))))))))))))))⟩)]⟩
theorem T52_sch : T52.sch = [(10, ⟨917504, 131071, [0, 0, 0, 0, 0, 24, 0, 0, 0, 384, 960, 1984, 0, 0, 12288, 28672, 65475, 131011, 262143, 524287], (.rd 0 false (.rd 1 false (.rd 2 false (.rd 3 false (.rd 4 false (.rd 5 false (.rd 6 false (.rd 7 false (.rd 8 false (.rd 9 false (.rd 10 false (.rd 11 false (.rd 12 false (.rd 13 false (.rd 14 false (.rd 15 false (.rd 16 false (.wr 17 (.rd 2 true (.rd 3 true (.rd 4 true (.rd 5 true (.wr 18 (.wr 19 .done .no) .no))))) .no))))))))))))))))))⟩)] := (rfl)
theorem T52_reg : T52.reg = [(0, [0, 1, 8]), (1, [0, 1, 8, 17]), (2, [0, 1, 8, 9]), (3, [0, 1, 8, 9, 10]), (4, [0, 1, 8, 9, 10, 11]), (5, [0, 1, 8, 9, 10, 11, 35]), (6, [0, 1, 8, 9, 10, 11]), (7, [0, 1, 8, 9, 10, 11, 12]), (8, [0, 1, 8, 9, 10, 11, 12, 45]), (9, [0, 1, 8, 9, 10, 11, 12]), (10, [0, 1, 8, 9, 10, 11])] := (rfl)
theorem T52_loops : T52.loops = [(0, [0, 1, 8, 9, 10, 11])] := (rfl)
def T53 : Tab := ⟨[(0, [0, 1, 2, 3]), (1, [0, 1, 3, 10]), (2, [0, 1, 3, 10, 11]), (3, [0, 1, 3, 10, 11, 12]), (4, [0, 1, 3, 10, 11, 12, 13]), (5, [0, 3, 10, 11, 12, 13, 14]), (6, [0, 3, 10, 11, 12, 13, 14, 34]), (7, [0, 3, 11, 12, 13, 14, 36]), (8, [0, 3, 11, 12, 13, 14]), (9, [0, 3, 11, 12, 13, 14]), (10, [0, 3, 11, 12, 13, 14]), (11, [11, 13]), (12, [13, 55]), (13, [8, 9]), (14, [13, 55, 57]), (15, [8, 9]), (16, [13, 60]), (17, [8, 9])], [], []⟩
theorem T53_sch : T53.sch = [] := (rfl)
theorem T53_reg : T53.reg = [(0, [0, 1, 2, 3]), (1, [0, 1, 3, 10]), (2, [0, 1, 3, 10, 11]), (3, [0, 1, 3, 10, 11, 12]), (4, [0, 1, 3, 10, 11, 12, 13]), (5, [0, 3, 10, 11, 12, 13, 14]), (6, [0, 3, 10, 11, 12, 13, 14, 34]), (7, [0, 3, 11, 12, 13, 14, 36]), (8, [0, 3, 11, 12, 13, 14]), (9, [0, 3, 11, 12, 13, 14]), (10, [0, 3, 11, 12, 13, 14]), (11, [11, 13]), (12, [13, 55]), (13, [8, 9]), (14, [13, 55, 57]), (15, [8, 9]), (16, [13, 60]), (17, [8, 9])] := (rfl)
theorem T53_loops : T53.loops = [] := (rfl)
def T54 : Tab := ⟨[(0, [0, 2, 8]), (1, [0, 8, 9]), (2, [0, 8, 9, 15]), (3, [0, 8, 9]), (4, [0, 8, 9]), (5, [0, 8, 9])], [(0, [0, 8, 9])], [(3, ⟨57344, 8191, [0, 0, 0, 0, 0, 0, 48, 112, 0, 0, 768, 1792, 4083, 8179, 16383, 32767], (.rd 0 false (.rd 1 false (.rd 2 false (.rd 3 false (.rd 4 false (.rd 5 false (.rd 6 false (.rd 7 false (.rd 8 false (.rd 9 false (.rd 10 false (.rd 11 false (.rd 12 false (.wr 13 (.rd 2 true (.rd 3 true (.wr 14 (.wr 15 .done .no) .no))) .no))))))))))))))⟩)]⟩
theorem T54_sch : T54.sch = [(3, ⟨57344, 8191, [0, 0, 0, 0, 0, 0, 48, 112, 0, 0, 768, 1792, 4083, 8179, 16383, 32767], (.rd 0 false (.rd 1 false (.rd 2 false (.rd 3 false (.rd 4 false (.rd 5 false (.rd 6 false (.rd 7 false (.rd 8 false (.rd 9 false (.rd 10 false (.rd 11 false (.rd 12 false (.wr 13 (.rd 2 true (.rd 3 true (.wr 14 (.wr 15 .done .no) .no))) .no))))))))))))))⟩)] := (rfl)
theorem T54_reg : T54.reg = [(0, [0, 2, 8]), (1, [0, 8, 9]), (2, [0, 8, 9, 15]), (3, [0, 8, 9]), (4, [0, 8, 9]), (5, [0, 8, 9])] := (rfl)
theorem T54_loops : T54.loops = [(0, [0, 8, 9])] := (rfl)
def T55 : Tab := ⟨[(0, [0, 1, 2, 3]), (1, [0, 1, 2, 3, 9]), (2, [0, 1, 2, 3, 9, 10]), (3, [0, 1, 2, 3, 9, 10, 16]), (4, [0, 1, 2, 3, 9, 10]), (5, [0, 1, 2, 3, 9, 10, 36]), (6, [0, 1, 2, 3, 9, 10]), (7, [0, 1, 2, 3, 9, 10, 41]), (8, [8]), (9, [0, 1, 2, 3, 9, 10, 45]), (10, [8]), (11, [0, 1, 2, 3, 9, 10]), (12, [0, 1, 2, 3, 9, 10, 65]), (13, [0, 1, 2, 3, 9, 10, 11]), (14, [0, 1, 2, 3, 9, 10, 11, 69]), (15, [0, 1, 2, 3, 9, 10, 11]), (16, [0, 1, 2, 3, 9, 10, 11, 84]), (17, [0, 1, 2, 3, 9, 10, 11]), (18, [0, 1, 2, 3, 9, 10, 104]), (19, [0, 1, 2, 3, 9, 10, 12]), (20, [0, 1, 2, 3, 9, 10, 12, 109]), (21, [0, 1, 2, 3, 9, 10, 12]), (22, [0, 1, 2, 3, 9, 10, 12, 124]), (23, [0, 1, 2, 3, 9, 10, 12]), (24, [8])], [(0, [0, 1, 2, 3, 9, 10]), (2, [0, 1, 2, 3, 9, 10]), (4, [0, 1, 2, 3, 9, 10, 11]), (6, [0, 1, 2, 3, 9, 10, 12])], [(5, ⟨245760, 16383, [0, 0, 3, 7, 15, 15, 15, 111, 239, 15, 15, 1039, 3599, 7695, 16383, 32767, 65535, 131071], (.rd 0 false (.rd 1 false (.rd 2 false (.rd 3 false (.rd 4 false (.rd 5 false (.rd 6 false (.rd 7 false (.rd 8 false (.rd 9 false (.rd 10 false (.rd 11 false (.rd 12 false (.rd 13 false (.wr 14 (.wr 15 (.wr 16 (.wr 17 .done .no) .no) .no) .no)))))))))))))))⟩), (11, ⟨229376, 32767, [0, 0, 0, 0, 8, 0, 0, 64, 224, 480, 0, 0, 3072, 7168, 16355, 32739, 65535, 131071], (.rd 0 false (.rd 1 false (.rd 2 false (.rd 3 false (.rd 4 false (.rd 5 false (.rd 6 false (.rd 7 false (.rd 8 false (.rd 9 false (.rd 10 false (.rd 11 false (.rd 12 false (.rd 13 false (.rd 14 false (.wr 15 (.rd 2 true (.rd 3 true (.rd 4 true (.wr 16 (.wr 17 .done .no) .no)))) .no))))))))))))))))⟩), (16, ⟨7168, 1023, [0, 0, 0, 6, 14, 0, 0, 64, 224, 480, 1023, 2047, 4095], (.rd 0 false (.rd 1 false (.rd 2 false (.rd 3 false (.rd 4 false (.rd 5 false (.rd 6 false (.rd 7 false (.rd 8 false (.rd 9 false (.wr 10 (.wr 11 (.wr 12 .done .no) .no) .no)))))))))))⟩), (17, ⟨229376, 32767, [0, 0, 0, 0, 8, 0, 0, 64, 224, 480, 0, 0, 3072, 7168, 16355, 32739, 65535, 131071], (.rd 0 false (.rd 1 false (.rd 2 false (.rd 3 false (.rd 4 false (.rd 5 false (.rd 6 false (.rd 7 false (.rd 8 false (.rd 9 false (.rd 10 false (.rd 11 false (.rd 12 false (.rd 13 false (.rd 14 false (.wr 15 (.rd 2 true (.rd 3 true (.rd 4 true (.wr 16 (.wr 17 .done .no) .no)))) .no))))))))))))))))⟩), (22, ⟨7168, 1023, [0, 0, 0, 6, 14, 0, 0, 64, 224, 480, 1023, 2047, 4095], (.rd 0 false (.rd 1 false (.rd 2 false (.rd 3 false (.rd 4 false (.rd 5 false (.rd 6 false (.rd 7 false (.rd 8 false (.rd 9 false (.wr 10 (.wr 11 (.wr 12 .done .no) .no) .no)))))))))))⟩), (23, ⟨229376, 32767, [0, 0, 0, 0, 8, 0, 0, 64, 224, 480, 0, 0, 3072, 7168, 16355, 32739, 65535, 131071], (.rd 0 false (.rd 1 false (.rd 2 false (.rd 3 false (.rd 4 false (.rd 5 false (.rd 6 false (.rd 7 false (.rd 8 false (.rd 9 false (.rd 10 false (.rd 11 false (.rd 12 false (.rd 13 false (.rd 14 false (.wr 15 (.rd 2 true (.rd 3 true (.rd 4 true (.wr 16 (.wr 17 .done .no) .no)))) .no))))))))))))))))⟩)]⟩
theorem T55_sch : T55.sch = [(5, ⟨245760, 16383, [0, 0, 3, 7, 15, 15, 15, 111, 239, 15, 15, 1039, 3599, 7695, 16383, 32767, 65535, 131071], (.rd 0 false (.rd 1 false (.rd 2 false (.rd 3 false (.rd 4 false (.rd 5 false (.rd 6 false (.rd 7 false (.rd 8 false (.rd 9 false (.rd 10 false (.rd 11 false (.rd 12 false (.rd 13 false (.wr 14 (.wr 15 (.wr 16 (.wr 17 .done .no) .no) .no) .no)))))))))))))))⟩), (11, ⟨229376, 32767, [0, 0, 0, 0, 8, 0, 0, 64, 224, 480, 0, 0, 3072, 7168, 16355, 32739, 65535, 131071], (.rd 0 false (.rd 1 false (.rd 2 false (.rd 3 false (.rd 4 false (.rd 5 false (.rd 6 false (.rd 7 false (.rd 8 false (.rd 9 false (.rd 10 false (.rd 11 false (.rd 12 false (.rd 13 false (.rd 14 false (.wr 15 (.rd 2 true (.rd 3 true (.rd 4 true (.wr 16 (.wr 17 .done .no) .no)))) .no))))))))))))))))⟩), (16, ⟨7168, 1023, [0, 0, 0, 6, 14, 0, 0, 64, 224, 480, 1023, 2047, 4095], (.rd 0 false (.rd 1 false (.rd 2 false (.rd 3 false (.rd 4 false (.rd 5 false (.rd 6 false (.rd 7 false (.rd 8 false (.rd 9 false (.wr 10 (.wr 11 (.wr 12 .done .no) .no) .no)))))))))))⟩), (17, ⟨229376, 32767, [0, 0, 0, 0, 8, 0, 0, 64, 224, 480, 0, 0, 3072, 7168, 16355, 32739, 65535, 131071], (.rd 0 false (.rd 1 false (.rd 2 false (.rd 3 false (.rd 4 false (.rd 5 false (.rd 6 false (.rd 7 false (.rd 8 false (.rd 9 false (.rd 10 false (.rd 11 false (.rd 12 false (.rd 13 false (.rd 14 false (.wr 15 (.rd 2 true (.rd 3 true (.rd 4 true (.wr 16 (.wr 17 .done .no) .no)))) .no))))))))))))))))⟩), (22, ⟨7168, 1023, [0, 0, 0, 6, 14, 0, 0, 64, 224, 480, 1023, 2047, 4095], (.rd 0 false (.rd 1 false (.rd 2 false (.rd 3 false (.rd 4 false (.rd 5 false (.rd 6 false (.rd 7 false (.rd 8 false (.rd 9 false (.wr 10 (.wr 11 (.wr 12 .done .no) .no) .no)))))))))))⟩), (23, ⟨229376, 32767, [0, 0, 0, 0, 8, 0, 0, 64, 224, 480, 0, 0, 3072, 7168, 16355, 32739, 65535, 131071], (.rd 0 false (.rd 1 false (.rd 2 false (.rd 3 false (.rd 4 false (.rd 5 false (.rd 6 false (.rd 7 false (.rd 8 false (.rd 9 false (.rd 10 false (.rd 11 false (.rd 12 false (.rd 13 false (.rd 14 false (.wr 15 (.rd 2 true (.rd 3 true (.rd 4 true (.wr 16 (.wr 17 .done .no) .no)))) .no))))))))))))))))⟩)] := (rfl)
theorem T55_reg : T55.reg = [(0, [0, 1, 2, 3]), (1, [0, 1, 2, 3, 9]), (2, [0, 1, 2, 3, 9, 10]), (3, [0, 1, 2, 3, 9, 10, 16]), (4, [0, 1, 2, 3, 9, 10]), (5, [0, 1, 2, 3, 9, 10, 36]), (6, [0, 1, 2, 3, 9, 10]), (7, [0, 1, 2, 3, 9, 10, 41]), (8, [8]), (9, [0, 1, 2, 3, 9, 10, 45]), (10, [8]), (11, [0, 1, 2, 3, 9, 10]), (12, [0, 1, 2, 3, 9, 10, 65]), (13, [0, 1, 2, 3, 9, 10, 11]), (14, [0, 1, 2, 3, 9, 10, 11, 69]), (15, [0, 1, 2, 3, 9, 10, 11]), (16, [0, 1, 2, 3, 9, 10, 11, 84]), (17, [0, 1, 2, 3, 9, 10, 11]), (18, [0, 1, 2, 3, 9, 10, 104]), (19, [0, 1, 2, 3, 9, 10, 12]), (20, [0, 1, 2, 3, 9, 10, 12, 109]), (21, [0, 1, 2, 3, 9, 10, 12]), (22, [0, 1, 2, 3, 9, 10, 12, 124]), (23, [0, 1, 2, 3, 9, 10, 12]), (24, [8])] := (rfl)
theorem T55_loops : T55.loops = [(0, [0, 1, 2, 3, 9, 10]), (2, [0, 1, 2, 3, 9, 10]), (4, [0, 1, 2, 3, 9, 10, 11]), (6, [0, 1, 2, 3, 9, 10, 12])] := (rfl)
def T56 : Tab := ⟨[(0, [0, 1, 2, 3, 4]), (1, [0, 1, 2, 4]), (2, [0, 1, 4, 11, 12]), (3, [0, 1, 4, 11, 12, 47]), (4, [0, 1, 4, 11, 12]), (5, [0, 1, 4, 11, 12, 65]), (6, [0, 1, 4, 11, 12]), (7, [0, 1, 4, 11, 12, 70]), (8, [0, 1, 4, 11, 12]), (9, [0, 1, 4, 11, 12]), (10, [0, 1, 4, 11, 12]), (11, [10])], [(0, [0, 1, 4, 11, 12]), (2, [0, 1, 4, 11, 12]), (4, [0, 1, 4, 11, 12])], [(1, ⟨57344, 8191, [0, 0, 0, 0, 0, 0, 48, 112, 0, 0, 768, 1792, 4083, 8179, 16383, 32767], (.rd 0 false (.rd 1 false (.rd 2 false (.rd 3 false (.rd 4 false (.rd 5 false (.rd 6 false (.rd 7 false (.rd 8 false (.rd 9 false (.rd 10 false (.rd 11 false (.rd 12 false (.wr 13 (.rd 2 true (.rd 3 true (.wr 14 (.wr 15 .done .no) .no))) .no))))))))))))))⟩), (3, ⟨122880, 8191, [0, 0, 3, 7, 15, 15, 15, 111, 239, 15, 15, 1551, 3599, 8191, 16383, 32767, 65535], (.rd 0 false (.rd 1 false (.rd 2 false (.rd 3 false (.rd 4 false (.rd 5 false (.rd 6 false (.rd 7 false (.rd 8 false (.rd 9 false (.rd 10 false (.rd 11 false (.rd 12 false (.wr 13 (.wr 14 (.wr 15 (.wr 16 .done .no) .no) .no) .no))))))))))))))⟩), (5, ⟨57344, 8191, [0, 0, 3, 7, 15, 15, 15, 111, 239, 15, 15, 1551, 3599, 8191, 16383, 32767], (.rd 0 false (.rd 1 false (.rd 2 false (.rd 3 false (.rd 4 false (.rd 5 false (.rd 6 false (.rd 7 false (.rd 8 false (.rd 9 false (.rd 10 false (.rd 11 false (.rd 12 false (.wr 13 (.wr 14 (.wr 15 .done .no) .no) .no))))))))))))))⟩), (8, ⟨57344, 8191, [0, 0, 0, 0, 0, 0, 48, 112, 0, 0, 768, 1792, 4083, 8179, 16383, 32767], (.rd 0 false (.rd 1 false (.rd 2 false (.rd 3 false (.rd 4 false (.rd 5 false (.rd 6 false (.rd 7 false (.rd 8 false (.rd 9 false (.rd 10 false (.rd 11 false (.rd 12 false (.wr 13 (.rd 2 true (.rd 3 true (.wr 14 (.wr 15 .done .no) .no))) .no))))))))))))))⟩)]⟩
theorem T56_sch : T56.sch = [(1, ⟨57344, 8191, [0, 0, 0, 0, 0, 0, 48, 112, 0, 0, 768, 1792, 4083, 8179, 16383, 32767], (.rd 0 false (.rd 1 false (.rd 2 false (.rd 3 false (.rd 4 false (.rd 5 false (.rd 6 false (.rd 7 false (.rd 8 false (.rd 9 false (.rd 10 false (.rd 11 false (.rd 12 false (.wr 13 (.rd 2 true (.rd 3 true (.wr 14 (.wr 15 .done .no) .no))) .no))))))))))))))⟩), (3, ⟨122880, 8191, [0, 0, 3, 7, 15, 15, 15, 111, 239, 15, 15, 1551, 3599, 8191, 16383, 32767, 65535], (.rd 0 false (.rd 1 false (.rd 2 false (.rd 3 false (.rd 4 false (.rd 5 false (.rd 6 false (.rd 7 false (.rd 8 false (.rd 9 false (.rd 10 false (.rd 11 false (.rd 12 false (.wr 13 (.wr 14 (.wr 15 (.wr 16 .done .no) .no) .no) .no))))))))))))))⟩), (5, ⟨57344, 8191, [0, 0, 3, 7, 15, 15, 15, 111, 239, 15, 15, 1551, 3599, 8191, 16383, 32767], (.rd 0 false (.rd 1 false (.rd 2 false (.rd 3 false (.rd 4 false (.rd 5 false (.rd 6 false (.rd 7 false (.rd 8 false (.rd 9 false (.rd 10 false (.rd 11 false (.rd 12 false (.wr 13 (.wr 14 (.wr 15 .done .no) .no) .no))))))))))))))⟩), (8, ⟨57344, 8191, [0, 0, 0, 0, 0, 0, 48, 112, 0, 0, 768, 1792, 4083, 8179, 16383, 32767], (.rd 0 false (.rd 1 false (.rd 2 false (.rd 3 false (.rd 4 false (.rd 5 false (.rd 6 false (.rd 7 false (.rd 8 false (.rd 9 false (.rd 10 false (.rd 11 false (.rd 12 false (.wr 13 (.rd 2 true (.rd 3 true (.wr 14 (.wr 15 .done .no) .no))) .no))))))))))))))⟩)] := (rfl)
theorem T56_reg : T56.reg = [(0, [0, 1, 2, 3, 4]), (1, [0, 1, 2, 4]), (2, [0, 1, 4, 11, 12]), (3, [0, 1, 4, 11, 12, 47]), (4, [0, 1, 4, 11, 12]), (5, [0, 1, 4, 11, 12, 65]), (6, [0, 1, 4, 11, 12]), (7, [0, 1, 4, 11, 12, 70]), (8, [0, 1, 4, 11, 12]), (9, [0, 1, 4, 11, 12]), (10, [0, 1, 4, 11, 12]), (11, [10])] := (rfl)
theorem T56_loops : T56.loops = [(0, [0, 1, 4, 11, 12]), (2, [0, 1, 4, 11, 12]), (4, [0, 1, 4, 11, 12])] := (rfl)
def T57 : Tab := ⟨[(0, [0, 1, 2, 3, 4]), (1, [0, 1, 2, 4]), (2, [0, 1, 4, 12, 13]), (3, [0, 1, 4, 12, 13, 47]), (4, [0, 1, 4, 12, 13]), (5, [0, 1, 4, 12, 13, 66]), (6, [0, 1, 4, 12, 13]), (7, [0, 1, 4, 12, 13, 71]), (8, [13]), (9, [10, 11]), (10, [0, 1, 4, 12, 13]), (11, [0, 1, 4, 12, 13]), (12, [0, 1, 4, 12, 13]), (13, [0, 1, 4, 12, 13, 120]), (14, [0, 1, 4, 12, 13]), (15, [0, 1, 4, 12, 13, 139]), (16, [0, 1, 4, 12, 13]), (17, [0, 1, 4, 12, 13, 144]), (18, [0, 1, 4, 12, 13]), (19, [0, 1, 4, 12, 13]), (20, [0, 1, 4, 12, 13]), (21, [13]), (22, [10, 11])], [(0, [0, 1, 4, 12, 13]), (2, [0, 1, 4, 12, 13]), (4, [0, 1, 4, 12, 13]), (6, [0, 1, 4, 12, 13]), (8, [0, 1, 4, 12, 13])], [(1, ⟨57344, 8191, [0, 0, 0, 0, 0, 0, 48, 112, 0, 0, 768, 1792, 4083, 8179, 16383, 32767], (.rd 0 false (.rd 1 false (.rd 2 false (.rd 3 false (.rd 4 false (.rd 5 false (.rd 6 false (.rd 7 false (.rd 8 false (.rd 9 false (.rd 10 false (.rd 11 false (.rd 12 false (.wr 13 (.rd 2 true (.rd 3 true (.wr 14 (.wr 15 .done .no) .no))) .no))))))))))))))⟩), (3, ⟨57344, 8191, [0, 0, 3, 7, 15, 15, 15, 111, 239, 15, 15, 1551, 3599, 8191, 16383, 32767], (.rd 0 false (.rd 1 false (.rd 2 false (.rd 3 false (.rd 4 false (.rd 5 false (.rd 6 false (.rd 7 false (.rd 8 false (.rd 9 false (.rd 10 false (.rd 11 false (.rd 12 false (.wr 13 (.wr 14 (.wr 15 .done .no) .no) .no))))))))))))))⟩), (5, ⟨122880, 8191, [0, 0, 3, 7, 15, 15, 15, 111, 239, 15, 15, 1551, 3599, 8191, 16383, 32767, 65535], (.rd 0 false (.rd 1 false (.rd 2 false (.rd 3 false (.rd 4 false (.rd 5 false (.rd 6 false (.rd 7 false (.rd 8 false (.rd 9 false (.rd 10 false (.rd 11 false (.rd 12 false (.wr 13 (.wr 14 (.wr 15 (.wr 16 .done .no) .no) .no) .no))))))))))))))⟩), (8, ⟨57344, 8191, [0, 0, 0, 0, 0, 0, 48, 112, 0, 0, 768, 1792, 4083, 8179, 16383, 32767], (.rd 0 false (.rd 1 false (.rd 2 false (.rd 3 false (.rd 4 false (.rd 5 false (.rd 6 false (.rd 7 false (.rd 8 false (.rd 9 false (.rd 10 false (.rd 11 false (.rd 12 false (.wr 13 (.rd 2 true (.rd 3 true (.wr 14 (.wr 15 .done .no) .no))) .no))))))))))))))⟩), (10, ⟨57344, 8191, [0, 0, 0, 0, 0, 0, 48, 112, 0, 0, 768, 1792, 4083, 8179, 16383, 32767], (.rd 0 false (.rd 1 false (.rd 2 false (.rd 3 false (.rd 4 false (.rd 5 false (.rd 6 false (.rd 7 false (.rd 8 false (.rd 9 false (.rd 10 false (.rd 11 false (.rd 12 false (.wr 13 (.rd 2 true (.rd 3 true (.wr 14 (.wr 15 .done .no) .no))) .no))))))))))))))⟩), (13, ⟨57344, 8191, [0, 0, 3, 7, 15, 15, 15, 111, 239, 15, 15, 1551, 3599, 8191, 16383, 32767], (.rd 0 false (.rd 1 false (.rd 2 false (.rd 3 false (.rd 4 false (.rd 5 false (.rd 6 false (.rd 7 false (.rd 8 false (.rd 9 false (.rd 10 false (.rd 11 false (.rd 12 false (.wr 13 (.wr 14 (.wr 15 .done .no) .no) .no))))))))))))))⟩), (15, ⟨122880, 8191, [0, 0, 3, 7, 15, 15, 15, 111, 239, 15, 15, 1551, 3599, 8191, 16383, 32767, 65535], (.rd 0 false (.rd 1 false (.rd 2 false (.rd 3 false (.rd 4 false (.rd 5 false (.rd 6 false (.rd 7 false (.rd 8 false (.rd 9 false (.rd 10 false (.rd 11 false (.rd 12 false (.wr 13 (.wr 14 (.wr 15 (.wr 16 .done .no) .no) .no) .no))))))))))))))⟩), (18, ⟨57344, 8191, [0, 0, 0, 0, 0, 0, 48, 112, 0, 0, 768, 1792, 4083, 8179, 16383, 32767], (.rd 0 false (.rd 1 false (.rd 2 false (.rd 3 false (.rd 4 false (.rd 5 false (.rd 6 false (.rd 7 false (.rd 8 false (.rd 9 false (.rd 10 false (.rd 11 false (.rd 12 false (.wr 13 (.rd 2 true (.rd 3 true (.wr 14 (.wr 15 .done .no) .no))) .no))))))))))))))⟩), (21, ⟨57344, 8191, [0, 0, 0, 0, 0, 0, 48, 112, 0, 0, 768, 1792, 4083, 8179, 16383, 32767], (.rd 0 false (.rd 1 false (.rd 2 false (.rd 3 false (.rd 4 false (.rd 5 false (.rd 6 false (.rd 7 false (.rd 8 false (.rd 9 false (.rd 10 false (.rd 11 false (.rd 12 false (.wr 13 (.rd 2 true (.rd 3 true (.wr 14 (.wr 15 .done .no) .no))) .no))))))))))))))⟩)]⟩
theorem T57_sch : T57.sch = [(1, ⟨57344, 8191, [0, 0, 0, 0, 0, 0, 48, 112, 0, 0, 768, 1792, 4083, 8179, 16383, 32767], (.rd 0 false (.rd 1 false (.rd 2 false (.rd 3 false (.rd 4 false (.rd 5 false (.rd 6 false (.rd 7 false (.rd 8 false (.rd 9 false (.rd 10 false (.rd 11 false (.rd 12 false (.wr 13 (.rd 2 true (.rd 3 true (.wr 14 (.wr 15 .done .no) .no))) .no))))))))))))))⟩), (3, ⟨57344, 8191, [0, 0, 3, 7, 15, 15, 15, 111, 239, 15, 15, 1551, 3599, 8191, 16383, 32767], (.rd 0 false (.rd 1 false (.rd 2 false (.rd 3 false (.rd 4 false (.rd 5 false (.rd 6 false (.rd 7 false (.rd 8 false (.rd 9 false (.rd 10 false (.rd 11 false (.rd 12 false (.wr 13 (.wr 14 (.wr 15 .done .no) .no) .no))))))))))))))⟩), (5, ⟨122880, 8191, [0, 0, 3, 7, 15, 15, 15, 111, 239, 15, 15, 1551, 3599, 8191, 16383, 32767, 65535], (.rd 0 false (.rd 1 false (.rd 2 false (.rd 3 false (.rd 4 false (.rd 5 false (.rd 6 false (.rd 7 false (.rd 8 false (.rd 9 false (.rd 10 false (.rd 11 false (.rd 12 false (.wr 13 (.wr 14 (.wr 15 (.wr 16 .done .no) .no) .no) .no))))))))))))))⟩), (8, ⟨57344, 8191, [0, 0, 0, 0, 0, 0, 48, 112, 0, 0, 768, 1792, 4083, 8179, 16383, 32767], (.rd 0 false (.rd 1 false (.rd 2 false (.rd 3 false (.rd 4 false (.rd 5 false (.rd 6 false (.rd 7 false (.rd 8 false (.rd 9 false (.rd 10 false (.rd 11 false (.rd 12 false (.wr 13 (.rd 2 true (.rd 3 true (.wr 14 (.wr 15 .done .no) .no))) .no))))))))))))))⟩), (10, ⟨57344, 8191, [0, 0, 0, 0, 0, 0, 48, 112, 0, 0, 768, 1792, 4083, 8179, 16383, 32767], (.rd 0 false (.rd 1 false (.rd 2 false (.rd 3 false (.rd 4 false (.rd 5 false (.rd 6 false (.rd 7 false (.rd 8 false (.rd 9 false (.rd 10 false (.rd 11 false (.rd 12 false (.wr 13 (.rd 2 true (.rd 3 true (.wr 14 (.wr 15 .done .no) .no))) .no))))))))))))))⟩), (13, ⟨57344, 8191, [0, 0, 3, 7, 15, 15, 15, 111, 239, 15, 15, 1551, 3599, 8191, 16383, 32767], (.rd 0 false (.rd 1 false (.rd 2 false (.rd 3 false (.rd 4 false (.rd 5 false (.rd 6 false (.rd 7 false (.rd 8 false (.rd 9 false (.rd 10 false (.rd 11 false (.rd 12 false (.wr 13 (.wr 14 (.wr 15 .done .no) .no) .no))))))))))))))⟩), (15, ⟨122880, 8191, [0, 0, 3, 7, 15, 15, 15, 111, 239, 15, 15, 1551, 3599, 8191, 16383, 32767, 65535], (.rd 0 false (.rd 1 false (.rd 2 false (.rd 3 false (.rd 4 false (.rd 5 false (.rd 6 false (.rd 7 false (.rd 8 false (.rd 9 false (.rd 10 false (.rd 11 false (.rd 12 false (.wr 13 (.wr 14 (.wr 15 (.wr 16 .done .no) .no) .no) .no))))))))))))))⟩), (18, ⟨57344, 8191, [0, 0, 0, 0, 0, 0, 48, 112, 0, 0, 768, 1792, 4083, 8179, 16383, 32767], (.rd 0 false (.rd 1 false (.rd 2 false (.rd 3 false (.rd 4 false (.rd 5 false (.rd 6 false (.rd 7 false (.rd 8 false (.rd 9 false (.rd 10 false (.rd 11 false (.rd 12 false (.wr 13 (.rd 2 true (.rd 3 true (.wr 14 (.wr 15 .done .no) .no))) .no))))))))))))))⟩), (21, ⟨57344, 8191, [0, 0, 0, 0, 0, 0, 48, 112, 0, 0, 768, 1792, 4083, 8179, 16383, 32767], (.rd 0 false (.rd 1 false (.rd 2 false (.rd 3 false (.rd 4 false (.rd 5 false (.rd 6 false (.rd 7 false (.rd 8 false (.rd 9 false (.rd 10 false (.rd 11 false (.rd 12 false (.wr 13 (.rd 2 true (.rd 3 true (.wr 14 (.wr 15 .done .no) .no))) .no))))))))))))))⟩)] := (rfl)
theorem T57_reg : T57.reg = [(0, [0, 1, 2, 3, 4]), (1, [0, 1, 2, 4]), (2, [0, 1, 4, 12, 13]), (3, [0, 1, 4, 12, 13, 47]), (4, [0, 1, 4, 12, 13]), (5, [0, 1, 4, 12, 13, 66]), (6, [0, 1, 4, 12, 13]), (7, [0, 1, 4, 12, 13, 71]), (8, [13]), (9, [10, 11]), (10, [0, 1, 4, 12, 13]), (11, [0, 1, 4, 12, 13]), (12, [0, 1, 4, 12, 13]), (13, [0, 1, 4, 12, 13, 120]), (14, [0, 1, 4, 12, 13]), (15, [0, 1, 4, 12, 13, 139]), (16, [0, 1, 4, 12, 13]), (17, [0, 1, 4, 12, 13, 144]), (18, [0, 1, 4, 12, 13]), (19, [0, 1, 4, 12, 13]), (20, [0, 1, 4, 12, 13]), (21, [13]), (22, [10, 11])] := (rfl)
theorem T57_loops : T57.loops = [(0, [0, 1, 4, 12, 13]), (2, [0, 1, 4, 12, 13]), (4, [0, 1, 4, 12, 13]), (6, [0, 1, 4, 12, 13]), (8, [0, 1, 4, 12, 13])] := (rfl)
def T58 : Tab := ⟨[(0, [0, 2]), (1, [0, 2, 4]), (2, [0]), (3, [0, 2]), (4, [0, 2, 8]), (5, [0, 2]), (6, [0, 2]), (7, [2])], [], []⟩
theorem T58_sch : T58.sch = [] := (rfl)
theorem T58_reg : T58.reg = [(0, [0, 2]), (1, [0, 2, 4]), (2, [0]), (3, [0, 2]), (4, [0, 2, 8]), (5, [0, 2]), (6, [0, 2]), (7, [2])] := (rfl)
theorem T58_loops : T58.loops = [] := (rfl)
def T59 : Tab := ⟨[(0, [0, 2]), (1, [0, 2, 4]), (2, [0]), (3, [0, 2]), (4, [0, 2, 8]), (5, [0, 2]), (6, [0, 2]), (7, [0, 2, 14]), (8, [0, 2]), (9, [0, 2]), (10, [2])], [], []⟩
theorem T59_sch : T59.sch = [] := (rfl)
theorem T59_reg : T59.reg = [(0, [0, 2]), (1, [0, 2, 4]), (2, [0]), (3, [0, 2]), (4, [0, 2, 8]), (5, [0, 2]), (6, [0, 2]), (7, [0, 2, 14]), (8, [0, 2]), (9, [0, 2]), (10, [2])] := (rfl)
theorem T59_loops : T59.loops = [] := (rfl)
def T60 : Tab := ⟨[(0, [0, 2, 3, 4, 10]), (1, [0, 2, 3, 4, 10, 11]), (2, [0, 2, 3, 4, 10, 11, 18]), (3, [0, 2, 3, 4, 10, 11, 40]), (4, [0, 2, 3, 4, 10, 11]), (5, [0, 2, 3, 4, 10, 11, 58]), (6, [0, 2, 3, 4, 11]), (7, [0, 2, 3, 4, 10])], [(0, [0, 2, 3, 4, 10])], [(3, ⟨3670016, 524287, [0, 1, 0, 7, 15, 31, 31, 31, 31, 415, 991, 2015, 31, 31, 31, 24607, 57375, 127007, 258079, 524287, 1048575, 2097151], (.rd 0 false (.rd 1 false (.rd 2 false (.rd 3 false (.rd 4 false (.rd 5 false (.rd 6 false (.rd 7 false (.rd 8 false (.rd 9 false (.rd 10 false (.rd 11 false (.rd 12 false (.rd 13 false (.rd 14 false (.rd 15 false (.rd 16 false (.rd 17 false (.rd 18 false (.wr 19 (.wr 20 (.wr 21 .done .no) .no) .no))))))))))))))))))))⟩), (5, ⟨57344, 8191, [0, 0, 0, 0, 12, 30, 62, 0, 0, 0, 768, 1920, 3968, 8191, 16383, 32767], (.rd 0 false (.rd 1 false (.rd 2 false (.rd 3 false (.rd 4 false (.rd 5 false (.rd 6 false (.rd 7 false (.rd 8 false (.rd 9 false (.rd 10 false (.rd 11 false (.rd 12 false (.wr 13 (.wr 14 (.wr 15 .done .no) .no) .no))))))))))))))⟩), (6, ⟨14680064, 2097151, [0, 0, 0, 6, 0, 0, 0, 96, 0, 0, 0, 1536, 3840, 7936, 0, 0, 0, 98304, 245760, 507904, 1048335, 2096911, 4194303, 8388607], (.rd 0 false (.rd 1 false (.rd 2 false (.rd 3 false (.rd 4 false (.rd 5 false (.rd 6 false (.rd 7 false (.rd 8 false (.rd 9 false (.rd 10 false (.rd 11 false (.rd 12 false (.rd 13 false (.rd 14 false (.rd 15 false (.rd 16 false (.rd 17 false (.rd 18 false (.rd 19 false (.rd 20 false (.wr 21 (.rd 4 true (.rd 5 true (.rd 6 true (.rd 7 true (.wr 22 (.wr 23 .done .no) .no))))) .no))))))))))))))))))))))⟩)]⟩
theorem T60_sch : T60.sch = [(3, ⟨3670016, 524287, [0, 1, 0, 7, 15, 31, 31, 31, 31, 415, 991, 2015, 31, 31, 31, 24607, 57375, 127007, 258079, 524287, 1048575, 2097151], (.rd 0 false (.rd 1 false (.rd 2 false (.rd 3 false (.rd 4 false (.rd 5 false (.rd 6 false (.rd 7 false (.rd 8 false (.rd 9 false (.rd 10 false (.rd 11 false (.rd 12 false (.rd 13 false (.rd 14 false (.rd 15 false (.rd 16 false (.rd 17 false (.rd 18 false (.wr 19 (.wr 20 (.wr 21 .done .no) .no) .no))))))))))))))))))))⟩), (5, ⟨57344, 8191, [0, 0, 0, 0, 12, 30, 62, 0, 0, 0, 768, 1920, 3968, 8191, 16383, 32767], (.rd 0 false (.rd 1 false (.rd 2 false (.rd 3 false (.rd 4 false (.rd 5 false (.rd 6 false (.rd 7 false (.rd 8 false (.rd 9 false (.rd 10 false (.rd 11 false (.rd 12 false (.wr 13 (.wr 14 (.wr 15 .done .no) .no) .no))))))))))))))⟩), (6, ⟨14680064, 2097151, [0, 0, 0, 6, 0, 0, 0, 96, 0, 0, 0, 1536, 3840, 7936, 0, 0, 0, 98304, 245760, 507904, 1048335, 2096911, 4194303, 8388607], (.rd 0 false (.rd 1 false (.rd 2 false (.rd 3 false (.rd 4 false (.rd 5 false (.rd 6 false (.rd 7 false (.rd 8 false (.rd 9 false (.rd 10 false (.rd 11 false (.rd 12 false (.rd 13 false (.rd 14 false (.rd 15 false (.rd 16 false (.rd 17 false (.rd 18 false (.rd 19 false (.rd 20 false (.wr 21 (.rd 4 true (.rd 5 true (.rd 6 true (.rd 7 true (.wr 22 (.wr 23 .done .no) .no))))) .no))))))))))))))))))))))⟩)] := (rfl)
theorem T60_reg : T60.reg = [(0, [0, 2, 3, 4, 10]), (1, [0, 2, 3, 4, 10, 11]), (2, [0, 2, 3, 4, 10, 11, 18]), (3, [0, 2, 3, 4, 10, 11, 40]), (4, [0, 2, 3, 4, 10, 11]), (5, [0, 2, 3, 4, 10, 11, 58]), (6, [0, 2, 3, 4, 11]), (7, [0, 2, 3, 4, 10])] := (rfl)
theorem T60_loops : T60.loops = [(0, [0, 2, 3, 4, 10])] := (rfl)
def T61 : Tab := ⟨[(0, [0]), (1, [2])], [], []⟩
theorem T61_sch : T61.sch = [] := (rfl)
theorem T61_reg : T61.reg = [(0, [0]), (1, [2])] := (rfl)
theorem T61_loops : T61.loops = [] := (rfl)
def T62 : Tab := ⟨[(0, [0]), (1, [0]), (2, [0]), (3, [0]), (4, [2])], [], []⟩
theorem T62_sch : T62.sch = [] := (rfl)
theorem T62_reg : T62.reg = [(0, [0]), (1, [0]), (2, [0]), (3, [0]), (4, [2])] := (rfl)
theorem T62_loops : T62.loops = [] := (rfl)
def T63 : Tab := ⟨[(0, [0, 1, 2, 3]), (1, [8])], [], []⟩
theorem T63_sch : T63.sch = [] := (rfl)
theorem T63_reg : T63.reg = [(0, [0, 1, 2, 3]), (1, [8])] := (rfl)
theorem T63_loops : T63.loops = [] := (rfl)
def T64 : Tab := ⟨[(0, [0, 1, 2, 3, 4, 5]), (1, [0, 1, 2, 3, 4, 5]), (2, [0, 1, 2, 4, 5]), (3, [2]), (4, [12])], [], []⟩
theorem T64_sch : T64.sch = [] := (rfl)
theorem T64_reg : T64.reg = [(0, [0, 1, 2, 3, 4, 5]), (1, [0, 1, 2, 3, 4, 5]), (2, [0, 1, 2, 4, 5]), (3, [2]), (4, [12])] := (rfl)
theorem T64_loops : T64.loops = [] := (rfl)
def T65 : Tab := ⟨[(0, [0, 1, 2, 3, 4]), (1, [1, 2, 3, 22]), (2, [1, 2]), (3, [10, 11]), (4, [10, 11])], [], []⟩
theorem T65_sch : T65.sch = [] := (rfl)
theorem T65_reg : T65.reg = [(0, [0, 1, 2, 3, 4]), (1, [1, 2, 3, 22]), (2, [1, 2]), (3, [10, 11]), (4, [10, 11])] := (rfl)
theorem T65_loops : T65.loops = [] := (rfl)
attribute [go_sem] T2_reg T2_loops T2_sch T3_reg T3_loops T3_sch T4_reg T4_loops T4_sch T5_reg T5_loops T5_sch T6_reg T6_loops T6_sch T7_reg T7_loops T7_sch T8_reg T8_loops T8_sch T9_reg T9_loops T9_sch T10_reg T10_loops T10_sch T11_reg T11_loops T11_sch T12_reg T12_loops T12_sch T13_reg T13_loops T13_sch T14_reg T14_loops T14_sch T15_reg T15_loops T15_sch T16_reg T16_loops T16_sch T17_reg T17_loops T17_sch T18_reg T18_loops T18_sch T19_reg T19_loops T19_sch T20_reg T20_loops T20_sch T21_reg T21_loops T21_sch T22_reg T22_loops T22_sch T23_reg T23_loops T23_sch T24_reg T24_loops T24_sch T25_reg T25_loops T25_sch T26_reg T26_loops T26_sch T27_reg T27_loops T27_sch T28_reg T28_loops T28_sch T29_reg T29_loops T29_sch T30_reg T30_loops T30_sch T31_reg T31_loops T31_sch T32_reg T32_loops T32_sch T33_reg T33_loops T33_sch T34_reg T34_loops T34_sch T35_reg T35_loops T35_sch T36_reg T36_loops T36_sch T37_reg T37_loops T37_sch T38_reg T38_loops T38_sch T39_reg T39_loops T39_sch T40_reg T40_loops T40_sch T41_reg T41_loops T41_sch T42_reg T42_loops T42_sch T43_reg T43_loops T43_sch T44_reg T44_loops T44_sch T45_reg T45_loops T45_sch T46_reg T46_loops T46_sch T47_reg T47_loops T47_sch T48_reg T48_loops T48_sch T49_reg T49_loops T49_sch T50_reg T50_loops T50_sch T51_reg T51_loops T51_sch T52_reg T52_loops T52_sch T53_reg T53_loops T53_sch T54_reg T54_loops T54_sch T55_reg T55_loops T55_sch T56_reg T56_loops T56_sch T57_reg T57_loops T57_sch T58_reg T58_loops T58_sch T59_reg T59_loops T59_sch T60_reg T60_loops T60_sch T61_reg T61_loops T61_sch T62_reg T62_loops T62_sch T63_reg T63_loops T63_sch T64_reg T64_loops T64_sch T65_reg T65_loops T65_sch
theorem mixed : Try.prog.follows .mixedOrders = true := by kernel_rfl
end Go.Eng
