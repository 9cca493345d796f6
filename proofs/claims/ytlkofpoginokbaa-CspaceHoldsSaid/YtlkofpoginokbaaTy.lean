/-
  FACTS ON THE PROGRAM: types, fields, functions (closed, each reckoned by the kernel), and each function's table of live slots. Printed by mk.py.
-/
import Derived.Test.YtlkofpoginokbaaEng9
import Derived.Test.YtlkofpoginokbaaProg
import Derived.KernelRfl
namespace Go.Eng
open Go Go.Proofs
theorem tsz_0 : tsz Try.prog 0 = some 1 := by kernel_rfl
theorem aggB_0 : aggB Try.prog 0 = some false := by kernel_rfl
theorem tszD_0 : tszD Try.prog 0 = 1 := by kernel_rfl
theorem tbytes_0 : tbytes Try.prog 0 = some 0 := by kernel_rfl
theorem tzeroD_0 : tzeroD Try.prog 0 = .tuple #[] := by kernel_rfl
theorem tzero_0 : tzero Try.prog 0 = some (.tuple #[]) := by kernel_rfl
theorem tsz_3 : tsz Try.prog 3 = some 1 := by kernel_rfl
theorem aggB_3 : aggB Try.prog 3 = some false := by kernel_rfl
theorem tszD_3 : tszD Try.prog 3 = 1 := by kernel_rfl
theorem tbytes_3 : tbytes Try.prog 3 = some 8 := by kernel_rfl
theorem isInt_3 : isIntB Try.prog 3 = true := by kernel_rfl
theorem intK_3 : intKD Try.prog 3 = .i64 := by kernel_rfl
theorem tzeroD_3 : tzeroD Try.prog 3 = .int .i64 0 := by kernel_rfl
theorem tzero_3 : tzero Try.prog 3 = some (.int .i64 0) := by kernel_rfl
theorem tsz_4 : tsz Try.prog 4 = some 1 := by kernel_rfl
theorem aggB_4 : aggB Try.prog 4 = some false := by kernel_rfl
theorem tszD_4 : tszD Try.prog 4 = 1 := by kernel_rfl
theorem tbytes_4 : tbytes Try.prog 4 = some 1 := by kernel_rfl
theorem tzeroD_4 : tzeroD Try.prog 4 = .bool false := by kernel_rfl
theorem tzero_4 : tzero Try.prog 4 = some (.bool false) := by kernel_rfl
theorem tsz_5 : tsz Try.prog 5 = some 1 := by kernel_rfl
theorem aggB_5 : aggB Try.prog 5 = some false := by kernel_rfl
theorem tszD_5 : tszD Try.prog 5 = 1 := by kernel_rfl
theorem tbytes_5 : tbytes Try.prog 5 = some 1 := by kernel_rfl
theorem isInt_5 : isIntB Try.prog 5 = true := by kernel_rfl
theorem intK_5 : intKD Try.prog 5 = .u8 := by kernel_rfl
theorem tzeroD_5 : tzeroD Try.prog 5 = .int .u8 0 := by kernel_rfl
theorem tzero_5 : tzero Try.prog 5 = some (.int .u8 0) := by kernel_rfl
theorem tsz_9 : tsz Try.prog 9 = some 1 := by kernel_rfl
theorem aggB_9 : aggB Try.prog 9 = some false := by kernel_rfl
theorem tszD_9 : tszD Try.prog 9 = 1 := by kernel_rfl
theorem tbytes_9 : tbytes Try.prog 9 = some 16 := by kernel_rfl
theorem tzeroD_9 : tzeroD Try.prog 9 = .string ByteArray.empty := by kernel_rfl
theorem tzero_9 : tzero Try.prog 9 = some (.string ByteArray.empty) := by kernel_rfl
theorem tsz_22 : tsz Try.prog 22 = some 1 := by kernel_rfl
theorem aggB_22 : aggB Try.prog 22 = some false := by kernel_rfl
theorem tszD_22 : tszD Try.prog 22 = 1 := by kernel_rfl
theorem tbytes_22 : tbytes Try.prog 22 = some 24 := by kernel_rfl
theorem isSlice_22 : isSliceB Try.prog 22 = true := by kernel_rfl
theorem ssz_22 : sliceSz Try.prog 22 = 15 := by kernel_rfl
theorem selem_22 : sliceElem Try.prog 22 = 37 := by kernel_rfl
theorem tzeroD_22 : tzeroD Try.prog 22 = .slice none 0 0 := by kernel_rfl
theorem tzero_22 : tzero Try.prog 22 = some (.slice none 0 0) := by kernel_rfl
theorem tsz_23 : tsz Try.prog 23 = some 8 := by kernel_rfl
theorem aggB_23 : aggB Try.prog 23 = some true := by kernel_rfl
theorem tszD_23 : tszD Try.prog 23 = 8 := by kernel_rfl
theorem tbytes_23 : tbytes Try.prog 23 = some 64 := by kernel_rfl
theorem tzeroD_23 : tzeroD Try.prog 23 = .agg #[.int .i64 0, .int .i64 0, .int .i64 0, .int .i64 0, .int .i64 0, .int .i64 0, .int .i64 0, .bool false] := by kernel_rfl
theorem tzero_23 : tzero Try.prog 23 = some (.agg #[.int .i64 0, .int .i64 0, .int .i64 0, .int .i64 0, .int .i64 0, .int .i64 0, .int .i64 0, .bool false]) := by kernel_rfl
theorem tsz_24 : tsz Try.prog 24 = some 8 := by kernel_rfl
theorem aggB_24 : aggB Try.prog 24 = some true := by kernel_rfl
theorem tszD_24 : tszD Try.prog 24 = 8 := by kernel_rfl
theorem tbytes_24 : tbytes Try.prog 24 = some 64 := by kernel_rfl
theorem tzeroD_24 : tzeroD Try.prog 24 = .agg #[.int .i64 0, .int .i64 0, .int .i64 0, .int .i64 0, .int .i64 0, .int .i64 0, .int .i64 0, .bool false] := by kernel_rfl
theorem tzero_24 : tzero Try.prog 24 = some (.agg #[.int .i64 0, .int .i64 0, .int .i64 0, .int .i64 0, .int .i64 0, .int .i64 0, .int .i64 0, .bool false]) := by kernel_rfl
theorem tsz_25 : tsz Try.prog 25 = some 1 := by kernel_rfl
theorem aggB_25 : aggB Try.prog 25 = some false := by kernel_rfl
theorem tszD_25 : tszD Try.prog 25 = 1 := by kernel_rfl
theorem tbytes_25 : tbytes Try.prog 25 = some 4 := by kernel_rfl
theorem isInt_25 : isIntB Try.prog 25 = true := by kernel_rfl
theorem intK_25 : intKD Try.prog 25 = .u32 := by kernel_rfl
theorem tzeroD_25 : tzeroD Try.prog 25 = .int .u32 0 := by kernel_rfl
theorem tzero_25 : tzero Try.prog 25 = some (.int .u32 0) := by kernel_rfl
theorem tsz_26 : tsz Try.prog 26 = some 2 := by kernel_rfl
theorem aggB_26 : aggB Try.prog 26 = some true := by kernel_rfl
theorem tszD_26 : tszD Try.prog 26 = 2 := by kernel_rfl
theorem tbytes_26 : tbytes Try.prog 26 = some 16 := by kernel_rfl
theorem tzeroD_26 : tzeroD Try.prog 26 = .agg #[.int .i64 0, .int .i64 0] := by kernel_rfl
theorem tzero_26 : tzero Try.prog 26 = some (.agg #[.int .i64 0, .int .i64 0]) := by kernel_rfl
theorem tsz_27 : tsz Try.prog 27 = some 2 := by kernel_rfl
theorem aggB_27 : aggB Try.prog 27 = some true := by kernel_rfl
theorem tszD_27 : tszD Try.prog 27 = 2 := by kernel_rfl
theorem tbytes_27 : tbytes Try.prog 27 = some 16 := by kernel_rfl
theorem tzeroD_27 : tzeroD Try.prog 27 = .agg #[.int .i64 0, .int .i64 0] := by kernel_rfl
theorem tzero_27 : tzero Try.prog 27 = some (.agg #[.int .i64 0, .int .i64 0]) := by kernel_rfl
theorem tsz_29 : tsz Try.prog 29 = some 1 := by kernel_rfl
theorem aggB_29 : aggB Try.prog 29 = some false := by kernel_rfl
theorem tszD_29 : tszD Try.prog 29 = 1 := by kernel_rfl
theorem tbytes_29 : tbytes Try.prog 29 = some 8 := by kernel_rfl
theorem isPtr_29 : isPtrB Try.prog 29 = true := by kernel_rfl
theorem tzeroD_29 : tzeroD Try.prog 29 = .pointer none := by kernel_rfl
theorem tzero_29 : tzero Try.prog 29 = some (.pointer none) := by kernel_rfl
theorem tsz_31 : tsz Try.prog 31 = some 1 := by kernel_rfl
theorem aggB_31 : aggB Try.prog 31 = some false := by kernel_rfl
theorem tszD_31 : tszD Try.prog 31 = 1 := by kernel_rfl
theorem tbytes_31 : tbytes Try.prog 31 = some 8 := by kernel_rfl
theorem isPtr_31 : isPtrB Try.prog 31 = true := by kernel_rfl
theorem tzeroD_31 : tzeroD Try.prog 31 = .pointer none := by kernel_rfl
theorem tzero_31 : tzero Try.prog 31 = some (.pointer none) := by kernel_rfl
theorem tsz_32 : tsz Try.prog 32 = some 1 := by kernel_rfl
theorem aggB_32 : aggB Try.prog 32 = some false := by kernel_rfl
theorem tszD_32 : tszD Try.prog 32 = 1 := by kernel_rfl
theorem tbytes_32 : tbytes Try.prog 32 = some 24 := by kernel_rfl
theorem isSlice_32 : isSliceB Try.prog 32 = true := by kernel_rfl
theorem ssz_32 : sliceSz Try.prog 32 = 3 := by kernel_rfl
theorem selem_32 : sliceElem Try.prog 32 = 83 := by kernel_rfl
theorem tzeroD_32 : tzeroD Try.prog 32 = .slice none 0 0 := by kernel_rfl
theorem tzero_32 : tzero Try.prog 32 = some (.slice none 0 0) := by kernel_rfl
theorem tsz_33 : tsz Try.prog 33 = some 1 := by kernel_rfl
theorem aggB_33 : aggB Try.prog 33 = some true := by kernel_rfl
theorem tszD_33 : tszD Try.prog 33 = 1 := by kernel_rfl
theorem tbytes_33 : tbytes Try.prog 33 = some 24 := by kernel_rfl
theorem tzeroD_33 : tzeroD Try.prog 33 = .agg #[.slice none 0 0] := by kernel_rfl
theorem tzero_33 : tzero Try.prog 33 = some (.agg #[.slice none 0 0]) := by kernel_rfl
theorem tsz_34 : tsz Try.prog 34 = some 1 := by kernel_rfl
theorem aggB_34 : aggB Try.prog 34 = some true := by kernel_rfl
theorem tszD_34 : tszD Try.prog 34 = 1 := by kernel_rfl
theorem tbytes_34 : tbytes Try.prog 34 = some 24 := by kernel_rfl
theorem tzeroD_34 : tzeroD Try.prog 34 = .agg #[.slice none 0 0] := by kernel_rfl
theorem tzero_34 : tzero Try.prog 34 = some (.agg #[.slice none 0 0]) := by kernel_rfl
theorem tsz_36 : tsz Try.prog 36 = some 15 := by kernel_rfl
theorem aggB_36 : aggB Try.prog 36 = some true := by kernel_rfl
theorem tszD_36 : tszD Try.prog 36 = 15 := by kernel_rfl
theorem tbytes_36 : tbytes Try.prog 36 = some 120 := by kernel_rfl
theorem tzeroD_36 : tzeroD Try.prog 36 = .agg #[.int .i64 0, .int .i64 0, .int .i64 0, .int .i64 0, .int .i64 0, .int .i64 0, .int .i64 0, .int .i64 0, .int .i64 0, .int .i64 0, .int .i64 0, .int .i64 0, .bool false, .int .u32 0, .int .i64 0] := by kernel_rfl
theorem tzero_36 : tzero Try.prog 36 = some (.agg #[.int .i64 0, .int .i64 0, .int .i64 0, .int .i64 0, .int .i64 0, .int .i64 0, .int .i64 0, .int .i64 0, .int .i64 0, .int .i64 0, .int .i64 0, .int .i64 0, .bool false, .int .u32 0, .int .i64 0]) := by kernel_rfl
theorem tsz_37 : tsz Try.prog 37 = some 15 := by kernel_rfl
theorem aggB_37 : aggB Try.prog 37 = some true := by kernel_rfl
theorem tszD_37 : tszD Try.prog 37 = 15 := by kernel_rfl
theorem tbytes_37 : tbytes Try.prog 37 = some 120 := by kernel_rfl
theorem tzeroD_37 : tzeroD Try.prog 37 = .agg #[.int .i64 0, .int .i64 0, .int .i64 0, .int .i64 0, .int .i64 0, .int .i64 0, .int .i64 0, .int .i64 0, .int .i64 0, .int .i64 0, .int .i64 0, .int .i64 0, .bool false, .int .u32 0, .int .i64 0] := by kernel_rfl
theorem tzero_37 : tzero Try.prog 37 = some (.agg #[.int .i64 0, .int .i64 0, .int .i64 0, .int .i64 0, .int .i64 0, .int .i64 0, .int .i64 0, .int .i64 0, .int .i64 0, .int .i64 0, .int .i64 0, .int .i64 0, .bool false, .int .u32 0, .int .i64 0]) := by kernel_rfl
theorem tsz_38 : tsz Try.prog 38 = some 1 := by kernel_rfl
theorem aggB_38 : aggB Try.prog 38 = some false := by kernel_rfl
theorem tszD_38 : tszD Try.prog 38 = 1 := by kernel_rfl
theorem tbytes_38 : tbytes Try.prog 38 = some 8 := by kernel_rfl
theorem isInt_38 : isIntB Try.prog 38 = true := by kernel_rfl
theorem intK_38 : intKD Try.prog 38 = .i64 := by kernel_rfl
theorem tzeroD_38 : tzeroD Try.prog 38 = .int .i64 0 := by kernel_rfl
theorem tzero_38 : tzero Try.prog 38 = some (.int .i64 0) := by kernel_rfl
theorem tsz_39 : tsz Try.prog 39 = some 1 := by kernel_rfl
theorem aggB_39 : aggB Try.prog 39 = some false := by kernel_rfl
theorem tszD_39 : tszD Try.prog 39 = 1 := by kernel_rfl
theorem tbytes_39 : tbytes Try.prog 39 = some 0 := by kernel_rfl
theorem tzeroD_39 : tzeroD Try.prog 39 = .tuple #[.agg #[.int .i64 0, .int .i64 0], .int .i64 0, .int .i64 0] := by kernel_rfl
theorem tzero_39 : tzero Try.prog 39 = some (.tuple #[.agg #[.int .i64 0, .int .i64 0], .int .i64 0, .int .i64 0]) := by kernel_rfl
theorem tsz_41 : tsz Try.prog 41 = some 1 := by kernel_rfl
theorem aggB_41 : aggB Try.prog 41 = some false := by kernel_rfl
theorem tszD_41 : tszD Try.prog 41 = 1 := by kernel_rfl
theorem tbytes_41 : tbytes Try.prog 41 = some 24 := by kernel_rfl
theorem isSlice_41 : isSliceB Try.prog 41 = true := by kernel_rfl
theorem ssz_41 : sliceSz Try.prog 41 = 2 := by kernel_rfl
theorem selem_41 : sliceElem Try.prog 41 = 27 := by kernel_rfl
theorem tzeroD_41 : tzeroD Try.prog 41 = .slice none 0 0 := by kernel_rfl
theorem tzero_41 : tzero Try.prog 41 = some (.slice none 0 0) := by kernel_rfl
theorem tsz_45 : tsz Try.prog 45 = some 1 := by kernel_rfl
theorem aggB_45 : aggB Try.prog 45 = some false := by kernel_rfl
theorem tszD_45 : tszD Try.prog 45 = 1 := by kernel_rfl
theorem tbytes_45 : tbytes Try.prog 45 = some 0 := by kernel_rfl
theorem tzeroD_45 : tzeroD Try.prog 45 = .tuple #[.agg #[.int .i64 0, .int .i64 0, .int .i64 0, .int .i64 0, .int .i64 0, .int .i64 0, .int .i64 0, .bool false], .int .i64 0] := by kernel_rfl
theorem tzero_45 : tzero Try.prog 45 = some (.tuple #[.agg #[.int .i64 0, .int .i64 0, .int .i64 0, .int .i64 0, .int .i64 0, .int .i64 0, .int .i64 0, .bool false], .int .i64 0]) := by kernel_rfl
theorem tsz_58 : tsz Try.prog 58 = some 1 := by kernel_rfl
theorem aggB_58 : aggB Try.prog 58 = some false := by kernel_rfl
theorem tszD_58 : tszD Try.prog 58 = 1 := by kernel_rfl
theorem tbytes_58 : tbytes Try.prog 58 = some 0 := by kernel_rfl
theorem tzeroD_58 : tzeroD Try.prog 58 = .tuple #[.pointer none, .agg #[.int .i64 0, .int .i64 0, .int .i64 0, .int .i64 0, .int .i64 0, .int .i64 0, .int .i64 0, .bool false]] := by kernel_rfl
theorem tzero_58 : tzero Try.prog 58 = some (.tuple #[.pointer none, .agg #[.int .i64 0, .int .i64 0, .int .i64 0, .int .i64 0, .int .i64 0, .int .i64 0, .int .i64 0, .bool false]]) := by kernel_rfl
theorem tsz_60 : tsz Try.prog 60 = some 1 := by kernel_rfl
theorem aggB_60 : aggB Try.prog 60 = some false := by kernel_rfl
theorem tszD_60 : tszD Try.prog 60 = 1 := by kernel_rfl
theorem tbytes_60 : tbytes Try.prog 60 = some 0 := by kernel_rfl
theorem tzeroD_60 : tzeroD Try.prog 60 = .tuple #[.agg #[.int .i64 0, .int .i64 0], .int .i64 0] := by kernel_rfl
theorem tzero_60 : tzero Try.prog 60 = some (.tuple #[.agg #[.int .i64 0, .int .i64 0], .int .i64 0]) := by kernel_rfl
theorem tsz_62 : tsz Try.prog 62 = some 1 := by kernel_rfl
theorem aggB_62 : aggB Try.prog 62 = some false := by kernel_rfl
theorem tszD_62 : tszD Try.prog 62 = 1 := by kernel_rfl
theorem tbytes_62 : tbytes Try.prog 62 = some 8 := by kernel_rfl
theorem intMap_62 : intMapB Try.prog 62 = true := by kernel_rfl
theorem elemT_62 : elemT Try.prog 62 = 72 := by kernel_rfl
theorem tzeroD_62 : tzeroD Try.prog 62 = .map none := by kernel_rfl
theorem tzero_62 : tzero Try.prog 62 = some (.map none) := by kernel_rfl
theorem tsz_63 : tsz Try.prog 63 = some 1 := by kernel_rfl
theorem aggB_63 : aggB Try.prog 63 = some true := by kernel_rfl
theorem tszD_63 : tszD Try.prog 63 = 1 := by kernel_rfl
theorem tbytes_63 : tbytes Try.prog 63 = some 8 := by kernel_rfl
theorem tzeroD_63 : tzeroD Try.prog 63 = .agg #[.map none] := by kernel_rfl
theorem tzero_63 : tzero Try.prog 63 = some (.agg #[.map none]) := by kernel_rfl
theorem tsz_64 : tsz Try.prog 64 = some 1 := by kernel_rfl
theorem aggB_64 : aggB Try.prog 64 = some true := by kernel_rfl
theorem tszD_64 : tszD Try.prog 64 = 1 := by kernel_rfl
theorem tbytes_64 : tbytes Try.prog 64 = some 8 := by kernel_rfl
theorem tzeroD_64 : tzeroD Try.prog 64 = .agg #[.map none] := by kernel_rfl
theorem tzero_64 : tzero Try.prog 64 = some (.agg #[.map none]) := by kernel_rfl
theorem tsz_65 : tsz Try.prog 65 = some 1 := by kernel_rfl
theorem aggB_65 : aggB Try.prog 65 = some false := by kernel_rfl
theorem tszD_65 : tszD Try.prog 65 = 1 := by kernel_rfl
theorem tbytes_65 : tbytes Try.prog 65 = some 0 := by kernel_rfl
theorem tzeroD_65 : tzeroD Try.prog 65 = .tuple #[.agg #[.int .i64 0, .int .i64 0, .int .i64 0, .int .i64 0, .int .i64 0, .int .i64 0, .int .i64 0, .bool false], .agg #[.int .i64 0, .int .i64 0], .int .i64 0] := by kernel_rfl
theorem tzero_65 : tzero Try.prog 65 = some (.tuple #[.agg #[.int .i64 0, .int .i64 0, .int .i64 0, .int .i64 0, .int .i64 0, .int .i64 0, .int .i64 0, .bool false], .agg #[.int .i64 0, .int .i64 0], .int .i64 0]) := by kernel_rfl
theorem tsz_67 : tsz Try.prog 67 = some 1 := by kernel_rfl
theorem aggB_67 : aggB Try.prog 67 = some false := by kernel_rfl
theorem tszD_67 : tszD Try.prog 67 = 1 := by kernel_rfl
theorem tbytes_67 : tbytes Try.prog 67 = some 8 := by kernel_rfl
theorem isPtr_67 : isPtrB Try.prog 67 = true := by kernel_rfl
theorem tzeroD_67 : tzeroD Try.prog 67 = .pointer none := by kernel_rfl
theorem tzero_67 : tzero Try.prog 67 = some (.pointer none) := by kernel_rfl
theorem tsz_68 : tsz Try.prog 68 = some 2 := by kernel_rfl
theorem aggB_68 : aggB Try.prog 68 = some true := by kernel_rfl
theorem tszD_68 : tszD Try.prog 68 = 2 := by kernel_rfl
theorem tbytes_68 : tbytes Try.prog 68 = some 16 := by kernel_rfl
theorem tzeroD_68 : tzeroD Try.prog 68 = .agg #[.int .u32 0, .int .i64 0] := by kernel_rfl
theorem tzero_68 : tzero Try.prog 68 = some (.agg #[.int .u32 0, .int .i64 0]) := by kernel_rfl
theorem tsz_69 : tsz Try.prog 69 = some 2 := by kernel_rfl
theorem aggB_69 : aggB Try.prog 69 = some true := by kernel_rfl
theorem tszD_69 : tszD Try.prog 69 = 2 := by kernel_rfl
theorem tbytes_69 : tbytes Try.prog 69 = some 16 := by kernel_rfl
theorem tzeroD_69 : tzeroD Try.prog 69 = .agg #[.int .u32 0, .int .i64 0] := by kernel_rfl
theorem tzero_69 : tzero Try.prog 69 = some (.agg #[.int .u32 0, .int .i64 0]) := by kernel_rfl
theorem tsz_70 : tsz Try.prog 70 = some 1 := by kernel_rfl
theorem aggB_70 : aggB Try.prog 70 = some false := by kernel_rfl
theorem tszD_70 : tszD Try.prog 70 = 1 := by kernel_rfl
theorem tbytes_70 : tbytes Try.prog 70 = some 0 := by kernel_rfl
theorem tzeroD_70 : tzeroD Try.prog 70 = .tuple #[.int .i64 0, .bool false] := by kernel_rfl
theorem tzero_70 : tzero Try.prog 70 = some (.tuple #[.int .i64 0, .bool false]) := by kernel_rfl
theorem tsz_72 : tsz Try.prog 72 = some 1 := by kernel_rfl
theorem aggB_72 : aggB Try.prog 72 = some false := by kernel_rfl
theorem tszD_72 : tszD Try.prog 72 = 1 := by kernel_rfl
theorem tbytes_72 : tbytes Try.prog 72 = some 24 := by kernel_rfl
theorem isSlice_72 : isSliceB Try.prog 72 = true := by kernel_rfl
theorem ssz_72 : sliceSz Try.prog 72 = 8 := by kernel_rfl
theorem selem_72 : sliceElem Try.prog 72 = 24 := by kernel_rfl
theorem tzeroD_72 : tzeroD Try.prog 72 = .slice none 0 0 := by kernel_rfl
theorem tzero_72 : tzero Try.prog 72 = some (.slice none 0 0) := by kernel_rfl
theorem tsz_73 : tsz Try.prog 73 = some 1 := by kernel_rfl
theorem aggB_73 : aggB Try.prog 73 = some false := by kernel_rfl
theorem tszD_73 : tszD Try.prog 73 = 1 := by kernel_rfl
theorem tbytes_73 : tbytes Try.prog 73 = some 8 := by kernel_rfl
theorem isPtr_73 : isPtrB Try.prog 73 = true := by kernel_rfl
theorem tzeroD_73 : tzeroD Try.prog 73 = .pointer none := by kernel_rfl
theorem tzero_73 : tzero Try.prog 73 = some (.pointer none) := by kernel_rfl
theorem tsz_74 : tsz Try.prog 74 = some 1 := by kernel_rfl
theorem aggB_74 : aggB Try.prog 74 = some false := by kernel_rfl
theorem tszD_74 : tszD Try.prog 74 = 1 := by kernel_rfl
theorem tbytes_74 : tbytes Try.prog 74 = some 0 := by kernel_rfl
theorem tzeroD_74 : tzeroD Try.prog 74 = .tuple #[.pointer none, .int .i64 0] := by kernel_rfl
theorem tzero_74 : tzero Try.prog 74 = some (.tuple #[.pointer none, .int .i64 0]) := by kernel_rfl
theorem tsz_77 : tsz Try.prog 77 = some 1 := by kernel_rfl
theorem aggB_77 : aggB Try.prog 77 = some false := by kernel_rfl
theorem tszD_77 : tszD Try.prog 77 = 1 := by kernel_rfl
theorem tbytes_77 : tbytes Try.prog 77 = some 0 := by kernel_rfl
theorem tzeroD_77 : tzeroD Try.prog 77 = .tuple #[.slice none 0 0, .bool false] := by kernel_rfl
theorem tzero_77 : tzero Try.prog 77 = some (.tuple #[.slice none 0 0, .bool false]) := by kernel_rfl
theorem tsz_81 : tsz Try.prog 81 = some 1 := by kernel_rfl
theorem aggB_81 : aggB Try.prog 81 = some false := by kernel_rfl
theorem tszD_81 : tszD Try.prog 81 = 1 := by kernel_rfl
theorem tbytes_81 : tbytes Try.prog 81 = some 8 := by kernel_rfl
theorem tzeroD_81 : tzeroD Try.prog 81 = .nilFunc := by kernel_rfl
theorem tzero_81 : tzero Try.prog 81 = some (.nilFunc) := by kernel_rfl
theorem tsz_82 : tsz Try.prog 82 = some 3 := by kernel_rfl
theorem aggB_82 : aggB Try.prog 82 = some true := by kernel_rfl
theorem tszD_82 : tszD Try.prog 82 = 3 := by kernel_rfl
theorem tbytes_82 : tbytes Try.prog 82 = some 40 := by kernel_rfl
theorem tzeroD_82 : tzeroD Try.prog 82 = .agg #[.int .i64 0, .int .i64 0, .slice none 0 0] := by kernel_rfl
theorem tzero_82 : tzero Try.prog 82 = some (.agg #[.int .i64 0, .int .i64 0, .slice none 0 0]) := by kernel_rfl
theorem tsz_83 : tsz Try.prog 83 = some 3 := by kernel_rfl
theorem aggB_83 : aggB Try.prog 83 = some true := by kernel_rfl
theorem tszD_83 : tszD Try.prog 83 = 3 := by kernel_rfl
theorem tbytes_83 : tbytes Try.prog 83 = some 40 := by kernel_rfl
theorem tzeroD_83 : tzeroD Try.prog 83 = .agg #[.int .i64 0, .int .i64 0, .slice none 0 0] := by kernel_rfl
theorem tzero_83 : tzero Try.prog 83 = some (.agg #[.int .i64 0, .int .i64 0, .slice none 0 0]) := by kernel_rfl
theorem tsz_87 : tsz Try.prog 87 = some 1 := by kernel_rfl
theorem aggB_87 : aggB Try.prog 87 = some false := by kernel_rfl
theorem tszD_87 : tszD Try.prog 87 = 1 := by kernel_rfl
theorem tbytes_87 : tbytes Try.prog 87 = some 8 := by kernel_rfl
theorem isInt_87 : isIntB Try.prog 87 = true := by kernel_rfl
theorem intK_87 : intKD Try.prog 87 = .u64 := by kernel_rfl
theorem tzeroD_87 : tzeroD Try.prog 87 = .int .u64 0 := by kernel_rfl
theorem tzero_87 : tzero Try.prog 87 = some (.int .u64 0) := by kernel_rfl
theorem tsz_88 : tsz Try.prog 88 = some 1 := by kernel_rfl
theorem aggB_88 : aggB Try.prog 88 = some false := by kernel_rfl
theorem tszD_88 : tszD Try.prog 88 = 1 := by kernel_rfl
theorem tbytes_88 : tbytes Try.prog 88 = some 24 := by kernel_rfl
theorem isSlice_88 : isSliceB Try.prog 88 = true := by kernel_rfl
theorem ssz_88 : sliceSz Try.prog 88 = 1 := by kernel_rfl
theorem selem_88 : sliceElem Try.prog 88 = 3 := by kernel_rfl
theorem tzeroD_88 : tzeroD Try.prog 88 = .slice none 0 0 := by kernel_rfl
theorem tzero_88 : tzero Try.prog 88 = some (.slice none 0 0) := by kernel_rfl
theorem tsz_91 : tsz Try.prog 91 = some 1 := by kernel_rfl
theorem aggB_91 : aggB Try.prog 91 = some false := by kernel_rfl
theorem tszD_91 : tszD Try.prog 91 = 1 := by kernel_rfl
theorem tbytes_91 : tbytes Try.prog 91 = some 8 := by kernel_rfl
theorem isInt_91 : isIntB Try.prog 91 = true := by kernel_rfl
theorem intK_91 : intKD Try.prog 91 = .i64 := by kernel_rfl
theorem tzeroD_91 : tzeroD Try.prog 91 = .int .i64 0 := by kernel_rfl
theorem tzero_91 : tzero Try.prog 91 = some (.int .i64 0) := by kernel_rfl
theorem tsz_92 : tsz Try.prog 92 = some 1 := by kernel_rfl
theorem aggB_92 : aggB Try.prog 92 = some false := by kernel_rfl
theorem tszD_92 : tszD Try.prog 92 = 1 := by kernel_rfl
theorem tbytes_92 : tbytes Try.prog 92 = some 0 := by kernel_rfl
theorem tzeroD_92 : tzeroD Try.prog 92 = .tuple #[.int .i64 0, .int .i64 0] := by kernel_rfl
theorem tzero_92 : tzero Try.prog 92 = some (.tuple #[.int .i64 0, .int .i64 0]) := by kernel_rfl
theorem tsz_99 : tsz Try.prog 99 = some 1 := by kernel_rfl
theorem aggB_99 : aggB Try.prog 99 = some false := by kernel_rfl
theorem tszD_99 : tszD Try.prog 99 = 1 := by kernel_rfl
theorem tbytes_99 : tbytes Try.prog 99 = some 8 := by kernel_rfl
theorem isInt_99 : isIntB Try.prog 99 = true := by kernel_rfl
theorem intK_99 : intKD Try.prog 99 = .u64 := by kernel_rfl
theorem tzeroD_99 : tzeroD Try.prog 99 = .int .u64 0 := by kernel_rfl
theorem tzero_99 : tzero Try.prog 99 = some (.int .u64 0) := by kernel_rfl
theorem tsz_100 : tsz Try.prog 100 = some 1 := by kernel_rfl
theorem aggB_100 : aggB Try.prog 100 = some false := by kernel_rfl
theorem tszD_100 : tszD Try.prog 100 = 1 := by kernel_rfl
theorem tbytes_100 : tbytes Try.prog 100 = some 8 := by kernel_rfl
theorem isInt_100 : isIntB Try.prog 100 = true := by kernel_rfl
theorem intK_100 : intKD Try.prog 100 = .u64 := by kernel_rfl
theorem tzeroD_100 : tzeroD Try.prog 100 = .int .u64 0 := by kernel_rfl
theorem tzero_100 : tzero Try.prog 100 = some (.int .u64 0) := by kernel_rfl
theorem tsz_104 : tsz Try.prog 104 = some 1 := by kernel_rfl
theorem aggB_104 : aggB Try.prog 104 = some false := by kernel_rfl
theorem tszD_104 : tszD Try.prog 104 = 1 := by kernel_rfl
theorem tbytes_104 : tbytes Try.prog 104 = some 8 := by kernel_rfl
theorem isPtr_104 : isPtrB Try.prog 104 = true := by kernel_rfl
theorem tzeroD_104 : tzeroD Try.prog 104 = .pointer none := by kernel_rfl
theorem tzero_104 : tzero Try.prog 104 = some (.pointer none) := by kernel_rfl
theorem tsz_106 : tsz Try.prog 106 = some 1 := by kernel_rfl
theorem aggB_106 : aggB Try.prog 106 = some false := by kernel_rfl
theorem tszD_106 : tszD Try.prog 106 = 1 := by kernel_rfl
theorem tbytes_106 : tbytes Try.prog 106 = some 8 := by kernel_rfl
theorem isPtr_106 : isPtrB Try.prog 106 = true := by kernel_rfl
theorem tzeroD_106 : tzeroD Try.prog 106 = .pointer none := by kernel_rfl
theorem tzero_106 : tzero Try.prog 106 = some (.pointer none) := by kernel_rfl
theorem tsz_107 : tsz Try.prog 107 = some 1 := by kernel_rfl
theorem aggB_107 : aggB Try.prog 107 = some false := by kernel_rfl
theorem tszD_107 : tszD Try.prog 107 = 1 := by kernel_rfl
theorem tbytes_107 : tbytes Try.prog 107 = some 0 := by kernel_rfl
theorem tzeroD_107 : tzeroD Try.prog 107 = .tuple #[.int .i64 0, .int .i64 0] := by kernel_rfl
theorem tzero_107 : tzero Try.prog 107 = some (.tuple #[.int .i64 0, .int .i64 0]) := by kernel_rfl
theorem fa_24_0 {b o : Nat} {h : Heap} : runD Try.prog (iFieldAt 24 (.pointer (some ⟨b, o, none⟩)) 0) h = some (.pointer (some ⟨b, o + 0, none⟩)) := by kernel_rfl
theorem fa_24_1 {b o : Nat} {h : Heap} : runD Try.prog (iFieldAt 24 (.pointer (some ⟨b, o, none⟩)) 1) h = some (.pointer (some ⟨b, o + 1, none⟩)) := by kernel_rfl
theorem fa_24_2 {b o : Nat} {h : Heap} : runD Try.prog (iFieldAt 24 (.pointer (some ⟨b, o, none⟩)) 2) h = some (.pointer (some ⟨b, o + 2, none⟩)) := by kernel_rfl
theorem fa_24_3 {b o : Nat} {h : Heap} : runD Try.prog (iFieldAt 24 (.pointer (some ⟨b, o, none⟩)) 3) h = some (.pointer (some ⟨b, o + 3, none⟩)) := by kernel_rfl
theorem fa_24_4 {b o : Nat} {h : Heap} : runD Try.prog (iFieldAt 24 (.pointer (some ⟨b, o, none⟩)) 4) h = some (.pointer (some ⟨b, o + 4, none⟩)) := by kernel_rfl
theorem fa_24_5 {b o : Nat} {h : Heap} : runD Try.prog (iFieldAt 24 (.pointer (some ⟨b, o, none⟩)) 5) h = some (.pointer (some ⟨b, o + 5, none⟩)) := by kernel_rfl
theorem fa_24_6 {b o : Nat} {h : Heap} : runD Try.prog (iFieldAt 24 (.pointer (some ⟨b, o, none⟩)) 6) h = some (.pointer (some ⟨b, o + 6, none⟩)) := by kernel_rfl
theorem fa_24_7 {b o : Nat} {h : Heap} : runD Try.prog (iFieldAt 24 (.pointer (some ⟨b, o, none⟩)) 7) h = some (.pointer (some ⟨b, o + 7, none⟩)) := by kernel_rfl
theorem fa_27_0 {b o : Nat} {h : Heap} : runD Try.prog (iFieldAt 27 (.pointer (some ⟨b, o, none⟩)) 0) h = some (.pointer (some ⟨b, o + 0, none⟩)) := by kernel_rfl
theorem fa_27_1 {b o : Nat} {h : Heap} : runD Try.prog (iFieldAt 27 (.pointer (some ⟨b, o, none⟩)) 1) h = some (.pointer (some ⟨b, o + 1, none⟩)) := by kernel_rfl
theorem fa_34_0 {b o : Nat} {h : Heap} : runD Try.prog (iFieldAt 34 (.pointer (some ⟨b, o, none⟩)) 0) h = some (.pointer (some ⟨b, o + 0, none⟩)) := by kernel_rfl
theorem fa_37_0 {b o : Nat} {h : Heap} : runD Try.prog (iFieldAt 37 (.pointer (some ⟨b, o, none⟩)) 0) h = some (.pointer (some ⟨b, o + 0, none⟩)) := by kernel_rfl
theorem fa_37_1 {b o : Nat} {h : Heap} : runD Try.prog (iFieldAt 37 (.pointer (some ⟨b, o, none⟩)) 1) h = some (.pointer (some ⟨b, o + 1, none⟩)) := by kernel_rfl
theorem fa_37_2 {b o : Nat} {h : Heap} : runD Try.prog (iFieldAt 37 (.pointer (some ⟨b, o, none⟩)) 2) h = some (.pointer (some ⟨b, o + 2, none⟩)) := by kernel_rfl
theorem fa_37_3 {b o : Nat} {h : Heap} : runD Try.prog (iFieldAt 37 (.pointer (some ⟨b, o, none⟩)) 3) h = some (.pointer (some ⟨b, o + 3, none⟩)) := by kernel_rfl
theorem fa_37_4 {b o : Nat} {h : Heap} : runD Try.prog (iFieldAt 37 (.pointer (some ⟨b, o, none⟩)) 4) h = some (.pointer (some ⟨b, o + 5, none⟩)) := by kernel_rfl
theorem fa_37_5 {b o : Nat} {h : Heap} : runD Try.prog (iFieldAt 37 (.pointer (some ⟨b, o, none⟩)) 5) h = some (.pointer (some ⟨b, o + 13, none⟩)) := by kernel_rfl
theorem fa_37_6 {b o : Nat} {h : Heap} : runD Try.prog (iFieldAt 37 (.pointer (some ⟨b, o, none⟩)) 6) h = some (.pointer (some ⟨b, o + 14, none⟩)) := by kernel_rfl
theorem fa_64_0 {b o : Nat} {h : Heap} : runD Try.prog (iFieldAt 64 (.pointer (some ⟨b, o, none⟩)) 0) h = some (.pointer (some ⟨b, o + 0, none⟩)) := by kernel_rfl
theorem fa_69_0 {b o : Nat} {h : Heap} : runD Try.prog (iFieldAt 69 (.pointer (some ⟨b, o, none⟩)) 0) h = some (.pointer (some ⟨b, o + 0, none⟩)) := by kernel_rfl
theorem fa_69_1 {b o : Nat} {h : Heap} : runD Try.prog (iFieldAt 69 (.pointer (some ⟨b, o, none⟩)) 1) h = some (.pointer (some ⟨b, o + 1, none⟩)) := by kernel_rfl
theorem fa_83_0 {b o : Nat} {h : Heap} : runD Try.prog (iFieldAt 83 (.pointer (some ⟨b, o, none⟩)) 0) h = some (.pointer (some ⟨b, o + 0, none⟩)) := by kernel_rfl
theorem fa_83_1 {b o : Nat} {h : Heap} : runD Try.prog (iFieldAt 83 (.pointer (some ⟨b, o, none⟩)) 1) h = some (.pointer (some ⟨b, o + 1, none⟩)) := by kernel_rfl
theorem fa_83_2 {b o : Nat} {h : Heap} : runD Try.prog (iFieldAt 83 (.pointer (some ⟨b, o, none⟩)) 2) h = some (.pointer (some ⟨b, o + 2, none⟩)) := by kernel_rfl
theorem bd_24_  {h : Heap} : runD Try.prog (iBuild 24 #[]) h = some (.agg #[.int .i64 0, .int .i64 0, .int .i64 0, .int .i64 0, .int .i64 0, .int .i64 0, .int .i64 0, .bool false]) := by kernel_rfl
theorem bd_24_0_1_4 (x0 : Int) (x1 : Int) (x2 : Int) {h : Heap} : runD Try.prog (iBuild 24 #[(0, .int .i64 x0), (1, .int .i64 x1), (4, .int .i64 x2)]) h = some (.agg #[.int .i64 x0, .int .i64 x1, .int .i64 0, .int .i64 0, .int .i64 x2, .int .i64 0, .int .i64 0, .bool false]) := by kernel_rfl
theorem bd_24_0_1_4_5_6 (x0 : Int) (x1 : Int) (x2 : Int) (x3 : Int) (x4 : Int) {h : Heap} : runD Try.prog (iBuild 24 #[(0, .int .i64 x0), (1, .int .i64 x1), (4, .int .i64 x2), (5, .int .i64 x3), (6, .int .i64 x4)]) h = some (.agg #[.int .i64 x0, .int .i64 x1, .int .i64 0, .int .i64 0, .int .i64 x2, .int .i64 x3, .int .i64 x4, .bool false]) := by kernel_rfl
theorem bd_27_  {h : Heap} : runD Try.prog (iBuild 27 #[]) h = some (.agg #[.int .i64 0, .int .i64 0]) := by kernel_rfl
theorem bd_27_0 (x0 : Int) {h : Heap} : runD Try.prog (iBuild 27 #[(0, .int .i64 x0)]) h = some (.agg #[.int .i64 x0, .int .i64 0]) := by kernel_rfl
theorem bd_27_0_1 (x0 : Int) (x1 : Int) {h : Heap} : runD Try.prog (iBuild 27 #[(0, .int .i64 x0), (1, .int .i64 x1)]) h = some (.agg #[.int .i64 x0, .int .i64 x1]) := by kernel_rfl
theorem bd_34_  {h : Heap} : runD Try.prog (iBuild 34 #[]) h = some (.agg #[.slice none 0 0]) := by kernel_rfl
theorem bd_64_0 (x0 : Option Nat) {h : Heap} : runD Try.prog (iBuild 64 #[(0, .map x0)]) h = some (.agg #[.map x0]) := by kernel_rfl
theorem bd_69_0_1 (x0 : Int) (x1 : Int) {h : Heap} : runD Try.prog (iBuild 69 #[(0, .int .u32 x0), (1, .int .i64 x1)]) h = some (.agg #[.int .u32 x0, .int .i64 x1]) := by kernel_rfl
theorem bd_83_0_1_2 (x0 : Int) (x1 : Int) (x2 : Option Addr) (x2l x2c : Nat) {h : Heap} : runD Try.prog (iBuild 83 #[(0, .int .i64 x0), (1, .int .i64 x1), (2, .slice x2 x2l x2c)]) h = some (.agg #[.int .i64 x0, .int .i64 x1, .slice x2 x2l x2c]) := by kernel_rfl
theorem flatOk_24 : flatOk Try.prog 24 [.int .i64, .int .i64, .int .i64, .int .i64, .int .i64, .int .i64, .int .i64, .bool] = true := by kernel_rfl
theorem eqls_24 {h : Heap} {x y : Operand} {xs ys : List Value} (h1 : fitL [.int .i64, .int .i64, .int .i64, .int .i64, .int .i64, .int .i64, .int .i64, .bool] xs) (h2 : fitL [.int .i64, .int .i64, .int .i64, .int .i64, .int .i64, .int .i64, .int .i64, .bool] ys) : binD Try.prog h .eql 24 x y (.agg xs.toArray) (.agg ys.toArray) = some (.bool (eqL xs ys)) := binD_eql_flat flatOk_24 h1 h2
theorem neqs_24 {h : Heap} {x y : Operand} {xs ys : List Value} (h1 : fitL [.int .i64, .int .i64, .int .i64, .int .i64, .int .i64, .int .i64, .int .i64, .bool] xs) (h2 : fitL [.int .i64, .int .i64, .int .i64, .int .i64, .int .i64, .int .i64, .int .i64, .bool] ys) : binD Try.prog h .neq 24 x y (.agg xs.toArray) (.agg ys.toArray) = some (.bool (!eqL xs ys)) := binD_neq_flat flatOk_24 h1 h2
theorem flatOk_27 : flatOk Try.prog 27 [.int .i64, .int .i64] = true := by kernel_rfl
theorem eqls_27 {h : Heap} {x y : Operand} {xs ys : List Value} (h1 : fitL [.int .i64, .int .i64] xs) (h2 : fitL [.int .i64, .int .i64] ys) : binD Try.prog h .eql 27 x y (.agg xs.toArray) (.agg ys.toArray) = some (.bool (eqL xs ys)) := binD_eql_flat flatOk_27 h1 h2
theorem neqs_27 {h : Heap} {x y : Operand} {xs ys : List Value} (h1 : fitL [.int .i64, .int .i64] xs) (h2 : fitL [.int .i64, .int .i64] ys) : binD Try.prog h .neq 27 x y (.agg xs.toArray) (.agg ys.toArray) = some (.bool (!eqL xs ys)) := binD_neq_flat flatOk_27 h1 h2
theorem okFn_9 : okFn Try.prog 9 = true := by kernel_rfl
theorem okFn_10 : okFn Try.prog 10 = true := by kernel_rfl
theorem okFn_11 : okFn Try.prog 11 = true := by kernel_rfl
theorem okFn_12 : okFn Try.prog 12 = true := by kernel_rfl
theorem okFn_13 : okFn Try.prog 13 = true := by kernel_rfl
theorem okFn_14 : okFn Try.prog 14 = true := by kernel_rfl
theorem okFn_15 : okFn Try.prog 15 = true := by kernel_rfl
theorem okFn_16 : okFn Try.prog 16 = true := by kernel_rfl
theorem okFn_17 : okFn Try.prog 17 = true := by kernel_rfl
theorem okFn_18 : okFn Try.prog 18 = true := by kernel_rfl
theorem okFn_19 : okFn Try.prog 19 = true := by kernel_rfl
theorem okFn_20 : okFn Try.prog 20 = true := by kernel_rfl
theorem okFn_21 : okFn Try.prog 21 = true := by kernel_rfl
theorem okFn_22 : okFn Try.prog 22 = true := by kernel_rfl
theorem okFn_23 : okFn Try.prog 23 = true := by kernel_rfl
theorem okFn_24 : okFn Try.prog 24 = true := by kernel_rfl
theorem okFn_25 : okFn Try.prog 25 = true := by kernel_rfl
theorem okFn_26 : okFn Try.prog 26 = true := by kernel_rfl
theorem okFn_27 : okFn Try.prog 27 = true := by kernel_rfl
theorem okFn_28 : okFn Try.prog 28 = true := by kernel_rfl
theorem okFn_29 : okFn Try.prog 29 = true := by kernel_rfl
theorem okFn_30 : okFn Try.prog 30 = true := by kernel_rfl
theorem okFn_31 : okFn Try.prog 31 = true := by kernel_rfl
theorem okFn_32 : okFn Try.prog 32 = true := by kernel_rfl
theorem okFn_33 : okFn Try.prog 33 = true := by kernel_rfl
theorem okFn_34 : okFn Try.prog 34 = true := by kernel_rfl
theorem okFn_35 : okFn Try.prog 35 = true := by kernel_rfl
theorem okFn_36 : okFn Try.prog 36 = true := by kernel_rfl
theorem okFn_37 : okFn Try.prog 37 = true := by kernel_rfl
theorem okFn_38 : okFn Try.prog 38 = true := by kernel_rfl
theorem okFn_39 : okFn Try.prog 39 = true := by kernel_rfl
theorem okFn_40 : okFn Try.prog 40 = true := by kernel_rfl
theorem okFn_42 : okFn Try.prog 42 = true := by kernel_rfl
theorem okFn_43 : okFn Try.prog 43 = true := by kernel_rfl
theorem okFn_44 : okFn Try.prog 44 = true := by kernel_rfl
theorem okFn_45 : okFn Try.prog 45 = true := by kernel_rfl
theorem okFn_46 : okFn Try.prog 46 = true := by kernel_rfl
theorem okFn_47 : okFn Try.prog 47 = true := by kernel_rfl
theorem okFn_48 : okFn Try.prog 48 = true := by kernel_rfl
theorem okFn_49 : okFn Try.prog 49 = true := by kernel_rfl
theorem okFn_50 : okFn Try.prog 50 = true := by kernel_rfl
theorem okFn_51 : okFn Try.prog 51 = true := by kernel_rfl
theorem okFn_52 : okFn Try.prog 52 = true := by kernel_rfl
theorem okFn_53 : okFn Try.prog 53 = true := by kernel_rfl
theorem okFn_54 : okFn Try.prog 54 = true := by kernel_rfl
theorem okFn_55 : okFn Try.prog 55 = true := by kernel_rfl
theorem okFn_56 : okFn Try.prog 56 = true := by kernel_rfl
theorem okFn_57 : okFn Try.prog 57 = true := by kernel_rfl
theorem okFn_58 : okFn Try.prog 58 = true := by kernel_rfl
theorem okFn_59 : okFn Try.prog 59 = true := by kernel_rfl
theorem okFn_60 : okFn Try.prog 60 = true := by kernel_rfl
theorem okFn_61 : okFn Try.prog 61 = true := by kernel_rfl
theorem okFn_62 : okFn Try.prog 62 = true := by kernel_rfl
theorem okFn_63 : okFn Try.prog 63 = true := by kernel_rfl
theorem okFn_64 : okFn Try.prog 64 = true := by kernel_rfl
theorem okFn_65 : okFn Try.prog 65 = true := by kernel_rfl
theorem okFn_66 : okFn Try.prog 66 = true := by kernel_rfl
attribute [go_sem ↓] fa_24_0 fa_24_1 fa_24_2 fa_24_3 fa_24_4 fa_24_5 fa_24_6 fa_24_7 fa_27_0 fa_27_1 fa_34_0 fa_37_0 fa_37_1 fa_37_2 fa_37_3 fa_37_4 fa_37_5 fa_37_6 fa_64_0 fa_69_0
attribute [go_sem ↓] fa_69_1 fa_83_0 fa_83_1 fa_83_2 bd_24_ bd_24_0_1_4 bd_24_0_1_4_5_6 bd_27_ bd_27_0 bd_27_0_1 bd_34_ bd_64_0 bd_69_0_1 bd_83_0_1_2
attribute [go_sem] tsz_0 aggB_0 tszD_0 tbytes_0 tzeroD_0 tzero_0 tsz_3 aggB_3 tszD_3 tbytes_3 isInt_3 intK_3 tzeroD_3 tzero_3 tsz_4 aggB_4 tszD_4 tbytes_4 tzeroD_4 tzero_4
attribute [go_sem] tsz_5 aggB_5 tszD_5 tbytes_5 isInt_5 intK_5 tzeroD_5 tzero_5 tsz_9 aggB_9 tszD_9 tbytes_9 tzeroD_9 tzero_9 tsz_22 aggB_22 tszD_22 tbytes_22 isSlice_22 ssz_22
attribute [go_sem] selem_22 tzeroD_22 tzero_22 tsz_23 aggB_23 tszD_23 tbytes_23 tzeroD_23 tzero_23 tsz_24 aggB_24 tszD_24 tbytes_24 tzeroD_24 tzero_24 tsz_25 aggB_25 tszD_25 tbytes_25 isInt_25
attribute [go_sem] intK_25 tzeroD_25 tzero_25 tsz_26 aggB_26 tszD_26 tbytes_26 tzeroD_26 tzero_26 tsz_27 aggB_27 tszD_27 tbytes_27 tzeroD_27 tzero_27 tsz_29 aggB_29 tszD_29 tbytes_29 isPtr_29
attribute [go_sem] tzeroD_29 tzero_29 tsz_31 aggB_31 tszD_31 tbytes_31 isPtr_31 tzeroD_31 tzero_31 tsz_32 aggB_32 tszD_32 tbytes_32 isSlice_32 ssz_32 selem_32 tzeroD_32 tzero_32 tsz_33 aggB_33
attribute [go_sem] tszD_33 tbytes_33 tzeroD_33 tzero_33 tsz_34 aggB_34 tszD_34 tbytes_34 tzeroD_34 tzero_34 tsz_36 aggB_36 tszD_36 tbytes_36 tzeroD_36 tzero_36 tsz_37 aggB_37 tszD_37 tbytes_37
attribute [go_sem] tzeroD_37 tzero_37 tsz_38 aggB_38 tszD_38 tbytes_38 isInt_38 intK_38 tzeroD_38 tzero_38 tsz_39 aggB_39 tszD_39 tbytes_39 tzeroD_39 tzero_39 tsz_41 aggB_41 tszD_41 tbytes_41
attribute [go_sem] isSlice_41 ssz_41 selem_41 tzeroD_41 tzero_41 tsz_45 aggB_45 tszD_45 tbytes_45 tzeroD_45 tzero_45 tsz_58 aggB_58 tszD_58 tbytes_58 tzeroD_58 tzero_58 tsz_60 aggB_60 tszD_60
attribute [go_sem] tbytes_60 tzeroD_60 tzero_60 tsz_62 aggB_62 tszD_62 tbytes_62 intMap_62 elemT_62 tzeroD_62 tzero_62 tsz_63 aggB_63 tszD_63 tbytes_63 tzeroD_63 tzero_63 tsz_64 aggB_64 tszD_64
attribute [go_sem] tbytes_64 tzeroD_64 tzero_64 tsz_65 aggB_65 tszD_65 tbytes_65 tzeroD_65 tzero_65 tsz_67 aggB_67 tszD_67 tbytes_67 isPtr_67 tzeroD_67 tzero_67 tsz_68 aggB_68 tszD_68 tbytes_68
attribute [go_sem] tzeroD_68 tzero_68 tsz_69 aggB_69 tszD_69 tbytes_69 tzeroD_69 tzero_69 tsz_70 aggB_70 tszD_70 tbytes_70 tzeroD_70 tzero_70 tsz_72 aggB_72 tszD_72 tbytes_72 isSlice_72 ssz_72
attribute [go_sem] selem_72 tzeroD_72 tzero_72 tsz_73 aggB_73 tszD_73 tbytes_73 isPtr_73 tzeroD_73 tzero_73 tsz_74 aggB_74 tszD_74 tbytes_74 tzeroD_74 tzero_74 tsz_77 aggB_77 tszD_77 tbytes_77
attribute [go_sem] tzeroD_77 tzero_77 tsz_81 aggB_81 tszD_81 tbytes_81 tzeroD_81 tzero_81 tsz_82 aggB_82 tszD_82 tbytes_82 tzeroD_82 tzero_82 tsz_83 aggB_83 tszD_83 tbytes_83 tzeroD_83 tzero_83
attribute [go_sem] tsz_87 aggB_87 tszD_87 tbytes_87 isInt_87 intK_87 tzeroD_87 tzero_87 tsz_88 aggB_88 tszD_88 tbytes_88 isSlice_88 ssz_88 selem_88 tzeroD_88 tzero_88 tsz_91 aggB_91 tszD_91
attribute [go_sem] tbytes_91 isInt_91 intK_91 tzeroD_91 tzero_91 tsz_92 aggB_92 tszD_92 tbytes_92 tzeroD_92 tzero_92 tsz_99 aggB_99 tszD_99 tbytes_99 isInt_99 intK_99 tzeroD_99 tzero_99 tsz_100
attribute [go_sem] aggB_100 tszD_100 tbytes_100 isInt_100 intK_100 tzeroD_100 tzero_100 tsz_104 aggB_104 tszD_104 tbytes_104 isPtr_104 tzeroD_104 tzero_104 tsz_106 aggB_106 tszD_106 tbytes_106 isPtr_106 tzeroD_106
attribute [go_sem] tzero_106 tsz_107 aggB_107 tszD_107 tbytes_107 tzeroD_107 tzero_107 eqls_24 neqs_24 eqls_27 neqs_27 okFn_9 okFn_10 okFn_11 okFn_12 okFn_13 okFn_14 okFn_15 okFn_16 okFn_17
attribute [go_sem] okFn_18 okFn_19 okFn_20 okFn_21 okFn_22 okFn_23 okFn_24 okFn_25 okFn_26 okFn_27 okFn_28 okFn_29 okFn_30 okFn_31 okFn_32 okFn_33 okFn_34 okFn_35 okFn_36 okFn_37
attribute [go_sem] okFn_38 okFn_39 okFn_40 okFn_42 okFn_43 okFn_44 okFn_45 okFn_46 okFn_47 okFn_48 okFn_49 okFn_50 okFn_51 okFn_52 okFn_53 okFn_54 okFn_55 okFn_56 okFn_57 okFn_58
attribute [go_sem] okFn_59 okFn_60 okFn_61 okFn_62 okFn_63 okFn_64 okFn_65 okFn_66 Try.underlying0 Try.underlying3 Try.underlying4 Try.underlying5 Try.underlying9 Try.underlying22 Try.underlying23 Try.underlying24 Try.underlying25 Try.underlying26 Try.underlying27 Try.underlying29
attribute [go_sem] Try.underlying31 Try.underlying32 Try.underlying33 Try.underlying34 Try.underlying36 Try.underlying37 Try.underlying38 Try.underlying39 Try.underlying41 Try.underlying45 Try.underlying58 Try.underlying60 Try.underlying62 Try.underlying63 Try.underlying64 Try.underlying65 Try.underlying67 Try.underlying68 Try.underlying69 Try.underlying70
attribute [go_sem] Try.underlying72 Try.underlying73 Try.underlying74 Try.underlying77 Try.underlying81 Try.underlying82 Try.underlying83 Try.underlying87 Try.underlying88 Try.underlying91 Try.underlying92 Try.underlying99 Try.underlying100 Try.underlying104 Try.underlying106 Try.underlying107
def T2 : Tab := ⟨[(0, [])], [], []⟩
theorem T2_sch : T2.sch = [] := (rfl)
theorem T2_reg : T2.reg = [(0, [])] := (rfl)
theorem T2_loops : T2.loops = [] := (rfl)
def T3 : Tab := ⟨[(0, [0, 2, 3, 7, 10, 11]), (1, [0, 2, 3, 7, 10, 11, 13]), (2, [0, 2, 3, 7, 10, 11, 13, 14]), (3, [0, 2, 3, 7, 10, 11, 13, 14, 15]), (4, [0, 2, 3, 7, 10, 11, 13, 14, 15, 30]), (5, [12]), (6, [0, 2, 3, 7, 10, 11, 13, 14, 15, 16]), (7, [0, 2, 3, 7, 10, 11, 13, 14, 15, 16, 38]), (8, [0, 2, 3, 7, 10, 11, 13, 14, 15, 16]), (9, [0, 2, 3, 7, 10, 11, 13, 14, 15, 16]), (10, [2, 3, 7, 10, 11, 13, 14, 15, 17, 18, 19]), (11, [2, 3, 7, 10, 11, 13, 14, 17, 18, 19, 20]), (12, [2, 3, 7, 10, 11, 13, 14, 17, 18, 19, 20, 21]), (13, [2, 3, 7, 10, 11, 13, 14, 17, 18, 19, 20, 21, 65]), (14, [2, 3, 7, 10, 11, 13, 14, 17, 18, 19, 20, 21]), (15, [2, 3, 7, 10, 11, 13, 14, 17, 18, 19, 20, 21, 73]), (16, [12]), (17, [2, 3, 7, 13, 14, 17, 18, 19]), (18, [13, 17, 18, 19, 22, 23, 24]), (19, [12])], [(0, [0, 2, 3, 7, 10, 11, 13, 14, 15, 16]), (2, [2, 3, 7, 10, 11, 13, 14, 17, 18, 19, 20, 21])], []⟩
theorem T3_sch : T3.sch = [] := (rfl)
theorem T3_reg : T3.reg = [(0, [0, 2, 3, 7, 10, 11]), (1, [0, 2, 3, 7, 10, 11, 13]), (2, [0, 2, 3, 7, 10, 11, 13, 14]), (3, [0, 2, 3, 7, 10, 11, 13, 14, 15]), (4, [0, 2, 3, 7, 10, 11, 13, 14, 15, 30]), (5, [12]), (6, [0, 2, 3, 7, 10, 11, 13, 14, 15, 16]), (7, [0, 2, 3, 7, 10, 11, 13, 14, 15, 16, 38]), (8, [0, 2, 3, 7, 10, 11, 13, 14, 15, 16]), (9, [0, 2, 3, 7, 10, 11, 13, 14, 15, 16]), (10, [2, 3, 7, 10, 11, 13, 14, 15, 17, 18, 19]), (11, [2, 3, 7, 10, 11, 13, 14, 17, 18, 19, 20]), (12, [2, 3, 7, 10, 11, 13, 14, 17, 18, 19, 20, 21]), (13, [2, 3, 7, 10, 11, 13, 14, 17, 18, 19, 20, 21, 65]), (14, [2, 3, 7, 10, 11, 13, 14, 17, 18, 19, 20, 21]), (15, [2, 3, 7, 10, 11, 13, 14, 17, 18, 19, 20, 21, 73]), (16, [12]), (17, [2, 3, 7, 13, 14, 17, 18, 19]), (18, [13, 17, 18, 19, 22, 23, 24]), (19, [12])] := (rfl)
theorem T3_loops : T3.loops = [(0, [0, 2, 3, 7, 10, 11, 13, 14, 15, 16]), (2, [2, 3, 7, 10, 11, 13, 14, 17, 18, 19, 20, 21])] := (rfl)
def T4 : Tab := ⟨[(0, [0, 2, 3, 4, 5, 7]), (1, [0, 2, 3, 4, 5, 7, 13]), (2, [0, 2, 3, 4, 5, 7, 13, 14]), (3, [0, 2, 3, 4, 5, 7, 13, 14, 15]), (4, [0, 2, 3, 4, 5, 7, 13, 14, 15, 30]), (5, [12]), (6, [0, 2, 3, 4, 5, 7, 13, 14, 15, 16]), (7, [0, 2, 3, 4, 5, 7, 13, 14, 15, 16, 38]), (8, [0, 2, 3, 4, 5, 7, 13, 14, 15, 16]), (9, [0, 2, 3, 4, 5, 7, 13, 14, 15, 16]), (10, [2, 3, 4, 5, 7, 13, 14, 17, 18, 19]), (11, [2, 3, 4, 5, 7, 13, 14, 17, 18, 72]), (12, [12]), (13, [2, 3, 4, 5, 7, 13, 14, 17, 18, 20, 21]), (14, [4, 13, 17, 18, 20, 21, 22, 23, 24]), (15, [4, 13, 17, 18, 20, 22, 23, 24, 100]), (16, [12]), (17, [4, 13, 17, 18, 22, 23, 24, 103]), (18, [12]), (19, [12])], [(0, [0, 2, 3, 4, 5, 7, 13, 14, 15, 16])], [(14, ⟨5783552, 2605055, [0, 0, 0, 0, 12, 0, 0, 64, 192, 480, 1020, 0, 0, 6144, 16383, 32767, 65535, 65535, 65535, 0, 655359, 1835007, 4194303], (.rd 0 false (.rd 1 false (.rd 2 false (.rd 3 false (.rd 4 false (.rd 5 false (.rd 6 false (.rd 7 false (.rd 8 false (.rd 9 false (.rd 10 false (.rd 11 false (.rd 12 false (.rd 13 false (.wr 14 (.rd 15 false (.rd 16 false (.rd 17 false (.rd 18 false (.wr 19 (.rd 15 true (.rd 16 true (.rd 17 true (.rd 18 true (.wr 20 (.rd 17 true (.rd 18 true (.rd 21 false (.wr 22 .done .no)))) .no))))) .no))))) (.wr 19 (.rd 0 true (.rd 1 true (.rd 2 true (.rd 3 true (.rd 4 true (.rd 5 true (.rd 6 true (.rd 7 true (.rd 8 true (.rd 9 true (.rd 10 true (.rd 11 true (.rd 12 true (.rd 13 true (.wr 14 (.rd 15 false (.rd 16 false (.rd 17 false (.rd 18 false (.wr 20 (.rd 17 true (.rd 18 true (.rd 21 false (.wr 22 .done .no)))) .no))))) .no))))))))))))))) .no))))))))))))))))⟩)]⟩
theorem T4_sch : T4.sch = [(14, ⟨5783552, 2605055, [0, 0, 0, 0, 12, 0, 0, 64, 192, 480, 1020, 0, 0, 6144, 16383, 32767, 65535, 65535, 65535, 0, 655359, 1835007, 4194303], (.rd 0 false (.rd 1 false (.rd 2 false (.rd 3 false (.rd 4 false (.rd 5 false (.rd 6 false (.rd 7 false (.rd 8 false (.rd 9 false (.rd 10 false (.rd 11 false (.rd 12 false (.rd 13 false (.wr 14 (.rd 15 false (.rd 16 false (.rd 17 false (.rd 18 false (.wr 19 (.rd 15 true (.rd 16 true (.rd 17 true (.rd 18 true (.wr 20 (.rd 17 true (.rd 18 true (.rd 21 false (.wr 22 .done .no)))) .no))))) .no))))) (.wr 19 (.rd 0 true (.rd 1 true (.rd 2 true (.rd 3 true (.rd 4 true (.rd 5 true (.rd 6 true (.rd 7 true (.rd 8 true (.rd 9 true (.rd 10 true (.rd 11 true (.rd 12 true (.rd 13 true (.wr 14 (.rd 15 false (.rd 16 false (.rd 17 false (.rd 18 false (.wr 20 (.rd 17 true (.rd 18 true (.rd 21 false (.wr 22 .done .no)))) .no))))) .no))))))))))))))) .no))))))))))))))))⟩)] := (rfl)
theorem T4_reg : T4.reg = [(0, [0, 2, 3, 4, 5, 7]), (1, [0, 2, 3, 4, 5, 7, 13]), (2, [0, 2, 3, 4, 5, 7, 13, 14]), (3, [0, 2, 3, 4, 5, 7, 13, 14, 15]), (4, [0, 2, 3, 4, 5, 7, 13, 14, 15, 30]), (5, [12]), (6, [0, 2, 3, 4, 5, 7, 13, 14, 15, 16]), (7, [0, 2, 3, 4, 5, 7, 13, 14, 15, 16, 38]), (8, [0, 2, 3, 4, 5, 7, 13, 14, 15, 16]), (9, [0, 2, 3, 4, 5, 7, 13, 14, 15, 16]), (10, [2, 3, 4, 5, 7, 13, 14, 17, 18, 19]), (11, [2, 3, 4, 5, 7, 13, 14, 17, 18, 72]), (12, [12]), (13, [2, 3, 4, 5, 7, 13, 14, 17, 18, 20, 21]), (14, [4, 13, 17, 18, 20, 21, 22, 23, 24]), (15, [4, 13, 17, 18, 20, 22, 23, 24, 100]), (16, [12]), (17, [4, 13, 17, 18, 22, 23, 24, 103]), (18, [12]), (19, [12])] := (rfl)
theorem T4_loops : T4.loops = [(0, [0, 2, 3, 4, 5, 7, 13, 14, 15, 16])] := (rfl)
def T5 : Tab := ⟨[(0, [0, 2, 3, 4, 6]), (1, [0, 2, 3, 4, 6, 11]), (2, [0, 2, 3, 4, 6, 11, 12]), (3, [0, 2, 3, 4, 6, 11, 12, 13]), (4, [0, 2, 3, 4, 6, 11, 12, 13, 28]), (5, [10]), (6, [0, 2, 3, 4, 6, 11, 12, 13, 14]), (7, [0, 2, 3, 4, 6, 11, 12, 13, 14, 36]), (8, [0, 2, 3, 4, 6, 11, 12, 13, 14]), (9, [0, 2, 3, 4, 6, 11, 12, 13, 14]), (10, [2, 3, 4, 6, 11, 12, 17]), (11, [2, 3, 4, 6, 11, 12, 17, 18]), (12, [2, 3, 4, 6, 11, 12, 17, 18]), (13, [2, 3, 4, 6, 11, 12, 17, 18, 19]), (14, [2, 3, 11, 12, 18, 71]), (15, [10]), (16, [11, 22]), (17, [10])], [(0, [0, 2, 3, 4, 6, 11, 12, 13, 14])], []⟩
theorem T5_sch : T5.sch = [] := (rfl)
theorem T5_reg : T5.reg = [(0, [0, 2, 3, 4, 6]), (1, [0, 2, 3, 4, 6, 11]), (2, [0, 2, 3, 4, 6, 11, 12]), (3, [0, 2, 3, 4, 6, 11, 12, 13]), (4, [0, 2, 3, 4, 6, 11, 12, 13, 28]), (5, [10]), (6, [0, 2, 3, 4, 6, 11, 12, 13, 14]), (7, [0, 2, 3, 4, 6, 11, 12, 13, 14, 36]), (8, [0, 2, 3, 4, 6, 11, 12, 13, 14]), (9, [0, 2, 3, 4, 6, 11, 12, 13, 14]), (10, [2, 3, 4, 6, 11, 12, 17]), (11, [2, 3, 4, 6, 11, 12, 17, 18]), (12, [2, 3, 4, 6, 11, 12, 17, 18]), (13, [2, 3, 4, 6, 11, 12, 17, 18, 19]), (14, [2, 3, 11, 12, 18, 71]), (15, [10]), (16, [11, 22]), (17, [10])] := (rfl)
theorem T5_loops : T5.loops = [(0, [0, 2, 3, 4, 6, 11, 12, 13, 14])] := (rfl)
def T6 : Tab := ⟨[(0, [0, 1, 2, 3, 9]), (1, [0, 1, 2, 3, 9, 11]), (2, [0, 1, 2, 3, 9, 11, 12]), (3, [0, 1, 2, 3, 9, 11, 12, 13]), (4, [0, 1, 2, 3, 9, 11, 12, 13, 31]), (5, [10]), (6, [0, 1, 2, 3, 9, 11, 12, 13, 14]), (7, [0, 1, 2, 3, 9, 11, 12, 13, 14, 39]), (8, [0, 1, 2, 3, 9, 11, 12, 13, 14]), (9, [0, 1, 2, 3, 9, 11, 12, 13, 14]), (10, [1, 2, 3, 9, 11, 12, 15]), (11, [1, 2, 3, 9, 11, 12, 54]), (12, [10]), (13, [1, 2, 3, 9, 11, 12, 16]), (14, [1, 2, 3, 9, 11, 12, 16, 59]), (15, [1, 2, 3, 9, 11, 12, 16]), (16, [1, 2, 3, 9, 11, 12, 16, 17, 18]), (17, [1, 2, 3, 9, 11, 12, 16, 76]), (18, [10]), (19, [1, 3, 9, 11, 12, 20]), (20, [1, 3, 9, 11, 12, 20, 21]), (21, [1, 3, 11, 12, 20, 22]), (22, [1, 3, 11, 12, 20, 22, 23]), (23, [1, 3, 11, 12, 20, 23, 102]), (24, [1, 11, 12, 20, 23, 24]), (25, [1, 11, 12, 20, 114]), (26, [10]), (27, [1, 11, 12, 20, 23]), (28, [11, 20, 23, 25]), (29, [10])], [(0, [0, 1, 2, 3, 9, 11, 12, 13, 14]), (2, [1, 2, 3, 9, 11, 12, 16])], []⟩
theorem T6_sch : T6.sch = [] := (rfl)
theorem T6_reg : T6.reg = [(0, [0, 1, 2, 3, 9]), (1, [0, 1, 2, 3, 9, 11]), (2, [0, 1, 2, 3, 9, 11, 12]), (3, [0, 1, 2, 3, 9, 11, 12, 13]), (4, [0, 1, 2, 3, 9, 11, 12, 13, 31]), (5, [10]), (6, [0, 1, 2, 3, 9, 11, 12, 13, 14]), (7, [0, 1, 2, 3, 9, 11, 12, 13, 14, 39]), (8, [0, 1, 2, 3, 9, 11, 12, 13, 14]), (9, [0, 1, 2, 3, 9, 11, 12, 13, 14]), (10, [1, 2, 3, 9, 11, 12, 15]), (11, [1, 2, 3, 9, 11, 12, 54]), (12, [10]), (13, [1, 2, 3, 9, 11, 12, 16]), (14, [1, 2, 3, 9, 11, 12, 16, 59]), (15, [1, 2, 3, 9, 11, 12, 16]), (16, [1, 2, 3, 9, 11, 12, 16, 17, 18]), (17, [1, 2, 3, 9, 11, 12, 16, 76]), (18, [10]), (19, [1, 3, 9, 11, 12, 20]), (20, [1, 3, 9, 11, 12, 20, 21]), (21, [1, 3, 11, 12, 20, 22]), (22, [1, 3, 11, 12, 20, 22, 23]), (23, [1, 3, 11, 12, 20, 23, 102]), (24, [1, 11, 12, 20, 23, 24]), (25, [1, 11, 12, 20, 114]), (26, [10]), (27, [1, 11, 12, 20, 23]), (28, [11, 20, 23, 25]), (29, [10])] := (rfl)
theorem T6_loops : T6.loops = [(0, [0, 1, 2, 3, 9, 11, 12, 13, 14]), (2, [1, 2, 3, 9, 11, 12, 16])] := (rfl)
def T7 : Tab := ⟨[(0, [0]), (1, [0, 3]), (2, [0, 3, 4]), (3, [0, 3, 4, 5]), (4, [0, 3, 4, 5, 18]), (5, [2]), (6, [0, 3, 4, 5, 6]), (7, [0, 3, 4, 5, 6, 26]), (8, [0, 3, 4, 5, 6]), (9, [0, 3, 4, 5, 6, 7]), (10, [0, 3, 4, 5, 6, 7, 8]), (11, [0, 3, 4, 5, 6, 7, 8, 9]), (12, [0, 3, 4, 5, 6, 7, 10]), (13, [0, 3, 4, 5, 6, 7, 10, 11]), (14, [0, 3, 4, 5, 6, 7, 10, 11, 12]), (15, [0, 3, 4, 5, 6, 67]), (16, [2]), (17, [2])], [(0, [0, 3, 4, 5, 6])], []⟩
theorem T7_sch : T7.sch = [] := (rfl)
theorem T7_reg : T7.reg = [(0, [0]), (1, [0, 3]), (2, [0, 3, 4]), (3, [0, 3, 4, 5]), (4, [0, 3, 4, 5, 18]), (5, [2]), (6, [0, 3, 4, 5, 6]), (7, [0, 3, 4, 5, 6, 26]), (8, [0, 3, 4, 5, 6]), (9, [0, 3, 4, 5, 6, 7]), (10, [0, 3, 4, 5, 6, 7, 8]), (11, [0, 3, 4, 5, 6, 7, 8, 9]), (12, [0, 3, 4, 5, 6, 7, 10]), (13, [0, 3, 4, 5, 6, 7, 10, 11]), (14, [0, 3, 4, 5, 6, 7, 10, 11, 12]), (15, [0, 3, 4, 5, 6, 67]), (16, [2]), (17, [2])] := (rfl)
theorem T7_loops : T7.loops = [(0, [0, 3, 4, 5, 6])] := (rfl)
def T8 : Tab := ⟨[(0, [0, 4, 5]), (1, [0, 4, 5, 7]), (2, [0, 4, 5, 7, 8]), (3, [0, 4, 5, 7, 8, 9]), (4, [0, 4, 5, 7, 8, 9, 27]), (5, [6]), (6, [0, 4, 5, 7, 8, 9, 10]), (7, [0, 4, 5, 7, 8, 9, 10, 35]), (8, [0, 4, 5, 7, 8, 9, 10]), (9, [0, 4, 5, 7, 8, 9, 10]), (10, [4, 5, 7, 8, 9, 11]), (11, [4, 5, 7, 8, 9, 11, 12]), (12, [4, 5, 7, 8, 9, 11, 12, 13]), (13, [4, 5, 7, 8, 9, 11, 12, 13, 14, 15]), (14, [4, 7, 8, 9, 11, 12, 13, 69]), (15, [6]), (16, [4, 7, 8, 9, 11, 12, 13, 16]), (17, [4, 7, 8, 9, 11, 12, 13, 16, 73]), (18, [4, 7, 8, 9, 11, 12, 13, 16]), (19, [4, 7, 8, 9, 11, 12, 13, 16, 17, 18]), (20, [4, 7, 8, 9, 11, 12, 13, 16, 17, 18, 19]), (21, [4, 7, 8, 9, 11, 12, 13, 16, 112]), (22, [6]), (23, [7, 12, 21]), (24, [6])], [(0, [0, 4, 5, 7, 8, 9, 10]), (2, [4, 7, 8, 9, 11, 12, 13, 16])], []⟩
theorem T8_sch : T8.sch = [] := (rfl)
theorem T8_reg : T8.reg = [(0, [0, 4, 5]), (1, [0, 4, 5, 7]), (2, [0, 4, 5, 7, 8]), (3, [0, 4, 5, 7, 8, 9]), (4, [0, 4, 5, 7, 8, 9, 27]), (5, [6]), (6, [0, 4, 5, 7, 8, 9, 10]), (7, [0, 4, 5, 7, 8, 9, 10, 35]), (8, [0, 4, 5, 7, 8, 9, 10]), (9, [0, 4, 5, 7, 8, 9, 10]), (10, [4, 5, 7, 8, 9, 11]), (11, [4, 5, 7, 8, 9, 11, 12]), (12, [4, 5, 7, 8, 9, 11, 12, 13]), (13, [4, 5, 7, 8, 9, 11, 12, 13, 14, 15]), (14, [4, 7, 8, 9, 11, 12, 13, 69]), (15, [6]), (16, [4, 7, 8, 9, 11, 12, 13, 16]), (17, [4, 7, 8, 9, 11, 12, 13, 16, 73]), (18, [4, 7, 8, 9, 11, 12, 13, 16]), (19, [4, 7, 8, 9, 11, 12, 13, 16, 17, 18]), (20, [4, 7, 8, 9, 11, 12, 13, 16, 17, 18, 19]), (21, [4, 7, 8, 9, 11, 12, 13, 16, 112]), (22, [6]), (23, [7, 12, 21]), (24, [6])] := (rfl)
theorem T8_loops : T8.loops = [(0, [0, 4, 5, 7, 8, 9, 10]), (2, [4, 7, 8, 9, 11, 12, 13, 16])] := (rfl)
def T9 : Tab := ⟨[(0, []), (1, [1, 2]), (2, [1, 2, 21]), (3, [0]), (4, [1, 2, 3, 4, 5]), (5, [1, 2, 3, 4, 5, 6, 7, 8]), (6, [1, 2, 3, 4, 5, 6, 7, 8, 11]), (7, [1, 3, 4, 5, 6, 7, 8, 11, 13]), (8, [1, 3, 4, 5, 6, 7, 8, 11, 13, 14]), (9, [3, 4, 5, 6, 7, 8, 11, 13, 14, 15]), (10, [0])], [], []⟩
theorem T9_sch : T9.sch = [] := (rfl)
theorem T9_reg : T9.reg = [(0, []), (1, [1, 2]), (2, [1, 2, 21]), (3, [0]), (4, [1, 2, 3, 4, 5]), (5, [1, 2, 3, 4, 5, 6, 7, 8]), (6, [1, 2, 3, 4, 5, 6, 7, 8, 11]), (7, [1, 3, 4, 5, 6, 7, 8, 11, 13]), (8, [1, 3, 4, 5, 6, 7, 8, 11, 13, 14]), (9, [3, 4, 5, 6, 7, 8, 11, 13, 14, 15]), (10, [0])] := (rfl)
theorem T9_loops : T9.loops = [] := (rfl)
def T10 : Tab := ⟨[(0, []), (1, [0])], [], []⟩
theorem T10_sch : T10.sch = [] := (rfl)
theorem T10_reg : T10.reg = [(0, []), (1, [0])] := (rfl)
theorem T10_loops : T10.loops = [] := (rfl)
def T11 : Tab := ⟨[(0, [0, 1, 5]), (1, [0, 1, 5, 34]), (2, [0, 1, 5, 34, 35]), (3, [1, 5, 7]), (4, [7, 8]), (5, [6]), (6, [0, 1, 5, 34, 52]), (7, [1, 5, 9]), (8, [9, 10]), (9, [6]), (10, [0, 1, 5, 34, 65]), (11, [1, 5, 11]), (12, [11, 12]), (13, [6]), (14, [0, 1, 5, 82]), (15, [1, 5, 13, 14]), (16, [13, 14, 15, 16]), (17, [6]), (18, [0, 1, 5, 17, 18, 19]), (19, [0, 1, 5, 17, 18, 19, 20, 21, 22]), (20, [0, 1, 5, 17, 18, 19, 20, 21, 22, 23, 24]), (21, [0, 1, 5, 17, 18, 19, 20, 21, 22, 23, 24, 25, 26]), (22, [1, 5, 17, 18, 19, 20, 21, 22, 23, 24, 25, 26, 27, 28, 29]), (23, [17, 18, 19, 20, 21, 22, 23, 24, 25, 26, 27, 28, 29, 30, 31, 32]), (24, [6])], [], []⟩
theorem T11_sch : T11.sch = [] := (rfl)
theorem T11_reg : T11.reg = [(0, [0, 1, 5]), (1, [0, 1, 5, 34]), (2, [0, 1, 5, 34, 35]), (3, [1, 5, 7]), (4, [7, 8]), (5, [6]), (6, [0, 1, 5, 34, 52]), (7, [1, 5, 9]), (8, [9, 10]), (9, [6]), (10, [0, 1, 5, 34, 65]), (11, [1, 5, 11]), (12, [11, 12]), (13, [6]), (14, [0, 1, 5, 82]), (15, [1, 5, 13, 14]), (16, [13, 14, 15, 16]), (17, [6]), (18, [0, 1, 5, 17, 18, 19]), (19, [0, 1, 5, 17, 18, 19, 20, 21, 22]), (20, [0, 1, 5, 17, 18, 19, 20, 21, 22, 23, 24]), (21, [0, 1, 5, 17, 18, 19, 20, 21, 22, 23, 24, 25, 26]), (22, [1, 5, 17, 18, 19, 20, 21, 22, 23, 24, 25, 26, 27, 28, 29]), (23, [17, 18, 19, 20, 21, 22, 23, 24, 25, 26, 27, 28, 29, 30, 31, 32]), (24, [6])] := (rfl)
theorem T11_loops : T11.loops = [] := (rfl)
def T12 : Tab := ⟨[(0, [0, 2, 3, 5, 8]), (1, [0, 2, 3, 5, 8, 18]), (2, [8, 9, 10]), (3, [0, 2, 3, 5, 8, 28]), (4, [8, 9, 10]), (5, [0, 5, 8, 11]), (6, [0, 8, 11, 12]), (7, [0, 8, 11, 12, 13, 14]), (8, [0, 8, 11, 12, 55]), (9, [8, 9, 10]), (10, [0, 8, 11, 12, 15, 16]), (11, [0, 8, 11, 12, 15, 64]), (12, [8, 9, 10]), (13, [0, 8, 11, 12, 15, 68]), (14, [8, 9, 10]), (15, [0, 8, 11, 12, 15]), (16, [0, 8, 11, 12, 17]), (17, [0, 8, 11, 12, 17, 100]), (18, [0, 8, 11, 12]), (19, [8, 9, 10])], [(1, [0, 8, 11, 12])], [(13, ⟨200, 55, [0, 0, 2, 7, 0, 16, 63, 127], (.rd 0 false (.rd 1 false (.rd 2 false (.rd 4 false (.rd 5 false (.wr 3 (.rd 4 true (.rd 5 true (.wr 6 (.wr 7 .done .no) .no))) .no))))))⟩), (16, ⟨3072, 1023, [0, 1, 3, 7, 0, 16, 63, 0, 255, 511, 0, 2047], (.rd 0 false (.rd 1 false (.rd 2 false (.rd 3 false (.rd 4 false (.rd 5 false (.rd 6 false (.rd 7 false (.rd 8 false (.rd 9 false (.wr 10 (.rd 0 true (.rd 1 true (.rd 2 true (.rd 3 true (.rd 4 true (.rd 5 true (.rd 6 true (.rd 7 true (.rd 8 true (.rd 9 true (.wr 11 .done .no))))))))))) .no)))))))))))⟩), (19, ⟨224, 31, [0, 0, 2, 6, 14, 1, 63, 127], (.rd 0 false (.rd 1 false (.rd 2 false (.rd 3 false (.rd 4 false (.wr 5 (.rd 1 true (.rd 2 true (.rd 3 true (.rd 4 true (.wr 6 (.wr 7 .done .no) .no))))) .no))))))⟩)]⟩
theorem T12_sch : T12.sch = [(13, ⟨200, 55, [0, 0, 2, 7, 0, 16, 63, 127], (.rd 0 false (.rd 1 false (.rd 2 false (.rd 4 false (.rd 5 false (.wr 3 (.rd 4 true (.rd 5 true (.wr 6 (.wr 7 .done .no) .no))) .no))))))⟩), (16, ⟨3072, 1023, [0, 1, 3, 7, 0, 16, 63, 0, 255, 511, 0, 2047], (.rd 0 false (.rd 1 false (.rd 2 false (.rd 3 false (.rd 4 false (.rd 5 false (.rd 6 false (.rd 7 false (.rd 8 false (.rd 9 false (.wr 10 (.rd 0 true (.rd 1 true (.rd 2 true (.rd 3 true (.rd 4 true (.rd 5 true (.rd 6 true (.rd 7 true (.rd 8 true (.rd 9 true (.wr 11 .done .no))))))))))) .no)))))))))))⟩), (19, ⟨224, 31, [0, 0, 2, 6, 14, 1, 63, 127], (.rd 0 false (.rd 1 false (.rd 2 false (.rd 3 false (.rd 4 false (.wr 5 (.rd 1 true (.rd 2 true (.rd 3 true (.rd 4 true (.wr 6 (.wr 7 .done .no) .no))))) .no))))))⟩)] := (rfl)
theorem T12_reg : T12.reg = [(0, [0, 2, 3, 5, 8]), (1, [0, 2, 3, 5, 8, 18]), (2, [8, 9, 10]), (3, [0, 2, 3, 5, 8, 28]), (4, [8, 9, 10]), (5, [0, 5, 8, 11]), (6, [0, 8, 11, 12]), (7, [0, 8, 11, 12, 13, 14]), (8, [0, 8, 11, 12, 55]), (9, [8, 9, 10]), (10, [0, 8, 11, 12, 15, 16]), (11, [0, 8, 11, 12, 15, 64]), (12, [8, 9, 10]), (13, [0, 8, 11, 12, 15, 68]), (14, [8, 9, 10]), (15, [0, 8, 11, 12, 15]), (16, [0, 8, 11, 12, 17]), (17, [0, 8, 11, 12, 17, 100]), (18, [0, 8, 11, 12]), (19, [8, 9, 10])] := (rfl)
theorem T12_loops : T12.loops = [(1, [0, 8, 11, 12])] := (rfl)
def T13 : Tab := ⟨[(0, [0, 2, 3, 5]), (1, [0, 2, 3, 5, 9]), (2, [0, 2, 3, 5, 9, 10]), (3, [0, 2, 3, 5, 9, 10, 23]), (4, [0, 2, 3, 5, 9, 10]), (5, [0, 2, 3, 5, 9, 10, 11, 12, 13]), (6, [0, 2, 3, 5, 9, 10, 11, 44]), (7, [0, 2, 3, 5, 9, 10]), (8, [9, 14, 16]), (9, [9, 14, 59]), (10, [9]), (11, [8])], [(0, [0, 2, 3, 5, 9, 10])], [(5, ⟨90368, 40703, [0, 0, 0, 0, 0, 24, 60, 0, 255, 511, 1023, 1023, 1023, 0, 10239, 28671, 65535], (.rd 0 false (.rd 1 false (.rd 2 false (.rd 3 false (.rd 4 false (.rd 5 false (.rd 6 false (.rd 7 false (.wr 8 (.rd 9 false (.rd 10 false (.rd 11 false (.rd 12 false (.wr 13 (.rd 9 true (.rd 10 true (.rd 11 true (.rd 12 true (.wr 14 (.rd 11 true (.rd 12 true (.rd 15 false (.wr 16 .done .no)))) .no))))) .no))))) (.wr 13 (.rd 0 true (.rd 1 true (.rd 2 true (.rd 3 true (.rd 4 true (.rd 5 true (.rd 6 true (.rd 7 true (.wr 8 (.rd 9 false (.rd 10 false (.rd 11 false (.rd 12 false (.wr 14 (.rd 11 true (.rd 12 true (.rd 15 false (.wr 16 .done .no)))) .no))))) .no))))))))) .no))))))))))⟩)]⟩
theorem T13_sch : T13.sch = [(5, ⟨90368, 40703, [0, 0, 0, 0, 0, 24, 60, 0, 255, 511, 1023, 1023, 1023, 0, 10239, 28671, 65535], (.rd 0 false (.rd 1 false (.rd 2 false (.rd 3 false (.rd 4 false (.rd 5 false (.rd 6 false (.rd 7 false (.wr 8 (.rd 9 false (.rd 10 false (.rd 11 false (.rd 12 false (.wr 13 (.rd 9 true (.rd 10 true (.rd 11 true (.rd 12 true (.wr 14 (.rd 11 true (.rd 12 true (.rd 15 false (.wr 16 .done .no)))) .no))))) .no))))) (.wr 13 (.rd 0 true (.rd 1 true (.rd 2 true (.rd 3 true (.rd 4 true (.rd 5 true (.rd 6 true (.rd 7 true (.wr 8 (.rd 9 false (.rd 10 false (.rd 11 false (.rd 12 false (.wr 14 (.rd 11 true (.rd 12 true (.rd 15 false (.wr 16 .done .no)))) .no))))) .no))))))))) .no))))))))))⟩)] := (rfl)
theorem T13_reg : T13.reg = [(0, [0, 2, 3, 5]), (1, [0, 2, 3, 5, 9]), (2, [0, 2, 3, 5, 9, 10]), (3, [0, 2, 3, 5, 9, 10, 23]), (4, [0, 2, 3, 5, 9, 10]), (5, [0, 2, 3, 5, 9, 10, 11, 12, 13]), (6, [0, 2, 3, 5, 9, 10, 11, 44]), (7, [0, 2, 3, 5, 9, 10]), (8, [9, 14, 16]), (9, [9, 14, 59]), (10, [9]), (11, [8])] := (rfl)
theorem T13_loops : T13.loops = [(0, [0, 2, 3, 5, 9, 10])] := (rfl)
def T14 : Tab := ⟨[(0, [0, 4, 5]), (1, [5, 7, 8]), (2, [5, 7, 8, 16]), (3, [6]), (4, [5, 7, 20]), (5, [6]), (6, []), (7, [6])], [], []⟩
theorem T14_sch : T14.sch = [] := (rfl)
theorem T14_reg : T14.reg = [(0, [0, 4, 5]), (1, [5, 7, 8]), (2, [5, 7, 8, 16]), (3, [6]), (4, [5, 7, 20]), (5, [6]), (6, []), (7, [6])] := (rfl)
theorem T14_loops : T14.loops = [] := (rfl)
def T15 : Tab := ⟨[(0, [0, 3, 4]), (1, [4, 6, 7]), (2, [4, 6, 7, 15]), (3, [4, 5]), (4, [4, 5])], [], []⟩
theorem T15_sch : T15.sch = [] := (rfl)
theorem T15_reg : T15.reg = [(0, [0, 3, 4]), (1, [4, 6, 7]), (2, [4, 6, 7, 15]), (3, [4, 5]), (4, [4, 5])] := (rfl)
theorem T15_loops : T15.loops = [] := (rfl)
def T16 : Tab := ⟨[(0, [1]), (1, [1, 3]), (2, [1, 3, 7]), (3, [1, 3]), (4, [1, 3, 10]), (5, [1, 3]), (6, [1, 3, 13]), (7, [1, 3]), (8, [1, 32]), (9, [2]), (10, [1, 46]), (11, [2]), (12, [1, 4]), (13, [1, 71]), (14, [2]), (15, [1, 83]), (16, [2]), (17, [1, 86]), (18, [2]), (19, [2])], [], [(10, ⟨12544, 3839, [0, 1, 3, 7, 15, 31, 15, 79, 207, 511, 15, 1039, 4095, 8191], (.rd 0 false (.rd 1 false (.rd 2 false (.rd 3 false (.rd 4 false (.rd 5 false (.rd 6 false (.rd 7 false (.rd 10 false (.rd 11 false (.wr 8 (.rd 4 true (.rd 5 true (.rd 9 false (.rd 10 true (.rd 11 true (.wr 12 (.wr 13 .done .no) .no)))))) .no)))))))))))⟩)]⟩
theorem T16_sch : T16.sch = [(10, ⟨12544, 3839, [0, 1, 3, 7, 15, 31, 15, 79, 207, 511, 15, 1039, 4095, 8191], (.rd 0 false (.rd 1 false (.rd 2 false (.rd 3 false (.rd 4 false (.rd 5 false (.rd 6 false (.rd 7 false (.rd 10 false (.rd 11 false (.wr 8 (.rd 4 true (.rd 5 true (.rd 9 false (.rd 10 true (.rd 11 true (.wr 12 (.wr 13 .done .no) .no)))))) .no)))))))))))⟩)] := (rfl)
theorem T16_reg : T16.reg = [(0, [1]), (1, [1, 3]), (2, [1, 3, 7]), (3, [1, 3]), (4, [1, 3, 10]), (5, [1, 3]), (6, [1, 3, 13]), (7, [1, 3]), (8, [1, 32]), (9, [2]), (10, [1, 46]), (11, [2]), (12, [1, 4]), (13, [1, 71]), (14, [2]), (15, [1, 83]), (16, [2]), (17, [1, 86]), (18, [2]), (19, [2])] := (rfl)
theorem T16_loops : T16.loops = [] := (rfl)
def T17 : Tab := ⟨[(0, [0, 1, 2]), (1, [0, 1, 2, 22]), (2, [6]), (3, [0, 1, 2, 8]), (4, [0, 1, 2, 32]), (5, [6]), (6, []), (7, [6])], [], [(6, ⟨384, 127, [0, 1, 3, 7, 0, 0, 32, 96, 255], (.rd 0 false (.rd 1 false (.rd 2 false (.rd 3 false (.rd 4 false (.rd 5 false (.rd 6 false (.wr 7 (.rd 0 true (.rd 1 true (.rd 2 true (.rd 3 true (.rd 4 true (.wr 8 .done .no)))))) .no))))))))⟩)]⟩
theorem T17_sch : T17.sch = [(6, ⟨384, 127, [0, 1, 3, 7, 0, 0, 32, 96, 255], (.rd 0 false (.rd 1 false (.rd 2 false (.rd 3 false (.rd 4 false (.rd 5 false (.rd 6 false (.wr 7 (.rd 0 true (.rd 1 true (.rd 2 true (.rd 3 true (.rd 4 true (.wr 8 .done .no)))))) .no))))))))⟩)] := (rfl)
theorem T17_reg : T17.reg = [(0, [0, 1, 2]), (1, [0, 1, 2, 22]), (2, [6]), (3, [0, 1, 2, 8]), (4, [0, 1, 2, 32]), (5, [6]), (6, []), (7, [6])] := (rfl)
theorem T17_loops : T17.loops = [] := (rfl)
def T18 : Tab := ⟨[(0, [0, 1]), (1, [0, 1, 5, 6]), (2, [0, 1, 5, 19]), (3, [4]), (4, [0, 1, 20, 21, 22]), (5, [0, 1, 20, 21, 22, 23]), (6, [0, 1, 8, 20, 21, 22]), (7, [0, 1, 20, 21, 22, 28]), (8, [4]), (9, [0, 1, 20, 21, 22]), (10, []), (11, [4])], [(0, [0, 1, 20, 21, 22])], []⟩
theorem T18_sch : T18.sch = [] := (rfl)
theorem T18_reg : T18.reg = [(0, [0, 1]), (1, [0, 1, 5, 6]), (2, [0, 1, 5, 19]), (3, [4]), (4, [0, 1, 20, 21, 22]), (5, [0, 1, 20, 21, 22, 23]), (6, [0, 1, 8, 20, 21, 22]), (7, [0, 1, 20, 21, 22, 28]), (8, [4]), (9, [0, 1, 20, 21, 22]), (10, []), (11, [4])] := (rfl)
theorem T18_loops : T18.loops = [(0, [0, 1, 20, 21, 22])] := (rfl)
def T19 : Tab := ⟨[(0, [0, 1]), (1, [0, 1, 5]), (2, [5, 6]), (3, [5, 6, 15]), (4, [5, 6]), (5, [5, 6]), (6, [4])], [(0, [5, 6])], []⟩
theorem T19_sch : T19.sch = [] := (rfl)
theorem T19_reg : T19.reg = [(0, [0, 1]), (1, [0, 1, 5]), (2, [5, 6]), (3, [5, 6, 15]), (4, [5, 6]), (5, [5, 6]), (6, [4])] := (rfl)
theorem T19_loops : T19.loops = [(0, [5, 6])] := (rfl)
def T20 : Tab := ⟨[(0, [0]), (1, [0, 3]), (2, [3, 12]), (3, [3, 12, 14]), (4, [3, 4, 5, 12]), (5, [3, 4, 12, 18, 19, 20]), (6, [3, 4, 12, 18, 19, 20, 21]), (7, [3, 4, 6, 7, 12, 18, 19, 20]), (8, [3, 4, 6, 12, 18, 19, 20, 27]), (9, [3, 4, 12, 18, 19, 20]), (10, [3, 4, 12, 18, 19, 20]), (11, [3]), (12, [2])], [(0, [3, 12]), (2, [3, 4, 12, 18, 19, 20])], []⟩
theorem T20_sch : T20.sch = [] := (rfl)
theorem T20_reg : T20.reg = [(0, [0]), (1, [0, 3]), (2, [3, 12]), (3, [3, 12, 14]), (4, [3, 4, 5, 12]), (5, [3, 4, 12, 18, 19, 20]), (6, [3, 4, 12, 18, 19, 20, 21]), (7, [3, 4, 6, 7, 12, 18, 19, 20]), (8, [3, 4, 6, 12, 18, 19, 20, 27]), (9, [3, 4, 12, 18, 19, 20]), (10, [3, 4, 12, 18, 19, 20]), (11, [3]), (12, [2])] := (rfl)
theorem T20_loops : T20.loops = [(0, [3, 12]), (2, [3, 4, 12, 18, 19, 20])] := (rfl)
def T21 : Tab := ⟨[(0, [0]), (1, [0, 3]), (2, [0, 3, 4]), (3, [0, 3, 4, 12]), (4, [0, 3, 4]), (5, [0, 3, 4, 5]), (6, [0, 3, 4, 5, 25]), (7, [0, 3, 4, 5]), (8, [0, 3, 4, 5, 40]), (9, [0, 3, 4, 5]), (10, [2])], [(0, [0, 3, 4]), (2, [0, 3, 4, 5])], []⟩
theorem T21_sch : T21.sch = [] := (rfl)
theorem T21_reg : T21.reg = [(0, [0]), (1, [0, 3]), (2, [0, 3, 4]), (3, [0, 3, 4, 12]), (4, [0, 3, 4]), (5, [0, 3, 4, 5]), (6, [0, 3, 4, 5, 25]), (7, [0, 3, 4, 5]), (8, [0, 3, 4, 5, 40]), (9, [0, 3, 4, 5]), (10, [2])] := (rfl)
theorem T21_loops : T21.loops = [(0, [0, 3, 4]), (2, [0, 3, 4, 5])] := (rfl)
def T22 : Tab := ⟨[(0, [0, 1]), (1, [0, 1, 10]), (2, [4]), (3, [0, 1, 5]), (4, [0, 1, 5, 14]), (5, [0, 1, 5]), (6, [0, 1, 5, 25]), (7, [4]), (8, [4])], [(0, [0, 1, 5])], []⟩
theorem T22_sch : T22.sch = [] := (rfl)
theorem T22_reg : T22.reg = [(0, [0, 1]), (1, [0, 1, 10]), (2, [4]), (3, [0, 1, 5]), (4, [0, 1, 5, 14]), (5, [0, 1, 5]), (6, [0, 1, 5, 25]), (7, [4]), (8, [4])] := (rfl)
theorem T22_loops : T22.loops = [(0, [0, 1, 5])] := (rfl)
def T23 : Tab := ⟨[(0, [0, 1]), (1, [0, 5]), (2, [0, 5, 10]), (3, [4]), (4, [4])], [], []⟩
theorem T23_sch : T23.sch = [] := (rfl)
theorem T23_reg : T23.reg = [(0, [0, 1]), (1, [0, 5]), (2, [0, 5, 10]), (3, [4]), (4, [4])] := (rfl)
theorem T23_loops : T23.loops = [] := (rfl)
def T24 : Tab := ⟨[(0, [0, 3, 4]), (1, [0, 3, 4, 6]), (2, [0, 3, 4, 6, 12]), (3, [4, 5]), (4, [0, 3, 4, 6, 30]), (5, [4, 5]), (6, [4, 5])], [], []⟩
theorem T24_sch : T24.sch = [] := (rfl)
theorem T24_reg : T24.reg = [(0, [0, 3, 4]), (1, [0, 3, 4, 6]), (2, [0, 3, 4, 6, 12]), (3, [4, 5]), (4, [0, 3, 4, 6, 30]), (5, [4, 5]), (6, [4, 5])] := (rfl)
theorem T24_loops : T24.loops = [] := (rfl)
def T25 : Tab := ⟨[(0, [1]), (1, [1, 2]), (2, [1, 2, 5]), (3, [0, 1]), (4, [1, 2]), (5, [1, 2]), (6, [1, 2]), (7, [0, 1])], [], []⟩
theorem T25_sch : T25.sch = [] := (rfl)
theorem T25_reg : T25.reg = [(0, [1]), (1, [1, 2]), (2, [1, 2, 5]), (3, [0, 1]), (4, [1, 2]), (5, [1, 2]), (6, [1, 2]), (7, [0, 1])] := (rfl)
theorem T25_loops : T25.loops = [] := (rfl)
def T26 : Tab := ⟨[(0, [0, 2, 3, 5, 8]), (1, [8, 10, 11, 12]), (2, [8, 10, 12, 27]), (3, [8, 9]), (4, [8, 9])], [], []⟩
theorem T26_sch : T26.sch = [] := (rfl)
theorem T26_reg : T26.reg = [(0, [0, 2, 3, 5, 8]), (1, [8, 10, 11, 12]), (2, [8, 10, 12, 27]), (3, [8, 9]), (4, [8, 9])] := (rfl)
theorem T26_loops : T26.loops = [] := (rfl)
def T27 : Tab := ⟨[(0, [0, 1, 2]), (1, [0, 1, 2, 24]), (2, [6]), (3, [0, 1, 2, 7]), (4, [0, 1, 2, 29]), (5, [6]), (6, [0, 1, 2, 8]), (7, [0, 1, 2, 8, 9]), (8, [0, 1, 2, 8, 9, 10]), (9, [0, 1, 2, 8, 9, 10, 36]), (10, [0, 1, 2, 8, 9, 10]), (11, [0, 1, 2, 8, 9, 10, 52]), (12, [0, 1, 2, 8, 10]), (13, [0, 1, 2, 8, 9, 10]), (14, [0, 1, 2, 8, 9, 10]), (15, [0, 1, 2, 8, 73]), (16, [0, 8]), (17, []), (18, [6])], [(0, [0, 1, 2, 8, 9, 10])], []⟩
theorem T27_sch : T27.sch = [] := (rfl)
theorem T27_reg : T27.reg = [(0, [0, 1, 2]), (1, [0, 1, 2, 24]), (2, [6]), (3, [0, 1, 2, 7]), (4, [0, 1, 2, 29]), (5, [6]), (6, [0, 1, 2, 8]), (7, [0, 1, 2, 8, 9]), (8, [0, 1, 2, 8, 9, 10]), (9, [0, 1, 2, 8, 9, 10, 36]), (10, [0, 1, 2, 8, 9, 10]), (11, [0, 1, 2, 8, 9, 10, 52]), (12, [0, 1, 2, 8, 10]), (13, [0, 1, 2, 8, 9, 10]), (14, [0, 1, 2, 8, 9, 10]), (15, [0, 1, 2, 8, 73]), (16, [0, 8]), (17, []), (18, [6])] := (rfl)
theorem T27_loops : T27.loops = [(0, [0, 1, 2, 8, 9, 10])] := (rfl)
def T28 : Tab := ⟨[(0, [0, 1]), (1, [0, 5]), (2, [0, 5, 11]), (3, [4]), (4, [0, 5, 6]), (5, [0, 5, 6, 22]), (6, [0, 5, 6]), (7, [0, 5, 6, 37]), (8, [4]), (9, []), (10, [4])], [(0, [0, 5, 6])], [(9, ⟨983298, 65277, [0, 0, 0, 4, 12, 28, 0, 124, 254, 0, 512, 1536, 3584, 0, 8192, 32256, 65534, 131071, 262143, 524287], (.rd 0 false (.rd 2 false (.rd 3 false (.rd 4 false (.rd 5 false (.rd 6 false (.rd 7 false (.rd 9 false (.rd 10 false (.rd 11 false (.rd 12 false (.rd 13 false (.rd 14 false (.rd 15 false (.wr 1 (.rd 0 true (.rd 2 true (.rd 3 true (.rd 4 true (.rd 5 true (.rd 6 true (.rd 7 true (.rd 9 true (.rd 10 true (.rd 11 true (.rd 12 true (.rd 13 true (.rd 14 true (.rd 15 true (.wr 8 (.rd 0 true (.rd 9 true (.rd 10 true (.rd 11 true (.rd 12 true (.rd 13 true (.rd 14 true (.rd 15 true (.wr 16 (.rd 0 true (.wr 17 (.wr 18 (.wr 19 .done .no) .no) .no)) .no))))))))) .no))))))))))))))) .no)))))))))))))))⟩)]⟩
theorem T28_sch : T28.sch = [(9, ⟨983298, 65277, [0, 0, 0, 4, 12, 28, 0, 124, 254, 0, 512, 1536, 3584, 0, 8192, 32256, 65534, 131071, 262143, 524287], (.rd 0 false (.rd 2 false (.rd 3 false (.rd 4 false (.rd 5 false (.rd 6 false (.rd 7 false (.rd 9 false (.rd 10 false (.rd 11 false (.rd 12 false (.rd 13 false (.rd 14 false (.rd 15 false (.wr 1 (.rd 0 true (.rd 2 true (.rd 3 true (.rd 4 true (.rd 5 true (.rd 6 true (.rd 7 true (.rd 9 true (.rd 10 true (.rd 11 true (.rd 12 true (.rd 13 true (.rd 14 true (.rd 15 true (.wr 8 (.rd 0 true (.rd 9 true (.rd 10 true (.rd 11 true (.rd 12 true (.rd 13 true (.rd 14 true (.rd 15 true (.wr 16 (.rd 0 true (.wr 17 (.wr 18 (.wr 19 .done .no) .no) .no)) .no))))))))) .no))))))))))))))) .no)))))))))))))))⟩)] := (rfl)
theorem T28_reg : T28.reg = [(0, [0, 1]), (1, [0, 5]), (2, [0, 5, 11]), (3, [4]), (4, [0, 5, 6]), (5, [0, 5, 6, 22]), (6, [0, 5, 6]), (7, [0, 5, 6, 37]), (8, [4]), (9, []), (10, [4])] := (rfl)
theorem T28_loops : T28.loops = [(0, [0, 5, 6])] := (rfl)
def T29 : Tab := ⟨[(0, [0, 4, 5]), (1, [0, 4, 5, 8]), (2, [0, 4, 5, 8, 18]), (3, [6]), (4, [0, 4, 5, 9]), (5, [0, 4, 5, 23]), (6, [6]), (7, [0, 4, 5, 10]), (8, []), (9, [6])], [], []⟩
theorem T29_sch : T29.sch = [] := (rfl)
theorem T29_reg : T29.reg = [(0, [0, 4, 5]), (1, [0, 4, 5, 8]), (2, [0, 4, 5, 8, 18]), (3, [6]), (4, [0, 4, 5, 9]), (5, [0, 4, 5, 23]), (6, [6]), (7, [0, 4, 5, 10]), (8, []), (9, [6])] := (rfl)
theorem T29_loops : T29.loops = [] := (rfl)
def T30 : Tab := ⟨[(0, [0, 2, 3, 5, 8]), (1, [0, 2, 3, 5, 8, 11]), (2, [0, 2, 3, 5, 8, 27]), (3, [8, 9, 10]), (4, [0, 2, 3, 5, 8, 34]), (5, [8, 9, 10]), (6, [0, 2, 3, 8, 12]), (7, [0, 2, 8, 12, 13]), (8, [0, 2, 8, 12, 13, 41]), (9, [8, 9, 10]), (10, [0, 2, 8, 12, 13]), (11, [0, 2, 8, 12, 13, 14]), (12, [0, 2, 8, 12, 13, 55]), (13, [8, 9, 10]), (14, [0, 2, 8, 12, 13, 60]), (15, [8, 9, 10]), (16, [0, 2, 8, 12, 13, 15]), (17, [0, 2, 8, 12, 13, 69]), (18, [8, 9, 10]), (19, [0, 2, 8, 12, 13]), (20, [0, 2, 8, 12, 13, 16]), (21, [0, 2, 8, 12, 13, 16, 17]), (22, [0, 2, 8, 12, 13, 16, 17, 95]), (23, [8, 9, 10]), (24, [0, 2, 8, 12, 13])], [(0, [0, 2, 8, 12, 13])], [(20, ⟨832, 191, [0, 1, 0, 0, 0, 16, 60, 127, 0, 511], (.rd 0 false (.rd 1 false (.rd 2 false (.rd 3 false (.rd 4 false (.rd 5 false (.wr 6 (.rd 0 true (.rd 1 true (.rd 7 false (.wr 8 (.rd 0 true (.rd 1 true (.rd 7 true (.wr 9 .done .no)))) .no)))) (.wr 8 (.rd 0 true (.rd 1 true (.rd 2 true (.rd 3 true (.rd 4 true (.rd 5 true (.wr 6 (.rd 0 true (.rd 1 true (.rd 7 false (.wr 9 .done .no)))) .no))))))) .no))))))))⟩)]⟩
theorem T30_sch : T30.sch = [(20, ⟨832, 191, [0, 1, 0, 0, 0, 16, 60, 127, 0, 511], (.rd 0 false (.rd 1 false (.rd 2 false (.rd 3 false (.rd 4 false (.rd 5 false (.wr 6 (.rd 0 true (.rd 1 true (.rd 7 false (.wr 8 (.rd 0 true (.rd 1 true (.rd 7 true (.wr 9 .done .no)))) .no)))) (.wr 8 (.rd 0 true (.rd 1 true (.rd 2 true (.rd 3 true (.rd 4 true (.rd 5 true (.wr 6 (.rd 0 true (.rd 1 true (.rd 7 false (.wr 9 .done .no)))) .no))))))) .no))))))))⟩)] := (rfl)
theorem T30_reg : T30.reg = [(0, [0, 2, 3, 5, 8]), (1, [0, 2, 3, 5, 8, 11]), (2, [0, 2, 3, 5, 8, 27]), (3, [8, 9, 10]), (4, [0, 2, 3, 5, 8, 34]), (5, [8, 9, 10]), (6, [0, 2, 3, 8, 12]), (7, [0, 2, 8, 12, 13]), (8, [0, 2, 8, 12, 13, 41]), (9, [8, 9, 10]), (10, [0, 2, 8, 12, 13]), (11, [0, 2, 8, 12, 13, 14]), (12, [0, 2, 8, 12, 13, 55]), (13, [8, 9, 10]), (14, [0, 2, 8, 12, 13, 60]), (15, [8, 9, 10]), (16, [0, 2, 8, 12, 13, 15]), (17, [0, 2, 8, 12, 13, 69]), (18, [8, 9, 10]), (19, [0, 2, 8, 12, 13]), (20, [0, 2, 8, 12, 13, 16]), (21, [0, 2, 8, 12, 13, 16, 17]), (22, [0, 2, 8, 12, 13, 16, 17, 95]), (23, [8, 9, 10]), (24, [0, 2, 8, 12, 13])] := (rfl)
theorem T30_loops : T30.loops = [(0, [0, 2, 8, 12, 13])] := (rfl)
def T31 : Tab := ⟨[(0, [0, 2, 3, 5, 8]), (1, [8, 10, 11, 12]), (2, [8, 10, 11, 12, 23]), (3, [8, 9]), (4, [8, 10, 27]), (5, [8, 9]), (6, [8, 9])], [], []⟩
theorem T31_sch : T31.sch = [] := (rfl)
theorem T31_reg : T31.reg = [(0, [0, 2, 3, 5, 8]), (1, [8, 10, 11, 12]), (2, [8, 10, 11, 12, 23]), (3, [8, 9]), (4, [8, 10, 27]), (5, [8, 9]), (6, [8, 9])] := (rfl)
theorem T31_loops : T31.loops = [] := (rfl)
def T32 : Tab := ⟨[(0, [0, 2, 4, 6, 7]), (1, [0, 6, 7, 9, 11]), (2, [0, 6, 7, 9, 11, 23]), (3, [6, 7, 8]), (4, [6, 7, 9, 12]), (5, [6, 7, 9, 12, 34]), (6, [6, 7, 8]), (7, [6, 7, 8])], [], [(7, ⟨28, 3, [0, 0, 1, 7, 15], (.rd 0 false (.rd 1 false (.wr 2 (.rd 1 true (.wr 3 (.wr 4 .done .no) .no)) .no)))⟩)]⟩
theorem T32_sch : T32.sch = [(7, ⟨28, 3, [0, 0, 1, 7, 15], (.rd 0 false (.rd 1 false (.wr 2 (.rd 1 true (.wr 3 (.wr 4 .done .no) .no)) .no)))⟩)] := (rfl)
theorem T32_reg : T32.reg = [(0, [0, 2, 4, 6, 7]), (1, [0, 6, 7, 9, 11]), (2, [0, 6, 7, 9, 11, 23]), (3, [6, 7, 8]), (4, [6, 7, 9, 12]), (5, [6, 7, 9, 12, 34]), (6, [6, 7, 8]), (7, [6, 7, 8])] := (rfl)
theorem T32_loops : T32.loops = [] := (rfl)
def T33 : Tab := ⟨[(0, [0, 2, 4, 6, 7]), (1, [0, 6, 7, 9, 11]), (2, [0, 6, 7, 9, 11, 23]), (3, [6, 7, 8]), (4, [6, 7, 9, 12]), (5, [6, 7, 9, 12, 35]), (6, [6, 7, 8]), (7, [6, 7, 8])], [], [(7, ⟨28, 3, [0, 0, 1, 7, 15], (.rd 0 false (.rd 1 false (.wr 2 (.rd 1 true (.wr 3 (.wr 4 .done .no) .no)) .no)))⟩)]⟩
theorem T33_sch : T33.sch = [(7, ⟨28, 3, [0, 0, 1, 7, 15], (.rd 0 false (.rd 1 false (.wr 2 (.rd 1 true (.wr 3 (.wr 4 .done .no) .no)) .no)))⟩)] := (rfl)
theorem T33_reg : T33.reg = [(0, [0, 2, 4, 6, 7]), (1, [0, 6, 7, 9, 11]), (2, [0, 6, 7, 9, 11, 23]), (3, [6, 7, 8]), (4, [6, 7, 9, 12]), (5, [6, 7, 9, 12, 35]), (6, [6, 7, 8]), (7, [6, 7, 8])] := (rfl)
theorem T33_loops : T33.loops = [] := (rfl)
def T34 : Tab := ⟨[(0, [1]), (1, [1, 3, 4]), (2, [1, 3, 4]), (3, [1, 3, 4, 9]), (4, [1, 3, 4, 9, 10]), (5, [2]), (6, [1, 3, 4, 9, 15]), (7, [1, 3, 4, 9, 15]), (8, [1, 3, 4]), (9, [1, 3, 4, 9, 19]), (10, [1, 3, 4, 36]), (11, [2]), (12, [1, 3, 4]), (13, [1, 3, 4, 9, 40]), (14, [1, 3, 4, 9, 40]), (15, [1, 3, 4, 50]), (16, [2]), (17, [1, 3, 4]), (18, [1, 3, 4, 9, 52]), (19, [1, 3, 4]), (20, [1, 3, 4, 54]), (21, [1, 3, 4]), (22, [1, 3, 4]), (23, [2])], [], [(1, ⟨10, 5, [0, 0, 2, 7], (.rd 0 false (.wr 1 (.rd 0 true (.rd 2 false (.wr 3 .done .no))) .no))⟩), (22, ⟨240, 15, [0, 1, 0, 4, 12, 31, 63, 127], (.rd 0 false (.rd 1 false (.rd 2 false (.rd 3 false (.wr 4 (.rd 0 true (.rd 1 true (.wr 5 (.wr 6 (.wr 7 .done .no) .no) .no))) .no)))))⟩)]⟩
theorem T34_sch : T34.sch = [(1, ⟨10, 5, [0, 0, 2, 7], (.rd 0 false (.wr 1 (.rd 0 true (.rd 2 false (.wr 3 .done .no))) .no))⟩), (22, ⟨240, 15, [0, 1, 0, 4, 12, 31, 63, 127], (.rd 0 false (.rd 1 false (.rd 2 false (.rd 3 false (.wr 4 (.rd 0 true (.rd 1 true (.wr 5 (.wr 6 (.wr 7 .done .no) .no) .no))) .no)))))⟩)] := (rfl)
theorem T34_reg : T34.reg = [(0, [1]), (1, [1, 3, 4]), (2, [1, 3, 4]), (3, [1, 3, 4, 9]), (4, [1, 3, 4, 9, 10]), (5, [2]), (6, [1, 3, 4, 9, 15]), (7, [1, 3, 4, 9, 15]), (8, [1, 3, 4]), (9, [1, 3, 4, 9, 19]), (10, [1, 3, 4, 36]), (11, [2]), (12, [1, 3, 4]), (13, [1, 3, 4, 9, 40]), (14, [1, 3, 4, 9, 40]), (15, [1, 3, 4, 50]), (16, [2]), (17, [1, 3, 4]), (18, [1, 3, 4, 9, 52]), (19, [1, 3, 4]), (20, [1, 3, 4, 54]), (21, [1, 3, 4]), (22, [1, 3, 4]), (23, [2])] := (rfl)
theorem T34_loops : T34.loops = [] := (rfl)
def T35 : Tab := ⟨[(0, [0, 1]), (1, [0, 1, 11]), (2, [4, 5]), (3, [0, 1]), (4, [4, 5])], [], []⟩
theorem T35_sch : T35.sch = [] := (rfl)
theorem T35_reg : T35.reg = [(0, [0, 1]), (1, [0, 1, 11]), (2, [4, 5]), (3, [0, 1]), (4, [4, 5])] := (rfl)
theorem T35_loops : T35.loops = [] := (rfl)
def T36 : Tab := ⟨[(0, [0, 3]), (1, [3, 6, 7]), (2, [3, 6, 18]), (3, [4, 5]), (4, [3, 6, 21]), (5, [4, 5]), (6, [4, 5])], [], []⟩
theorem T36_sch : T36.sch = [] := (rfl)
theorem T36_reg : T36.reg = [(0, [0, 3]), (1, [3, 6, 7]), (2, [3, 6, 18]), (3, [4, 5]), (4, [3, 6, 21]), (5, [4, 5]), (6, [4, 5])] := (rfl)
theorem T36_loops : T36.loops = [] := (rfl)
def T37 : Tab := ⟨[(0, [0]), (1, [3]), (2, [3, 4]), (3, [2]), (4, [3, 6]), (5, [2]), (6, [8]), (7, [2]), (8, [2])], [], []⟩
theorem T37_sch : T37.sch = [] := (rfl)
theorem T37_reg : T37.reg = [(0, [0]), (1, [3]), (2, [3, 4]), (3, [2]), (4, [3, 6]), (5, [2]), (6, [8]), (7, [2]), (8, [2])] := (rfl)
theorem T37_loops : T37.loops = [] := (rfl)
def T38 : Tab := ⟨[(0, [0, 1]), (1, [4])], [], []⟩
theorem T38_sch : T38.sch = [] := (rfl)
theorem T38_reg : T38.reg = [(0, [0, 1]), (1, [4])] := (rfl)
theorem T38_loops : T38.loops = [] := (rfl)
def T39 : Tab := ⟨[(0, [1]), (1, [2])], [], []⟩
theorem T39_sch : T39.sch = [] := (rfl)
theorem T39_reg : T39.reg = [(0, [1]), (1, [2])] := (rfl)
theorem T39_loops : T39.loops = [] := (rfl)
def T40 : Tab := ⟨[(0, [0, 1, 4]), (1, [])], [], []⟩
theorem T40_sch : T40.sch = [] := (rfl)
theorem T40_reg : T40.reg = [(0, [0, 1, 4]), (1, [])] := (rfl)
theorem T40_loops : T40.loops = [] := (rfl)
def T41 : Tab := ⟨[(0, [2, 3]), (1, [4])], [], [(1, ⟨7696, 495, [0, 1, 0, 4, 15, 0, 32, 0, 128, 511, 1023, 2047, 4095], (.rd 0 false (.rd 1 false (.rd 2 false (.rd 3 false (.rd 5 false (.rd 6 false (.rd 7 false (.rd 8 false (.wr 4 (.rd 5 true (.rd 6 true (.rd 7 true (.rd 8 true (.wr 9 (.wr 10 (.wr 11 (.wr 12 .done .no) .no) .no) .no))))) .no)))))))))⟩)]⟩
theorem T41_sch : T41.sch = [(1, ⟨7696, 495, [0, 1, 0, 4, 15, 0, 32, 0, 128, 511, 1023, 2047, 4095], (.rd 0 false (.rd 1 false (.rd 2 false (.rd 3 false (.rd 5 false (.rd 6 false (.rd 7 false (.rd 8 false (.wr 4 (.rd 5 true (.rd 6 true (.rd 7 true (.rd 8 true (.wr 9 (.wr 10 (.wr 11 (.wr 12 .done .no) .no) .no) .no))))) .no)))))))))⟩)] := (rfl)
theorem T41_reg : T41.reg = [(0, [2, 3]), (1, [4])] := (rfl)
theorem T41_loops : T41.loops = [] := (rfl)
def T42 : Tab := ⟨[(0, [0]), (1, [0, 3]), (2, [3, 6, 7, 8]), (3, [3, 6, 7, 8, 9]), (4, [3, 5, 6, 7, 8]), (5, [3, 5, 6, 7, 8, 14]), (6, [2]), (7, [3, 6, 7, 8]), (8, [2])], [(0, [3, 6, 7, 8])], []⟩
theorem T42_sch : T42.sch = [] := (rfl)
theorem T42_reg : T42.reg = [(0, [0]), (1, [0, 3]), (2, [3, 6, 7, 8]), (3, [3, 6, 7, 8, 9]), (4, [3, 5, 6, 7, 8]), (5, [3, 5, 6, 7, 8, 14]), (6, [2]), (7, [3, 6, 7, 8]), (8, [2])] := (rfl)
theorem T42_loops : T42.loops = [(0, [3, 6, 7, 8])] := (rfl)
def T43 : Tab := ⟨[(0, [0, 1]), (1, [0, 1, 5]), (2, [0, 1, 5, 6]), (3, [0, 1, 6, 11]), (4, [12]), (5, [4]), (6, [4]), (7, [0, 1, 13]), (8, [4]), (9, [0, 1, 16]), (10, [4]), (11, [19]), (12, [4]), (13, [4])], [], []⟩
theorem T43_sch : T43.sch = [] := (rfl)
theorem T43_reg : T43.reg = [(0, [0, 1]), (1, [0, 1, 5]), (2, [0, 1, 5, 6]), (3, [0, 1, 6, 11]), (4, [12]), (5, [4]), (6, [4]), (7, [0, 1, 13]), (8, [4]), (9, [0, 1, 16]), (10, [4]), (11, [19]), (12, [4]), (13, [4])] := (rfl)
theorem T43_loops : T43.loops = [] := (rfl)
def T44 : Tab := ⟨[(0, [0, 1]), (1, [0, 1, 5]), (2, [0, 1, 5, 12]), (3, [0, 1, 5]), (4, [0, 1, 5, 24]), (5, [4]), (6, [4])], [(0, [0, 1, 5])], []⟩
theorem T44_sch : T44.sch = [] := (rfl)
theorem T44_reg : T44.reg = [(0, [0, 1]), (1, [0, 1, 5]), (2, [0, 1, 5, 12]), (3, [0, 1, 5]), (4, [0, 1, 5, 24]), (5, [4]), (6, [4])] := (rfl)
theorem T44_loops : T44.loops = [(0, [0, 1, 5])] := (rfl)
def T45 : Tab := ⟨[(0, [0, 1, 2]), (1, [0, 1, 2, 7]), (2, [0, 1, 7, 8]), (3, [0, 1, 7, 8, 12]), (4, [0, 1, 7, 8]), (5, [0, 1, 7, 8]), (6, [6])], [(0, [0, 1, 7, 8])], []⟩
theorem T45_sch : T45.sch = [] := (rfl)
theorem T45_reg : T45.reg = [(0, [0, 1, 2]), (1, [0, 1, 2, 7]), (2, [0, 1, 7, 8]), (3, [0, 1, 7, 8, 12]), (4, [0, 1, 7, 8]), (5, [0, 1, 7, 8]), (6, [6])] := (rfl)
theorem T45_loops : T45.loops = [(0, [0, 1, 7, 8])] := (rfl)
def T46 : Tab := ⟨[(0, [0, 1]), (1, [4])], [], []⟩
theorem T46_sch : T46.sch = [] := (rfl)
theorem T46_reg : T46.reg = [(0, [0, 1]), (1, [4])] := (rfl)
theorem T46_loops : T46.loops = [] := (rfl)
def T47 : Tab := ⟨[(0, [0]), (1, [3]), (2, [3, 4]), (3, [2]), (4, [3, 6]), (5, [2]), (6, [8]), (7, [2]), (8, [2])], [], []⟩
theorem T47_sch : T47.sch = [] := (rfl)
theorem T47_reg : T47.reg = [(0, [0]), (1, [3]), (2, [3, 4]), (3, [2]), (4, [3, 6]), (5, [2]), (6, [8]), (7, [2]), (8, [2])] := (rfl)
theorem T47_loops : T47.loops = [] := (rfl)
def T48 : Tab := ⟨[(0, [0, 1, 2, 3, 4, 10]), (1, [0, 1, 2, 3, 4, 10, 11]), (2, [0, 1, 2, 3, 4, 10, 11, 12]), (3, [0, 1, 2, 3, 4, 10, 11, 12, 25]), (4, []), (5, [0, 1, 2, 3, 4, 10, 11, 12, 32]), (6, []), (7, [0, 1, 2, 3, 4, 10, 11, 12, 39]), (8, [0, 1, 2, 3, 4, 10, 11, 12]), (9, [0, 1, 2, 3, 4, 10, 11, 12]), (10, [0, 1, 2, 3, 4, 10, 11, 12, 13, 14]), (11, [0, 1, 2, 3, 4, 10, 11, 12, 13, 14, 56]), (12, [0, 1, 2, 3, 4, 10, 11, 12, 13]), (13, [0, 1, 2, 3, 4, 10, 11, 12, 13]), (14, [0, 1, 2, 3, 4, 10, 11, 12, 13, 14]), (15, [0, 1, 2, 3, 4, 10, 11, 12, 13, 75]), (16, [0, 1, 2, 3, 4, 10, 11, 12, 13, 80]), (17, [0, 1, 2, 3, 4, 10, 11, 12, 13, 97]), (18, [0, 2, 3, 4, 10, 11, 15]), (19, [0, 1, 2, 3, 4, 10, 11]), (20, [0, 1, 2, 3, 4, 12, 16, 17]), (21, [0, 1, 2, 3, 4, 11, 12, 16]), (22, [0, 1, 2, 3, 4, 11, 12, 16, 18, 19]), (23, [0, 1, 2, 3, 4, 11, 16, 18, 19, 20]), (24, [0, 1, 2, 3, 4, 11, 16, 18, 19, 20, 125]), (25, [0, 1, 2, 3, 4, 10, 11, 16]), (26, [0, 2, 3, 4, 10, 11, 16]), (27, [0, 1, 2, 3, 4, 10, 11]), (28, [0, 1, 2, 3, 4, 10, 11, 16]), (29, [0, 1, 3, 4, 10, 11, 16]), (30, [0, 1, 2, 3, 4, 10, 11])], [(0, [0, 1, 2, 3, 4, 10, 11])], []⟩
theorem T48_sch : T48.sch = [] := (rfl)
theorem T48_reg : T48.reg = [(0, [0, 1, 2, 3, 4, 10]), (1, [0, 1, 2, 3, 4, 10, 11]), (2, [0, 1, 2, 3, 4, 10, 11, 12]), (3, [0, 1, 2, 3, 4, 10, 11, 12, 25]), (4, []), (5, [0, 1, 2, 3, 4, 10, 11, 12, 32]), (6, []), (7, [0, 1, 2, 3, 4, 10, 11, 12, 39]), (8, [0, 1, 2, 3, 4, 10, 11, 12]), (9, [0, 1, 2, 3, 4, 10, 11, 12]), (10, [0, 1, 2, 3, 4, 10, 11, 12, 13, 14]), (11, [0, 1, 2, 3, 4, 10, 11, 12, 13, 14, 56]), (12, [0, 1, 2, 3, 4, 10, 11, 12, 13]), (13, [0, 1, 2, 3, 4, 10, 11, 12, 13]), (14, [0, 1, 2, 3, 4, 10, 11, 12, 13, 14]), (15, [0, 1, 2, 3, 4, 10, 11, 12, 13, 75]), (16, [0, 1, 2, 3, 4, 10, 11, 12, 13, 80]), (17, [0, 1, 2, 3, 4, 10, 11, 12, 13, 97]), (18, [0, 2, 3, 4, 10, 11, 15]), (19, [0, 1, 2, 3, 4, 10, 11]), (20, [0, 1, 2, 3, 4, 12, 16, 17]), (21, [0, 1, 2, 3, 4, 11, 12, 16]), (22, [0, 1, 2, 3, 4, 11, 12, 16, 18, 19]), (23, [0, 1, 2, 3, 4, 11, 16, 18, 19, 20]), (24, [0, 1, 2, 3, 4, 11, 16, 18, 19, 20, 125]), (25, [0, 1, 2, 3, 4, 10, 11, 16]), (26, [0, 2, 3, 4, 10, 11, 16]), (27, [0, 1, 2, 3, 4, 10, 11]), (28, [0, 1, 2, 3, 4, 10, 11, 16]), (29, [0, 1, 3, 4, 10, 11, 16]), (30, [0, 1, 2, 3, 4, 10, 11])] := (rfl)
theorem T48_loops : T48.loops = [(0, [0, 1, 2, 3, 4, 10, 11])] := (rfl)
def T49 : Tab := ⟨[(0, [0]), (1, [2]), (2, [2])], [], []⟩
theorem T49_sch : T49.sch = [] := (rfl)
theorem T49_reg : T49.reg = [(0, [0]), (1, [2]), (2, [2])] := (rfl)
theorem T49_loops : T49.loops = [] := (rfl)
def T50 : Tab := ⟨[(0, [0]), (1, [2])], [], []⟩
theorem T50_sch : T50.sch = [] := (rfl)
theorem T50_reg : T50.reg = [(0, [0]), (1, [2])] := (rfl)
theorem T50_loops : T50.loops = [] := (rfl)
def T51 : Tab := ⟨[(0, [0, 1, 2, 3, 8]), (1, [0, 1, 2, 3, 8, 14]), (2, [0, 1, 2, 3, 8]), (3, [0, 1, 2, 3, 8, 9]), (4, [0, 1, 2, 3, 8, 9, 34]), (5, [0, 1, 2, 3, 8, 9]), (6, [0, 1, 2, 3, 8, 9])], [(0, [0, 1, 2, 3, 8]), (2, [0, 1, 2, 3, 8, 9])], [(4, ⟨114688, 16383, [0, 0, 3, 7, 15, 15, 15, 111, 239, 15, 15, 1039, 3599, 7695, 16383, 32767, 65535], (.rd 0 false (.rd 1 false (.rd 2 false (.rd 3 false (.rd 4 false (.rd 5 false (.rd 6 false (.rd 7 false (.rd 8 false (.rd 9 false (.rd 10 false (.rd 11 false (.rd 12 false (.rd 13 false (.wr 14 (.wr 15 (.wr 16 .done .no) .no) .no)))))))))))))))⟩), (6, ⟨229376, 32767, [0, 0, 0, 0, 8, 0, 0, 64, 224, 480, 0, 0, 3072, 7168, 16355, 32739, 65535, 131071], (.rd 0 false (.rd 1 false (.rd 2 false (.rd 3 false (.rd 4 false (.rd 5 false (.rd 6 false (.rd 7 false (.rd 8 false (.rd 9 false (.rd 10 false (.rd 11 false (.rd 12 false (.rd 13 false (.rd 14 false (.wr 15 (.rd 2 true (.rd 3 true (.rd 4 true (.wr 16 (.wr 17 .done .no) .no)))) .no))))))))))))))))⟩)]⟩
theorem T51_sch : T51.sch = [(4, ⟨114688, 16383, [0, 0, 3, 7, 15, 15, 15, 111, 239, 15, 15, 1039, 3599, 7695, 16383, 32767, 65535], (.rd 0 false (.rd 1 false (.rd 2 false (.rd 3 false (.rd 4 false (.rd 5 false (.rd 6 false (.rd 7 false (.rd 8 false (.rd 9 false (.rd 10 false (.rd 11 false (.rd 12 false (.rd 13 false (.wr 14 (.wr 15 (.wr 16 .done .no) .no) .no)))))))))))))))⟩), (6, ⟨229376, 32767, [0, 0, 0, 0, 8, 0, 0, 64, 224, 480, 0, 0, 3072, 7168, 16355, 32739, 65535, 131071], (.rd 0 false (.rd 1 false (.rd 2 false (.rd 3 false (.rd 4 false (.rd 5 false (.rd 6 false (.rd 7 false (.rd 8 false (.rd 9 false (.rd 10 false (.rd 11 false (.rd 12 false (.rd 13 false (.rd 14 false (.wr 15 (.rd 2 true (.rd 3 true (.rd 4 true (.wr 16 (.wr 17 .done .no) .no)))) .no))))))))))))))))⟩)] := (rfl)
theorem T51_reg : T51.reg = [(0, [0, 1, 2, 3, 8]), (1, [0, 1, 2, 3, 8, 14]), (2, [0, 1, 2, 3, 8]), (3, [0, 1, 2, 3, 8, 9]), (4, [0, 1, 2, 3, 8, 9, 34]), (5, [0, 1, 2, 3, 8, 9]), (6, [0, 1, 2, 3, 8, 9])] := (rfl)
theorem T51_loops : T51.loops = [(0, [0, 1, 2, 3, 8]), (2, [0, 1, 2, 3, 8, 9])] := (rfl)
def T52 : Tab := ⟨[(0, [0, 1, 2, 3, 8]), (1, [0, 1, 2, 3, 8, 9]), (2, [0, 3, 8, 9, 10]), (3, [0, 3, 8, 9, 10, 11]), (4, [0, 3, 8, 9, 10, 11, 21]), (5, [0, 3, 8, 9, 10, 11]), (6, [0, 3, 8, 9, 10, 11]), (7, [0, 3, 8, 9, 12]), (8, [0, 3, 8, 9, 12, 33]), (9, [0, 3, 8, 9, 12]), (10, [0, 3, 8, 9, 12]), (11, [0, 3, 8, 9, 12])], [(0, [0, 3, 8, 9, 10, 11]), (2, [0, 3, 8, 9, 12])], [(10, ⟨917504, 131071, [0, 0, 0, 0, 0, 24, 0, 0, 0, 384, 960, 1984, 0, 0, 12288, 28672, 65475, 131011, 262143, 524287], (.rd 0 false (.rd 1 false (.rd 2 false (.rd 3 false (.rd 4 false (.rd 5 false (.rd 6 false (.rd 7 false (.rd 8 false (.rd 9 false (.rd 10 false (.rd 11 false (.rd 12 false (.rd 13 false (.rd 14 false (.rd 15 false (.rd 16 false (.wr 17 (.rd 2 true (.rd 3 true (.rd 4 true (.rd 5 true (.wr 18 (.wr 19 .done .no) .no))))) .no))))))))))))))))))⟩)]⟩
theorem T52_sch : T52.sch = [(10, ⟨917504, 131071, [0, 0, 0, 0, 0, 24, 0, 0, 0, 384, 960, 1984, 0, 0, 12288, 28672, 65475, 131011, 262143, 524287], (.rd 0 false (.rd 1 false (.rd 2 false (.rd 3 false (.rd 4 false (.rd 5 false (.rd 6 false (.rd 7 false (.rd 8 false (.rd 9 false (.rd 10 false (.rd 11 false (.rd 12 false (.rd 13 false (.rd 14 false (.rd 15 false (.rd 16 false (.wr 17 (.rd 2 true (.rd 3 true (.rd 4 true (.rd 5 true (.wr 18 (.wr 19 .done .no) .no))))) .no))))))))))))))))))⟩)] := (rfl)
theorem T52_reg : T52.reg = [(0, [0, 1, 2, 3, 8]), (1, [0, 1, 2, 3, 8, 9]), (2, [0, 3, 8, 9, 10]), (3, [0, 3, 8, 9, 10, 11]), (4, [0, 3, 8, 9, 10, 11, 21]), (5, [0, 3, 8, 9, 10, 11]), (6, [0, 3, 8, 9, 10, 11]), (7, [0, 3, 8, 9, 12]), (8, [0, 3, 8, 9, 12, 33]), (9, [0, 3, 8, 9, 12]), (10, [0, 3, 8, 9, 12]), (11, [0, 3, 8, 9, 12])] := (rfl)
theorem T52_loops : T52.loops = [(0, [0, 3, 8, 9, 10, 11]), (2, [0, 3, 8, 9, 12])] := (rfl)
def T53 : Tab := ⟨[(0, [0, 1, 8]), (1, [0, 1, 8, 17]), (2, [0, 1, 8, 9]), (3, [0, 1, 8, 9, 10]), (4, [0, 1, 8, 9, 10, 11]), (5, [0, 1, 8, 9, 10, 11, 35]), (6, [0, 1, 8, 9, 10, 11]), (7, [0, 1, 8, 9, 10, 11, 12]), (8, [0, 1, 8, 9, 10, 11, 12, 45]), (9, [0, 1, 8, 9, 10, 11, 12]), (10, [0, 1, 8, 9, 10, 11])], [(0, [0, 1, 8, 9, 10, 11])], [(10, ⟨917504, 131071, [0, 0, 0, 0, 0, 24, 0, 0, 0, 384, 960, 1984, 0, 0, 12288, 28672, 65475, 131011, 262143, 524287], (.rd 0 false (.rd 1 false (.rd 2 false (.rd 3 false (.rd 4 false (.rd 5 false (.rd 6 false (.rd 7 false (.rd 8 false (.rd 9 false (.rd 10 false (.rd 11 false (.rd 12 false (.rd 13 false (.rd 14 false (.rd 15 false (.rd 16 false (.wr 17 (.rd 2 true (.rd 3 true (.rd 4 true (.rd 5 true (.wr 18 (.wr 19 .done .no) .no))))) .no))))))))))))))))))⟩)]⟩
theorem T53_sch : T53.sch = [(10, ⟨917504, 131071, [0, 0, 0, 0, 0, 24, 0, 0, 0, 384, 960, 1984, 0, 0, 12288, 28672, 65475, 131011, 262143, 524287], (.rd 0 false (.rd 1 false (.rd 2 false (.rd 3 false (.rd 4 false (.rd 5 false (.rd 6 false (.rd 7 false (.rd 8 false (.rd 9 false (.rd 10 false (.rd 11 false (.rd 12 false (.rd 13 false (.rd 14 false (.rd 15 false (.rd 16 false (.wr 17 (.rd 2 true (.rd 3 true (.rd 4 true (.rd 5 true (.wr 18 (.wr 19 .done .no) .no))))) .no))))))))))))))))))⟩)] := (rfl)
theorem T53_reg : T53.reg = [(0, [0, 1, 8]), (1, [0, 1, 8, 17]), (2, [0, 1, 8, 9]), (3, [0, 1, 8, 9, 10]), (4, [0, 1, 8, 9, 10, 11]), (5, [0, 1, 8, 9, 10, 11, 35]), (6, [0, 1, 8, 9, 10, 11]), (7, [0, 1, 8, 9, 10, 11, 12]), (8, [0, 1, 8, 9, 10, 11, 12, 45]), (9, [0, 1, 8, 9, 10, 11, 12]), (10, [0, 1, 8, 9, 10, 11])] := (rfl)
theorem T53_loops : T53.loops = [(0, [0, 1, 8, 9, 10, 11])] := (rfl)
def T54 : Tab := ⟨[(0, [0, 1, 2, 3]), (1, [0, 1, 3, 10]), (2, [0, 1, 3, 10, 11]), (3, [0, 1, 3, 10, 11, 12]), (4, [0, 1, 3, 10, 11, 12, 13]), (5, [0, 3, 10, 11, 12, 13, 14]), (6, [0, 3, 10, 11, 12, 13, 14, 34]), (7, [0, 3, 11, 12, 13, 14, 36]), (8, [0, 3, 11, 12, 13, 14]), (9, [0, 3, 11, 12, 13, 14]), (10, [0, 3, 11, 12, 13, 14]), (11, [11, 13]), (12, [13, 55]), (13, [8, 9]), (14, [13, 55, 57]), (15, [8, 9]), (16, [13, 60]), (17, [8, 9])], [], []⟩
theorem T54_sch : T54.sch = [] := (rfl)
theorem T54_reg : T54.reg = [(0, [0, 1, 2, 3]), (1, [0, 1, 3, 10]), (2, [0, 1, 3, 10, 11]), (3, [0, 1, 3, 10, 11, 12]), (4, [0, 1, 3, 10, 11, 12, 13]), (5, [0, 3, 10, 11, 12, 13, 14]), (6, [0, 3, 10, 11, 12, 13, 14, 34]), (7, [0, 3, 11, 12, 13, 14, 36]), (8, [0, 3, 11, 12, 13, 14]), (9, [0, 3, 11, 12, 13, 14]), (10, [0, 3, 11, 12, 13, 14]), (11, [11, 13]), (12, [13, 55]), (13, [8, 9]), (14, [13, 55, 57]), (15, [8, 9]), (16, [13, 60]), (17, [8, 9])] := (rfl)
theorem T54_loops : T54.loops = [] := (rfl)
def T55 : Tab := ⟨[(0, [0, 2, 8]), (1, [0, 8, 9]), (2, [0, 8, 9, 15]), (3, [0, 8, 9]), (4, [0, 8, 9]), (5, [0, 8, 9])], [(0, [0, 8, 9])], [(3, ⟨57344, 8191, [0, 0, 0, 0, 0, 0, 48, 112, 0, 0, 768, 1792, 4083, 8179, 16383, 32767], (.rd 0 false (.rd 1 false (.rd 2 false (.rd 3 false (.rd 4 false (.rd 5 false (.rd 6 false (.rd 7 false (.rd 8 false (.rd 9 false (.rd 10 false (.rd 11 false (.rd 12 false (.wr 13 (.rd 2 true (.rd 3 true (.wr 14 (.wr 15 .done .no) .no))) .no))))))))))))))⟩)]⟩
theorem T55_sch : T55.sch = [(3, ⟨57344, 8191, [0, 0, 0, 0, 0, 0, 48, 112, 0, 0, 768, 1792, 4083, 8179, 16383, 32767], (.rd 0 false (.rd 1 false (.rd 2 false (.rd 3 false (.rd 4 false (.rd 5 false (.rd 6 false (.rd 7 false (.rd 8 false (.rd 9 false (.rd 10 false (.rd 11 false (.rd 12 false (.wr 13 (.rd 2 true (.rd 3 true (.wr 14 (.wr 15 .done .no) .no))) .no))))))))))))))⟩)] := (rfl)
theorem T55_reg : T55.reg = [(0, [0, 2, 8]), (1, [0, 8, 9]), (2, [0, 8, 9, 15]), (3, [0, 8, 9]), (4, [0, 8, 9]), (5, [0, 8, 9])] := (rfl)
theorem T55_loops : T55.loops = [(0, [0, 8, 9])] := (rfl)
def T56 : Tab := ⟨[(0, [0, 1, 2, 3]), (1, [0, 1, 2, 3, 9]), (2, [0, 1, 2, 3, 9, 10]), (3, [0, 1, 2, 3, 9, 10, 16]), (4, [0, 1, 2, 3, 9, 10]), (5, [0, 1, 2, 3, 9, 10, 36]), (6, [0, 1, 2, 3, 9, 10]), (7, [0, 1, 2, 3, 9, 10, 41]), (8, [8]), (9, [0, 1, 2, 3, 9, 10, 45]), (10, [8]), (11, [0, 1, 2, 3, 9, 10]), (12, [0, 1, 2, 3, 9, 10, 65]), (13, [0, 1, 2, 3, 9, 10, 11]), (14, [0, 1, 2, 3, 9, 10, 11, 69]), (15, [0, 1, 2, 3, 9, 10, 11]), (16, [0, 1, 2, 3, 9, 10, 11, 84]), (17, [0, 1, 2, 3, 9, 10, 11]), (18, [0, 1, 2, 3, 9, 10, 104]), (19, [0, 1, 2, 3, 9, 10, 12]), (20, [0, 1, 2, 3, 9, 10, 12, 109]), (21, [0, 1, 2, 3, 9, 10, 12]), (22, [0, 1, 2, 3, 9, 10, 12, 124]), (23, [0, 1, 2, 3, 9, 10, 12]), (24, [8])], [(0, [0, 1, 2, 3, 9, 10]), (2, [0, 1, 2, 3, 9, 10]), (4, [0, 1, 2, 3, 9, 10, 11]), (6, [0, 1, 2, 3, 9, 10, 12])], [(5, ⟨245760, 16383, [0, 0, 3, 7, 15, 15, 15, 111, 239, 15, 15, 1039, 3599, 7695, 16383, 32767, 65535, 131071], (.rd 0 false (.rd 1 false (.rd 2 false (.rd 3 false (.rd 4 false (.rd 5 false (.rd 6 false (.rd 7 false (.rd 8 false (.rd 9 false (.rd 10 false (.rd 11 false (.rd 12 false (.rd 13 false (.wr 14 (.wr 15 (.wr 16 (.wr 17 .done .no) .no) .no) .no)))))))))))))))⟩), (11, ⟨229376, 32767, [0, 0, 0, 0, 8, 0, 0, 64, 224, 480, 0, 0, 3072, 7168, 16355, 32739, 65535, 131071], (.rd 0 false (.rd 1 false (.rd 2 false (.rd 3 false (.rd 4 false (.rd 5 false (.rd 6 false (.rd 7 false (.rd 8 false (.rd 9 false (.rd 10 false (.rd 11 false (.rd 12 false (.rd 13 false (.rd 14 false (.wr 15 (.rd 2 true (.rd 3 true (.rd 4 true (.wr 16 (.wr 17 .done .no) .no)))) .no))))))))))))))))⟩), (16, ⟨7168, 1023, [0, 0, 0, 6, 14, 0, 0, 64, 224, 480, 1023, 2047, 4095], (.rd 0 false (.rd 1 false (.rd 2 false (.rd 3 false (.rd 4 false (.rd 5 false (.rd 6 false (.rd 7 false (.rd 8 false (.rd 9 false (.wr 10 (.wr 11 (.wr 12 .done .no) .no) .no)))))))))))⟩), (17, ⟨229376, 32767, [0, 0, 0, 0, 8, 0, 0, 64, 224, 480, 0, 0, 3072, 7168, 16355, 32739, 65535, 131071], (.rd 0 false (.rd 1 false (.rd 2 false (.rd 3 false (.rd 4 false (.rd 5 false (.rd 6 false (.rd 7 false (.rd 8 false (.rd 9 false (.rd 10 false (.rd 11 false (.rd 12 false (.rd 13 false (.rd 14 false (.wr 15 (.rd 2 true (.rd 3 true (.rd 4 true (.wr 16 (.wr 17 .done .no) .no)))) .no))))))))))))))))⟩), (22, ⟨7168, 1023, [0, 0, 0, 6, 14, 0, 0, 64, 224, 480, 1023, 2047, 4095], (.rd 0 false (.rd 1 false (.rd 2 false (.rd 3 false (.rd 4 false (.rd 5 false (.rd 6 false (.rd 7 false (.rd 8 false (.rd 9 false (.wr 10 (.wr 11 (.wr 12 .done .no) .no) .no)))))))))))⟩), (23, ⟨229376, 32767, [0, 0, 0, 0, 8, 0, 0, 64, 224, 480, 0, 0, 3072, 7168, 16355, 32739, 65535, 131071], (.rd 0 false (.rd 1 false (.rd 2 false (.rd 3 false (.rd 4 false (.rd 5 false (.rd 6 false (.rd 7 false (.rd 8 false (.rd 9 false (.rd 10 false (.rd 11 false (.rd 12 false (.rd 13 false (.rd 14 false (.wr 15 (.rd 2 true (.rd 3 true (.rd 4 true (.wr 16 (.wr 17 .done .no) .no)))) .no))))))))))))))))⟩)]⟩
theorem T56_sch : T56.sch = [(5, ⟨245760, 16383, [0, 0, 3, 7, 15, 15, 15, 111, 239, 15, 15, 1039, 3599, 7695, 16383, 32767, 65535, 131071], (.rd 0 false (.rd 1 false (.rd 2 false (.rd 3 false (.rd 4 false (.rd 5 false (.rd 6 false (.rd 7 false (.rd 8 false (.rd 9 false (.rd 10 false (.rd 11 false (.rd 12 false (.rd 13 false (.wr 14 (.wr 15 (.wr 16 (.wr 17 .done .no) .no) .no) .no)))))))))))))))⟩), (11, ⟨229376, 32767, [0, 0, 0, 0, 8, 0, 0, 64, 224, 480, 0, 0, 3072, 7168, 16355, 32739, 65535, 131071], (.rd 0 false (.rd 1 false (.rd 2 false (.rd 3 false (.rd 4 false (.rd 5 false (.rd 6 false (.rd 7 false (.rd 8 false (.rd 9 false (.rd 10 false (.rd 11 false (.rd 12 false (.rd 13 false (.rd 14 false (.wr 15 (.rd 2 true (.rd 3 true (.rd 4 true (.wr 16 (.wr 17 .done .no) .no)))) .no))))))))))))))))⟩), (16, ⟨7168, 1023, [0, 0, 0, 6, 14, 0, 0, 64, 224, 480, 1023, 2047, 4095], (.rd 0 false (.rd 1 false (.rd 2 false (.rd 3 false (.rd 4 false (.rd 5 false (.rd 6 false (.rd 7 false (.rd 8 false (.rd 9 false (.wr 10 (.wr 11 (.wr 12 .done .no) .no) .no)))))))))))⟩), (17, ⟨229376, 32767, [0, 0, 0, 0, 8, 0, 0, 64, 224, 480, 0, 0, 3072, 7168, 16355, 32739, 65535, 131071], (.rd 0 false (.rd 1 false (.rd 2 false (.rd 3 false (.rd 4 false (.rd 5 false (.rd 6 false (.rd 7 false (.rd 8 false (.rd 9 false (.rd 10 false (.rd 11 false (.rd 12 false (.rd 13 false (.rd 14 false (.wr 15 (.rd 2 true (.rd 3 true (.rd 4 true (.wr 16 (.wr 17 .done .no) .no)))) .no))))))))))))))))⟩), (22, ⟨7168, 1023, [0, 0, 0, 6, 14, 0, 0, 64, 224, 480, 1023, 2047, 4095], (.rd 0 false (.rd 1 false (.rd 2 false (.rd 3 false (.rd 4 false (.rd 5 false (.rd 6 false (.rd 7 false (.rd 8 false (.rd 9 false (.wr 10 (.wr 11 (.wr 12 .done .no) .no) .no)))))))))))⟩), (23, ⟨229376, 32767, [0, 0, 0, 0, 8, 0, 0, 64, 224, 480, 0, 0, 3072, 7168, 16355, 32739, 65535, 131071], (.rd 0 false (.rd 1 false (.rd 2 false (.rd 3 false (.rd 4 false (.rd 5 false (.rd 6 false (.rd 7 false (.rd 8 false (.rd 9 false (.rd 10 false (.rd 11 false (.rd 12 false (.rd 13 false (.rd 14 false (.wr 15 (.rd 2 true (.rd 3 true (.rd 4 true (.wr 16 (.wr 17 .done .no) .no)))) .no))))))))))))))))⟩)] := (rfl)
theorem T56_reg : T56.reg = [(0, [0, 1, 2, 3]), (1, [0, 1, 2, 3, 9]), (2, [0, 1, 2, 3, 9, 10]), (3, [0, 1, 2, 3, 9, 10, 16]), (4, [0, 1, 2, 3, 9, 10]), (5, [0, 1, 2, 3, 9, 10, 36]), (6, [0, 1, 2, 3, 9, 10]), (7, [0, 1, 2, 3, 9, 10, 41]), (8, [8]), (9, [0, 1, 2, 3, 9, 10, 45]), (10, [8]), (11, [0, 1, 2, 3, 9, 10]), (12, [0, 1, 2, 3, 9, 10, 65]), (13, [0, 1, 2, 3, 9, 10, 11]), (14, [0, 1, 2, 3, 9, 10, 11, 69]), (15, [0, 1, 2, 3, 9, 10, 11]), (16, [0, 1, 2, 3, 9, 10, 11, 84]), (17, [0, 1, 2, 3, 9, 10, 11]), (18, [0, 1, 2, 3, 9, 10, 104]), (19, [0, 1, 2, 3, 9, 10, 12]), (20, [0, 1, 2, 3, 9, 10, 12, 109]), (21, [0, 1, 2, 3, 9, 10, 12]), (22, [0, 1, 2, 3, 9, 10, 12, 124]), (23, [0, 1, 2, 3, 9, 10, 12]), (24, [8])] := (rfl)
theorem T56_loops : T56.loops = [(0, [0, 1, 2, 3, 9, 10]), (2, [0, 1, 2, 3, 9, 10]), (4, [0, 1, 2, 3, 9, 10, 11]), (6, [0, 1, 2, 3, 9, 10, 12])] := (rfl)
def T57 : Tab := ⟨[(0, [0, 1, 2, 3, 4]), (1, [0, 1, 2, 4]), (2, [0, 1, 4, 11, 12]), (3, [0, 1, 4, 11, 12, 47]), (4, [0, 1, 4, 11, 12]), (5, [0, 1, 4, 11, 12, 65]), (6, [0, 1, 4, 11, 12]), (7, [0, 1, 4, 11, 12, 70]), (8, [0, 1, 4, 11, 12]), (9, [0, 1, 4, 11, 12]), (10, [0, 1, 4, 11, 12]), (11, [10])], [(0, [0, 1, 4, 11, 12]), (2, [0, 1, 4, 11, 12]), (4, [0, 1, 4, 11, 12])], [(1, ⟨57344, 8191, [0, 0, 0, 0, 0, 0, 48, 112, 0, 0, 768, 1792, 4083, 8179, 16383, 32767], (.rd 0 false (.rd 1 false (.rd 2 false (.rd 3 false (.rd 4 false (.rd 5 false (.rd 6 false (.rd 7 false (.rd 8 false (.rd 9 false (.rd 10 false (.rd 11 false (.rd 12 false (.wr 13 (.rd 2 true (.rd 3 true (.wr 14 (.wr 15 .done .no) .no))) .no))))))))))))))⟩), (3, ⟨122880, 8191, [0, 0, 3, 7, 15, 15, 15, 111, 239, 15, 15, 1551, 3599, 8191, 16383, 32767, 65535], (.rd 0 false (.rd 1 false (.rd 2 false (.rd 3 false (.rd 4 false (.rd 5 false (.rd 6 false (.rd 7 false (.rd 8 false (.rd 9 false (.rd 10 false (.rd 11 false (.rd 12 false (.wr 13 (.wr 14 (.wr 15 (.wr 16 .done .no) .no) .no) .no))))))))))))))⟩), (5, ⟨57344, 8191, [0, 0, 3, 7, 15, 15, 15, 111, 239, 15, 15, 1551, 3599, 8191, 16383, 32767], (.rd 0 false (.rd 1 false (.rd 2 false (.rd 3 false (.rd 4 false (.rd 5 false (.rd 6 false (.rd 7 false (.rd 8 false (.rd 9 false (.rd 10 false (.rd 11 false (.rd 12 false (.wr 13 (.wr 14 (.wr 15 .done .no) .no) .no))))))))))))))⟩), (8, ⟨57344, 8191, [0, 0, 0, 0, 0, 0, 48, 112, 0, 0, 768, 1792, 4083, 8179, 16383, 32767], (.rd 0 false (.rd 1 false (.rd 2 false (.rd 3 false (.rd 4 false (.rd 5 false (.rd 6 false (.rd 7 false (.rd 8 false (.rd 9 false (.rd 10 false (.rd 11 false (.rd 12 false (.wr 13 (.rd 2 true (.rd 3 true (.wr 14 (.wr 15 .done .no) .no))) .no))))))))))))))⟩)]⟩
theorem T57_sch : T57.sch = [(1, ⟨57344, 8191, [0, 0, 0, 0, 0, 0, 48, 112, 0, 0, 768, 1792, 4083, 8179, 16383, 32767], (.rd 0 false (.rd 1 false (.rd 2 false (.rd 3 false (.rd 4 false (.rd 5 false (.rd 6 false (.rd 7 false (.rd 8 false (.rd 9 false (.rd 10 false (.rd 11 false (.rd 12 false (.wr 13 (.rd 2 true (.rd 3 true (.wr 14 (.wr 15 .done .no) .no))) .no))))))))))))))⟩), (3, ⟨122880, 8191, [0, 0, 3, 7, 15, 15, 15, 111, 239, 15, 15, 1551, 3599, 8191, 16383, 32767, 65535], (.rd 0 false (.rd 1 false (.rd 2 false (.rd 3 false (.rd 4 false (.rd 5 false (.rd 6 false (.rd 7 false (.rd 8 false (.rd 9 false (.rd 10 false (.rd 11 false (.rd 12 false (.wr 13 (.wr 14 (.wr 15 (.wr 16 .done .no) .no) .no) .no))))))))))))))⟩), (5, ⟨57344, 8191, [0, 0, 3, 7, 15, 15, 15, 111, 239, 15, 15, 1551, 3599, 8191, 16383, 32767], (.rd 0 false (.rd 1 false (.rd 2 false (.rd 3 false (.rd 4 false (.rd 5 false (.rd 6 false (.rd 7 false (.rd 8 false (.rd 9 false (.rd 10 false (.rd 11 false (.rd 12 false (.wr 13 (.wr 14 (.wr 15 .done .no) .no) .no))))))))))))))⟩), (8, ⟨57344, 8191, [0, 0, 0, 0, 0, 0, 48, 112, 0, 0, 768, 1792, 4083, 8179, 16383, 32767], (.rd 0 false (.rd 1 false (.rd 2 false (.rd 3 false (.rd 4 false (.rd 5 false (.rd 6 false (.rd 7 false (.rd 8 false (.rd 9 false (.rd 10 false (.rd 11 false (.rd 12 false (.wr 13 (.rd 2 true (.rd 3 true (.wr 14 (.wr 15 .done .no) .no))) .no))))))))))))))⟩)] := (rfl)
theorem T57_reg : T57.reg = [(0, [0, 1, 2, 3, 4]), (1, [0, 1, 2, 4]), (2, [0, 1, 4, 11, 12]), (3, [0, 1, 4, 11, 12, 47]), (4, [0, 1, 4, 11, 12]), (5, [0, 1, 4, 11, 12, 65]), (6, [0, 1, 4, 11, 12]), (7, [0, 1, 4, 11, 12, 70]), (8, [0, 1, 4, 11, 12]), (9, [0, 1, 4, 11, 12]), (10, [0, 1, 4, 11, 12]), (11, [10])] := (rfl)
theorem T57_loops : T57.loops = [(0, [0, 1, 4, 11, 12]), (2, [0, 1, 4, 11, 12]), (4, [0, 1, 4, 11, 12])] := (rfl)
def T58 : Tab := ⟨[(0, [0, 1, 2, 3, 4]), (1, [0, 1, 2, 4]), (2, [0, 1, 4, 12, 13]), (3, [0, 1, 4, 12, 13, 47]), (4, [0, 1, 4, 12, 13]), (5, [0, 1, 4, 12, 13, 66]), (6, [0, 1, 4, 12, 13]), (7, [0, 1, 4, 12, 13, 71]), (8, [13]), (9, [10, 11]), (10, [0, 1, 4, 12, 13]), (11, [0, 1, 4, 12, 13]), (12, [0, 1, 4, 12, 13]), (13, [0, 1, 4, 12, 13, 120]), (14, [0, 1, 4, 12, 13]), (15, [0, 1, 4, 12, 13, 139]), (16, [0, 1, 4, 12, 13]), (17, [0, 1, 4, 12, 13, 144]), (18, [0, 1, 4, 12, 13]), (19, [0, 1, 4, 12, 13]), (20, [0, 1, 4, 12, 13]), (21, [13]), (22, [10, 11])], [(0, [0, 1, 4, 12, 13]), (2, [0, 1, 4, 12, 13]), (4, [0, 1, 4, 12, 13]), (6, [0, 1, 4, 12, 13]), (8, [0, 1, 4, 12, 13])], [(1, ⟨57344, 8191, [0, 0, 0, 0, 0, 0, 48, 112, 0, 0, 768, 1792, 4083, 8179, 16383, 32767], (.rd 0 false (.rd 1 false (.rd 2 false (.rd 3 false (.rd 4 false (.rd 5 false (.rd 6 false (.rd 7 false (.rd 8 false (.rd 9 false (.rd 10 false (.rd 11 false (.rd 12 false (.wr 13 (.rd 2 true (.rd 3 true (.wr 14 (.wr 15 .done .no) .no))) .no))))))))))))))⟩), (3, ⟨57344, 8191, [0, 0, 3, 7, 15, 15, 15, 111, 239, 15, 15, 1551, 3599, 8191, 16383, 32767], (.rd 0 false (.rd 1 false (.rd 2 false (.rd 3 false (.rd 4 false (.rd 5 false (.rd 6 false (.rd 7 false (.rd 8 false (.rd 9 false (.rd 10 false (.rd 11 false (.rd 12 false (.wr 13 (.wr 14 (.wr 15 .done .no) .no) .no))))))))))))))⟩), (5, ⟨122880, 8191, [0, 0, 3, 7, 15, 15, 15, 111, 239, 15, 15, 1551, 3599, 8191, 16383, 32767, 65535], (.rd 0 false (.rd 1 false (.rd 2 false (.rd 3 false (.rd 4 false (.rd 5 false (.rd 6 false (.rd 7 false (.rd 8 false (.rd 9 false (.rd 10 false (.rd 11 false (.rd 12 false (.wr 13 (.wr 14 (.wr 15 (.wr 16 .done .no) .no) .no) .no))))))))))))))⟩), (8, ⟨57344, 8191, [0, 0, 0, 0, 0, 0, 48, 112, 0, 0, 768, 1792, 4083, 8179, 16383, 32767], (.rd 0 false (.rd 1 false (.rd 2 false (.rd 3 false (.rd 4 false (.rd 5 false (.rd 6 false (.rd 7 false (.rd 8 false (.rd 9 false (.rd 10 false (.rd 11 false (.rd 12 false (.wr 13 (.rd 2 true (.rd 3 true (.wr 14 (.wr 15 .done .no) .no))) .no))))))))))))))⟩), (10, ⟨57344, 8191, [0, 0, 0, 0, 0, 0, 48, 112, 0, 0, 768, 1792, 4083, 8179, 16383, 32767], (.rd 0 false (.rd 1 false (.rd 2 false (.rd 3 false (.rd 4 false (.rd 5 false (.rd 6 false (.rd 7 false (.rd 8 false (.rd 9 false (.rd 10 false (.rd 11 false (.rd 12 false (.wr 13 (.rd 2 true (.rd 3 true (.wr 14 (.wr 15 .done .no) .no))) .no))))))))))))))⟩), (13, ⟨57344, 8191, [0, 0, 3, 7, 15, 15, 15, 111, 239, 15, 15, 1551, 3599, 8191, 16383, 32767], (.rd 0 false (.rd 1 false (.rd 2 false (.rd 3 false (.rd 4 false (.rd 5 false (.rd 6 false (.rd 7 false (.rd 8 false (.rd 9 false (.rd 10 false (.rd 11 false (.rd 12 false (.wr 13 (.wr 14 (.wr 15 .done .no) .no) .no))))))))))))))⟩), (15, ⟨122880, 8191, [0, 0, 3, 7, 15, 15, 15, 111, 239, 15, 15, 1551, 3599, 8191, 16383, 32767, 65535], (.rd 0 false (.rd 1 false (.rd 2 false (.rd 3 false (.rd 4 false (.rd 5 false (.rd 6 false (.rd 7 false (.rd 8 false (.rd 9 false (.rd 10 false (.rd 11 false (.rd 12 false (.wr 13 (.wr 14 (.wr 15 (.wr 16 .done .no) .no) .no) .no))))))))))))))⟩), (18, ⟨57344, 8191, [0, 0, 0, 0, 0, 0, 48, 112, 0, 0, 768, 1792, 4083, 8179, 16383, 32767], (.rd 0 false (.rd 1 false (.rd 2 false (.rd 3 false (.rd 4 false (.rd 5 false (.rd 6 false (.rd 7 false (.rd 8 false (.rd 9 false (.rd 10 false (.rd 11 false (.rd 12 false (.wr 13 (.rd 2 true (.rd 3 true (.wr 14 (.wr 15 .done .no) .no))) .no))))))))))))))⟩), (21, ⟨57344, 8191, [0, 0, 0, 0, 0, 0, 48, 112, 0, 0, 768, 1792, 4083, 8179, 16383, 32767], (.rd 0 false (.rd 1 false (.rd 2 false (.rd 3 false (.rd 4 false (.rd 5 false (.rd 6 false (.rd 7 false (.rd 8 false (.rd 9 false (.rd 10 false (.rd 11 false (.rd 12 false (.wr 13 (.rd 2 true (.rd 3 true (.wr 14 (.wr 15 .done .no) .no))) .no))))))))))))))⟩)]⟩
theorem T58_sch : T58.sch = [(1, ⟨57344, 8191, [0, 0, 0, 0, 0, 0, 48, 112, 0, 0, 768, 1792, 4083, 8179, 16383, 32767], (.rd 0 false (.rd 1 false (.rd 2 false (.rd 3 false (.rd 4 false (.rd 5 false (.rd 6 false (.rd 7 false (.rd 8 false (.rd 9 false (.rd 10 false (.rd 11 false (.rd 12 false (.wr 13 (.rd 2 true (.rd 3 true (.wr 14 (.wr 15 .done .no) .no))) .no))))))))))))))⟩), (3, ⟨57344, 8191, [0, 0, 3, 7, 15, 15, 15, 111, 239, 15, 15, 1551, 3599, 8191, 16383, 32767], (.rd 0 false (.rd 1 false (.rd 2 false (.rd 3 false (.rd 4 false (.rd 5 false (.rd 6 false (.rd 7 false (.rd 8 false (.rd 9 false (.rd 10 false (.rd 11 false (.rd 12 false (.wr 13 (.wr 14 (.wr 15 .done .no) .no) .no))))))))))))))⟩), (5, ⟨122880, 8191, [0, 0, 3, 7, 15, 15, 15, 111, 239, 15, 15, 1551, 3599, 8191, 16383, 32767, 65535], (.rd 0 false (.rd 1 false (.rd 2 false (.rd 3 false (.rd 4 false (.rd 5 false (.rd 6 false (.rd 7 false (.rd 8 false (.rd 9 false (.rd 10 false (.rd 11 false (.rd 12 false (.wr 13 (.wr 14 (.wr 15 (.wr 16 .done .no) .no) .no) .no))))))))))))))⟩), (8, ⟨57344, 8191, [0, 0, 0, 0, 0, 0, 48, 112, 0, 0, 768, 1792, 4083, 8179, 16383, 32767], (.rd 0 false (.rd 1 false (.rd 2 false (.rd 3 false (.rd 4 false (.rd 5 false (.rd 6 false (.rd 7 false (.rd 8 false (.rd 9 false (.rd 10 false (.rd 11 false (.rd 12 false (.wr 13 (.rd 2 true (.rd 3 true (.wr 14 (.wr 15 .done .no) .no))) .no))))))))))))))⟩), (10, ⟨57344, 8191, [0, 0, 0, 0, 0, 0, 48, 112, 0, 0, 768, 1792, 4083, 8179, 16383, 32767], (.rd 0 false (.rd 1 false (.rd 2 false (.rd 3 false (.rd 4 false (.rd 5 false (.rd 6 false (.rd 7 false (.rd 8 false (.rd 9 false (.rd 10 false (.rd 11 false (.rd 12 false (.wr 13 (.rd 2 true (.rd 3 true (.wr 14 (.wr 15 .done .no) .no))) .no))))))))))))))⟩), (13, ⟨57344, 8191, [0, 0, 3, 7, 15, 15, 15, 111, 239, 15, 15, 1551, 3599, 8191, 16383, 32767], (.rd 0 false (.rd 1 false (.rd 2 false (.rd 3 false (.rd 4 false (.rd 5 false (.rd 6 false (.rd 7 false (.rd 8 false (.rd 9 false (.rd 10 false (.rd 11 false (.rd 12 false (.wr 13 (.wr 14 (.wr 15 .done .no) .no) .no))))))))))))))⟩), (15, ⟨122880, 8191, [0, 0, 3, 7, 15, 15, 15, 111, 239, 15, 15, 1551, 3599, 8191, 16383, 32767, 65535], (.rd 0 false (.rd 1 false (.rd 2 false (.rd 3 false (.rd 4 false (.rd 5 false (.rd 6 false (.rd 7 false (.rd 8 false (.rd 9 false (.rd 10 false (.rd 11 false (.rd 12 false (.wr 13 (.wr 14 (.wr 15 (.wr 16 .done .no) .no) .no) .no))))))))))))))⟩), (18, ⟨57344, 8191, [0, 0, 0, 0, 0, 0, 48, 112, 0, 0, 768, 1792, 4083, 8179, 16383, 32767], (.rd 0 false (.rd 1 false (.rd 2 false (.rd 3 false (.rd 4 false (.rd 5 false (.rd 6 false (.rd 7 false (.rd 8 false (.rd 9 false (.rd 10 false (.rd 11 false (.rd 12 false (.wr 13 (.rd 2 true (.rd 3 true (.wr 14 (.wr 15 .done .no) .no))) .no))))))))))))))⟩), (21, ⟨57344, 8191, [0, 0, 0, 0, 0, 0, 48, 112, 0, 0, 768, 1792, 4083, 8179, 16383, 32767], (.rd 0 false (.rd 1 false (.rd 2 false (.rd 3 false (.rd 4 false (.rd 5 false (.rd 6 false (.rd 7 false (.rd 8 false (.rd 9 false (.rd 10 false (.rd 11 false (.rd 12 false (.wr 13 (.rd 2 true (.rd 3 true (.wr 14 (.wr 15 .done .no) .no))) .no))))))))))))))⟩)] := (rfl)
theorem T58_reg : T58.reg = [(0, [0, 1, 2, 3, 4]), (1, [0, 1, 2, 4]), (2, [0, 1, 4, 12, 13]), (3, [0, 1, 4, 12, 13, 47]), (4, [0, 1, 4, 12, 13]), (5, [0, 1, 4, 12, 13, 66]), (6, [0, 1, 4, 12, 13]), (7, [0, 1, 4, 12, 13, 71]), (8, [13]), (9, [10, 11]), (10, [0, 1, 4, 12, 13]), (11, [0, 1, 4, 12, 13]), (12, [0, 1, 4, 12, 13]), (13, [0, 1, 4, 12, 13, 120]), (14, [0, 1, 4, 12, 13]), (15, [0, 1, 4, 12, 13, 139]), (16, [0, 1, 4, 12, 13]), (17, [0, 1, 4, 12, 13, 144]), (18, [0, 1, 4, 12, 13]), (19, [0, 1, 4, 12, 13]), (20, [0, 1, 4, 12, 13]), (21, [13]), (22, [10, 11])] := (rfl)
theorem T58_loops : T58.loops = [(0, [0, 1, 4, 12, 13]), (2, [0, 1, 4, 12, 13]), (4, [0, 1, 4, 12, 13]), (6, [0, 1, 4, 12, 13]), (8, [0, 1, 4, 12, 13])] := (rfl)
def T59 : Tab := ⟨[(0, [0, 2]), (1, [0, 2, 4]), (2, [0]), (3, [0, 2]), (4, [0, 2, 8]), (5, [0, 2]), (6, [0, 2]), (7, [2])], [], []⟩
theorem T59_sch : T59.sch = [] := (rfl)
theorem T59_reg : T59.reg = [(0, [0, 2]), (1, [0, 2, 4]), (2, [0]), (3, [0, 2]), (4, [0, 2, 8]), (5, [0, 2]), (6, [0, 2]), (7, [2])] := (rfl)
theorem T59_loops : T59.loops = [] := (rfl)
def T60 : Tab := ⟨[(0, [0, 2]), (1, [0, 2, 4]), (2, [0]), (3, [0, 2]), (4, [0, 2, 8]), (5, [0, 2]), (6, [0, 2]), (7, [0, 2, 14]), (8, [0, 2]), (9, [0, 2]), (10, [2])], [], []⟩
theorem T60_sch : T60.sch = [] := (rfl)
theorem T60_reg : T60.reg = [(0, [0, 2]), (1, [0, 2, 4]), (2, [0]), (3, [0, 2]), (4, [0, 2, 8]), (5, [0, 2]), (6, [0, 2]), (7, [0, 2, 14]), (8, [0, 2]), (9, [0, 2]), (10, [2])] := (rfl)
theorem T60_loops : T60.loops = [] := (rfl)
def T61 : Tab := ⟨[(0, [0, 2, 3, 4, 10]), (1, [0, 2, 3, 4, 10, 11]), (2, [0, 2, 3, 4, 10, 11, 18]), (3, [0, 2, 3, 4, 10, 11, 40]), (4, [0, 2, 3, 4, 10, 11]), (5, [0, 2, 3, 4, 10, 11, 58]), (6, [0, 2, 3, 4, 11]), (7, [0, 2, 3, 4, 10])], [(0, [0, 2, 3, 4, 10])], [(3, ⟨3670016, 524287, [0, 1, 0, 7, 15, 31, 31, 31, 31, 415, 991, 2015, 31, 31, 31, 24607, 57375, 127007, 258079, 524287, 1048575, 2097151], (.rd 0 false (.rd 1 false (.rd 2 false (.rd 3 false (.rd 4 false (.rd 5 false (.rd 6 false (.rd 7 false (.rd 8 false (.rd 9 false (.rd 10 false (.rd 11 false (.rd 12 false (.rd 13 false (.rd 14 false (.rd 15 false (.rd 16 false (.rd 17 false (.rd 18 false (.wr 19 (.wr 20 (.wr 21 .done .no) .no) .no))))))))))))))))))))⟩), (5, ⟨57344, 8191, [0, 0, 0, 0, 12, 30, 62, 0, 0, 0, 768, 1920, 3968, 8191, 16383, 32767], (.rd 0 false (.rd 1 false (.rd 2 false (.rd 3 false (.rd 4 false (.rd 5 false (.rd 6 false (.rd 7 false (.rd 8 false (.rd 9 false (.rd 10 false (.rd 11 false (.rd 12 false (.wr 13 (.wr 14 (.wr 15 .done .no) .no) .no))))))))))))))⟩), (6, ⟨14680064, 2097151, [0, 0, 0, 6, 0, 0, 0, 96, 0, 0, 0, 1536, 3840, 7936, 0, 0, 0, 98304, 245760, 507904, 1048335, 2096911, 4194303, 8388607], (.rd 0 false (.rd 1 false (.rd 2 false (.rd 3 false (.rd 4 false (.rd 5 false (.rd 6 false (.rd 7 false (.rd 8 false (.rd 9 false (.rd 10 false (.rd 11 false (.rd 12 false (.rd 13 false (.rd 14 false (.rd 15 false (.rd 16 false (.rd 17 false (.rd 18 false (.rd 19 false (.rd 20 false (.wr 21 (.rd 4 true (.rd 5 true (.rd 6 true (.rd 7 true (.wr 22 (.wr 23 .done .no) .no))))) .no))))))))))))))))))))))⟩)]⟩
theorem T61_sch : T61.sch = [(3, ⟨3670016, 524287, [0, 1, 0, 7, 15, 31, 31, 31, 31, 415, 991, 2015, 31, 31, 31, 24607, 57375, 127007, 258079, 524287, 1048575, 2097151], (.rd 0 false (.rd 1 false (.rd 2 false (.rd 3 false (.rd 4 false (.rd 5 false (.rd 6 false (.rd 7 false (.rd 8 false (.rd 9 false (.rd 10 false (.rd 11 false (.rd 12 false (.rd 13 false (.rd 14 false (.rd 15 false (.rd 16 false (.rd 17 false (.rd 18 false (.wr 19 (.wr 20 (.wr 21 .done .no) .no) .no))))))))))))))))))))⟩), (5, ⟨57344, 8191, [0, 0, 0, 0, 12, 30, 62, 0, 0, 0, 768, 1920, 3968, 8191, 16383, 32767], (.rd 0 false (.rd 1 false (.rd 2 false (.rd 3 false (.rd 4 false (.rd 5 false (.rd 6 false (.rd 7 false (.rd 8 false (.rd 9 false (.rd 10 false (.rd 11 false (.rd 12 false (.wr 13 (.wr 14 (.wr 15 .done .no) .no) .no))))))))))))))⟩), (6, ⟨14680064, 2097151, [0, 0, 0, 6, 0, 0, 0, 96, 0, 0, 0, 1536, 3840, 7936, 0, 0, 0, 98304, 245760, 507904, 1048335, 2096911, 4194303, 8388607], (.rd 0 false (.rd 1 false (.rd 2 false (.rd 3 false (.rd 4 false (.rd 5 false (.rd 6 false (.rd 7 false (.rd 8 false (.rd 9 false (.rd 10 false (.rd 11 false (.rd 12 false (.rd 13 false (.rd 14 false (.rd 15 false (.rd 16 false (.rd 17 false (.rd 18 false (.rd 19 false (.rd 20 false (.wr 21 (.rd 4 true (.rd 5 true (.rd 6 true (.rd 7 true (.wr 22 (.wr 23 .done .no) .no))))) .no))))))))))))))))))))))⟩)] := (rfl)
theorem T61_reg : T61.reg = [(0, [0, 2, 3, 4, 10]), (1, [0, 2, 3, 4, 10, 11]), (2, [0, 2, 3, 4, 10, 11, 18]), (3, [0, 2, 3, 4, 10, 11, 40]), (4, [0, 2, 3, 4, 10, 11]), (5, [0, 2, 3, 4, 10, 11, 58]), (6, [0, 2, 3, 4, 11]), (7, [0, 2, 3, 4, 10])] := (rfl)
theorem T61_loops : T61.loops = [(0, [0, 2, 3, 4, 10])] := (rfl)
def T62 : Tab := ⟨[(0, [0]), (1, [2])], [], []⟩
theorem T62_sch : T62.sch = [] := (rfl)
theorem T62_reg : T62.reg = [(0, [0]), (1, [2])] := (rfl)
theorem T62_loops : T62.loops = [] := (rfl)
def T63 : Tab := ⟨[(0, [0]), (1, [0]), (2, [0]), (3, [0]), (4, [2])], [], []⟩
theorem T63_sch : T63.sch = [] := (rfl)
theorem T63_reg : T63.reg = [(0, [0]), (1, [0]), (2, [0]), (3, [0]), (4, [2])] := (rfl)
theorem T63_loops : T63.loops = [] := (rfl)
def T64 : Tab := ⟨[(0, [0, 1, 2, 3]), (1, [8])], [], []⟩
theorem T64_sch : T64.sch = [] := (rfl)
theorem T64_reg : T64.reg = [(0, [0, 1, 2, 3]), (1, [8])] := (rfl)
theorem T64_loops : T64.loops = [] := (rfl)
def T65 : Tab := ⟨[(0, [0, 1, 2, 3, 4, 5]), (1, [0, 1, 2, 3, 4, 5]), (2, [0, 1, 2, 4, 5]), (3, [2]), (4, [12])], [], []⟩
theorem T65_sch : T65.sch = [] := (rfl)
theorem T65_reg : T65.reg = [(0, [0, 1, 2, 3, 4, 5]), (1, [0, 1, 2, 3, 4, 5]), (2, [0, 1, 2, 4, 5]), (3, [2]), (4, [12])] := (rfl)
theorem T65_loops : T65.loops = [] := (rfl)
def T66 : Tab := ⟨[(0, [0, 1, 2, 3, 4]), (1, [1, 2, 3, 22]), (2, [1, 2]), (3, [10, 11]), (4, [10, 11])], [], []⟩
theorem T66_sch : T66.sch = [] := (rfl)
theorem T66_reg : T66.reg = [(0, [0, 1, 2, 3, 4]), (1, [1, 2, 3, 22]), (2, [1, 2]), (3, [10, 11]), (4, [10, 11])] := (rfl)
theorem T66_loops : T66.loops = [] := (rfl)
attribute [go_sem] T2_reg T2_loops T2_sch T3_reg T3_loops T3_sch T4_reg T4_loops T4_sch T5_reg T5_loops T5_sch T6_reg T6_loops T6_sch T7_reg T7_loops T7_sch T8_reg T8_loops T8_sch T9_reg T9_loops T9_sch T10_reg T10_loops T10_sch T11_reg T11_loops T11_sch T12_reg T12_loops T12_sch T13_reg T13_loops T13_sch T14_reg T14_loops T14_sch T15_reg T15_loops T15_sch T16_reg T16_loops T16_sch T17_reg T17_loops T17_sch T18_reg T18_loops T18_sch T19_reg T19_loops T19_sch T20_reg T20_loops T20_sch T21_reg T21_loops T21_sch T22_reg T22_loops T22_sch T23_reg T23_loops T23_sch T24_reg T24_loops T24_sch T25_reg T25_loops T25_sch T26_reg T26_loops T26_sch T27_reg T27_loops T27_sch T28_reg T28_loops T28_sch T29_reg T29_loops T29_sch T30_reg T30_loops T30_sch T31_reg T31_loops T31_sch T32_reg T32_loops T32_sch T33_reg T33_loops T33_sch T34_reg T34_loops T34_sch T35_reg T35_loops T35_sch T36_reg T36_loops T36_sch T37_reg T37_loops T37_sch T38_reg T38_loops T38_sch T39_reg T39_loops T39_sch T40_reg T40_loops T40_sch T41_reg T41_loops T41_sch T42_reg T42_loops T42_sch T43_reg T43_loops T43_sch T44_reg T44_loops T44_sch T45_reg T45_loops T45_sch T46_reg T46_loops T46_sch T47_reg T47_loops T47_sch T48_reg T48_loops T48_sch T49_reg T49_loops T49_sch T50_reg T50_loops T50_sch T51_reg T51_loops T51_sch T52_reg T52_loops T52_sch T53_reg T53_loops T53_sch T54_reg T54_loops T54_sch T55_reg T55_loops T55_sch T56_reg T56_loops T56_sch T57_reg T57_loops T57_sch T58_reg T58_loops T58_sch T59_reg T59_loops T59_sch T60_reg T60_loops T60_sch T61_reg T61_loops T61_sch T62_reg T62_loops T62_sch T63_reg T63_loops T63_sch T64_reg T64_loops T64_sch T65_reg T65_loops T65_sch T66_reg T66_loops T66_sch
theorem mixed : Try.prog.follows .mixedOrders = true := by kernel_rfl
end Go.Eng
