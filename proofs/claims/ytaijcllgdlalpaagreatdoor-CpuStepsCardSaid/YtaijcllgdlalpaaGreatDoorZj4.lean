/-
  Contracts of Go's library, laid at this program (printed by the kit's own tool for hand-ins; numbers of the seat of layer 9).
-/
import Derived.Shelf.Small.Utf8
import Derived.Shelf.Small.Strs
import Derived.Shelf.Small.Wraps
import Derived.Shelf.Utf8.RuneCount
import Derived.Shelf.Strings.Search1
import Derived.Shelf.Strings.Search2
import Derived.Shelf.Strings.Search3
import Derived.Shelf.Strings.Count
import Derived.Shelf.LaysM
import Derived.Shelf.Strings.Shaped
import Derived.Shelf.Strings.Split
import Derived.Shelf.Strings.SplitShaped
import Derived.Shelf.Unicode.Decode
import Derived.Shelf.Strings.Runes
import Derived.Shelf.Strings.RuneCount
import Derived.Shelf.Strings.IndexAny
import Derived.Shelf.Strings.AsciiSet
import Derived.Shelf.Strings.IndexAnyAll
import Derived.Shelf.Strings.Explode
import Derived.Shelf.Unicode.DecodeSlow
import Derived.Shelf.Unicode.DecodeAny
import Derived.Ground.Names2Prog
import Derived.Shelf.Slices.SearchI
import Derived.Test.YtaijcllgdlalpaaGreatDoorProg
import Derived.Test.YtaijcllgdlalpaaGreatDoorZj2
import Derived.Test.YtaijcllgdlalpaaGreatDoorZj3
set_option linter.unusedSimpArgs false
set_option linter.unusedVariables false
set_option maxRecDepth 16000
set_option maxHeartbeats 4000000
namespace Go.Proofs
open Go.Shelf
def Tryz.lays137_ren : Go.Shelf.Ren := ⟨fun | 137 => 121 | 217 => 145 | 266 => 159 | n => n, fun | 9 => 9 | 5 => 5 | 3 => 3 | n => n, fun | n => n⟩
theorem Tryz.lays137 : Go.Proofs.Lays.n137 Tryz.prog Tryz.lays137_ren := {
  mixed := by kernel_rfl
  f137 := Tryz.func121.trans (congrArg some (by kernel_rfl))
  f217 := Tryz.func145.trans (congrArg some (by kernel_rfl))
  f266 := Tryz.func159.trans (congrArg some (by kernel_rfl))
  t3 := Tryz.underlying3
  a3 := Tryz.isAgg3
  z3 := Tryz.sizeOf3
  v3 := Tryz.zeroValue3
  t5 := Tryz.underlying5
  a5 := Tryz.isAgg5
  z5 := Tryz.sizeOf5
  v5 := Tryz.zeroValue5
  t9 := Tryz.underlying9
  a9 := Tryz.isAgg9
  z9 := Tryz.sizeOf9
  v9 := Tryz.zeroValue9 }
open Go.RowKit in
theorem Tryz.strings_IndexByte (s : ByteArray) (c : Int) (w : World) :
    Calls Tryz.prog 121 #[.string s, .int .u8 c] w fun e w' => e = .returned (.int .i64 (Lib.indexByte s.data.toList c.toNat.toUInt8)) ∧ w' = w := Any.strings_IndexByte Tryz.lays137 s c w
def Tryz.lays143_ren : Go.Shelf.Ren := ⟨fun | 143 => 171 | 219 => 178 | 217 => 145 | 225 => 174 | 224 => 173 | 267 => 180 | 266 => 159 | 314 => 181 | n => n, fun | 9 => 9 | 3 => 3 | 4 => 4 | 5 => 5 | 46 => 157 | 146 => 239 | 51 => 26 | n => n, fun | 1 => 0 | n => n⟩
theorem Tryz.lays143 : Go.Proofs.Lays.n143 Tryz.prog Tryz.lays143_ren := {
  mixed := by kernel_rfl
  f143 := Tryz.func171.trans (congrArg some (by kernel_rfl))
  f217 := Tryz.func145.trans (congrArg some (by kernel_rfl))
  f219 := Tryz.func178.trans (congrArg some (by kernel_rfl))
  f224 := Tryz.func173.trans (congrArg some (by kernel_rfl))
  f225 := Tryz.func174.trans (congrArg some (by kernel_rfl))
  f266 := Tryz.func159.trans (congrArg some (by kernel_rfl))
  f267 := Tryz.func180.trans (congrArg some (by kernel_rfl))
  f314 := Tryz.func181.trans (congrArg some (by kernel_rfl))
  t3 := Tryz.underlying3
  a3 := Tryz.isAgg3
  z3 := Tryz.sizeOf3
  v3 := Tryz.zeroValue3
  t4 := Tryz.underlying4
  a4 := Tryz.isAgg4
  z4 := Tryz.sizeOf4
  v4 := Tryz.zeroValue4
  t5 := Tryz.underlying5
  a5 := Tryz.isAgg5
  z5 := Tryz.sizeOf5
  v5 := Tryz.zeroValue5
  t9 := Tryz.underlying9
  a9 := Tryz.isAgg9
  z9 := Tryz.sizeOf9
  v9 := Tryz.zeroValue9
  t46 := Tryz.underlying157
  a46 := Tryz.isAgg157
  z46 := Tryz.sizeOf157
  v46 := Tryz.zeroValue157
  t51 := Tryz.underlying26
  a51 := Tryz.isAgg26
  z51 := Tryz.sizeOf26
  v51 := Tryz.zeroValue26
  t146 := Tryz.underlying239
  a146 := Tryz.isAgg239
  z146 := Tryz.sizeOf239
  v146 := Tryz.zeroValue239
  g1 := by kernel_rfl }
open Go.RowKit Go.Lib in
theorem Tryz.strings_Index_one (s : ByteArray) (c : UInt8) (w : World) :
    Calls Tryz.prog 171 #[.string s, .string ⟨#[c]⟩] w fun e w' => e = .returned (.int .i64 (Lib.indexByte s.data.toList c)) ∧ w' = w := Any.strings_Index_one Tryz.lays143 s c w
def Tryz.lays138_ren : Go.Shelf.Ren := ⟨fun | 138 => 170 | 195 => 175 | 218 => 177 | 143 => 171 | 219 => 178 | 217 => 145 | 225 => 174 | 224 => 173 | 267 => 180 | 266 => 159 | 314 => 181 | n => n, fun | 9 => 9 | 3 => 3 | 4 => 4 | 5 => 5 | 0 => 0 | 46 => 157 | 146 => 239 | 51 => 26 | n => n, fun | 1 => 0 | n => n⟩
theorem Tryz.lays138 : Go.Proofs.Lays.n138 Tryz.prog Tryz.lays138_ren := {
  mixed := by kernel_rfl
  f138 := Tryz.func170.trans (congrArg some (by kernel_rfl))
  f143 := Tryz.func171.trans (congrArg some (by kernel_rfl))
  f195 := Tryz.func175.trans (congrArg some (by kernel_rfl))
  f217 := Tryz.func145.trans (congrArg some (by kernel_rfl))
  f218 := Tryz.func177.trans (congrArg some (by kernel_rfl))
  f219 := Tryz.func178.trans (congrArg some (by kernel_rfl))
  f224 := Tryz.func173.trans (congrArg some (by kernel_rfl))
  f225 := Tryz.func174.trans (congrArg some (by kernel_rfl))
  f266 := Tryz.func159.trans (congrArg some (by kernel_rfl))
  f267 := Tryz.func180.trans (congrArg some (by kernel_rfl))
  f314 := Tryz.func181.trans (congrArg some (by kernel_rfl))
  t0 := Tryz.underlying0
  a0 := Tryz.isAgg0
  z0 := Tryz.sizeOf0
  v0 := Tryz.zeroValue0
  t3 := Tryz.underlying3
  a3 := Tryz.isAgg3
  z3 := Tryz.sizeOf3
  v3 := Tryz.zeroValue3
  t4 := Tryz.underlying4
  a4 := Tryz.isAgg4
  z4 := Tryz.sizeOf4
  v4 := Tryz.zeroValue4
  t5 := Tryz.underlying5
  a5 := Tryz.isAgg5
  z5 := Tryz.sizeOf5
  v5 := Tryz.zeroValue5
  t9 := Tryz.underlying9
  a9 := Tryz.isAgg9
  z9 := Tryz.sizeOf9
  v9 := Tryz.zeroValue9
  t46 := Tryz.underlying157
  a46 := Tryz.isAgg157
  z46 := Tryz.sizeOf157
  v46 := Tryz.zeroValue157
  t51 := Tryz.underlying26
  a51 := Tryz.isAgg26
  z51 := Tryz.sizeOf26
  v51 := Tryz.zeroValue26
  t146 := Tryz.underlying239
  a146 := Tryz.isAgg239
  z146 := Tryz.sizeOf239
  v146 := Tryz.zeroValue239
  g1 := by kernel_rfl }
open Go.RowKit Go.Lib in
theorem Tryz.strings_Count_one (s : ByteArray) (c : UInt8) (w : World) :
    Calls Tryz.prog 170 #[.string s, .string ⟨#[c]⟩] w fun e w' => e = .returned (.int .i64 (Lib.countByte s.data.toList c)) ∧ w' = w := Any.strings_Count_one Tryz.lays138 s c w
def Tryz.lays153_ren : Go.Shelf.Ren := ⟨fun | 153 => 161 | 152 => 164 | 226 => 165 | 227 => 166 | 228 => 167 | 137 => 121 | 119 => 172 | 224 => 173 | 225 => 174 | 217 => 145 | 266 => 159 | n => n, fun | 9 => 9 | 3 => 3 | 4 => 4 | 5 => 5 | 21 => 21 | 117 => 225 | 116 => 224 | 0 => 0 | 46 => 157 | 124 => 231 | n => n, fun | n => n⟩
theorem Tryz.lays153 : Go.Proofs.Lays.n153 Tryz.prog Tryz.lays153_ren := {
  mixed := by kernel_rfl
  f119 := Tryz.func172.trans (congrArg some (by kernel_rfl))
  f137 := Tryz.func121.trans (congrArg some (by kernel_rfl))
  f152 := Tryz.func164.trans (congrArg some (by kernel_rfl))
  f153 := Tryz.func161.trans (congrArg some (by kernel_rfl))
  f217 := Tryz.func145.trans (congrArg some (by kernel_rfl))
  f224 := Tryz.func173.trans (congrArg some (by kernel_rfl))
  f225 := Tryz.func174.trans (congrArg some (by kernel_rfl))
  f226 := Tryz.func165.trans (congrArg some (by kernel_rfl))
  f227 := Tryz.func166.trans (congrArg some (by kernel_rfl))
  f228 := Tryz.func167.trans (congrArg some (by kernel_rfl))
  f266 := Tryz.func159.trans (congrArg some (by kernel_rfl))
  t0 := Tryz.underlying0
  a0 := Tryz.isAgg0
  z0 := Tryz.sizeOf0
  v0 := Tryz.zeroValue0
  t3 := Tryz.underlying3
  a3 := Tryz.isAgg3
  z3 := Tryz.sizeOf3
  v3 := Tryz.zeroValue3
  t4 := Tryz.underlying4
  a4 := Tryz.isAgg4
  z4 := Tryz.sizeOf4
  v4 := Tryz.zeroValue4
  t5 := Tryz.underlying5
  a5 := Tryz.isAgg5
  z5 := Tryz.sizeOf5
  v5 := Tryz.zeroValue5
  t9 := Tryz.underlying9
  a9 := Tryz.isAgg9
  z9 := Tryz.sizeOf9
  v9 := Tryz.zeroValue9
  t21 := Tryz.underlying21
  a21 := Tryz.isAgg21
  z21 := Tryz.sizeOf21
  v21 := Tryz.zeroValue21
  t46 := Tryz.underlying157
  a46 := Tryz.isAgg157
  z46 := Tryz.sizeOf157
  v46 := Tryz.zeroValue157
  t116 := Tryz.underlying224
  a116 := Tryz.isAgg224
  z116 := Tryz.sizeOf224
  t117 := Tryz.underlying225
  a117 := Tryz.isAgg225
  z117 := Tryz.sizeOf225
  v117 := Tryz.zeroValue225
  t124 := Tryz.underlying231
  a124 := Tryz.isAgg231
  z124 := Tryz.sizeOf231
  v124 := Tryz.zeroValue231 }
open Go.RowKit Go.Lib in
theorem Tryz.strings_IndexAny_short (s chars : ByteArray) (w : World) (h2 : 2 ≤ chars.size) (h8 : s.size ≤ 8) (hascii : ∀ (j : Nat) b, s.data.toList[j]? = some b → b.toNat < 128) :
    Calls Tryz.prog 161 #[.string s, .string chars] w fun e w' => e = .returned (.int .i64 (Lib.indexAny s.data.toList chars.data.toList)) ∧ ∃ pos, w' = w.iter s pos := Any.strings_IndexAny_short Tryz.lays153 s chars w h2 h8 hascii
end Go.Proofs
/-
  strings.Split at one blank, as isa calls it.
-/
namespace Go.Eng
open Go Go.Proofs
def spB : ByteArray := ⟨#[32]⟩
theorem sp_ne : (({ data := #[32] } : ByteArray).toList == ({ data := #[] } : ByteArray).toList) = false := by decide +kernel
structure SplitOk (s : ByteArray) (N : Nat) (suf part : Nat → ByteArray) : Prop where
  zero : suf 0 = s
  cnt : Lib.countByte s.data.toList 32 = N
  idx : ∀ i, i < N → ∃ m : Nat, Lib.indexByte (suf i).data.toList 32 = m ∧ m + 1 ≤ (suf i).size ∧ part i = (suf i).extract 0 m ∧ suf (i + 1) = (suf i).extract (m + 1) (suf i).size
  last : part N = suf N
  small : N ≤ s.size
  big : s.size ≤ 1000000
  sz : ∀ i, i ≤ N → (suf i).size ≤ 1000000
def strL (part : Nat → ByteArray) (n : Nat) : List Value := (List.range n).map fun i => .string (part i)
def mixL (part : Nat → ByteArray) (n i : Nat) : List Value := (List.range n).map fun j => if j < i then .string (part j) else .string ⟨#[]⟩
theorem mixL_len (part : Nat → ByteArray) (n i : Nat) : (mixL part n i).length = n := by simp [mixL]
theorem mixL_get (part : Nat → ByteArray) {n i j : Nat} (hj : j < n) : (mixL part n i)[j]? = some (if j < i then .string (part j) else .string ⟨#[]⟩) := by simp [mixL, hj]
theorem mixL_set (part : Nat → ByteArray) {n i : Nat} (hi : i < n) : (mixL part n i).set i (.string (part i)) = mixL part n (i + 1) := by
  apply List.ext_getElem?
  intro j
  rw [List.getElem?_set, mixL_len]
  by_cases hj : j < n
  · rw [mixL_get part hj, mixL_get part hj]
    by_cases e : i = j
    · subst e; rw [if_pos rfl, if_pos hi, if_pos (by omega)]
    · rw [if_neg e]
      by_cases q : j < i
      · rw [if_pos q, if_pos (by omega)]
      · rw [if_neg q, if_neg (by omega)]
  · rw [if_neg (by omega), List.getElem?_eq_none (by rw [mixL_len]; omega), List.getElem?_eq_none (by rw [mixL_len]; omega)]
section
variable {h : Heap}
theorem count_S (s : ByteArray) : HCalls Tryz.prog 170 #[.string s, .string ⟨#[32]⟩] h fun v h' => v = .int .i64 (Lib.countByte s.data.toList 32) ∧ h' = h := HCalls.of_pure fun w => Tryz.strings_Count_one s 32 w
theorem index_S (s : ByteArray) : HCalls Tryz.prog 171 #[.string s, .string ⟨#[32]⟩] h fun v h' => v = .int .i64 (Lib.indexByte s.data.toList 32) ∧ h' = h := HCalls.of_pure fun w => Tryz.strings_Index_one s 32 w
theorem genSplit_S {s : ByteArray} {N : Nat} {suf part : Nat → ByteArray} (ok : SplitOk s N suf part) (hN : N ≤ 1000) (hz : zrow Tryz.prog 218 (N + 1) = (List.replicate (N + 1) (.string ⟨#[]⟩)).toArray) :
    HCalls Tryz.prog 163 #[.string s, .string ⟨#[32]⟩, .int .i64 0, .int .i64 (-1)] h fun v h' => Sat h' [sliceS 1 (N + 1) v (strL part (N + 1)), oldS h] := by
  refine HCalls.via fun R hR => ?_
  have hb := ok.big
  have hsm := ok.small
  refine HCalls.of_dev T163 Tryz.func163 rfl mixed (by kernel_rfl) ?_; rw [Tryz.results163]
  simp (maxSteps := 2000000) (disch := first | (simp only [go_sem, Nat.reduceBEq, Nat.reduceAdd, Nat.reduceMul, Nat.reduceSub, Nat.reduceEqDiff, Nat.reduceLeDiff, Nat.reduceLT, Int.reduceEq, Int.reduceAdd, Int.reduceSub, Int.reduceMul, Int.reduceNeg, Int.reduceLT, Int.reduceLE, Int.reduceToNat, Int.reduceBEq, Int.reduceNe, reduceCtorEq, sp_ne] <;> omega) | omega) only [go_sem, Nat.reduceBEq, Nat.reduceAdd, Nat.reduceMul, Nat.reduceSub, Nat.reduceEqDiff, Nat.reduceLeDiff, Nat.reduceLT, Int.reduceEq, Int.reduceAdd, Int.reduceSub, Int.reduceMul, Int.reduceNeg, Int.reduceLT, Int.reduceLE, Int.reduceToNat, Int.reduceBEq, Int.reduceNe, reduceCtorEq, w64_id, w8_id, w16_id, w32_id, tmod_pos, tdiv_pos, Bool.or_true, Bool.true_or, Bool.or_false, Bool.false_or, Bool.and_false, Bool.false_and, condK_decide, sp_ne]
  refine (count_S s).mono ?_
  rintro v h' ⟨rfl, rfl⟩
  rw [ok.cnt]
  simp (maxSteps := 2000000) (disch := first | (simp only [go_sem, Nat.reduceBEq, Nat.reduceAdd, Nat.reduceMul, Nat.reduceSub, Nat.reduceEqDiff, Nat.reduceLeDiff, Nat.reduceLT, Int.reduceEq, Int.reduceAdd, Int.reduceSub, Int.reduceMul, Int.reduceNeg, Int.reduceLT, Int.reduceLE, Int.reduceToNat, Int.reduceBEq, Int.reduceNe, reduceCtorEq, sp_ne] <;> omega) | omega) only [go_sem, Nat.reduceBEq, Nat.reduceAdd, Nat.reduceMul, Nat.reduceSub, Nat.reduceEqDiff, Nat.reduceLeDiff, Nat.reduceLT, Int.reduceEq, Int.reduceAdd, Int.reduceSub, Int.reduceMul, Int.reduceNeg, Int.reduceLT, Int.reduceLE, Int.reduceToNat, Int.reduceBEq, Int.reduceNe, reduceCtorEq, w64_id, w8_id, w16_id, w32_id, tmod_pos, tdiv_pos, Bool.or_true, Bool.true_or, Bool.or_false, Bool.false_or, Bool.and_false, Bool.false_and, condK_decide, sp_ne]
  have hmin : min ((N : Int) + 1) ((s.size : Int) + 1) = ((N + 1 : Nat) : Int) := by omega
  have b1 : (tbytes Tryz.prog (sliceElem Tryz.prog 218)).getD 0 * (N + 1) ≤ 281474976710656 := by
    rw [selem_218, tbytes_9]; simp only [Option.getD_some]; omega
  have ec : (Obj.cells (zrow Tryz.prog 218 (N + 1)) (sliceElem Tryz.prog 218) (0, 0)) = Obj.cells (mixL part (N + 1) 0).toArray 9 (0, 0) := by
    rw [hz, selem_218]
    congr 1
    congr 1
    apply List.ext_getElem?
    intro j
    by_cases hj : j < N + 1
    · rw [mixL_get part hj, List.getElem?_replicate, if_pos hj, if_neg (by omega)]
    · rw [List.getElem?_eq_none (by rw [List.length_replicate]; omega), List.getElem?_eq_none (by rw [mixL_len]; omega)]
  rw [hmin, runH_makeSlice (n := N + 1) (by rfl) (by rfl) b1 (by omega), ec]
  have s1 := (Sat.init h').push (.cells (mixL part (N + 1) 0).toArray 9 (0, 0))
  simp (maxSteps := 2000000) (disch := first | (simp only [go_sem, Nat.reduceBEq, Nat.reduceAdd, Nat.reduceMul, Nat.reduceSub, Nat.reduceEqDiff, Nat.reduceLeDiff, Nat.reduceLT, Int.reduceEq, Int.reduceAdd, Int.reduceSub, Int.reduceMul, Int.reduceNeg, Int.reduceLT, Int.reduceLE, Int.reduceToNat, Int.reduceBEq, Int.reduceNe, reduceCtorEq] <;> omega) | omega) only [go_sem, Nat.reduceBEq, Nat.reduceAdd, Nat.reduceMul, Nat.reduceSub, Nat.reduceEqDiff, Nat.reduceLeDiff, Nat.reduceLT, Int.reduceEq, Int.reduceAdd, Int.reduceSub, Int.reduceMul, Int.reduceNeg, Int.reduceLT, Int.reduceLE, Int.reduceToNat, Int.reduceBEq, Int.reduceNe, reduceCtorEq, w64_id, w8_id, w16_id, w32_id, tmod_pos, tdiv_pos, Bool.or_true, Bool.true_or, Bool.or_false, Bool.false_or, Bool.and_false, Bool.false_and, condK_decide]
  refine loopH.intro (fun i : Nat => (.cons 0 (.string (suf i)) true (.cons 1 (.string ⟨#[32]⟩) true (.cons 2 (.int .i64 0) true (.cons 3 (.int .i64 N) true (.cons 9 (.slice (some ⟨h'.size, 0, none⟩) (N + 1) (N + 1)) true (.cons 10 (.int .i64 i) true .nil)))))))
    (fun i k => Sat k [cellAt h'.size (.cells (mixL part (N + 1) i).toArray 9 (0, 0)), oldS h'] ∧ i ≤ N) (fun i _ => N + 1 - i) 0 ?_ ⟨s1, by omega⟩ ?_
  · simp (maxSteps := 2000000) (disch := first | (simp only [go_sem, Nat.reduceBEq, Nat.reduceAdd, Nat.reduceMul, Nat.reduceSub, Nat.reduceEqDiff, Nat.reduceLeDiff, Nat.reduceLT, Int.reduceEq, Int.reduceAdd, Int.reduceSub, Int.reduceMul, Int.reduceNeg, Int.reduceLT, Int.reduceLE, Int.reduceToNat, Int.reduceBEq, Int.reduceNe, reduceCtorEq] <;> omega) | omega) only [go_sem, Nat.reduceBEq, Nat.reduceAdd, Nat.reduceMul, Nat.reduceSub, Nat.reduceEqDiff, Nat.reduceLeDiff, Nat.reduceLT, Int.reduceEq, Int.reduceAdd, Int.reduceSub, Int.reduceMul, Int.reduceNeg, Int.reduceLT, Int.reduceLE, Int.reduceToNat, Int.reduceBEq, Int.reduceNe, reduceCtorEq, w64_id, w8_id, w16_id, w32_id, tmod_pos, tdiv_pos, Bool.or_true, Bool.true_or, Bool.or_false, Bool.false_or, Bool.and_false, Bool.false_and, condK_decide]
    rw [ok.zero, show ((N + 1 : Nat) : Int) - 1 = N by omega]
    rfl
  clear s1 ec
  rintro i k ⟨s, hi⟩
  have hlen := mixL_len part (N + 1) i
  by_cases q : i < N
  · obtain ⟨m, e1, e2, e3, e4⟩ := ok.idx i q
    have q2 : (i : Int) < N := by omega
    simp (maxSteps := 2000000) (disch := first | (simp only [go_sem, Nat.reduceBEq, Nat.reduceAdd, Nat.reduceMul, Nat.reduceSub, Nat.reduceEqDiff, Nat.reduceLeDiff, Nat.reduceLT, Int.reduceEq, Int.reduceAdd, Int.reduceSub, Int.reduceMul, Int.reduceNeg, Int.reduceLT, Int.reduceLE, Int.reduceToNat, Int.reduceBEq, Int.reduceNe, reduceCtorEq, q2] <;> omega) | omega) only [go_sem, Nat.reduceBEq, Nat.reduceAdd, Nat.reduceMul, Nat.reduceSub, Nat.reduceEqDiff, Nat.reduceLeDiff, Nat.reduceLT, Int.reduceEq, Int.reduceAdd, Int.reduceSub, Int.reduceMul, Int.reduceNeg, Int.reduceLT, Int.reduceLE, Int.reduceToNat, Int.reduceBEq, Int.reduceNe, reduceCtorEq, w64_id, w8_id, w16_id, w32_id, tmod_pos, tdiv_pos, Bool.or_true, Bool.true_or, Bool.or_false, Bool.false_or, Bool.and_false, Bool.false_and, condK_decide, q2]
    refine (index_S (suf i)).mono ?_
    rintro v k2 ⟨rfl, rfl⟩
    rw [e1]
    have m0 : ¬ (m : Int) < 0 := by omega
    have hsz := ok.sz i hi
    have wr0 : IntKind.i64.wrap ((m : Int) + 0) = m := by rw [Int.add_zero]; exact w64_id (by omega) (by omega)
    have wr1 : IntKind.i64.wrap ((m : Int) + ((1 : Nat) : Int)) = ((m + 1 : Nat) : Int) := by rw [w64_id (by omega) (by omega)]; rfl
    have sl1 : ∀ h : Heap, runD Tryz.prog (iSliceAt 9 (.string (suf i)) none (some (.int .i64 m)) none) h = some (.string ((suf i).extract 0 m)) := fun h => runD_slice_str isStr_9 (sliceBounds_to (by omega))
    have sl2 : ∀ h : Heap, runD Tryz.prog (iSliceAt 9 (.string (suf i)) (some (.int .i64 ((m + 1 : Nat) : Int))) none none) h = some (.string ((suf i).extract (m + 1) (suf i).size)) := fun h => runD_slice_str isStr_9 (sliceBounds_from (by omega))
    simp (maxSteps := 2000000) (disch := first | (simp only [go_sem, Nat.reduceBEq, Nat.reduceAdd, Nat.reduceMul, Nat.reduceSub, Nat.reduceEqDiff, Nat.reduceLeDiff, Nat.reduceLT, Int.reduceEq, Int.reduceAdd, Int.reduceSub, Int.reduceMul, Int.reduceNeg, Int.reduceLT, Int.reduceLE, Int.reduceToNat, Int.reduceBEq, Int.reduceNe, reduceCtorEq, q2, m0, wr0, wr1, sl1, sl2, s.get] <;> omega) | omega) only [go_sem, Nat.reduceBEq, Nat.reduceAdd, Nat.reduceMul, Nat.reduceSub, Nat.reduceEqDiff, Nat.reduceLeDiff, Nat.reduceLT, Int.reduceEq, Int.reduceAdd, Int.reduceSub, Int.reduceMul, Int.reduceNeg, Int.reduceLT, Int.reduceLE, Int.reduceToNat, Int.reduceBEq, Int.reduceNe, reduceCtorEq, w64_id, w8_id, w16_id, w32_id, tmod_pos, tdiv_pos, Bool.or_true, Bool.true_or, Bool.or_false, Bool.false_or, Bool.and_false, Bool.false_and, condK_decide, q2, m0, wr0, wr1, sl1, sl2, s.get]
    refine ⟨by omega, ?_⟩
    rw [← e3, ← e4, mixL_set part (by omega)]
    exact ⟨i + 1, rfl, ⟨s.set _, by omega⟩, by simp only; omega⟩
  · have q2 : ¬ (i : Int) < N := by omega
    obtain rfl : i = N := by omega
    have sl3 : ∀ h : Heap, runD Tryz.prog (iSliceAt 218 (.slice (some ⟨h'.size, 0, none⟩) (i + 1) (i + 1)) none (some (.int .i64 ((i : Int) + 1))) none) h = some (.slice (some ⟨h'.size, 0, none⟩) (i + 1) (i + 1)) := fun h => by
      rw [show ((i : Int) + 1) = ((i + 1 : Nat) : Int) by omega, runD_slice_slice isSlice_218 (sliceBounds_to (by omega))]
      simp [add_mk]
    simp (maxSteps := 2000000) (disch := first | (simp only [go_sem, Nat.reduceBEq, Nat.reduceAdd, Nat.reduceMul, Nat.reduceSub, Nat.reduceEqDiff, Nat.reduceLeDiff, Nat.reduceLT, Int.reduceEq, Int.reduceAdd, Int.reduceSub, Int.reduceMul, Int.reduceNeg, Int.reduceLT, Int.reduceLE, Int.reduceToNat, Int.reduceBEq, Int.reduceNe, reduceCtorEq, q2, s.get, sl3] <;> omega) | omega) only [go_sem, Nat.reduceBEq, Nat.reduceAdd, Nat.reduceMul, Nat.reduceSub, Nat.reduceEqDiff, Nat.reduceLeDiff, Nat.reduceLT, Int.reduceEq, Int.reduceAdd, Int.reduceSub, Int.reduceMul, Int.reduceNeg, Int.reduceLT, Int.reduceLE, Int.reduceToNat, Int.reduceBEq, Int.reduceNe, reduceCtorEq, w64_id, w8_id, w16_id, w32_id, tmod_pos, tdiv_pos, Bool.or_true, Bool.true_or, Bool.or_false, Bool.false_or, Bool.and_false, Bool.false_and, condK_decide, q2, s.get, sl3]
    refine ⟨by omega, ?_⟩
    rw [← ok.last, mixL_set part (by omega)]
    have s2 := s.set (.cells (mixL part (i + 1) (i + 1)).toArray 9 (0, 0))
    have hall : mixL part (i + 1) (i + 1) = strL part (i + 1) := by
      apply List.ext_getElem?
      intro j
      by_cases hj : j < i + 1
      · rw [mixL_get part hj, if_pos hj]; simp [strL, hj]
      · rw [List.getElem?_eq_none (by rw [mixL_len]; omega), List.getElem?_eq_none (by simp [strL]; omega)]
    rw [hall] at s2 ⊢
    have hl : (strL part (i + 1)).length = i + 1 := by simp [strL]
    exact hR _ _ (s2.toSlice (sz := 1) (by rw [hl]; omega) (fun x hx => by simp only [strL, List.mem_map] at hx; obtain ⟨j, -, rfl⟩ := hx; rfl) (Nat.le_refl _) (by rw [List.size_toArray, hl]; omega) (fun j hj => by simp))
theorem split_S {s : ByteArray} {N : Nat} {suf part : Nat → ByteArray} (ok : SplitOk s N suf part) (hN : N ≤ 1000) (hz : zrow Tryz.prog 218 (N + 1) = (List.replicate (N + 1) (.string ⟨#[]⟩)).toArray) :
    HCalls Tryz.prog 160 #[.string s, .string ⟨#[32]⟩] h fun v h' => Sat h' [sliceS 1 (N + 1) v (strL part (N + 1)), oldS h] := by
  refine HCalls.via fun R hR => ?_
  refine HCalls.of_dev T160 Tryz.func160 rfl mixed (by kernel_rfl) ?_; rw [Tryz.results160]
  simp (maxSteps := 2000000) (disch := first | (simp only [go_sem, Nat.reduceBEq, Nat.reduceAdd, Nat.reduceMul, Nat.reduceSub, Nat.reduceEqDiff, Nat.reduceLeDiff, Nat.reduceLT, Int.reduceEq, Int.reduceAdd, Int.reduceSub, Int.reduceMul, Int.reduceNeg, Int.reduceLT, Int.reduceLE, Int.reduceToNat, Int.reduceBEq, Int.reduceNe, reduceCtorEq] <;> omega) | omega) only [go_sem, Nat.reduceBEq, Nat.reduceAdd, Nat.reduceMul, Nat.reduceSub, Nat.reduceEqDiff, Nat.reduceLeDiff, Nat.reduceLT, Int.reduceEq, Int.reduceAdd, Int.reduceSub, Int.reduceMul, Int.reduceNeg, Int.reduceLT, Int.reduceLE, Int.reduceToNat, Int.reduceBEq, Int.reduceNe, reduceCtorEq, w64_id, w8_id, w16_id, w32_id, tmod_pos, tdiv_pos, Bool.or_true, Bool.true_or, Bool.or_false, Bool.false_or, Bool.and_false, Bool.false_and, condK_decide]
  refine (genSplit_S ok hN hz).mono ?_
  rintro v h' s
  obtain ⟨sl, cap, rfl, -⟩ := s.elems
  simp (maxSteps := 2000000) (disch := first | (simp only [go_sem, Nat.reduceBEq, Nat.reduceAdd, Nat.reduceMul, Nat.reduceSub, Nat.reduceEqDiff, Nat.reduceLeDiff, Nat.reduceLT, Int.reduceEq, Int.reduceAdd, Int.reduceSub, Int.reduceMul, Int.reduceNeg, Int.reduceLT, Int.reduceLE, Int.reduceToNat, Int.reduceBEq, Int.reduceNe, reduceCtorEq] <;> omega) | omega) only [go_sem, Nat.reduceBEq, Nat.reduceAdd, Nat.reduceMul, Nat.reduceSub, Nat.reduceEqDiff, Nat.reduceLeDiff, Nat.reduceLT, Int.reduceEq, Int.reduceAdd, Int.reduceSub, Int.reduceMul, Int.reduceNeg, Int.reduceLT, Int.reduceLE, Int.reduceToNat, Int.reduceBEq, Int.reduceNe, reduceCtorEq, w64_id, w8_id, w16_id, w32_id, tmod_pos, tdiv_pos, Bool.or_true, Bool.true_or, Bool.or_false, Bool.false_or, Bool.and_false, Bool.false_and, condK_decide]
  exact hR _ _ s
end
end Go.Eng
