/-
  package isa: the forms, cut at blanks and signs.
-/
import Derived.Test.YtaijcllgdlalpaaGreatDoorZj4
set_option linter.unusedSimpArgs false
set_option linter.unusedVariables false
set_option maxRecDepth 16000
set_option maxHeartbeats 4000000
namespace Go.Eng
open Go Go.Proofs
def formsB : ByteArray := ⟨#[32, 97, 105, 62, 97, 32, 97, 98, 99, 62, 97, 98, 99, 32, 97, 98, 99, 62, 97, 98, 99, 32, 97, 98, 99, 62, 97, 98, 99, 32, 97, 98, 99, 62, 97, 98, 99, 32, 97, 98, 99, 62, 97, 98, 99, 32, 97, 98, 105, 62, 97, 98, 32, 97, 98, 105, 60, 97, 98, 32, 97, 98, 105, 62, 97, 98, 32, 97, 98, 105, 60, 97, 98, 32, 97, 98, 105, 60, 97, 98, 32, 97, 98, 105, 60, 97, 98, 32, 97, 98, 105, 60, 97, 98, 32, 105, 32, 97, 105, 62, 97, 32, 98, 60, 98, 32, 105, 32, 105, 32, 97, 105, 62, 97, 32, 98, 105, 60, 98, 32, 45, 32, 97, 62, 97, 32, 98, 60, 98, 32, 45, 32, 45]⟩
def sufF (i : Nat) : ByteArray := Nat.rec formsB (fun _ s => s.extract ((Lib.indexByte s.data.toList 32).toNat + 1) s.size) i
def partF (i : Nat) : ByteArray := if i < 25 then (sufF i).extract 0 (Lib.indexByte (sufF i).data.toList 32).toNat else sufF i
theorem suf_ok : ∀ i, i < 25 → 0 ≤ Lib.indexByte (sufF i).data.toList 32 ∧ (Lib.indexByte (sufF i).data.toList 32).toNat + 1 ≤ (sufF i).size := by decide +kernel
theorem suf_sz : ∀ i, i < 26 → (sufF i).size ≤ 1000000 := by decide +kernel
theorem forms_ok : SplitOk formsB 25 sufF partF where
  zero := rfl
  cnt := by decide +kernel
  idx i hi := by
    obtain ⟨h1, h2⟩ := suf_ok i hi
    refine ⟨(Lib.indexByte (sufF i).data.toList 32).toNat, by omega, h2, by unfold partF; rw [if_pos hi], rfl⟩
  last := rfl
  small := by decide +kernel
  big := by decide +kernel
  sz i hi := suf_sz i (by omega)
def atF (o : Nat) : Int := Lib.indexAny (partF o).data.toList [60, 62]
theorem part_sz : ∀ o, o < 26 → (partF o).size ≤ 8 := by decide +kernel
theorem part_ascii : ∀ o, o < 26 → (partF o).data.toList.all (fun b => decide (b.toNat < 128)) = true := by decide +kernel
theorem at_ok : ∀ o, o < 26 → -1 ≤ atF o ∧ (0 ≤ atF o → (atF o).toNat + 1 ≤ (partF o).size) := by decide +kernel
def formO (o : Nat) : ByteArray × ByteArray × ByteArray := if 0 ≤ atF o then ((partF o).extract 0 (atF o).toNat, (partF o).extract (atF o).toNat ((atF o).toNat + 1), (partF o).extract ((atF o).toNat + 1) (partF o).size) else (partF o, ⟨#[]⟩, ⟨#[]⟩)
def formN (op : Int) : ByteArray × ByteArray × ByteArray := if 1 ≤ op ∧ op ≤ 25 then formO op.toNat else (⟨#[]⟩, ⟨#[]⟩, ⟨#[]⟩)
theorem zrow_str26 : (zrow Tryz.prog 218 (25 + 1)).toList = List.replicate (25 + 1) (.string ⟨#[]⟩) := by kernel_rfl
section
variable {h : Heap}
theorem indexAny_S {o : Nat} (ho : o < 26) : HCalls Tryz.prog 161 #[.string (partF o), .string ⟨#[60, 62]⟩] h fun v h' => v = .int .i64 (atF o) ∧ Ext h h' :=
  HCalls.of_iter fun w => Tryz.strings_IndexAny_short (partF o) ⟨#[60, 62]⟩ w (by decide) (part_sz o ho) (fun j b hb => by
    have := List.all_eq_true.1 (part_ascii o ho) b (List.mem_of_getElem? hb)
    simpa using this)
end
end Go.Eng
