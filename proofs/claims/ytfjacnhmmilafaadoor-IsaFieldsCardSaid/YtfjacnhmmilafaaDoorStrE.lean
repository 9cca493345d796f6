/-
  THE ENGINE: strings: length, bytes, parts, comparison, range.
-/
import Derived.Test.YtfjacnhmmilafaaDoorEng9
namespace Go.Eng
set_option linter.unusedSimpArgs false
set_option linter.unusedVariables false
set_option maxRecDepth 16000
set_option maxHeartbeats 4000000
open Go
def isStrB (P : Program) (t : TypeId) : Bool := match P.underlying t with | some .string => true | _ => false
section
variable {P : Program} {h : Heap} {t u : TypeId} {s : ByteArray}
theorem isStrB_of (ht : isStrB P t = true) : P.underlying t = some .string := by
  unfold isStrB at ht
  split at ht
  · assumption
  · cases ht
theorem runD_len_str (ht : isStrB P t = true) : runD P (iLen #[t] u #[.string s]) h = some (.int .i64 s.size) := by
  unfold iLen Builtin.len_
  simp only [List.getElem?_toArray, List.getElem?_cons_zero]
  rw [runD_bind, runD_underlying (isStrB_of ht)]
  rfl
theorem runD_index_str {k : IntKind} {i : Nat} {b : UInt8} (ht : isStrB P t = true) (hb : s[i]? = some b) : runD P (iIndex t (.string s) (.int k i)) h = some (.int .u8 b.toNat) := by
  unfold iIndex Instr.index
  simp only [asIntOf, pure_bind]
  rw [runD_bind, runD_underlying (isStrB_of ht)]
  simp only [Option.bind_some]
  rw [if_pos (Int.natCast_nonneg i), Int.toNat_natCast, hb]
  rfl
theorem runD_slice_str {lo hi : Option Value} {l m : Nat} (ht : isStrB P t = true) (hb : runD P (Instr.sliceBounds false s.size s.size lo hi none) h = some (l, m, s.size)) : runD P (iSliceAt t (.string s) lo hi none) h = some (.string (s.extract l m)) := by
  unfold iSliceAt Instr.sliceAt
  rw [runD_bind, runD_underlying (isStrB_of ht)]
  simp only [Option.bind_some]
  unfold Instr.slice
  rw [runD_bind, runD_underlying (isStrB_of ht)]
  simp only [Option.bind_some, Option.isSome_none, Bool.false_eq_true, if_false]
  rw [runD_bind, hb]
  rfl
theorem binD_str_eq {x y : Operand} {a b : ByteArray} : binD P h .eql t x y (.string a) (.string b) = some (.bool (a.toList == b.toList)) := rfl
theorem binD_str_ne {x y : Operand} {a b : ByteArray} : binD P h .neq t x y (.string a) (.string b) = some (.bool (!(a.toList == b.toList))) := rfl
theorem runH_rangeStr {K : Value → Heap → Prop} (ht : isStrB P t = true) : runH P (iRange t (.string s)) h K = K (.pointer (some ⟨h.size, 0, none⟩)) (h.push (.stringIter s 0)) := by
  unfold iRange Instr.range
  rw [runH_bind, runH_underlying (isStrB_of ht)]
  rfl
theorem runH_nextStr {r pos : Nat} {ty : TypeId} {K : Value → Heap → Prop} (hr : h[r]? = some (.stringIter s pos))
    (h0 : s.size ≤ pos → K (.tuple #[.bool false]) h)
    (h1 : pos < s.size → K (.tuple #[.bool true, .int .i64 pos, .int .i32 (Utf8.decode s pos).1]) (h.setIfInBounds r (.stringIter s (pos + (Utf8.decode s pos).2)))) :
    runH P (iNext (.pointer (some ⟨r, 0, none⟩)) true ty) h K := by
  unfold iNext Instr.next
  simp only
  rw [runH_bind, runH_of_runD _ (runD_getObj hr (by simp))]
  simp only
  have hset : ∀ (o : Obj) (K : Unit → Heap → Prop), (∀ c e f, o ≠ .cells c e f) → runH P (setObj r o) h K = K () (h.setIfInBounds r o) := fun o K _ => by
    simp only [setObj, runH, hr]
  by_cases hp : pos < s.size
  · rw [if_pos hp]
    rw [runH_bind, hset _ _ (by simp)]
    exact h1 hp
  · rw [if_neg hp]
    exact h0 (by omega)
attribute [go_sem ↓] runD_len_str
attribute [go_sem] binD_str_eq binD_str_ne
end
end Go.Eng
