/-
  THE ENGINE, PART 12: arrays by index; min and max.
-/
import Derived.Test.YtfjacnhmmilafaaDoorEng9
namespace Go.Eng
set_option linter.unusedSimpArgs false
set_option linter.unusedVariables false
set_option maxRecDepth 16000
set_option maxHeartbeats 4000000
open Go
section
variable {P : Program} {h : Heap} {t : TypeId}

theorem runD_indexAt_arr {b o : Nat} {k : IntKind} {i : Int} (ha : isArrB P t = true) (h0 : 0 ≤ i) (h1 : i < arrLen P t) : runD P (iIndexAt t (.pointer (some ⟨b, o, none⟩)) (.int k i)) h = some (.pointer (some ⟨b, o + i.toNat * arrSz P t, none⟩)) := by
  obtain ⟨e, n, s, ht, hs, hsz, hl⟩ := isArrB_of ha
  rw [hl] at h1
  rw [hsz]
  unfold iIndexAt Instr.indexAt
  simp only [asIntOf, pure_bind]
  rw [runD_bind, runD_underlying ht]
  simp only [Option.bind_some, Instr.sureAddr, pure_bind]
  rw [runD_bind, runD_underlying ht]
  simp only [Option.bind_some, h0, h1, and_self, if_true]
  rw [runD_bind, runD_sizeOf hs, Option.bind_some, add_mk]
  rfl
theorem runD_min2 {ts : Array TypeId} {k l : IntKind} {a b : Int} : runD P (iMin ts t #[.int k a, .int l b]) h = some (.int k (min a b)) := by
  have e : (if b < a then b else a) = min a b := by rw [Int.min_def]; split <;> split <;> omega
  rw [← e]; rfl
theorem runD_max2 {ts : Array TypeId} {k l : IntKind} {a b : Int} : runD P (iMax ts t #[.int k a, .int l b]) h = some (.int k (max a b)) := by
  have e : (if a < b then b else a) = max a b := by rw [Int.max_def]; split <;> split <;> omega
  rw [← e]; rfl
attribute [go_sem ↓] runD_indexAt_arr runD_min2 runD_max2
end
end Go.Eng
