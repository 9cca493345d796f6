/-
  THE ENGINE: small maps keyed by runes, entry by entry.
-/
import Derived.Test.YtfjacnhmmilafaaDoorEng9
import Derived.Test.YtfjacnhmmilafaaDoorEng7
namespace Go.Eng
set_option linter.unusedSimpArgs false
set_option linter.unusedVariables false
set_option maxRecDepth 16000
set_option maxHeartbeats 4000000
open Go
section
variable {P : Program} {h : Heap} {t kt et : TypeId} {r : Nat} {es : Array MapEntry} {clock : Nat}
theorem runD_checkKey_r {em : Bool} {n : Nat} {k : Int} {q : IntKind} (hk : P.underlying kt = some (.int q)) : runD P (Instr.checkKey em (n + 1) kt (.int .i32 k)) h = some () := by
  simp only [Instr.checkKey]
  rw [runD_bind, runD_underlying hk]
  rfl
theorem runD_findKey_r {q : IntKind} {k : Int} {o : Option (Nat × Value)} (hk : P.underlying kt = some (.int q)) (hf : Instr.findNow (.int q) (.int .i32 k) es.toList 0 = some o) :
    runD P (Instr.findKey kt (.int .i32 k) es.toList) h = some o := by
  unfold Instr.findKey
  rw [runD_bind, runD_underlying hk]
  simp only [Option.bind_some, hf]
  rfl
theorem runH_updateR {q : IntKind} (hm : h[r]? = some (.map es clock)) (ht : P.underlying t = some (.map kt et)) (hk : P.underlying kt = some (.int q)) {k : Int} {v : Value} {K : Unit → Heap → Prop}
    (hf : Instr.findNow (.int q) (.int .i32 k) es.toList 0 = some none)
    (hK : K () (h.setIfInBounds r (.map (es.push ⟨.int .i32 k, v, clock⟩) (clock + 1)))) :
    runH P (iMapUpdate t (.map (some r)) (.int .i32 k) v) h K := by
  unfold iMapUpdate Instr.mapUpdate
  rw [runH_bind, runH_underlying ht]
  simp only
  rw [runH_bind, runH_of_runD _ (runD_getObj hm (by simp))]
  simp only
  rw [runH_bind, runH_of_runD _ (runD_checkKey_r hk)]
  rw [runH_bind, runH_of_runD _ (runD_findKey_r hk hf)]
  simp only [setObj, runH, hm]
  exact hK
theorem runD_lookupR {q : IntKind} {z : Value} {k : Int} {o : Option (Nat × Value)} (hat : h[r]? = some (.map es clock)) (ht : P.underlying t = some (.map kt et)) (hk : P.underlying kt = some (.int q)) (hz : tzero P et = some z)
    (hf : Instr.findNow (.int q) (.int .i32 k) es.toList 0 = some o) :
    runD P (iLookup t (.map (some r)) (.int .i32 k) false) h = some ((o.map (·.2)).getD z) := by
  unfold iLookup Instr.lookup
  rw [runD_bind, runD_underlying ht]
  simp only [Option.bind_some]
  rw [runD_bind, runD_getObj hat (by simp)]
  simp only [Option.bind_some, pure_bind]
  rw [runD_bind, runD_checkKey_r hk]
  simp only [Option.bind_some]
  rw [runD_bind, runD_findKey_r hk hf]
  cases o with
  | none =>
    simp only [Option.bind_some]
    rw [runD_bind, runD_zero hz]
    rfl
  | some p => rfl
end
end Go.Eng
