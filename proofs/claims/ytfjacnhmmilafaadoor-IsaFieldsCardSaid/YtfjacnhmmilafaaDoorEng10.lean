/-
  THE ENGINE, PART 10: from a call told of heaps to a row's claim.
-/
import Derived.Test.YtfjacnhmmilafaaDoorEng9
import Derived.ProofKit
import Derived.OpenShut
namespace Go.Eng
set_option linter.unusedSimpArgs false
set_option linter.unusedVariables false
set_option maxRecDepth 16000
set_option maxHeartbeats 4000000
open Go

theorem kept_of_ext {W W' : World} (s : Same W W') (e : Ext W.heap W'.heap) (may : MemPlace → Prop) : W.keptBut W' may := by
  refine ⟨s.os, s.output, fun i hi => ?_⟩
  rw [e.get i hi]
  cases W.heap[i]? with
  | none => rfl
  | some o => cases o <;> first | exact ⟨rfl, rfl, rfl, fun _ _ => rfl⟩ | exact .inr ⟨rfl, rfl⟩ | rfl

theorem post_of_ext {H : Type} {enc : TypeId × Value → H} {P : Program} {f : Func} {s : ChangeSpec} {apart fresh handsOn : Bool} {W W' : World} {args : Array Value} {v : Value} {ds gs : List (DataW H)} {before pa pv : List MemPlace}
    (hW : DataW.Whole enc P f.params.toList s.vars apart W args.toList ds gs before)
    (hres : ∀ (b : Nat) (sp : Nat → Bool) (hd : Bool), DataW.TrodAll enc P W' b sp hd f.resultTypes.toList (v.resultList f.resultTypes.size) (s.fn H (ds ++ gs)).results [])
    (hargs : ∀ sp : Nat → Bool, (∀ p ∈ before, sp p.block = true) → DataW.TrodAll enc P W' 0 sp true f.params.toList args.toList (s.fn H (ds ++ gs)).args pa)
    (hvars : ∀ sp : Nat → Bool, (∀ p ∈ before, sp p.block = true) → DataW.TrodVars enc P W' sp s.vars (s.fn H (ds ++ gs)).vars pv)
    (hps : before = pa ++ pv) (hs : Same W W') (he : Ext W.heap W'.heap) :
    s.post enc P f apart fresh handsOn false W args v W' := by
  have hold : ∀ p ∈ before, (fun b => decide (b < W.heap.size)) p.block = true := fun p hp => by simpa using hW.lt p hp
  exact ⟨ds, gs, before, [], pa, pv, hW, hres _ _ _, hargs _ hold, hvars _ hold, kept_of_ext hs he _, fun e => by cases e⟩

theorem HCalls.law {P : Program} {f : FuncId} {args : Array Value} {W : World} (hc : HCalls P f args W.heap fun v h' => v = .bool true ∧ Ext W.heap h') :
    Calls P f args W fun e w' => e = .returned (.bool true) ∧ Same W w' ∧ Ext W.heap w'.heap :=
  (hc W rfl).mono fun _ _ ⟨s, v, e, hv, hx⟩ => ⟨by rw [e, hv], s, hx⟩
end Go.Eng
