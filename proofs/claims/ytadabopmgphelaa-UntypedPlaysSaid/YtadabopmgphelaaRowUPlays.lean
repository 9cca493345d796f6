/-
  The row of UntypedPlays.
-/
import Derived.Test.YtadabopmgphelaaRows
import Derived.Test.YtadabopmgphelaaArg14c
import Derived.Test.YtadabopmgphelaaUnt16
import Derived.ProofKit
import Derived.OpenShut
namespace Go.Proofs.Ytadabopmgphelaa.untypedPlays
set_option linter.unusedSimpArgs false
set_option linter.unusedVariables false
set_option maxRecDepth 16000
set_option maxHeartbeats 4000000
open Go.ChangeShapes Go.WideShapes Go.ChangeAt Go.RowKit Go.Eng

theorem own : ownKnob Try.prog.godebug = none := by kernel_rfl
theorem laid : laidOutB Try.prog = true := by kernel_rfl

set_option maxRecDepth 100000 in
theorem lifted (os : Os) (started : os.Started) (H : Type) (enc : TypeId × Value → H) :
    ReturnsInHanded {} Try.checked os 8 .any (Rows.untypedPlaysSpec.pre6 enc Try.prog Try.f8 Rows.untypedPlaysRow.domain false) (Rows.untypedPlaysSpec.post enc Try.prog Try.f8 false true false false) := by
  refine returnsInHanded_of_change (C := Try.checked) own started (by kernel_rfl) Try.func8
    (ChangeSpec.witness6 (enc := enc) (C := Try.checked) false ⟨#[], #[.slice none 0 0], []⟩ 8 (by kernel_rfl) (by kernel_rfl) (by kernel_rfl) (by kernel_rfl)) ?_
  intro W base args ds gs before hval0 hW hcnd _
  have hval : ∀ (j : Nat) t v, Try.f8.params[j]? = some t → args[j]? = some v → Value.okWide Try.prog W .any base t v := hval0
  have hW' := hW
  obtain ⟨p, q, hA0, hV, rfl, hfz, hnd⟩ := hW
  have hA : DataW.TrodAll enc Try.prog W 0 (fun _ => true) true Try.f8.params.toList args.toList ds p := hA0
  have hA1 := hA
  rw [Try.params8] at hA hval
  obtain ⟨v0, vs0, d0, ds0, p0, q0, hargs, rfl, rfl, h0, r0⟩ := trodAll_cons hA
  obtain ⟨rfl, rfl, rfl⟩ := trodAll_nil r0
  obtain rfl : args = #[v0] := by cases args; simp_all
  obtain ⟨rfl, rfl⟩ := trodVars_none hV
  obtain ⟨sl, n, cap, A, rfl, hA2⟩ := acts_open2 (hval 0 29 v0 rfl rfl) h0
  simp only [List.append_nil] at hW' hA1
  refine (plays_spec sl n cap A W.heap hA2).law.mono fun e W' ⟨he, hs, hg⟩ => ?_
  subst he
  exact ⟨_, rfl, law_post laid (by decide +kernel) hW' hA1 rfl rfl rfl Try.underlying4 hs hg⟩

theorem over : Rows.untypedPlaysRow.holds Try.pinned (OpenSpec.ofChange Rows.untypedPlaysSpec) :=
  OpenClaim.holds_of_wide 8 Try.f8 rfl rfl rfl rfl rfl rfl rfl ⟨rfl, rfl, rfl, rfl, rfl⟩ rfl rfl rfl rfl rfl (by kernel_rfl) Try.func8 (by kernel_rfl)
    (of_decide_eq_true (by kernel_rfl)) (by unfold Func.isWrapper; first | (rw [if_pos (by decide +kernel)]; kernel_rfl) | (rw [if_neg (by decide +kernel)]; exact ⟨rfl, rfl⟩))
    (fun os started H enc _ => lifted os started H enc)

theorem proved : Rows.UntypedPlaysSaid := over
#print axioms proved
end Go.Proofs.Ytadabopmgphelaa.untypedPlays
