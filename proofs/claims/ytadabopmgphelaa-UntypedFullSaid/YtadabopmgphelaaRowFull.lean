/-
  The row of UntypedFull.
-/
import Derived.Test.YtadabopmgphelaaRows
import Derived.Test.YtadabopmgphelaaUnt8
import Derived.Test.YtadabopmgphelaaEng11
import Derived.ProofKit
import Derived.OpenShut
namespace Go.Proofs.Ytadabopmgphelaa.untypedFull
set_option linter.unusedSimpArgs false
set_option linter.unusedVariables false
open Go.ChangeShapes Go.WideShapes Go.ChangeAt Go.RowKit Go.Eng

theorem own : ownKnob Try.prog.godebug = none := by kernel_rfl
theorem laid : laidOutB Try.prog = true := by kernel_rfl

set_option maxRecDepth 100000 in
theorem region {H : Type} {enc : TypeId × Value → H} {W : World} {r : Reach} {b0 base : Nat} {spare : Nat → Bool} {held : Bool} {v : Value} {x : DataW H} {p : List MemPlace}
    (hv : Value.okWide Try.prog W r b0 28 v) (hd : DataW.Trod enc Try.prog W base spare held 28 v x p) : ∃ r : Reg, v = .agg r.cells.toArray := by
  obtain ⟨cs, rfl, q⟩ := struct_shpL (d := 4) (row := [.int .i64, .int .i64, .int .i64, .bool]) Try.underlying28 hv hd (by kernel_rfl)
  obtain ⟨v1, xs, rfl, q1, q⟩ := shpL_cons q
  obtain ⟨v2, xs, rfl, q2, q⟩ := shpL_cons q
  obtain ⟨v3, xs, rfl, q3, q⟩ := shpL_cons q
  obtain ⟨v4, xs, rfl, q4, q⟩ := shpL_cons q
  obtain rfl := shpL_nil q
  obtain ⟨a, rfl, -⟩ := shp_int q1
  obtain ⟨b, rfl, -⟩ := shp_int q2
  obtain ⟨c, rfl, -⟩ := shp_int q3
  obtain ⟨e, rfl⟩ := shp_bool q4
  exact ⟨⟨a, b, c, e⟩, rfl⟩

set_option maxRecDepth 100000 in
theorem lifted (os : Os) (started : os.Started) (H : Type) (enc : TypeId × Value → H) :
    ReturnsInHanded {} Try.checked os 5 .any (Rows.untypedFullSpec.pre6 enc Try.prog Try.f5 Rows.untypedFullRow.domain false) (Rows.untypedFullSpec.post enc Try.prog Try.f5 false true false false) := by
  refine returnsInHanded_of_change (C := Try.checked) own started (by kernel_rfl) Try.func5
    (ChangeSpec.witness6 (enc := enc) (C := Try.checked) false ⟨#[], #[.agg #[.int .i64 0, .int .i64 0, .int .i64 0, .bool false], .int .i64 0], []⟩ 8 (by kernel_rfl) (by kernel_rfl) (by kernel_rfl) (by kernel_rfl)) ?_
  intro W base args ds gs before hval0 hW hcnd _
  have hval : ∀ (j : Nat) t v, Try.f5.params[j]? = some t → args[j]? = some v → Value.okWide Try.prog W .any base t v := hval0
  have hW' := hW
  obtain ⟨p, q, hA0, hV, rfl, hfz, hnd⟩ := hW
  have hA : DataW.TrodAll enc Try.prog W 0 (fun _ => true) true Try.f5.params.toList args.toList ds p := hA0
  have hA1 := hA
  rw [Try.params5] at hA hval
  obtain ⟨v0, vs0, d0, ds0, p0, q0, hargs, rfl, rfl, h0, r0⟩ := trodAll_cons hA
  obtain ⟨v1, vs1, d1, ds1, p1, q1, rfl, rfl, rfl, h1, r1⟩ := trodAll_cons r0
  obtain ⟨rfl, rfl, rfl⟩ := trodAll_nil r1
  obtain rfl : args = #[v0, v1] := by cases args; simp_all
  obtain ⟨rfl, rfl⟩ := trodVars_none hV
  obtain ⟨x, rfl⟩ := region (hval 0 28 v0 rfl rfl) h0
  obtain ⟨a1, rfl, rfl, rfl, w1⟩ := open_int Try.underlying3 (hval 1 3 v1 rfl rfl) h1
  simp only [List.append_nil] at hW' hA1
  refine (untypedFull_spec x a1 W.heap).law.mono fun e W' ⟨he, hs, hg⟩ => ?_
  subst he
  exact ⟨_, rfl, law_post laid (by decide +kernel) hW' hA1 rfl rfl rfl Try.underlying4 hs hg⟩

theorem over : Rows.untypedFullRow.holds Try.pinned (OpenSpec.ofChange Rows.untypedFullSpec) :=
  OpenClaim.holds_of_wide 5 Try.f5 rfl rfl rfl rfl rfl rfl rfl ⟨rfl, rfl, rfl, rfl, rfl⟩ rfl rfl rfl rfl rfl (by kernel_rfl) Try.func5 (by kernel_rfl)
    (of_decide_eq_true (by kernel_rfl)) (by unfold Func.isWrapper; first | (rw [if_pos (by decide +kernel)]; kernel_rfl) | (rw [if_neg (by decide +kernel)]; exact ⟨rfl, rfl⟩))
    (fun os started H enc _ => lifted os started H enc)

theorem proved : Rows.UntypedFullSaid := over
#print axioms proved
end Go.Proofs.Ytadabopmgphelaa.untypedFull
