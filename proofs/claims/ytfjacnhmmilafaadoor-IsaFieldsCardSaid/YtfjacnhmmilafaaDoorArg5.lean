/-
  Layer 5: the arguments of its laws, as they are met.
-/
import Derived.Test.YtfjacnhmmilafaaDoorIsa4
import Derived.Test.YtfjacnhmmilafaaDoorEng11
namespace Go.Eng
set_option linter.unusedSimpArgs false
set_option linter.unusedVariables false
set_option maxRecDepth 16000
set_option maxHeartbeats 4000000
open Go Go.Proofs
def i64ok (a : Int) : Prop := -9223372036854775808 ≤ a ∧ a ≤ 9223372036854775807
theorem i64_min : IntKind.i64.min = -9223372036854775808 := by decide
theorem i64_max : IntKind.i64.max = 9223372036854775807 := by decide
theorem u32_min : IntKind.u32.min = 0 := by decide
theorem u32_max : IntKind.u32.max = 4294967295 := by decide
theorem lit_bd {k : IntKind} {a : Int} (h : (Lit.int k a).wf = true) : k.min ≤ a ∧ a ≤ k.max := by
  unfold Lit.wf at h
  simpa using h
theorem lit_u32 {a : Int} (h : (Lit.int .u32 a).wf = true) : ∃ n : Nat, a = n ∧ n < 4294967296 := by
  have := lit_bd h
  rw [u32_min, u32_max] at this
  exact ⟨a.toNat, by omega, by omega⟩
theorem lit_i64 {a : Int} (h : (Lit.int .i64 a).wf = true) : i64ok a := by
  have := lit_bd h
  rwa [i64_min, i64_max] at this
structure Ins.fit (i : Ins) : Prop where
  Op : i64ok i.Op
  A : i64ok i.A
  B : i64ok i.B
  C : i64ok i.C
  I : i64ok i.I
set_option maxRecDepth 100000 in
theorem instr_open {H : Type} {enc : TypeId × Value → H} {W : World} {r : Reach} {b0 base : Nat} {spare : Nat → Bool} {held : Bool} {v : Value} {x : DataW H} {p : List MemPlace}
    (hv : Value.okWide Tryd.prog W r b0 23 v) (hd : DataW.Trod enc Tryd.prog W base spare held 23 v x p) : ∃ i : Ins, v = .agg i.cells.toArray ∧ i.fit := by
  obtain ⟨cs, rfl, q⟩ := struct_shpL (d := 6) (row := [.int .i64, .int .i64, .int .i64, .int .i64, .int .i64]) Tryd.underlying23 hv hd (by kernel_rfl)
  obtain ⟨v1, xs, rfl, q1, q⟩ := shpL_cons q
  obtain ⟨v2, xs, rfl, q2, q⟩ := shpL_cons q
  obtain ⟨v3, xs, rfl, q3, q⟩ := shpL_cons q
  obtain ⟨v4, xs, rfl, q4, q⟩ := shpL_cons q
  obtain ⟨v5, xs, rfl, q5, q⟩ := shpL_cons q
  obtain rfl := shpL_nil q
  obtain ⟨a1, rfl, b1⟩ := shp_int q1
  obtain ⟨a2, rfl, b2⟩ := shp_int q2
  obtain ⟨a3, rfl, b3⟩ := shp_int q3
  obtain ⟨a4, rfl, b4⟩ := shp_int q4
  obtain ⟨a5, rfl, b5⟩ := shp_int q5
  rw [i64_min, i64_max] at b1 b2 b3 b4 b5
  exact ⟨⟨a1, a2, a3, a4, a5⟩, rfl, b1, b2, b3, b4, b5⟩
end Go.Eng
