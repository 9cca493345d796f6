/-
  Layer 14: the arguments of its laws, as they are met.
-/
import Derived.Test.YtadabopmgphelaaUnt9
import Derived.Test.YtadabopmgphelaaEng11
namespace Go.Eng
set_option linter.unusedSimpArgs false
set_option linter.unusedVariables false
set_option maxRecDepth 16000
set_option maxHeartbeats 4000000
open Go Go.Proofs

set_option maxRecDepth 100000 in
theorem region_open {H : Type} {enc : TypeId × Value → H} {W : World} {r : Reach} {b0 base : Nat} {spare : Nat → Bool} {held : Bool} {v : Value} {x : DataW H} {p : List MemPlace}
    (hv : Value.okWide Try.prog W r b0 28 v) (hd : DataW.Trod enc Try.prog W base spare held 28 v x p) : ∃ r : Reg, v = .agg r.cells.toArray := by
  obtain ⟨cs, rfl, q⟩ := struct_shpL (d := 4) (row := [.int .i64, .int .i64, .int .i64, .bool]) Try.underlying28 hv hd (by kernel_rfl)
  obtain ⟨v1, xs, rfl, q1, q⟩ := shpL_cons q
  obtain ⟨v2, xs, rfl, q2, q⟩ := shpL_cons q
  obtain ⟨v3, xs, rfl, q3, q⟩ := shpL_cons q
  obtain ⟨v4, xs, rfl, q4, q⟩ := shpL_cons q
  obtain rfl := shpL_nil q
  obtain ⟨a, rfl, -⟩ := shp_int q1
  obtain ⟨b, rfl, -⟩ := shp_int q2
  obtain ⟨c, rfl, -⟩ := shp_int q3
  obtain ⟨e, rfl⟩ := shp_bool q4
  exact ⟨⟨a, b, c, e⟩, rfl⟩

def actRow : List CK := [.int .i64, .int .i64, .int .i64, .int .i64, .int .i64, .bool, .int .i64, .int .i64, .int .i64, .int .i64]
theorem i64_min : IntKind.i64.min = -9223372036854775808 := by decide
theorem i64_max : IntKind.i64.max = 9223372036854775807 := by decide
theorem act_of {h : Heap} {d : Nat} {xs : List Value} (q : shpL h d actRow xs) : ∃ a : Act, xs = a.cells ∧ ActFit a := by
  obtain ⟨v1, xs, rfl, q1, q⟩ := shpL_cons q
  obtain ⟨v2, xs, rfl, q2, q⟩ := shpL_cons q
  obtain ⟨v3, xs, rfl, q3, q⟩ := shpL_cons q
  obtain ⟨v4, xs, rfl, q4, q⟩ := shpL_cons q
  obtain ⟨v5, xs, rfl, q5, q⟩ := shpL_cons q
  obtain ⟨v6, xs, rfl, q6, q⟩ := shpL_cons q
  obtain ⟨v7, xs, rfl, q7, q⟩ := shpL_cons q
  obtain ⟨v8, xs, rfl, q8, q⟩ := shpL_cons q
  obtain ⟨v9, xs, rfl, q9, q⟩ := shpL_cons q
  obtain ⟨v10, xs, rfl, q10, q⟩ := shpL_cons q
  obtain rfl := shpL_nil q
  obtain ⟨a1, rfl, -⟩ := shp_int q1
  obtain ⟨a2, rfl, -⟩ := shp_int q2
  obtain ⟨a3, rfl, -⟩ := shp_int q3
  obtain ⟨a4, rfl, -⟩ := shp_int q4
  obtain ⟨a5, rfl, -⟩ := shp_int q5
  obtain ⟨a6, rfl⟩ := shp_bool q6
  obtain ⟨a7, rfl, -⟩ := shp_int q7
  obtain ⟨a8, rfl, -⟩ := shp_int q8
  obtain ⟨a9, rfl, b1, b2⟩ := shp_int q9
  obtain ⟨a10, rfl, b3, b4⟩ := shp_int q10
  rw [i64_min] at b1 b3
  rw [i64_max] at b2 b4
  exact ⟨⟨a1, a2, ⟨a3, a4, a5, a6⟩, a7, a8, a9, a10⟩, rfl, ⟨⟨b1, b2⟩, ⟨b3, b4⟩⟩⟩

set_option maxRecDepth 100000 in
theorem acts_open {H : Type} {enc : TypeId × Value → H} {W : World} {r : Reach} {b0 base : Nat} {spare : Nat → Bool} {held : Bool} {v : Value} {x : DataW H} {p : List MemPlace}
    (hv : Value.okWide Try.prog W r b0 29 v) (hd : DataW.Trod enc Try.prog W base spare held 29 v x p) : ∃ sl n cap A, v = .slice sl n cap ∧ ActsAt W.heap sl n A := by
  obtain ⟨sl, n, cap, rfl, -, hn, q⟩ := slice_open (d := 6) (row := actRow) Try.underlying29 hv hd (by kernel_rfl) (by decide)
  have : ∀ i, ∃ a : Act, i < n → ActFit a ∧ ∃ b o, sl = some ⟨b, o, none⟩ ∧ ∀ j, j < 10 → hcellO W.heap[b]? (o + (i * 10 + j)) = a.cells[j]? := by
    intro i
    by_cases hi : i < n
    · obtain ⟨b, o, xs, e, s, c⟩ := q i hi
      obtain ⟨a, rfl, fit⟩ := act_of s
      exact ⟨a, fun _ => ⟨fit, b, o, e, c⟩⟩
    · exact ⟨⟨0, 0, ⟨0, 0, 0, false⟩, 0, 0, 0, 0⟩, fun h => absurd h hi⟩
  obtain ⟨A, hA⟩ := Classical.axiomOfChoice this
  exact ⟨sl, n, cap, A, rfl, hn, hA⟩
end Go.Eng
