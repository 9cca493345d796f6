/-
  Layer 14: acts as arguments.
-/
import Derived.Test.YtadabopmgphelaaUnt14
import Derived.Test.YtadabopmgphelaaArg14
namespace Go.Eng
set_option linter.unusedSimpArgs false
set_option linter.unusedVariables false
set_option maxRecDepth 16000
set_option maxHeartbeats 4000000
open Go Go.Proofs

theorem act_of2 {h : Heap} {d : Nat} {xs : List Value} (q : shpL h d actRow xs) : ∃ a : Act, xs = a.cells ∧ Act2 a := by
  obtain ⟨v1, xs, rfl, q1, q⟩ := shpL_cons q
  obtain ⟨v2, xs, rfl, q2, q⟩ := shpL_cons q
  obtain ⟨v3, xs, rfl, q3, q⟩ := shpL_cons q
  obtain ⟨v4, xs, rfl, q4, q⟩ := shpL_cons q
  obtain ⟨v5, xs, rfl, q5, q⟩ := shpL_cons q
  obtain ⟨v6, xs, rfl, q6, q⟩ := shpL_cons q
  obtain ⟨v7, xs, rfl, q7, q⟩ := shpL_cons q
  obtain ⟨v8, xs, rfl, q8, q⟩ := shpL_cons q
  obtain ⟨v9, xs, rfl, q9, q⟩ := shpL_cons q
  obtain ⟨v10, xs, rfl, q10, q⟩ := shpL_cons q
  obtain rfl := shpL_nil q
  obtain ⟨a1, rfl, -⟩ := shp_int q1
  obtain ⟨a2, rfl, -⟩ := shp_int q2
  obtain ⟨a3, rfl, -⟩ := shp_int q3
  obtain ⟨a4, rfl, b5, b6⟩ := shp_int q4
  obtain ⟨a5, rfl, -⟩ := shp_int q5
  obtain ⟨a6, rfl⟩ := shp_bool q6
  obtain ⟨a7, rfl, -⟩ := shp_int q7
  obtain ⟨a8, rfl, -⟩ := shp_int q8
  obtain ⟨a9, rfl, b1, b2⟩ := shp_int q9
  obtain ⟨a10, rfl, b3, b4⟩ := shp_int q10
  rw [i64_min] at b1 b3 b5
  rw [i64_max] at b2 b4 b6
  exact ⟨⟨a1, a2, ⟨a3, a4, a5, a6⟩, a7, a8, a9, a10⟩, rfl, ⟨⟨b5, b6⟩, ⟨b3, b4⟩⟩⟩

set_option maxRecDepth 100000 in
theorem act_open {H : Type} {enc : TypeId × Value → H} {W : World} {r : Reach} {b0 base : Nat} {spare : Nat → Bool} {held : Bool} {v : Value} {x : DataW H} {p : List MemPlace}
    (hv : Value.okWide Try.prog W r b0 35 v) (hd : DataW.Trod enc Try.prog W base spare held 35 v x p) : ∃ a : Act, v = .agg a.cells.toArray ∧ Act2 a := by
  obtain ⟨cs, rfl, q⟩ := struct_shpL (d := 6) (row := actRow) Try.underlying35 hv hd (by kernel_rfl)
  obtain ⟨a, rfl, fit⟩ := act_of2 q
  exact ⟨a, rfl, fit⟩

set_option maxRecDepth 100000 in
theorem acts_open2 {H : Type} {enc : TypeId × Value → H} {W : World} {r : Reach} {b0 base : Nat} {spare : Nat → Bool} {held : Bool} {v : Value} {x : DataW H} {p : List MemPlace}
    (hv : Value.okWide Try.prog W r b0 29 v) (hd : DataW.Trod enc Try.prog W base spare held 29 v x p) : ∃ sl n cap A, v = .slice sl n cap ∧ Acts2 W.heap sl n A := by
  obtain ⟨sl, n, cap, rfl, -, hn, q⟩ := slice_open (d := 6) (row := actRow) Try.underlying29 hv hd (by kernel_rfl) (by decide)
  have : ∀ i, ∃ a : Act, i < n → Act2 a ∧ ∃ b o, sl = some ⟨b, o, none⟩ ∧ hreadO W.heap[b]? (o + i * 10) 10 = some a.cells.toArray := by
    intro i
    by_cases hi : i < n
    · obtain ⟨b, o, xs, e, s, c⟩ := q i hi
      obtain ⟨a, rfl, fit⟩ := act_of2 s
      exact ⟨a, fun _ => ⟨fit, b, o, e, hreadO_of rfl (by omega) fun j hj => by rw [Nat.add_assoc]; exact c j hj⟩⟩
    · exact ⟨⟨0, 0, ⟨0, 0, 0, false⟩, 0, 0, 0, 0⟩, fun h => absurd h hi⟩
  obtain ⟨A, hA⟩ := Classical.axiomOfChoice this
  exact ⟨sl, n, cap, A, rfl, hn, hA⟩
end Go.Eng
