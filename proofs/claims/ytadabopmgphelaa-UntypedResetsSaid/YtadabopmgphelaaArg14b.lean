/-
  Layer 14: a list of bytes as an argument.
-/
import Derived.Test.YtadabopmgphelaaUnt10
import Derived.Test.YtadabopmgphelaaArg14
namespace Go.Eng
set_option linter.unusedSimpArgs false
set_option linter.unusedVariables false
open Go Go.Proofs
theorem i64_fit {n : Int} (h : (Lit.int .i64 n).wf = true) : -9223372036854775808 ≤ n ∧ n ≤ 9223372036854775807 := by
  simp only [Lit.wf, Bool.and_eq_true, decide_eq_true_eq] at h
  rw [i64_min, i64_max] at h
  exact h
theorem u8_min : IntKind.u8.min = 0 := by decide
theorem u8_max : IntKind.u8.max = 255 := by decide
set_option maxRecDepth 100000 in
theorem bytes_open {H : Type} {enc : TypeId × Value → H} {W : World} {r : Reach} {b0 base : Nat} {spare : Nat → Bool} {held : Bool} {v : Value} {x : DataW H} {p : List MemPlace}
    (hv : Value.okWide Try.prog W r b0 40 v) (hd : DataW.Trod enc Try.prog W base spare held 40 v x p) : ∃ sl n cap B, v = .slice sl n cap ∧ BytesAt W.heap sl n B := by
  obtain ⟨sl, n, cap, rfl, -, hn, q⟩ := slice_open (d := 6) (row := [.int .u8]) Try.underlying40 hv hd (by kernel_rfl) (by decide)
  have : ∀ i, ∃ a : Int, i < n → (0 ≤ a ∧ a < 256) ∧ ∃ b o, sl = some ⟨b, o, none⟩ ∧ hcellO W.heap[b]? (o + i) = some (.int .u8 a) := by
    intro i
    by_cases hi : i < n
    · obtain ⟨b, o, xs, e, s, c⟩ := q i hi
      obtain ⟨v1, xs, rfl, q1, s⟩ := shpL_cons s
      obtain ⟨a, rfl, b1, b2⟩ := shp_int q1
      rw [u8_min] at b1
      rw [u8_max] at b2
      have := c 0 (by decide)
      simp only [List.length_cons, List.length_nil, Nat.mul_one, Nat.add_zero] at this
      exact ⟨a, fun _ => ⟨⟨b1, by omega⟩, b, o, e, by simpa using this⟩⟩
    · exact ⟨0, fun h => absurd h hi⟩
  obtain ⟨A, hA⟩ := Classical.axiomOfChoice this
  exact ⟨sl, n, cap, A, rfl, hn, hA⟩
end Go.Eng
