/-
  Layer 12: the arguments of its laws, as they are met.
-/
import Derived.Test.YtlkofpoginokbaaCsq5
import Derived.Test.YtlkofpoginokbaaEng11
namespace Go.Eng
set_option linter.unusedSimpArgs false
set_option linter.unusedVariables false
set_option maxRecDepth 16000
set_option maxHeartbeats 4000000
open Go Go.Proofs
def capRow : List CK := [.int .i64, .int .i64, .int .i64, .int .i64, .int .i64, .int .i64, .int .i64, .bool]
theorem i64_min : IntKind.i64.min = -9223372036854775808 := by decide
theorem i64_max : IntKind.i64.max = 9223372036854775807 := by decide
theorem u32_min : IntKind.u32.min = 0 := by decide
theorem u32_max : IntKind.u32.max = 4294967295 := by decide
theorem lit_bd {k : IntKind} {a : Int} (h : (Lit.int k a).wf = true) : k.min ≤ a ∧ a ≤ k.max := by
  unfold Lit.wf at h
  simpa using h
theorem lit_u32 {a : Int} (h : (Lit.int .u32 a).wf = true) : 0 ≤ a ∧ a ≤ 4294967295 := by
  have := lit_bd h
  rwa [u32_min, u32_max] at this
theorem lit_i64 {a : Int} (h : (Lit.int .i64 a).wf = true) : i64ok a := by
  have := lit_bd h
  rwa [i64_min, i64_max] at this
theorem cap_of {h : Heap} {d : Nat} {ys : List CK} {xs : List Value} (p0 : shpL h d (capRow ++ ys) xs) : ∃ (c : Cap) (zs : List Value), xs = c.cells ++ zs ∧ c.fit ∧ shpL h d ys zs := by
  obtain ⟨v1, x1, e1, q1, p1⟩ := shpL_cons p0
  obtain ⟨v2, x2, e2, q2, p2⟩ := shpL_cons p1
  obtain ⟨v3, x3, e3, q3, p3⟩ := shpL_cons p2
  obtain ⟨v4, x4, e4, q4, p4⟩ := shpL_cons p3
  obtain ⟨v5, x5, e5, q5, p5⟩ := shpL_cons p4
  obtain ⟨v6, x6, e6, q6, p6⟩ := shpL_cons p5
  obtain ⟨v7, x7, e7, q7, p7⟩ := shpL_cons p6
  obtain ⟨v8, x8, e8, q8, p8⟩ := shpL_cons p7
  obtain ⟨a1, rfl, b1⟩ := shp_int q1
  obtain ⟨a2, rfl, b2⟩ := shp_int q2
  obtain ⟨a3, rfl, b3⟩ := shp_int q3
  obtain ⟨a4, rfl, b4⟩ := shp_int q4
  obtain ⟨a5, rfl, b5⟩ := shp_int q5
  obtain ⟨a6, rfl, b6⟩ := shp_int q6
  obtain ⟨a7, rfl, b7⟩ := shp_int q7
  obtain ⟨a8, rfl⟩ := shp_bool q8
  rw [i64_min, i64_max] at b1 b2 b3 b4 b5 b6 b7
  exact ⟨⟨a1, a2, a3, a4, a5, a6, a7, a8⟩, x8, by rw [e1, e2, e3, e4, e5, e6, e7, e8]; rfl, ⟨b1, b2, b3, b4, b5, b6, b7⟩, p8⟩
set_option maxRecDepth 100000 in
theorem cap_open {H : Type} {enc : TypeId × Value → H} {W : World} {r : Reach} {b0 base : Nat} {spare : Nat → Bool} {held : Bool} {v : Value} {x : DataW H} {p : List MemPlace}
    (hv : Value.okWide Try.prog W r b0 24 v) (hd : DataW.Trod enc Try.prog W base spare held 24 v x p) : ∃ c : Cap, v = .agg c.cells.toArray ∧ c.fit := by
  obtain ⟨cs, rfl, q⟩ := struct_shpL (d := 6) (row := capRow) Try.underlying24 hv hd (by kernel_rfl)
  obtain ⟨c, zs, rfl, hf, q⟩ := cap_of (ys := []) q
  obtain rfl := shpL_nil q
  exact ⟨c, by rw [List.append_nil], hf⟩
set_option maxRecDepth 100000 in
theorem ref_open {H : Type} {enc : TypeId × Value → H} {W : World} {r : Reach} {b0 base : Nat} {spare : Nat → Bool} {held : Bool} {v : Value} {x : DataW H} {p : List MemPlace}
    (hv : Value.okWide Try.prog W r b0 27 v) (hd : DataW.Trod enc Try.prog W base spare held 27 v x p) : ∃ a b : Int, v = .agg #[.int .i64 a, .int .i64 b] ∧ i64ok a ∧ i64ok b := by
  obtain ⟨cs, rfl, q⟩ := struct_shpL (d := 6) (row := [.int .i64, .int .i64]) Try.underlying27 hv hd (by kernel_rfl)
  obtain ⟨v1, xs, rfl, q1, q⟩ := shpL_cons q
  obtain ⟨v2, xs, rfl, q2, q⟩ := shpL_cons q
  obtain rfl := shpL_nil q
  obtain ⟨a1, rfl, b1⟩ := shp_int q1
  obtain ⟨a2, rfl, b2⟩ := shp_int q2
  rw [i64_min, i64_max] at b1 b2
  exact ⟨a1, a2, rfl, b1, b2⟩
def cactRow : List CK := [.int .i64, .int .i64, .int .i64, .int .i64, .int .i64] ++ (capRow ++ [.int .u32, .int .i64])
theorem cact_of {h : Heap} {d : Nat} {xs : List Value} (q : shpL h d cactRow xs) : ∃ a : CAct, xs = a.cells ∧ a.fit := by
  obtain ⟨v1, xs, rfl, q1, q⟩ := shpL_cons q
  obtain ⟨v2, xs, rfl, q2, q⟩ := shpL_cons q
  obtain ⟨v3, xs, rfl, q3, q⟩ := shpL_cons q
  obtain ⟨v4, xs, rfl, q4, q⟩ := shpL_cons q
  obtain ⟨v5, xs, rfl, q5, q⟩ := shpL_cons q
  obtain ⟨c, xs, rfl, hf, q⟩ := cap_of q
  obtain ⟨v6, xs, rfl, q6, q⟩ := shpL_cons q
  obtain ⟨v7, xs, rfl, q7, q⟩ := shpL_cons q
  obtain rfl := shpL_nil q
  obtain ⟨a1, rfl, -⟩ := shp_int q1
  obtain ⟨a2, rfl, -⟩ := shp_int q2
  obtain ⟨a3, rfl, -⟩ := shp_int q3
  obtain ⟨a4, rfl, -⟩ := shp_int q4
  obtain ⟨a5, rfl, -⟩ := shp_int q5
  obtain ⟨a6, rfl, b6⟩ := shp_int q6
  obtain ⟨a7, rfl, b7⟩ := shp_int q7
  rw [u32_min, u32_max] at b6
  rw [i64_min, i64_max] at b7
  exact ⟨⟨a1, a2, a3, a4, a5, c, a6, a7⟩, rfl, hf, b6, b7⟩
set_option maxRecDepth 100000 in
theorem cacts_open {H : Type} {enc : TypeId × Value → H} {W : World} {r : Reach} {b0 base : Nat} {spare : Nat → Bool} {held : Bool} {v : Value} {x : DataW H} {p : List MemPlace}
    (hv : Value.okWide Try.prog W r b0 22 v) (hd : DataW.Trod enc Try.prog W base spare held 22 v x p) : ∃ sl n cap A, v = .slice sl n cap ∧ ActsC W.heap sl n A := by
  obtain ⟨sl, n, cap, rfl, -, hn, q⟩ := slice_open (d := 6) (row := cactRow) Try.underlying22 hv hd (by kernel_rfl) (by decide)
  have : ∀ i, ∃ a : CAct, i < n → a.fit ∧ ∃ b o, sl = some ⟨b, o, none⟩ ∧ hreadO W.heap[b]? (o + i * 15) 15 = some a.cells.toArray := by
    intro i
    by_cases hi : i < n
    · obtain ⟨b, o, xs, e, s, c⟩ := q i hi
      obtain ⟨a, rfl, fit⟩ := cact_of s
      exact ⟨a, fun _ => ⟨fit, b, o, e, hreadO_of rfl (by omega) fun j hj => by rw [Nat.add_assoc]; exact c j hj⟩⟩
    · exact ⟨⟨0, 0, 0, 0, 0, Cap.zero, 0, 0⟩, fun h => absurd h hi⟩
  obtain ⟨A, hA⟩ := Classical.axiomOfChoice this
  exact ⟨sl, n, cap, A, rfl, hn, hA⟩
end Go.Eng
