/-
  Layer 9: worlds and states as arguments.
-/
import Derived.Test.YtpmmbmmopbmopaaGreatDoorZj21
import Derived.Test.YtpmmbmmopbmopaaGreatDoorZj19
namespace Go.Eng
set_option linter.unusedSimpArgs false
set_option linter.unusedVariables false
set_option maxRecDepth 16000
set_option maxHeartbeats 4000000
open Go Go.Proofs
theorem hcellO_some {h : Heap} {b o : Nat} {v : Value} (e : hcellO h[b]? o = some v) : b < h.size := by
  by_cases q : b < h.size
  · exact q
  · rw [Array.getElem?_eq_none (by omega)] at e
    cases e
theorem rdL_of {α : Type} {enc : α → List Value} {sz n cap : Nat} {sl : Option Addr} {h : Heap} {Q : α → Prop}
    (H : ∀ i, i < n → ∃ (b o : Nat) (x : α), sl = some ⟨b, o, none⟩ ∧ b < h.size ∧ Q x ∧ ∀ j, j < sz → hcellO h[b]? (o + (i * sz + j)) = (enc x)[j]?) : ∃ L : List α, rdL enc sz h (.slice sl n cap) L ∧ ∀ x ∈ L, Q x := by
  have : ∀ i : Fin n, ∃ x : α, ∃ b o : Nat, sl = some ⟨b, o, none⟩ ∧ b < h.size ∧ Q x ∧ ∀ j, j < sz → hcellO h[b]? (o + (i.1 * sz + j)) = (enc x)[j]? := fun i => by
    obtain ⟨b, o, x, q⟩ := H i.1 i.2
    exact ⟨x, b, o, q⟩
  obtain ⟨G, hG⟩ := Classical.axiomOfChoice this
  refine ⟨List.ofFn G, ⟨sl, cap, by rw [List.length_ofFn], fun i hi => ?_⟩, fun x hx => ?_⟩
  · have hi2 : i < n := by simpa using hi
    obtain ⟨b, o, e1, e2, -, e3⟩ := hG ⟨i, hi2⟩
    refine ⟨b, o, e1, e2, fun j hj => ?_⟩
    rw [e3 j hj, List.getElem_ofFn]
  · obtain ⟨i, rfl⟩ := (List.mem_ofFn).1 hx
    obtain ⟨b, o, e1, e2, e, e3⟩ := hG i
    exact e
set_option maxRecDepth 100000 in
theorem cpu_open {H : Type} {enc : TypeId × Value → H} {W : World} {r : Reach} {b0 base : Nat} {spare : Nat → Bool} {held : Bool} {v : Value} {x : DataW H} {p : List MemPlace}
    (hv : Value.okWide Tryz.prog W r b0 48 v) (hd : DataW.Trod enc Tryz.prog W base spare held 48 v x p) : ∃ c : Cp, v = .agg c.cells.toArray ∧ c.fit := by
  obtain ⟨cs, rfl, q⟩ := struct_shpL (d := 6) (row := List.replicate 16 (.int .u32) ++ .int .i64 :: (List.replicate 8 (.int .u32) ++ [])) Tryz.underlying48 hv hd (by kernel_rfl)
  obtain ⟨L, r, rfl, l, hb, k1⟩ := shpL_ints q
  obtain ⟨v1, xs, rfl, q1, k2⟩ := shpL_cons k1
  obtain ⟨a1, rfl, b1⟩ := shp_int q1
  obtain ⟨S, r, rfl, l2, hb2, k3⟩ := shpL_ints k2
  obtain rfl := shpL_nil k3
  rw [i64_min, i64_max] at b1
  rw [u32_min, u32_max] at hb hb2
  refine ⟨⟨L, a1, S⟩, by simp [Cp.cells], ⟨l, l2, fun x hx => ?_, fun x hx => ?_, b1.1, b1.2⟩⟩
  · have := hb x hx; omega
  · have := hb2 x hx; omega
set_option maxRecDepth 100000 in
theorem world_open {H : Type} {enc : TypeId × Value → H} {W : World} {r : Reach} {b0 base : Nat} {spare : Nat → Bool} {held : Bool} {v : Value} {x : DataW H} {p : List MemPlace}
    (hv : Value.okWide Tryz.prog W r b0 44 v) (hd : DataW.Trod enc Tryz.prog W base spare held 44 v x p) :
    ∃ v1 v2 g vm se P L, v = .agg #[v1, v2, .bool g, .int .i64 vm, .int .i64 se] ∧ rdL PutP.cells 6 W.heap v1 P ∧ rdL WordP.cells 2 W.heap v2 L ∧ (∀ x ∈ L, 0 ≤ x.w ∧ x.w < 4294967296) ∧ i64ok vm ∧ i64ok se := by
  obtain ⟨cs, rfl, q⟩ := struct_shpL (d := 8) (row := [.slice [.int .i64, .int .i64, .bool, .bool, .int .i64, .int .i64], .slice [.int .i64, .int .u32], .bool, .int .i64, .int .i64]) Tryz.underlying44 hv hd (by kernel_rfl)
  obtain ⟨v1, xs, rfl, q1, q⟩ := shpL_cons q
  obtain ⟨v2, xs, rfl, q2, q⟩ := shpL_cons q
  obtain ⟨v3, xs, rfl, q3, q⟩ := shpL_cons q
  obtain ⟨v4, xs, rfl, q4, q⟩ := shpL_cons q
  obtain ⟨v5, xs, rfl, q5, q⟩ := shpL_cons q
  obtain rfl := shpL_nil q
  obtain ⟨g, rfl⟩ := shp_bool q3
  obtain ⟨vm, rfl, b4⟩ := shp_int q4
  obtain ⟨se, rfl, b5⟩ := shp_int q5
  obtain ⟨sl1, n1, c1, rfl, -, -, k1⟩ := shp_slice (by decide) q1
  obtain ⟨sl2, n2, c2, rfl, -, -, k2⟩ := shp_slice (by decide) q2
  rw [i64_min, i64_max] at b4 b5
  obtain ⟨P, hP, -⟩ := rdL_of (enc := PutP.cells) (sz := 6) (n := n1) (cap := c1) (sl := sl1) (h := W.heap) (Q := fun _ => True) fun i hi => by
    obtain ⟨b, o, xs, rfl, s, e⟩ := k1 i hi
    obtain ⟨a1, xs, rfl, t1, s⟩ := shpL_cons s
    obtain ⟨a2, xs, rfl, t2, s⟩ := shpL_cons s
    obtain ⟨a3, xs, rfl, t3, s⟩ := shpL_cons s
    obtain ⟨a4, xs, rfl, t4, s⟩ := shpL_cons s
    obtain ⟨a5, xs, rfl, t5, s⟩ := shpL_cons s
    obtain ⟨a6, xs, rfl, t6, s⟩ := shpL_cons s
    obtain rfl := shpL_nil s
    obtain ⟨a1, rfl, -⟩ := shp_int t1
    obtain ⟨a2, rfl, -⟩ := shp_int t2
    obtain ⟨a3, rfl⟩ := shp_bool t3
    obtain ⟨a4, rfl⟩ := shp_bool t4
    obtain ⟨a5, rfl, -⟩ := shp_int t5
    obtain ⟨a6, rfl, -⟩ := shp_int t6
    exact ⟨b, o, ⟨a1, a2, ⟨a3, a4, a5, a6⟩⟩, rfl, hcellO_some (e 0 (by decide)), trivial, e⟩
  obtain ⟨L, hL, hLb⟩ := rdL_of (enc := WordP.cells) (sz := 2) (n := n2) (cap := c2) (sl := sl2) (h := W.heap) (Q := fun x => 0 ≤ x.w ∧ x.w < 4294967296) fun i hi => by
    obtain ⟨b, o, xs, rfl, s, e⟩ := k2 i hi
    obtain ⟨a1, xs, rfl, t1, s⟩ := shpL_cons s
    obtain ⟨a2, xs, rfl, t2, s⟩ := shpL_cons s
    obtain rfl := shpL_nil s
    obtain ⟨a1, rfl, -⟩ := shp_int t1
    obtain ⟨a2, rfl, b2⟩ := shp_int t2
    rw [u32_min, u32_max] at b2
    exact ⟨b, o, ⟨a1, a2⟩, rfl, hcellO_some (e 0 (by decide)), ⟨b2.1, by simp only; omega⟩, e⟩
  exact ⟨_, _, g, vm, se, P, L, rfl, hP, hL, hLb, b4, b5⟩
end Go.Eng
