/-
  THE ENGINE: delete, for maps keyed by int.
-/
import Derived.Test.YtaijcllgdlalpaaGreatDoorZj3
import Derived.Test.YtaijcllgdlalpaaGreatDoorZj11
import Derived.Test.YtaijcllgdlalpaaGreatDoorZj8
import Derived.Test.YtaijcllgdlalpaaGreatDoorZj16
set_option linter.unusedSimpArgs false
set_option linter.unusedVariables false
set_option maxRecDepth 16000
set_option maxHeartbeats 4000000
namespace Go.Eng
open Go
section
variable {h : Heap}
theorem MapIs.delete {P : Program} {r : Nat} {es : Array MapEntry} {clk : Nat} {t kt et u : TypeId} {q : IntKind} (hm : MapIs h r es clk) (ht : P.underlying t = some (.map kt et)) (hk : P.underlying kt = some (.int q)) {k : Int} {t2 : TypeId} {K : Value → Heap → Prop}
    (hK : ∀ es', MapIs (h.setIfInBounds r (.map es' clk)) r es' clk → (∀ j, mapOf es' j = if j = k then none else mapOf es j) → K (.tuple #[]) (h.setIfInBounds r (.map es' clk))) :
    runH P (iDelete #[t, t2] u #[.map (some r), .int .i64 k]) h K := by
  have hlt := lt_of_get hm.at_
  unfold iDelete Builtin.delete_
  simp only [List.getElem?_toArray, List.getElem?_cons_zero, List.getElem?_cons_succ]
  rw [runH_bind, runH_underlying ht]
  try simp only
  rw [runH_bind, runH_of_runD _ (runD_getObj hm.at_ (by simp))]
  try simp only
  rw [runH_bind, runH_of_runD _ (runD_checkKey_int hk)]
  rw [runH_bind, runH_of_runD _ (runD_findKey hk hm.keys)]
  have hset : ∀ (o : Obj) (K : Unit → Heap → Prop), (∀ c e f, o ≠ .cells c e f) → runH P (setObj r o) h K = K () (h.setIfInBounds r o) := fun o K _ => by
    simp only [setObj, runH, hm.at_]
  have hget : ∀ es' : Array MapEntry, (h.setIfInBounds r (.map es' clk))[r]? = some (.map es' clk) := fun es' => by simp [hlt]
  cases hf : es.toList.findIdx? (fun e => keyI e == some k) with
  | none =>
    simp only [Option.bind_none]
    rw [runH_bind, hset _ _ (by simp)]
    have hno : ∀ e ∈ es.toList, keyI e ≠ some k := by simpa using hf
    refine hK es ⟨hget es, hm.keys, hm.nodup, hm.stamps, hm.old⟩ fun j => ?_
    by_cases hj : j = k
    · subst hj
      rw [if_pos rfl]
      unfold mapOf findI
      rw [List.find?_eq_none.2 (by simpa using hno)]; rfl
    · rw [if_neg hj]
  | some i =>
    obtain ⟨hi, hki, -⟩ := List.findIdx?_eq_some_iff_getElem.1 hf
    simp only [Option.bind_some, List.getElem?_eq_getElem hi, Option.map_some]
    rw [runH_bind, hset _ _ (by simp)]
    have hl : (es.eraseIdxIfInBounds i).toList = es.toList.eraseIdx i := by
      have hi' : i < es.size := by simpa using hi
      rw [Array.eraseIdxIfInBounds, dif_pos hi', Array.toList_eraseIdx]
    have hsub : (es.toList.eraseIdx i).Sublist es.toList := List.eraseIdx_sublist _ _
    refine hK _ ⟨hget _, ?_, ?_, ?_, ?_⟩ fun j => ?_
    · rw [hl]; exact fun e he => hm.keys e (hsub.subset he)
    · rw [hl]; exact hm.nodup.sublist (hsub.map _)
    · rw [hl]; exact hm.stamps.sublist (hsub.map _)
    · rw [hl]; exact fun e he => hm.old e (hsub.subset he)
    · unfold mapOf
      rw [hl]
      have hn := hm.nodup
      have hki' : keyI es.toList[i] = some k := by simpa using hki
      clear hf hm hK hget hset hl hsub
      generalize es.toList = l at *
      have key : ∀ (l : List MapEntry) (i : Nat) (hi : i < l.length), keyI l[i] = some k → (l.map keyI).Nodup → findI (l.eraseIdx i) j = if j = k then none else findI l j := by
        intro l
        induction l with
        | nil => intro i hi; simp at hi
        | cons e l ih =>
          intro i hi hk hn
          simp only [List.map_cons, List.nodup_cons] at hn
          cases i with
          | zero =>
            simp only [List.getElem_cons_zero] at hk
            simp only [List.eraseIdx_cons_zero]
            by_cases hj : j = k
            · subst hj
              rw [if_pos rfl]
              unfold findI
              rw [List.find?_eq_none]
              intro x hx
              simp only [beq_iff_eq]
              intro hx2
              exact hn.1 (by rw [hk]; exact List.mem_map.2 ⟨x, hx, hx2⟩)
            · rw [if_neg hj]
              unfold findI
              rw [List.find?_cons]
              have : (keyI e == some j) = false := by rw [hk]; simpa using fun z => hj z.symm
              rw [this]
          | succ i =>
            simp only [List.getElem_cons_succ] at hk
            simp only [List.eraseIdx_cons_succ]
            have hi' : i < l.length := by simpa using hi
            have := ih i hi' hk hn.2
            unfold findI at this ⊢
            rw [List.find?_cons, List.find?_cons, this]
            cases hc : keyI e == some j with
            | false => rfl
            | true =>
              by_cases hj : j = k
              · subst hj
                exfalso
                have : keyI e = some j := by simpa using hc
                exact hn.1 (by rw [this, ← hk]; exact List.mem_map.2 ⟨_, List.getElem_mem hi', rfl⟩)
              · simp only [if_neg hj]
      rw [key l i hi hki' hn]
      split <;> rfl

end
section
variable {P : Program} {h : Heap} {t kt et : TypeId} {m r : Nat} {es : Array MapEntry} {clk : Nat}
theorem runH_range {K : Value → Heap → Prop} (ht : P.underlying t = some (.map kt et)) (hm : h[m]? = some (.map es clk)) :
    runH P (iRange t (.map (some m))) h K = K (.pointer (some ⟨h.size, 0, none⟩)) (h.push (.mapIter (some m) clk #[] clk)) := by
  unfold iRange Instr.range
  rw [runH_bind, runH_underlying ht]
  try simp only
  rw [runH_bind, runH_of_runD _ (runD_getObj hm (by simp))]
  rfl
theorem runH_next {ty : TypeId} {seen : Array Nat} {K : Value → Heap → Prop} (hr : h[r]? = some (.mapIter (some m) clk seen clk)) (hm : h[m]? = some (.map es clk)) (hold : ∀ e ∈ es.toList, e.born < clk)
    (h0 : (∀ e ∈ es.toList, e.born ∈ seen.toList) → K (.tuple #[.bool false]) h)
    (h1 : ∀ e ∈ es.toList, e.born ∉ seen.toList → K (.tuple #[.bool true, e.key, e.val]) (h.setIfInBounds r (.mapIter (some m) clk (seen.push e.born) clk))) :
    runH P (iNext (.pointer (some ⟨r, 0, none⟩)) false ty) h K := by
  unfold iNext Instr.next
  try simp only
  rw [runH_bind, runH_of_runD _ (runD_getObj hr (by simp))]
  try simp only
  rw [runH_bind, runH_of_runD _ (runD_getObj hm (by simp))]
  try simp only
  have hset : ∀ (o : Obj) (K : Unit → Heap → Prop), (∀ c e f, o ≠ .cells c e f) → runH P (setObj r o) h K = K () (h.setIfInBounds r o) := fun o K _ => by
    simp only [setObj, runH, hr]
  have g : (!seen.isEmpty && !es.isEmpty && es.all fun x => decide (x.born ≥ clk)) = false := by
    by_cases he : es.isEmpty = true
    · simp [he]
    · have hz : 0 < es.size := by
        rw [Array.isEmpty_iff_size_eq_zero] at he; omega
      have : (es.all fun x => decide (x.born ≥ clk)) = false := by
        rw [← Bool.not_eq_true, Array.all_eq_true]
        intro q
        have q0 := q 0 hz
        have := hold es[0] (by simp)
        simp only [ge_iff_le, decide_eq_true_eq] at q0
        omega
      rw [this]; simp
  rw [if_neg (by rw [g]; simp)]
  have hnew : (es.filter fun e => !seen.contains e.born).filter (fun e => decide (e.born ≥ clk)) = #[] := by
    rw [Array.filter_eq_empty_iff]
    intro e he
    rw [Array.mem_filter] at he
    have := hold e (by simpa using he.1)
    simp only [ge_iff_le, decide_eq_true_eq]
    omega
  have hold2 : (es.filter fun e => !seen.contains e.born).filter (fun e => decide (e.born < clk)) = es.filter fun e => !seen.contains e.born := by
    rw [Array.filter_eq_self]
    intro e he
    rw [Array.mem_filter] at he
    have := hold e (by simpa using he.1)
    simpa using this
  rw [hnew, hold2]
  have hmem : ∀ e, e ∈ es.filter (fun e => !seen.contains e.born) ↔ e ∈ es.toList ∧ e.born ∉ seen.toList := by
    intro e
    rw [Array.mem_filter]
    simp
  generalize es.filter (fun e => !seen.contains e.born) = left at hmem ⊢
  rw [runH_bind]
  unfold choose
  by_cases hl : left.isEmpty = true
  · have : left = #[] := by simpa using hl
    subst this
    simp only [Array.isEmpty_empty, if_true, Array.append_empty, Array.map_empty, List.size_toArray, List.length_cons, List.length_nil]
    simp only [runH]
    rw [if_pos (by rfl)]
    simp only [List.getElem?_toArray, List.getElem?_cons_zero]
    refine h0 fun e he => ?_
    refine Classical.byContradiction fun q => ?_
    exact absurd ((hmem e).2 ⟨he, q⟩) (by simp)
  · have hz : 0 < left.size := by
      rw [Array.isEmpty_iff_size_eq_zero] at hl; omega
    have hone : ∀ i, i < left.size → runH P (match ((if left.isEmpty = true then #[none] else #[]) ++ (left ++ #[]).map some)[i]? with
        | some (some e) => do
          setObj r (.mapIter (some m) clk (seen.push e.born) clk)
          pure (.tuple #[.bool true, e.key, e.val])
        | some none => pure (.tuple #[.bool false])
        | none => stuck "Next: no such candidate") h K := by
      intro i hi
      rw [if_neg hl]
      have : (#[] ++ (left ++ #[]).map some)[i]? = some (some left[i]) := by simp [hi]
      rw [this]
      try simp only
      rw [runH_bind, hset _ _ (by simp)]
      have hm := (hmem left[i]).1 (Array.getElem_mem hi)
      exact h1 _ hm.1 hm.2
    have hsz : ((if left.isEmpty = true then #[none] else #[]) ++ (left ++ #[]).map some).size = left.size := by rw [if_neg hl]; simp
    simp only [runH, hsz]
    by_cases hf : (Question.mapNext left.size).forced = true
    · rw [if_pos hf]
      exact hone 0 hz
    · rw [if_neg hf]
      intro tp
      exact hone _ (Nat.mod_lt _ hz)
theorem runD_entry {seen : Array Nat} {e : MapEntry} (hr : h[r]? = some (.mapIter (some m) clk (seen.push e.born) clk)) (hm : h[m]? = some (.map es clk)) (hn : (es.toList.map (·.born)).Nodup) (he : e ∈ es.toList) :
    runD P (iEntry (.pointer (some ⟨r, 0, none⟩))) h = some (.tuple #[e.key, e.val]) := by
  unfold iEntry Instr.entry
  try simp only
  rw [runD_bind, runD_getObj hr (by simp)]
  simp only [Option.bind_some, Array.back?_push]
  rw [runD_bind, runD_getObj hm (by simp)]
  simp only [Option.bind_some]
  have hf : es.find? (fun x => x.born == e.born) = some e := by
    rw [← Array.find?_toList]
    generalize es.toList = l at hn he
    clear hm
    induction l with
    | nil => cases he
    | cons x l ih =>
      rw [List.find?_cons]
      simp only [List.map_cons, List.nodup_cons] at hn
      rcases List.mem_cons.1 he with rfl | he
      · simp
      · have : (x.born == e.born) = false := by
          simp only [beq_eq_false_iff_ne, ne_eq]
          intro q
          exact hn.1 (List.mem_map.2 ⟨e, he, q.symm⟩)
        rw [this]
        exact ih hn.2 he
  simp only [hf, bne_self_eq_false, Bool.false_eq_true, if_false]
  rfl
end
end Go.Eng
/-
  THE ENGINE: maps keyed by int whose values are pairs; rounds over a map.
-/
namespace Go.Eng
open Go
theorem iter_left {es done rest : List MapEntry} (hp : (done ++ rest).Perm es) {e : MapEntry} (he : e ∈ es) (hb : e.born ∉ done.map (·.born)) : ∃ rest', ((done ++ [e]) ++ rest').Perm es := by
  have h1 : e ∈ done ++ rest := hp.symm.subset he
  rcases List.mem_append.1 h1 with h | h
  · exact (hb (List.mem_map.2 ⟨e, h, rfl⟩)).elim
  · obtain ⟨A, B, rfl⟩ := List.append_of_mem h
    refine ⟨A ++ B, List.Perm.trans ?_ hp⟩
    rw [List.append_assoc]
    refine List.Perm.append_left _ ?_
    simpa using (List.perm_middle (a := e) (l₁ := A) (l₂ := B)).symm
theorem iter_done {es done rest : List MapEntry} (hp : (done ++ rest).Perm es) (hn : (es.map (·.born)).Nodup) (h : ∀ e ∈ es, e.born ∈ done.map (·.born)) : rest = [] := by
  cases rest with
  | nil => rfl
  | cons e rest =>
    exfalso
    have h1 : e ∈ es := hp.subset (by simp)
    have h2 := h e h1
    have h3 : ((done ++ e :: rest).map (·.born)).Nodup := (hp.map _).nodup_iff.2 hn
    rw [List.map_append, List.map_cons] at h3
    have := (List.nodup_append.1 h3).2.2 _ h2 e.born (by simp)
    exact this rfl
theorem mapOf_mem {es : Array MapEntry} (hn : (es.toList.map keyI).Nodup) {e : MapEntry} {k : Int} (he : e ∈ es.toList) (hk : keyI e = some k) : mapOf es k = some e.val := by
  unfold mapOf findI
  generalize es.toList = l at *
  have : l.find? (fun e => keyI e == some k) = some e := by
    induction l with
    | nil => cases he
    | cons x l ih =>
      rw [List.find?_cons]
      simp only [List.map_cons, List.nodup_cons] at hn
      rcases List.mem_cons.1 he with rfl | he
      · rw [hk]; simp
      · have : (keyI x == some k) = false := by
          simp only [beq_eq_false_iff_ne, ne_eq]
          intro q
          exact hn.1 (List.mem_map.2 ⟨e, he, by rw [hk, q]⟩)
        rw [this]
        exact ih hn.2 he
  rw [this]; rfl
theorem mapOf_has {es : Array MapEntry} {k : Int} {v : Value} (h : mapOf es k = some v) : ∃ e ∈ es.toList, keyI e = some k ∧ e.val = v := by
  unfold mapOf at h
  cases hf : findI es.toList k with
  | none => rw [hf] at h; cases h
  | some e =>
    rw [hf] at h
    unfold findI at hf
    exact ⟨e, List.mem_of_find?_eq_some hf, by simpa using List.find?_some hf, by simpa using h⟩
def howV (x : Int × Bool) : Value := .agg #[.int .i64 x.1, .bool x.2]
/-- A map of pairs in memory. -/
structure mapO (es : Array MapEntry) (clk : Nat) (f : Int → Option (Int × Bool)) : Prop where
  keys : intKeys es
  nodup : (es.toList.map keyI).Nodup
  stamps : (es.toList.map (·.born)).Nodup
  old : ∀ e ∈ es.toList, e.born < clk
  val : ∀ k, mapOf es k = (f k).map howV
theorem mapO.is {es : Array MapEntry} {clk : Nat} {f : Int → Option (Int × Bool)} (o : mapO es clk f) {h : Heap} {r : Nat} (g : h[r]? = some (.map es clk)) : MapIs h r es clk := ⟨g, o.keys, o.nodup, o.stamps, o.old⟩
theorem mapO.of {es : Array MapEntry} {clk : Nat} {f : Int → Option (Int × Bool)} {h : Heap} {r : Nat} (m : MapIs h r es clk) (v : ∀ k, mapOf es k = (f k).map howV) : mapO es clk f := ⟨m.keys, m.nodup, m.stamps, m.old, v⟩
theorem mapO.nil {c : Nat} : mapO #[] c (fun _ => none) := ⟨by intro e he; simp at he, by simp, by simp, by simp, fun _ => rfl⟩
theorem mapO.set {es es' : Array MapEntry} {clk clk' : Nat} {f : Int → Option (Int × Bool)} (o : mapO es clk f) {h : Heap} {r : Nat} {k : Int} {x : Int × Bool} (m : MapIs h r es' clk') (v : ∀ j, mapOf es' j = if j = k then some (howV x) else mapOf es j) : mapO es' clk' (setF f k (some x)) := by
  refine mapO.of m fun j => ?_
  rw [v j, o.val j]
  unfold setF
  split <;> rfl
theorem mapO.del {es es' : Array MapEntry} {clk clk' : Nat} {f : Int → Option (Int × Bool)} (o : mapO es clk f) {h : Heap} {r : Nat} {k : Int} (m : MapIs h r es' clk') (v : ∀ j, mapOf es' j = if j = k then none else mapOf es j) : mapO es' clk' (setF f k none) := by
  refine mapO.of m fun j => ?_
  rw [v j, o.val j]
  unfold setF
  split <;> rfl
end Go.Eng
/-
  package vgic: New, SetMask; what stands in memory of a guest's interrupts.
-/
namespace Go.Eng
open Go Go.Proofs
def vgicL (l m a b c : Int) (pm am : Nat) : List Value := [.int .i64 l, .int .i64 m] ++ List.replicate 64 (.bool false) ++ [.map (some pm), .map (some am), .int .i64 a, .int .i64 b, .int .i64 c]
structure Vx where
  l : Int
  a : Int
  b : Int
  c : Int
  pm : Nat
  am : Nat
  e1 : Array MapEntry
  c1 : Nat
  e2 : Array MapEntry
  c2 : Nat
  ty : TypeId
/-- The two maps say what is pending, and what is active. -/
structure Vx.okV (x : Vx) (V : Vg) : Prop where
  ok : V.ok
  p : mapO x.e1 x.c1 V.P
  a : mapO x.e2 x.c2 V.A
/-- What handles a guest's interrupts. -/
def vgicS (vb : Nat) (V : Vg) : SP := exS fun x : Vx => starL [pureS (x.okV V), cellAt vb (.cells (vgicL x.l V.mask x.a x.b x.c x.pm x.am).toArray x.ty (0, 0)), cellAt x.pm (.map x.e1 x.c1), cellAt x.am (.map x.e2 x.c2)]
def vS (vv : Value) (V : Option Vg) : SP := match V with
  | none => pureS (vv = .pointer none)
  | some m => exS fun vb : Nat => starL [pureS (vv = .pointer (some ⟨vb, 0, none⟩)), vgicS vb m]
theorem vS_some {h : Heap} {F : List SP} {vv : Value} {V : Vg} : Sat h (vS vv (some V) :: F) ↔ ∃ (vb : Nat) (x : Vx), vv = .pointer (some ⟨vb, 0, none⟩) ∧ x.okV V ∧ Sat h (cellAt vb (.cells (vgicL x.l V.mask x.a x.b x.c x.pm x.am).toArray x.ty (0, 0)) :: cellAt x.pm (.map x.e1 x.c1) :: cellAt x.am (.map x.e2 x.c2) :: F) := by
  unfold vS
  try simp only
  rw [Sat.ex]
  constructor
  · rintro ⟨vb, hx⟩
    obtain ⟨p, q⟩ := Sat.pure.1 (Sat.star.1 hx)
    unfold vgicS at q
    obtain ⟨x, q⟩ := Sat.ex.1 (show Sat h ((exS fun x : Vx => starL [pureS (x.okV V), cellAt vb (.cells (vgicL x.l V.mask x.a x.b x.c x.pm x.am).toArray x.ty (0, 0)), cellAt x.pm (.map x.e1 x.c1), cellAt x.am (.map x.e2 x.c2)]) :: F) from q)
    obtain ⟨p2, q⟩ := Sat.pure.1 (Sat.star.1 q)
    exact ⟨vb, x, p, p2, q⟩
  · rintro ⟨vb, x, p, p2, q⟩
    refine ⟨vb, Sat.star.2 (Sat.pure.2 ⟨p, ?_⟩)⟩
    unfold vgicS
    exact Sat.ex.2 ⟨x, Sat.star.2 (Sat.pure.2 ⟨p2, q⟩)⟩
theorem vS_none {h : Heap} {F : List SP} {vv : Value} : Sat h (vS vv none :: F) ↔ vv = .pointer none ∧ Sat h F := Sat.pure
theorem bdv {l m : Int} {pm am : Nat} {h : Heap} : runD Tryz.prog (iBuild 148 #[(0, .int .i64 l), (1, .int .i64 m), (3, .map (some pm)), (4, .map (some am))]) h = some (.agg (vgicL l m 0 0 0 pm am).toArray) := by kernel_rfl
section
variable {h : Heap} {F : List SP} {rb n tb xb cb : Nat} {mem : Nat → Int} {T : List Ln} {vr vt vv : Value} {w : Int} {s : Spc} {at_ next : Int} {g : Bool} {ty ty2 : TypeId} {c : Cp} {o : Int} {A B C I : Nat}
theorem vNew_S (hs : Sat h F) : HCalls Tryz.prog 34 #[.int .i64 4] h fun v h' => ∃ vv, v = .tuple #[vv, .int .i64 0] ∧ (∃ a, vv = .pointer (some a)) ∧ Sat h' (vS vv (some vg0) :: F) := by
  refine HCalls.via fun R hR => ?_
  have s1 := ((hs.push (.map #[] 0)).push (.map #[] 0)).push (.cells (vgicL 4 256 0 0 0 h.size (h.size + 1)).toArray 148 (0, 0))
  simp only [size_push'] at s1
  refine HCalls.of_dev T34 Tryz.func34 rfl mixed (by kernel_rfl) ?_; rw [Tryz.results34]
  simp (maxSteps := 2000000) (disch := first | (simp only [go_sem, simprocAttr, bdv] <;> omega) | omega) only [go_sem, simprocAttr, bdv]
  exact hR _ _ ⟨_, rfl, ⟨_, rfl⟩, vS_some.2 ⟨_, ⟨4, 0, 0, 0, h.size, h.size + 1, #[], 0, #[], 0, _⟩, rfl, ⟨vg0_ok, mapO.nil, mapO.nil⟩, s1.swap.front 2 |>.front 2⟩⟩
theorem setMask_S {V : Vg} (hs : Sat h (vS vv (some V) :: F)) (k : Int) (h0 : 0 ≤ k) (h1 : k ≤ 256) : HCalls Tryz.prog 128 #[vv, .int .i64 k] h fun v h' => v = .int .i64 0 ∧ Sat h' (vS vv (some { V with mask := k }) :: F) := by
  refine HCalls.via fun R hR => ?_
  obtain ⟨vb, x, rfl, ok, s⟩ := vS_some.1 hs
  have s1 := s.set (.cells (vgicL x.l k x.a x.b x.c x.pm x.am).toArray x.ty (0, 0))
  have g := s.get
  simp only [vgicL, List.replicate, List.cons_append, List.nil_append] at g
  have k0 : ¬ k < 0 := by omega
  have k1 : ¬ 256 < k := by omega
  refine HCalls.of_dev T128 Tryz.func128 rfl mixed (by kernel_rfl) ?_; rw [Tryz.results128]
  simp (maxSteps := 2000000) (disch := first | (simp only [go_sem, simprocAttr, g, k0, k1] <;> omega) | omega) only [go_sem, simprocAttr, g, k0, k1]
  exact hR _ _ ⟨rfl, vS_some.2 ⟨vb, x, rfl, ⟨⟨ok.ok.p, ok.ok.a, h0, h1⟩, ok.p, ok.a⟩, s1⟩⟩
end
end Go.Eng
/-
  package cpu: msr.
-/
namespace Go.Eng
open Go Go.Proofs
section
variable {h : Heap} {F : List SP} {rb n tb xb cb : Nat} {mem : Nat → Int} {T : List Ln} {vr vt vv : Value} {w : Int} {s : Spc} {at_ next : Int} {g : Bool} {ty ty2 : TypeId} {c : Cp} {o : Int} {A B C I : Nat}
theorem msr_S (f : c.fit) (hB : B < 16) {m : Vg} (hs : Sat h (cellAt xb (.cells (turnL vr vt vv cb ⟨o, A, B, C, I⟩ w s at_ next g).toArray ty (0, 0)) :: cellAt cb (.cells c.cells.toArray ty2 (0, 0)) :: vS vv (some m) :: F)) :
    HCalls Tryz.prog 93 #[.pointer (some ⟨xb, 0, none⟩)] h fun v h' =>
      if 6 ≤ I then v = .agg (⟨7, I, c.Pc, okF⟩ : Trp).cells.toArray ∧ Sat h' (cellAt xb (.cells (turnL vr vt vv cb ⟨o, A, B, C, I⟩ w s at_ next g).toArray ty (0, 0)) :: cellAt cb (.cells c.cells.toArray ty2 (0, 0)) :: vS vv (some m) :: F)
      else v = .agg okT.cells.toArray ∧ Sat h' (cellAt xb (.cells (turnL vr vt vv cb ⟨o, A, B, C, I⟩ w s at_ next g).toArray ty (0, 0)) :: cellAt cb (.cells (setS c I (rg c B)).cells.toArray ty2 (0, 0)) :: vS vv (some (if (I : Int) = 2 then { m with mask := min (rg c B) 256 } else m)) :: F) := by
  refine HCalls.via fun R hR => ?_
  have s1 := hs.push (.cells okT.cells.toArray 56 (0, 0))
  simp only [Trp.cells_eq, okT, okF] at s1
  have g0 := (s1.front 1).get
  have g1 := (s1.front 2).get
  simp only [turnL] at g0
  have n16 : nthL c.cells 16 = some (.int .i64 c.Pc) := by rw [nthL_eq]; exact Cp.pc f
  refine HCalls.of_dev T93 Tryz.func93 rfl mixed (by kernel_rfl) ?_; rw [Tryz.results93]
  by_cases q : 6 ≤ I
  · simp only [if_pos q] at hR
    have q1 : (6 : Int) ≤ I := by omega
    have s3 := hs.push (.cells (⟨7, I, c.Pc, okF⟩ : Trp).cells.toArray 56 (0, 0))
    simp (maxSteps := 2000000) (disch := first | (simp only [go_sem, simprocAttr, g0, g1, n16, s1.get, q1] <;> omega) | omega) only [go_sem, simprocAttr, g0, g1, n16, s1.get, q1]
    exact hR _ _ ⟨rfl, s3.tail⟩
  · simp only [if_neg q] at hR
    have q1 : ¬ (6 : Int) ≤ I := by omega
    have nB : nthL c.cells B = some (.int .u32 (rg c B)) := by rw [nthL_eq]; exact Cp.reg f hB
    have i0 : (0 : Int) ≤ I := by omega
    have i1 : (I : Int) < 8 := by omega
    have b0 : (0 : Int) ≤ B := by omega
    have b1 : (B : Int) < 16 := by omega
    obtain ⟨y0, y1⟩ := rg_bd f (i := B) (by omega) (by omega)
    have l := Cp.len f
    have l1 : 17 + I < c.cells.length := by omega
    have sc := setS_cells f (a := I) (v := rg c B)
    have f2 := setS_fit f (a := I) ⟨y0, y1⟩
    have nB2 : nthL (setS c I (rg c B)).cells B = some (.int .u32 (rg c B)) := by rw [nthL_eq]; exact Cp.reg f2 hB
    have s2 := (s1.front 2).set (.cells (setS c I (rg c B)).cells.toArray ty2 (0, 0))
    have s3 := (s2.front 1).set (.cells okT.cells.toArray 56 (0, 0))
    have g20 := (s2.front 2).get
    have g21 := s2.get
    have g2 := (s2.front 1).get
    have g3 := s3.get
    simp only [Trp.cells_eq, okT, okF, turnL] at g3 g20
    by_cases q2 : (I : Int) = 2
    · simp only [if_pos q2] at hR
      obtain rfl : I = 2 := by omega
      have n2 : ((2 : Nat) : Int) = 2 := rfl
      have l19 : 19 < c.cells.length := l1
      have sc19 : c.cells.set 19 (.int .u32 (rg c B)) = (setS c 2 (rg c B)).cells := sc
      simp only [n2] at nB2 g2 g3 g20 g21 g0
      simp (maxSteps := 2000000) (disch := first | (simp only [go_sem, simprocAttr, g0, g1, nB, n2, b0, b1, l19, sc19, g20, g21, nB2] <;> omega) | omega) only [go_sem, simprocAttr, g0, g1, nB, n2, b0, b1, l19, sc19, g20, g21, nB2]
      refine (setMask_S (s2.front 3) (min (rg c B) 256) (by omega) (by omega)).mono ?_
      rintro v h4 ⟨rfl, s4⟩
      have s5 := (s4.front 2).set (.cells okT.cells.toArray 56 (0, 0))
      simp only [Trp.cells_eq, okT, okF] at s5
      simp (maxSteps := 2000000) (disch := first | (simp only [go_sem, simprocAttr, (s4.front 2).get, s5.get] <;> omega) | omega) only [go_sem, simprocAttr, (s4.front 2).get, s5.get]
      exact hR _ _ ⟨rfl, (s5.tail.back 2).swap⟩
    · simp only [if_neg q2] at hR
      simp (maxSteps := 2000000) (disch := first | (simp only [go_sem, simprocAttr, g0, g1, nB, q1, i0, i1, b0, b1, l1, sc, g2, g3, q2, g20, g21] <;> omega) | omega) only [go_sem, simprocAttr, g0, g1, nB, q1, i0, i1, b0, b1, l1, sc, g2, g3, q2, g20, g21]
      exact hR _ _ ⟨rfl, s3.tail.swap⟩
end
end Go.Eng
/-
  package cpu: branches, jumps, what does nothing.
-/
namespace Go.Eng
open Go Go.Proofs
section
variable {h : Heap} {F : List SP} {rb n tb xb cb : Nat} {mem : Nat → Int} {T : List Ln} {vr vt vv : Value} {w : Int} {s : Spc} {at_ next : Int} {g : Bool} {ty ty2 : TypeId} {c : Cp} {o : Int} {A B C I : Nat}
/-- A question on two numbers. -/
def isS (fid : FuncId) (k : Int → Int → Bool) : Prop := okFn Tryz.prog fid = true ∧ ∀ (h : Heap) (x y : Int), 0 ≤ x → x < 4294967296 → 0 ≤ y → y < 4294967296 → HCalls Tryz.prog fid #[.int .u32 x, .int .u32 y] h fun v h' => v = .bool (k x y) ∧ h' = h
theorem eq_is : isS 85 fun x y => decide (x = y) := by
  refine ⟨by kernel_rfl, fun h x y x0 x1 y0 y1 => ?_⟩
  refine HCalls.via fun R hR => ?_
  refine HCalls.of_dev T85 Tryz.func85 rfl mixed (by kernel_rfl) ?_; rw [Tryz.results85]
  simp (maxSteps := 2000000) (disch := first | (simp only [go_sem, simprocAttr] <;> omega) | omega) only [go_sem, simprocAttr]
  exact hR _ _ ⟨rfl, rfl⟩
theorem ne_is : isS 86 fun x y => !decide (x = y) := by
  refine ⟨by kernel_rfl, fun h x y x0 x1 y0 y1 => ?_⟩
  refine HCalls.via fun R hR => ?_
  refine HCalls.of_dev T86 Tryz.func86 rfl mixed (by kernel_rfl) ?_; rw [Tryz.results86]
  simp (maxSteps := 2000000) (disch := first | (simp only [go_sem, simprocAttr] <;> omega) | omega) only [go_sem, simprocAttr]
  exact hR _ _ ⟨by simp, rfl⟩
theorem lt_is : isS 87 fun x y => decide (x < y) := by
  refine ⟨by kernel_rfl, fun h x y x0 x1 y0 y1 => ?_⟩
  refine HCalls.via fun R hR => ?_
  refine HCalls.of_dev T87 Tryz.func87 rfl mixed (by kernel_rfl) ?_; rw [Tryz.results87]
  simp (maxSteps := 2000000) (disch := first | (simp only [go_sem, simprocAttr] <;> omega) | omega) only [go_sem, simprocAttr]
  exact hR _ _ ⟨rfl, rfl⟩
theorem yes_is : isS 88 fun _ _ => true := by
  refine ⟨by kernel_rfl, fun h x y x0 x1 y0 y1 => ?_⟩
  refine HCalls.via fun R hR => ?_
  refine HCalls.of_dev T88 Tryz.func88 rfl mixed (by kernel_rfl) ?_; rw [Tryz.results88]
  simp (maxSteps := 2000000) (disch := first | (simp only [go_sem, simprocAttr] <;> omega) | omega) only [go_sem, simprocAttr]
  exact hR _ _ ⟨rfl, rfl⟩
theorem bran_S (f : c.fit) (hA : A < 16) (hB : B < 16) (hC : C < 16) {fid : FuncId} {k : Int → Int → Bool} (hk : isS fid k) {bb : Nat} {ty3 : TypeId}
    (hs : Sat h (cellAt bb (.cells #[.func (.func fid) #[] #[]] ty3 (0, 0)) :: cellAt xb (.cells (turnL vr vt vv cb ⟨o, A, B, C, I⟩ w s at_ next g).toArray ty (0, 0)) :: cellAt cb (.cells c.cells.toArray ty2 (0, 0)) :: F)) :
    HCalls Tryz.prog 126 (#[] ++ #[.pointer (some ⟨xb, 0, none⟩)] ++ #[.pointer (some ⟨bb, 0, none⟩)]) h fun v h' => v = .agg okT.cells.toArray ∧
      Sat h' (cellAt xb (.cells (turnL vr vt vv cb ⟨o, A, B, C, I⟩ w s at_ (if k (rg c A) (rg c B) then I else next) g).toArray ty (0, 0)) :: cellAt cb (.cells c.cells.toArray ty2 (0, 0)) :: F) := by
  rw [show (#[] ++ #[.pointer (some ⟨xb, 0, none⟩)] ++ #[.pointer (some ⟨bb, 0, none⟩)] : Array Value) = #[.pointer (some ⟨xb, 0, none⟩), .pointer (some ⟨bb, 0, none⟩)] by simp]
  refine HCalls.via fun R hR => ?_
  obtain ⟨ok, hk⟩ := hk
  have s1 := hs.push (.cells okT.cells.toArray 56 (0, 0))
  simp only [Trp.cells_eq, okT, okF] at s1
  have gb := (s1.front 1).get
  have g0 := (s1.front 2).get
  have g1 := (s1.front 3).get
  have gt := s1.get
  simp only [turnL] at g0
  obtain ⟨x0, x1⟩ := rg_bd f (i := A) (by omega) (by omega)
  obtain ⟨y0, y1⟩ := rg_bd f (i := B) (by omega) (by omega)
  have nA : nthL c.cells A = some (.int .u32 (rg c A)) := by rw [nthL_eq]; exact Cp.reg f hA
  refine HCalls.of_dev T126 Tryz.func126 rfl mixed (by kernel_rfl) ?_; rw [Tryz.results126]
  simp (maxSteps := 2000000) (disch := first | (simp only [go_sem, simprocAttr] <;> omega) | omega) only [go_sem, simprocAttr]
  refine (regs_S f hA hB hC (s1.front 2 |>.front 3 |>.front 1)).mono ?_
  rintro v h2 ⟨rfl, rfl⟩
  simp (maxSteps := 2000000) (disch := first | (simp only [go_sem, simprocAttr, gb, g1, nA, ok] <;> omega) | omega) only [go_sem, simprocAttr, gb, g1, nA, ok]
  refine (hk _ _ _ x0 x1 y0 y1).mono ?_
  rintro v h3 ⟨rfl, rfl⟩
  have z1 := (s1.front 2).set (.cells (turnL vr vt vv cb ⟨o, A, B, C, I⟩ w s at_ I g).toArray ty (0, 0))
  have z2 := (z1.front 1).set (.cells okT.cells.toArray 56 (0, 0))
  simp only [Trp.cells_eq, okT, okF, turnL] at z1 z2
  have gz := (z1.front 1).get
  simp (maxSteps := 2000000) (disch := first | (simp only [go_sem, simprocAttr, g0, gt, gz, z2.get] <;> omega) | omega) only [go_sem, simprocAttr, g0, gt, gz, z2.get]
  refine ⟨fun q => ?_, fun q => ?_⟩
  · simp only [q, if_true] at hR
    exact hR _ _ ⟨rfl, (z2.tail.drop1)⟩
  · simp only [q, Bool.false_eq_true, if_false] at hR
    exact hR _ _ ⟨rfl, s1.tail.tail⟩
theorem jal_S (f : c.fit) (hA : A < 16) (hs : Sat h (cellAt xb (.cells (turnL vr vt vv cb ⟨o, A, B, C, I⟩ w s at_ next g).toArray ty (0, 0)) :: cellAt cb (.cells c.cells.toArray ty2 (0, 0)) :: F)) (n0 : 0 ≤ next) (n1 : next < 65536) :
    HCalls Tryz.prog 89 #[.pointer (some ⟨xb, 0, none⟩)] h fun v h' => v = .agg okT.cells.toArray ∧ Sat h' (cellAt xb (.cells (turnL vr vt vv cb ⟨o, A, B, C, I⟩ w s at_ I g).toArray ty (0, 0)) :: cellAt cb (.cells (setR c A next).cells.toArray ty2 (0, 0)) :: F) := by
  refine HCalls.via fun R hR => ?_
  have s1 := hs.push (.cells okT.cells.toArray 56 (0, 0))
  simp only [Trp.cells_eq, okT, okF] at s1
  have g0 := (s1.front 1).get
  have g1 := (s1.front 2).get
  simp only [turnL] at g0
  have a0 : (0 : Int) ≤ A := by omega
  have a1 : (A : Int) < 16 := by omega
  have l := Cp.len f
  have l1 : A < c.cells.length := by omega
  have sc := setR_cells f hA (v := next)
  have s2 := (s1.front 2).set (.cells (setR c A next).cells.toArray ty2 (0, 0))
  have s3 := (s2.front 2).set (.cells (turnL vr vt vv cb ⟨o, A, B, C, I⟩ w s at_ I g).toArray ty (0, 0))
  have s4 := (s3.front 2).set (.cells okT.cells.toArray 56 (0, 0))
  simp only [Trp.cells_eq, okT, okF, turnL] at s2 s3 s4
  have g2 := (s2.front 2).get
  have g3 := (s3.front 2).get
  have g4 := s4.get
  refine HCalls.of_dev T89 Tryz.func89 rfl mixed (by kernel_rfl) ?_; rw [Tryz.results89]
  simp (maxSteps := 2000000) (disch := first | (simp only [go_sem, simprocAttr, g0, g1, a0, a1, l1, sc, g2, g3, g4] <;> omega) | omega) only [go_sem, simprocAttr, g0, g1, a0, a1, l1, sc, g2, g3, g4]
  exact hR _ _ ⟨rfl, s4.tail⟩
theorem jr_S (f : c.fit) (hB : B < 16) (hs : Sat h (cellAt xb (.cells (turnL vr vt vv cb ⟨o, A, B, C, I⟩ w s at_ next g).toArray ty (0, 0)) :: cellAt cb (.cells c.cells.toArray ty2 (0, 0)) :: F)) :
    HCalls Tryz.prog 90 #[.pointer (some ⟨xb, 0, none⟩)] h fun v h' => v = .agg okT.cells.toArray ∧ Sat h' (cellAt xb (.cells (turnL vr vt vv cb ⟨o, A, B, C, I⟩ w s at_ (rg c B % 65536) g).toArray ty (0, 0)) :: cellAt cb (.cells c.cells.toArray ty2 (0, 0)) :: F) := by
  refine HCalls.via fun R hR => ?_
  have s1 := hs.push (.cells okT.cells.toArray 56 (0, 0))
  simp only [Trp.cells_eq, okT, okF] at s1
  have g0 := (s1.front 1).get
  have g1 := (s1.front 2).get
  simp only [turnL] at g0
  have b0 : (0 : Int) ≤ B := by omega
  have b1 : (B : Int) < 16 := by omega
  obtain ⟨y0, y1⟩ := rg_bd f (i := B) (by omega) (by omega)
  have nB : nthL c.cells B = some (.int .u32 (rg c B)) := by rw [nthL_eq]; exact Cp.reg f hB
  obtain ⟨y, hy⟩ := Int.eq_ofNat_of_zero_le y0
  rw [hy] at nB hR
  have s3 := (s1.front 1).set (.cells (turnL vr vt vv cb ⟨o, A, B, C, I⟩ w s at_ ((y : Int) % 65536) g).toArray ty (0, 0))
  have s4 := (s3.front 1).set (.cells okT.cells.toArray 56 (0, 0))
  simp only [Trp.cells_eq, okT, okF, turnL] at s3 s4
  have g3 := (s3.front 1).get
  have g4 := s4.get
  refine HCalls.of_dev T90 Tryz.func90 rfl mixed (by kernel_rfl) ?_; rw [Tryz.results90]
  simp (maxSteps := 2000000) (disch := first | (simp only [go_sem, simprocAttr, g0, g1, b0, b1, nB] <;> omega) | omega) only [go_sem, simprocAttr, g0, g1, b0, b1, nB]
  refine (low_S y (by omega)).mono ?_
  rintro v h2 ⟨rfl, rfl⟩
  have e : ((y % 65536 : Nat) : Int) = (y : Int) % 65536 := by omega
  rw [e]
  simp (maxSteps := 2000000) (disch := first | (simp only [go_sem, simprocAttr, g0, g3, g4] <;> omega) | omega) only [go_sem, simprocAttr, g0, g3, g4]
  exact hR _ _ ⟨rfl, s4.tail⟩
theorem nop_S {x : Value} (hs : Sat h F) : HCalls Tryz.prog 100 #[x] h fun v h' => v = .agg okT.cells.toArray ∧ Sat h' F := by
  refine HCalls.via fun R hR => ?_
  have s1 := hs.push (.cells okT.cells.toArray 56 (0, 0))
  simp only [Trp.cells_eq, okT, okF] at s1
  refine HCalls.of_dev T100 Tryz.func100 rfl mixed (by kernel_rfl) ?_; rw [Tryz.results100]
  simp (maxSteps := 2000000) (disch := first | (simp only [go_sem, simprocAttr, s1.get] <;> omega) | omega) only [go_sem, simprocAttr, s1.get]
  exact hR _ _ ⟨rfl, s1.tail⟩
end
end Go.Eng
