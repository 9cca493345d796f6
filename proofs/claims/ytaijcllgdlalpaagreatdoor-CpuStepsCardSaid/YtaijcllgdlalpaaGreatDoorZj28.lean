/-
  THE ENGINE, PART 10: from a call told of heaps to a row's claim.
-/
import Derived.Test.YtaijcllgdlalpaaGreatDoorZj1
import Derived.ProofKit
import Derived.OpenShut
import Derived.Carry
import Derived.Test.YtaijcllgdlalpaaGreatDoorZj6
import Derived.Test.YtaijcllgdlalpaaGreatDoorZj8
import Derived.Test.YtaijcllgdlalpaaGreatDoorZj26
set_option linter.unusedSimpArgs false
set_option linter.unusedVariables false
set_option maxRecDepth 16000
set_option maxHeartbeats 4000000
namespace Go.Eng
open Go

theorem kept_of_ext {W W' : World} (s : Same W W') (e : Ext W.heap W'.heap) (may : MemPlace → Prop) : W.keptBut W' may := by
  refine ⟨s.os, s.output, fun i hi => ?_⟩
  rw [e.get i hi]
  cases W.heap[i]? with
  | none => rfl
  | some o => cases o <;> first | exact ⟨rfl, rfl, rfl, fun _ _ => rfl⟩ | exact .inr ⟨rfl, rfl⟩ | rfl

theorem HCalls.law {P : Program} {f : FuncId} {args : Array Value} {W : World} (hc : HCalls P f args W.heap fun v h' => v = .bool true ∧ Ext W.heap h') :
    Calls P f args W fun e w' => e = .returned (.bool true) ∧ Same W w' ∧ Ext W.heap w'.heap :=
  (hc W rfl).mono fun _ _ ⟨s, v, e, hv, hx⟩ => ⟨by rw [e, hv], s, hx⟩
end Go.Eng
/-
  THE ENGINE, PART 11: what an argument that can be read looks like; it reads the same where the old blocks stand.
-/
namespace Go.Eng
open Go

/-- A cell's kind, of an argument. -/
inductive CK where
  | int (k : IntKind) | bool | str | slice (row : List CK)

/-- A type's row of cells. -/
def rowF (P : Program) (rec : TypeId → Option (List CK)) : List Field → Nat → Option (List CK)
  | [], _ => some []
  | f :: fs, o => if f.offset = o then
      match rec f.type with
      | some ks => if P.cellsOf f.type = ks.length then (rowF P rec fs (o + ks.length)).map (ks ++ ·) else none
      | none => none
    else none
def rowK (P : Program) : Nat → TypeId → Option (List CK)
  | 0, _ => none
  | d + 1, t => match P.underlying t with
    | some (.int k) => some [.int k]
    | some .bool => some [.bool]
    | some .string => some [.str]
    | some (.slice e) => match rowK P d e with
      | some ks => if P.cellsOf e = ks.length ∧ 0 < ks.length then some [.slice ks] else none
      | none => none
    | some (.struct fs) => match rowF P (rowK P d) fs.toList 0 with
      | some ks => if P.cellsOf t = ks.length then some ks else none
      | none => none
    | some (.array n e) => match rowK P d e with
      | some ks => if P.cellsOf e = ks.length ∧ P.cellsOf t = n * ks.length then some (List.replicate n ks).flatten else none
      | none => none
    | _ => none

/-- Such is a cell: of the kind; a slice's elements are rows again. -/
def shp (h : Heap) : Nat → CK → Value → Prop
  | 0, _, _ => False
  | _ + 1, .int k, v => ∃ n, v = .int k n ∧ k.min ≤ n ∧ n ≤ k.max
  | _ + 1, .bool, v => ∃ b, v = .bool b
  | _ + 1, .str, v => ∃ s : ByteArray, v = .string s ∧ s.size ≤ maxLen
  | d + 1, .slice row, v => v = .slice none 0 0 ∨ ∃ a len cap, v = .slice (some a) len cap ∧ len ≤ cap ∧ cap ≤ maxLen ∧
      ∀ i, i < len → ∃ xs : List Value, xs.length = row.length ∧ (∀ j, j < row.length → hcell h (a.add (i * row.length) |>.add j) = xs[j]?) ∧ ∀ (j : Nat) k v, row[j]? = some k → xs[j]? = some v → shp h d k v
def shpL (h : Heap) (d : Nat) (row : List CK) (xs : List Value) : Prop := xs.length = row.length ∧ ∀ (j : Nat) k v, row[j]? = some k → xs[j]? = some v → shp h d k v

theorem shp_succ (h : Heap) : ∀ (d : Nat) (k : CK) (v : Value), shp h d k v → shp h (d + 1) k v := by
  intro d
  induction d with
  | zero => intro k v q; exact q.elim
  | succ d ih =>
    intro k v q
    cases k with
    | int k => exact q
    | bool => exact q
    | str => exact q
    | slice row =>
      rcases q with q | ⟨a, len, cap, q1, q2, q3, q4⟩
      · exact .inl q
      · refine .inr ⟨a, len, cap, q1, q2, q3, fun i hi => ?_⟩
        obtain ⟨xs, r1, r2, r3⟩ := q4 i hi
        exact ⟨xs, r1, r2, fun j k v a b => ih _ _ (r3 j k v a b)⟩

theorem shpL_append {h : Heap} {d : Nat} {r1 r2 : List CK} {xs : List Value} (h1 : shpL h d r1 (xs.take r1.length)) (h2 : shpL h d r2 (xs.drop r1.length)) (hx : r1.length ≤ xs.length) : shpL h d (r1 ++ r2) xs := by
  refine ⟨?_, fun j k v a b => ?_⟩
  · have := h2.1; simp at this ⊢; omega
  · by_cases hj : j < r1.length
    · rw [List.getElem?_append_left hj] at a
      exact h1.2 j k v a (by rw [List.getElem?_take, if_pos hj]; exact b)
    · rw [List.getElem?_append_right (by omega)] at a
      exact h2.2 (j - r1.length) k v a (by rw [List.getElem?_drop, show r1.length + (j - r1.length) = j by omega]; exact b)

theorem shpL_nil {h : Heap} {d : Nat} {xs : List Value} (q : shpL h d [] xs) : xs = [] := List.eq_nil_of_length_eq_zero q.1
theorem shpL_cons {h : Heap} {d : Nat} {k : CK} {row : List CK} {xs : List Value} (q : shpL h d (k :: row) xs) : ∃ v xs', xs = v :: xs' ∧ shp h d k v ∧ shpL h d row xs' := by
  obtain ⟨q1, q2⟩ := q
  cases xs with
  | nil => simp at q1
  | cons v xs' => exact ⟨v, xs', rfl, q2 0 k v rfl rfl, by simpa using q1, fun j k v a b => q2 (j + 1) k v (by simpa using a) (by simpa using b)⟩
theorem shp_int {h : Heap} {d : Nat} {k : IntKind} {v : Value} (q : shp h d (.int k) v) : ∃ n, v = .int k n ∧ k.min ≤ n ∧ n ≤ k.max := by
  cases d with
  | zero => exact q.elim
  | succ d => exact q
theorem shp_bool {h : Heap} {d : Nat} {v : Value} (q : shp h d .bool v) : ∃ b, v = .bool b := by
  cases d with
  | zero => exact q.elim
  | succ d => exact q
theorem hcell_eq {w : World} {a : Addr} : hcell w.heap a = w.cell? a := rfl

theorem trod_shpL {H : Type} {enc : TypeId × Value → H} {P : Program} {w : World} {base : Nat} {spare : Nat → Bool} {held : Bool} :
    ∀ (d : Nat) (fuel : Nat) (t : TypeId) (row : List CK) (cs : List Value) (x : DataW H × List MemPlace), rowK P d t = some row → DataW.trod enc P w base spare held fuel t cs = some x → shpL w.heap d row cs := by
  intro d
  induction d with
  | zero => intro fuel t row cs x hk; cases hk
  | succ d ih =>
    intro fuel t row cs x hk hx
    unfold rowK at hk
    split at hk
    · rename_i k hu
      cases hk
      obtain ⟨n, rfl, -, hw⟩ := DataW.trod_int hu hx
      refine ⟨rfl, fun j k' v a b => ?_⟩
      match j with
      | 0 => cases a; cases b; simp only [Lit.wf, Bool.and_eq_true, decide_eq_true_eq] at hw; exact ⟨n, rfl, hw.1, hw.2⟩
      | j + 1 => simp at a
    · rename_i hu
      cases hk
      obtain ⟨n, rfl, -⟩ := DataW.trod_bool hu hx
      refine ⟨rfl, fun j k' v a b => ?_⟩
      match j with
      | 0 => cases a; cases b; exact ⟨n, rfl⟩
      | j + 1 => simp at a
    · rename_i hu
      cases hk
      obtain ⟨s, rfl, -, hs⟩ := DataW.trod_string hu hx
      refine ⟨rfl, fun j k' v a b => ?_⟩
      match j with
      | 0 => cases a; cases b; exact ⟨s, rfl, hs⟩
      | j + 1 => simp at a
    · rename_i e hu
      split at hk
      · rename_i ks hks
        split at hk
        · rename_i hc
          cases hk
          rcases DataW.trod_slice hu hx with ⟨rfl, -⟩ | ⟨a, len, cap, elems, rest, n, _, rfl, rfl, hb, hl, hm, hlen, hel, hsp, hns⟩
          · refine ⟨rfl, fun j k' v a b => ?_⟩
            match j with
            | 0 => cases a; cases b; exact .inl rfl
            | j + 1 => simp at a
          · refine ⟨rfl, fun j k' v p q => ?_⟩
            match j with
            | j + 1 => simp at p
            | 0 =>
              cases p; cases q
              refine .inr ⟨a, len, cap, rfl, hl, hm, fun i hi => ?_⟩
              have hi' := hel i hi
              have hs : elems[i]? = some (elems[i]'(by omega)) := List.getElem?_eq_getElem (by omega)
              rw [hs] at hi'
              obtain ⟨xs, hxs, ht⟩ := Option.bind_eq_some_iff.1 hi'
              obtain ⟨-, l1, l2⟩ := World.cells?_some hxs
              have := ih _ _ _ _ _ hks ht
              rw [hc.1] at l1 l2
              refine ⟨xs, l1, fun j hj => ?_, this.2⟩
              rw [hcell_eq, ← l2 j hj]
        · cases hk
      · cases hk
    · rename_i fs hu
      split at hk
      · rename_i ks hks
        split at hk
        · rename_i hc
          cases hk
          obtain ⟨xs, n, _, rfl, hl, hlen, hf⟩ := DataW.trod_struct hu hx
          have main : ∀ (l : List Field) (o : Nat) (ks : List CK), rowF P (rowK P d) l o = some ks → (∀ f ∈ l, ∃ y, DataW.trod enc P w base spare held n f.type ((cs.drop f.offset).take (P.cellsOf f.type)) = some y) → o + ks.length = cs.length → shpL w.heap d ks (cs.drop o) := by
            intro l
            induction l with
            | nil => intro o ks hk _ ho; cases hk; refine ⟨by simp at ho ⊢; omega, fun j k v a => by simp at a⟩
            | cons f l ihl =>
              intro o ks hk hall ho
              unfold rowF at hk
              split at hk
              · rename_i ho'
                subst ho'
                split at hk
                · rename_i k1 hk1
                  split at hk
                  · rename_i hs
                    obtain ⟨k2, hk2, rfl⟩ := Option.map_eq_some_iff.1 hk
                    obtain ⟨y, hy⟩ := hall f (by simp)
                    rw [hs] at hy
                    have s1 := ih _ _ _ _ _ hk1 hy
                    simp only [List.length_append] at ho
                    have s2 := ihl _ _ hk2 (fun g hg => hall g (by simp [hg])) (by omega)
                    refine shpL_append s1 (by rw [List.drop_drop]; exact s2) (by simp; omega)
                  · cases hk
                · cases hk
              · cases hk
          have r := main fs.toList 0 row hks (fun f hf' => by
            obtain ⟨i, hi, e⟩ := List.getElem_of_mem hf'
            have := hf i f (by rw [← Array.getElem?_toList, List.getElem?_eq_getElem hi, e])
            have hx : xs[i]? = some (xs[i]'(by simpa [hlen] using hi)) := List.getElem?_eq_getElem _
            rw [hx] at this
            exact ⟨_, this⟩) (by rw [hl, hc]; omega)
          rw [List.drop_zero] at r
          exact ⟨r.1, fun j k v a b => shp_succ _ _ _ _ (r.2 j k v a b)⟩
        · cases hk
      · cases hk
    · rename_i n e hu
      split at hk
      · rename_i ks hks
        split at hk
        · rename_i hc
          cases hk
          obtain ⟨xs, m, _, rfl, hl, hlen, hf⟩ := DataW.trod_array hu hx
          have main : ∀ (k i : Nat), i + k = n → shpL w.heap d (List.replicate k ks).flatten (cs.drop (i * ks.length)) := by
            intro k
            induction k with
            | zero =>
              intro i hi
              refine ⟨?_, fun j k v a => by simp at a⟩
              rw [List.length_drop, hl, hc.2, ← hi]
              simp
            | succ k ihk =>
              intro i hi
              have hx : xs[i]? = some (xs[i]'(by omega)) := List.getElem?_eq_getElem _
              have h1 := hf i (by omega)
              rw [hx, hc.1] at h1
              have s1 := ih _ _ _ _ _ hks h1
              have s2 := ihk (i + 1) (by omega)
              rw [List.replicate_succ, List.flatten_cons]
              refine shpL_append s1 (by rw [List.drop_drop]; rwa [Nat.add_mul, Nat.one_mul] at s2) ?_
              rw [List.length_drop, hl, hc.2]
              have : (i + 1) * ks.length ≤ n * ks.length := Nat.mul_le_mul_right _ (by omega)
              rw [Nat.add_mul, Nat.one_mul] at this
              omega
          have r := main n 0 (by omega)
          rw [Nat.zero_mul, List.drop_zero] at r
          exact ⟨r.1, fun j k v a b => shp_succ _ _ _ _ (r.2 j k v a b)⟩
        · cases hk
      · cases hk
    · cases hk

/-- Numbers alone. -/
theorem shpL_ints {h : Heap} {d : Nat} {k : IntKind} : ∀ {n : Nat} {row : List CK} {cs : List Value}, shpL h d (List.replicate n (.int k) ++ row) cs → ∃ (L : List Int) (r : List Value), cs = L.map (Value.int k) ++ r ∧ L.length = n ∧ (∀ x ∈ L, k.min ≤ x ∧ x ≤ k.max) ∧ shpL h d row r
  | 0, row, cs, q => ⟨[], cs, rfl, rfl, by simp, q⟩
  | n + 1, row, cs, q => by
    rw [List.replicate_succ, List.cons_append] at q
    obtain ⟨v, xs, rfl, q1, q2⟩ := shpL_cons q
    obtain ⟨a, rfl, b⟩ := shp_int q1
    obtain ⟨L, r, rfl, l, hb, q3⟩ := shpL_ints q2
    refine ⟨a :: L, r, rfl, by simp [l], fun x hx => ?_, q3⟩
    rcases List.mem_cons.1 hx with rfl | hx
    · exact b
    · exact hb x hx

/-- An argument that is a struct. -/
theorem struct_shpL {H : Type} {enc : TypeId × Value → H} {P : Program} {W : World} {r : Reach} {b0 : Nat} {base : Nat} {spare : Nat → Bool} {held : Bool} {t : TypeId} {fs : Array Field} {v : Value} {x : DataW H} {p : List MemPlace} {d : Nat} {row : List CK}
    (hu : P.underlying t = some (.struct fs)) (hv : Value.okWide P W r b0 t v) (hd : DataW.Trod enc P W base spare held t v x p) (hk : rowK P d t = some row) : ∃ cs : List Value, v = .agg cs.toArray ∧ shpL W.heap d row cs := by
  unfold Value.okWide at hv
  rw [hu] at hv
  obtain ⟨cs, rfl, -, -⟩ := hv
  obtain ⟨fuel, hf⟩ := hd
  exact ⟨cs.toList, by simp, trod_shpL _ _ _ _ _ _ hk hf⟩

theorem shp_slice {h : Heap} {d : Nat} {row : List CK} {v : Value} (hrow : 0 < row.length) (q : shp h d (.slice row) v) : ∃ sl n cap, v = .slice sl n cap ∧ n ≤ cap ∧ n ≤ 9223372036854775807 ∧
    ∀ i, i < n → ∃ b o xs, sl = some ⟨b, o, none⟩ ∧ shpL h (d - 1) row xs ∧ ∀ j, j < row.length → hcellO h[b]? (o + (i * row.length + j)) = xs[j]? := by
  cases d with
  | zero => exact q.elim
  | succ d =>
    rcases q with rfl | ⟨a, len, cap, rfl, q1, q2, q3⟩
    · exact ⟨none, 0, 0, rfl, by omega, by omega, fun i hi => by omega⟩
    · refine ⟨some a, len, cap, rfl, q1, by simp only [maxLen] at q2; omega, fun i hi => ?_⟩
      obtain ⟨ys, s1, s2, -⟩ := q3 0 (by omega)
      obtain ⟨xs, r1, r2, r3⟩ := q3 i hi
      obtain ⟨b, o, sp⟩ := a
      have hsp : sp = none := by
        have := s2 0 hrow
        rw [show (Addr.add (Addr.add ⟨b, o, sp⟩ (0 * row.length)) 0) = (⟨b, o, sp⟩ : Addr) by simp [Addr.add], List.getElem?_eq_getElem (by omega)] at this
        unfold hcell at this
        cases sp with
        | none => rfl
        | some z => simp only at this; split at this <;> simp at this
      subst hsp
      refine ⟨b, o, xs, rfl, ⟨r1, r3⟩, fun j hj => ?_⟩
      have := r2 j hj
      rw [add_mk, add_mk, hcell_mk, Nat.add_assoc] at this
      exact this

/-- An argument that is a slice. -/
theorem slice_open {H : Type} {enc : TypeId × Value → H} {P : Program} {W : World} {r : Reach} {b0 : Nat} {base : Nat} {spare : Nat → Bool} {held : Bool} {t e : TypeId} {v : Value} {x : DataW H} {p : List MemPlace} {d : Nat} {row : List CK}
    (hu : P.underlying t = some (.slice e)) (hv : Value.okWide P W r b0 t v) (hd : DataW.Trod enc P W base spare held t v x p) (hk : rowK P d t = some [.slice row]) (hrow : 0 < row.length) :
    ∃ sl n cap, v = .slice sl n cap ∧ n ≤ cap ∧ n ≤ 9223372036854775807 ∧ ∀ i, i < n → ∃ b o xs, sl = some ⟨b, o, none⟩ ∧ shpL W.heap (d - 1) row xs ∧ ∀ j, j < row.length → hcellO W.heap[b]? (o + (i * row.length + j)) = xs[j]? := by
  obtain ⟨a, l, c, rfl⟩ := WideShapes.okWide_slice hu hv
  obtain ⟨fuel, hf⟩ := hd
  have q := trod_shpL _ _ _ _ _ _ hk hf
  exact shp_slice hrow (q.2 0 (.slice row) (.slice a l c) rfl rfl)

theorem trodAll_stay {H : Type} {enc : TypeId × Value → H} {P : Program} {W W' : World} (hl : laidOutB P = true) (hb : RowKit.Below W.heap.size W W') :
    ∀ (ts : List TypeId) (vs : List Value) (ds : List (DataW H)) (ps : List MemPlace), (∀ t ∈ ts, P.readableRec t = true ∧ t < P.types.size) → DataW.TrodAll enc P W 0 (fun _ => true) true ts vs ds ps → (∀ x ∈ ps, x.block < W.heap.size) →
      DataW.TrodAll enc P W' 0 (fun b => decide (b < W.heap.size)) true ts vs ds ps
  | [], [], [], ps, _, h, _ => h
  | t :: ts, v :: vs, d :: ds, ps, hr, h, hlt => by
    obtain ⟨p, q, h1, h2, rfl⟩ := h
    exact ⟨p, q, RowKit.Below.trod hl (hr t (by simp)).1 (hr t (by simp)).2 h1 hb (fun x hx => hlt x (by simp [hx])), trodAll_stay hl hb ts vs ds q (fun u hu => hr u (by simp [hu])) h2 (fun x hx => hlt x (by simp [hx])), rfl⟩
  | [], [], _ :: _, _, _, h, _ => h.elim
  | [], _ :: _, _, _, _, h, _ => h.elim
  | _ :: _, [], _, _, _, h, _ => h.elim
  | _ :: _, _ :: _, [], _, _, h, _ => h.elim

theorem law_post {H : Type} {enc : TypeId × Value → H} {P : Program} {f : Func} {s : ChangeSpec} {apart : Bool} {W W' : World} {args : Array Value} {ds : List (DataW H)} {p : List MemPlace} {tb : TypeId}
    (hl : laidOutB P = true) (hr : ∀ t ∈ f.params.toList, P.readableRec t = true ∧ t < P.types.size)
    (hW : DataW.Whole enc P f.params.toList s.vars apart W args.toList ds [] p) (hA : DataW.TrodAll enc P W 0 (fun _ => true) true f.params.toList args.toList ds p)
    (hv : s.vars = []) (hfn : s.fn H (ds ++ []) = { results := [.lit (.bool true)], args := ds }) (hrt : f.resultTypes = #[tb]) (ht : P.underlying tb = some .bool)
    (hs : Same W W') (he : Ext W.heap W'.heap) :
    s.post enc P f apart true false false W args (.bool true) W' := by
  have hb : RowKit.Below W.heap.size W W' := ⟨hs.os, hs.tape, hs.output, he.size, fun k hk => he.get k hk⟩
  refine ⟨ds, [], p, [], p, [], hW, ?_, ?_, ?_, kept_of_ext hs he _, fun e => by cases e⟩
  · rw [hfn, hrt]
    exact ChangeShapes.trodAll_mk1 (RowKit.shut_bool ht _)
  · rw [hfn]
    exact trodAll_stay hl hb _ _ _ _ hr hA fun x hx => hW.lt x hx
  · rw [hfn, hv]; rfl
end Go.Eng
/-
  Layer 5: the arguments of its laws, as they are met.
-/
namespace Go.Eng
open Go Go.Proofs
def i64ok (a : Int) : Prop := -9223372036854775808 ≤ a ∧ a ≤ 9223372036854775807
theorem i64_min : IntKind.i64.min = -9223372036854775808 := by decide
theorem i64_max : IntKind.i64.max = 9223372036854775807 := by decide
theorem u32_min : IntKind.u32.min = 0 := by decide
theorem u32_max : IntKind.u32.max = 4294967295 := by decide
structure Ins.fit (i : Ins) : Prop where
  Op : i64ok i.Op
  A : i64ok i.A
  B : i64ok i.B
  C : i64ok i.C
  I : i64ok i.I
end Go.Eng
/-
  Layer 9: the arguments of its laws, as they are met.
-/
namespace Go.Eng
open Go Go.Proofs
end Go.Eng
/-
  Layer 9: worlds and states as arguments.
-/
namespace Go.Eng
open Go Go.Proofs
theorem hcellO_some {h : Heap} {b o : Nat} {v : Value} (e : hcellO h[b]? o = some v) : b < h.size := by
  by_cases q : b < h.size
  · exact q
  · rw [Array.getElem?_eq_none (by omega)] at e
    cases e
theorem rdL_of {α : Type} {enc : α → List Value} {sz n cap : Nat} {sl : Option Addr} {h : Heap} {Q : α → Prop}
    (H : ∀ i, i < n → ∃ (b o : Nat) (x : α), sl = some ⟨b, o, none⟩ ∧ b < h.size ∧ Q x ∧ ∀ j, j < sz → hcellO h[b]? (o + (i * sz + j)) = (enc x)[j]?) : ∃ L : List α, rdL enc sz h (.slice sl n cap) L ∧ ∀ x ∈ L, Q x := by
  have : ∀ i : Fin n, ∃ x : α, ∃ b o : Nat, sl = some ⟨b, o, none⟩ ∧ b < h.size ∧ Q x ∧ ∀ j, j < sz → hcellO h[b]? (o + (i.1 * sz + j)) = (enc x)[j]? := fun i => by
    obtain ⟨b, o, x, q⟩ := H i.1 i.2
    exact ⟨x, b, o, q⟩
  obtain ⟨G, hG⟩ := Classical.axiomOfChoice this
  refine ⟨List.ofFn G, ⟨sl, cap, by rw [List.length_ofFn], fun i hi => ?_⟩, fun x hx => ?_⟩
  · have hi2 : i < n := by simpa using hi
    obtain ⟨b, o, e1, e2, -, e3⟩ := hG ⟨i, hi2⟩
    refine ⟨b, o, e1, e2, fun j hj => ?_⟩
    rw [e3 j hj, List.getElem_ofFn]
  · obtain ⟨i, rfl⟩ := (List.mem_ofFn).1 hx
    obtain ⟨b, o, e1, e2, e, e3⟩ := hG i
    exact e
set_option maxRecDepth 100000 in
theorem cpu_open {H : Type} {enc : TypeId × Value → H} {W : World} {r : Reach} {b0 base : Nat} {spare : Nat → Bool} {held : Bool} {v : Value} {x : DataW H} {p : List MemPlace}
    (hv : Value.okWide Tryz.prog W r b0 30 v) (hd : DataW.Trod enc Tryz.prog W base spare held 30 v x p) : ∃ c : Cp, v = .agg c.cells.toArray ∧ c.fit := by
  obtain ⟨cs, rfl, q⟩ := struct_shpL (d := 6) (row := List.replicate 16 (.int .u32) ++ .int .i64 :: (List.replicate 8 (.int .u32) ++ [])) Tryz.underlying30 hv hd (by kernel_rfl)
  obtain ⟨L, r, rfl, l, hb, k1⟩ := shpL_ints q
  obtain ⟨v1, xs, rfl, q1, k2⟩ := shpL_cons k1
  obtain ⟨a1, rfl, b1⟩ := shp_int q1
  obtain ⟨S, r, rfl, l2, hb2, k3⟩ := shpL_ints k2
  obtain rfl := shpL_nil k3
  rw [i64_min, i64_max] at b1
  rw [u32_min, u32_max] at hb hb2
  refine ⟨⟨L, a1, S⟩, by simp [Cp.cells], ⟨l, l2, fun x hx => ?_, fun x hx => ?_, b1.1, b1.2⟩⟩
  · have := hb x hx; omega
  · have := hb2 x hx; omega
set_option maxRecDepth 100000 in
theorem world_open {H : Type} {enc : TypeId × Value → H} {W : World} {r : Reach} {b0 base : Nat} {spare : Nat → Bool} {held : Bool} {v : Value} {x : DataW H} {p : List MemPlace}
    (hv : Value.okWide Tryz.prog W r b0 25 v) (hd : DataW.Trod enc Tryz.prog W base spare held 25 v x p) :
    ∃ v1 v2 g vm se P L, v = .agg #[v1, v2, .bool g, .int .i64 vm, .int .i64 se] ∧ rdL PutP.cells 6 W.heap v1 P ∧ rdL WordP.cells 2 W.heap v2 L ∧ (∀ x ∈ L, 0 ≤ x.w ∧ x.w < 4294967296) ∧ i64ok vm ∧ i64ok se := by
  obtain ⟨cs, rfl, q⟩ := struct_shpL (d := 8) (row := [.slice [.int .i64, .int .i64, .bool, .bool, .int .i64, .int .i64], .slice [.int .i64, .int .u32], .bool, .int .i64, .int .i64]) Tryz.underlying25 hv hd (by kernel_rfl)
  obtain ⟨v1, xs, rfl, q1, q⟩ := shpL_cons q
  obtain ⟨v2, xs, rfl, q2, q⟩ := shpL_cons q
  obtain ⟨v3, xs, rfl, q3, q⟩ := shpL_cons q
  obtain ⟨v4, xs, rfl, q4, q⟩ := shpL_cons q
  obtain ⟨v5, xs, rfl, q5, q⟩ := shpL_cons q
  obtain rfl := shpL_nil q
  obtain ⟨g, rfl⟩ := shp_bool q3
  obtain ⟨vm, rfl, b4⟩ := shp_int q4
  obtain ⟨se, rfl, b5⟩ := shp_int q5
  obtain ⟨sl1, n1, c1, rfl, -, -, k1⟩ := shp_slice (by decide) q1
  obtain ⟨sl2, n2, c2, rfl, -, -, k2⟩ := shp_slice (by decide) q2
  rw [i64_min, i64_max] at b4 b5
  obtain ⟨P, hP, -⟩ := rdL_of (enc := PutP.cells) (sz := 6) (n := n1) (cap := c1) (sl := sl1) (h := W.heap) (Q := fun _ => True) fun i hi => by
    obtain ⟨b, o, xs, rfl, s, e⟩ := k1 i hi
    obtain ⟨a1, xs, rfl, t1, s⟩ := shpL_cons s
    obtain ⟨a2, xs, rfl, t2, s⟩ := shpL_cons s
    obtain ⟨a3, xs, rfl, t3, s⟩ := shpL_cons s
    obtain ⟨a4, xs, rfl, t4, s⟩ := shpL_cons s
    obtain ⟨a5, xs, rfl, t5, s⟩ := shpL_cons s
    obtain ⟨a6, xs, rfl, t6, s⟩ := shpL_cons s
    obtain rfl := shpL_nil s
    obtain ⟨a1, rfl, -⟩ := shp_int t1
    obtain ⟨a2, rfl, -⟩ := shp_int t2
    obtain ⟨a3, rfl⟩ := shp_bool t3
    obtain ⟨a4, rfl⟩ := shp_bool t4
    obtain ⟨a5, rfl, -⟩ := shp_int t5
    obtain ⟨a6, rfl, -⟩ := shp_int t6
    exact ⟨b, o, ⟨a1, a2, ⟨a3, a4, a5, a6⟩⟩, rfl, hcellO_some (e 0 (by decide)), trivial, e⟩
  obtain ⟨L, hL, hLb⟩ := rdL_of (enc := WordP.cells) (sz := 2) (n := n2) (cap := c2) (sl := sl2) (h := W.heap) (Q := fun x => 0 ≤ x.w ∧ x.w < 4294967296) fun i hi => by
    obtain ⟨b, o, xs, rfl, s, e⟩ := k2 i hi
    obtain ⟨a1, xs, rfl, t1, s⟩ := shpL_cons s
    obtain ⟨a2, xs, rfl, t2, s⟩ := shpL_cons s
    obtain rfl := shpL_nil s
    obtain ⟨a1, rfl, -⟩ := shp_int t1
    obtain ⟨a2, rfl, b2⟩ := shp_int t2
    rw [u32_min, u32_max] at b2
    exact ⟨b, o, ⟨a1, a2⟩, rfl, hcellO_some (e 0 (by decide)), ⟨b2.1, by simp only; omega⟩, e⟩
  exact ⟨_, _, g, vm, se, P, L, rfl, hP, hL, hLb, b4, b5⟩
end Go.Eng
