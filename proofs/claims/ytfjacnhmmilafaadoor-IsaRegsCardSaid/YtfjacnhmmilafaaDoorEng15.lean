/-
  THE ENGINE, PART 15: lists in memory; append.
-/
import Derived.Test.YtfjacnhmmilafaaDoorEng14
import Derived.Test.YtfjacnhmmilafaaDoorEng8
namespace Go.Eng
set_option linter.unusedSimpArgs false
set_option linter.unusedVariables false
set_option maxRecDepth 16000
set_option maxHeartbeats 4000000
open Go

/-- A list of n things of sz cells each: its cells one behind the other. -/
def sliceS (sz n : Nat) (v : Value) (l : List Value) : SP := fun a => l.length = n * sz ∧ (∀ x ∈ l, single x = true) ∧
  ((n = 0 ∧ v = .slice none 0 0) ∨ ∃ lb cap cs ty, v = .slice (some ⟨lb, 0, none⟩) n cap ∧ n ≤ cap ∧ cs.size = cap * sz ∧ a lb = some (.cells cs ty (0, 0)) ∧ ∀ k, k < l.length → cs[k]? = l[k]?)

/-- A list that is read. -/
def SrcAt (h : Heap) (sz n : Nat) (w : Value) (l : List Value) : Prop := l.length = n * sz ∧ (∀ x ∈ l, single x = true) ∧
  ∃ a cap, w = .slice a n cap ∧ (0 < n → ∃ b o cs ty fr, a = some ⟨b, o, none⟩ ∧ h[b]? = some (.cells cs ty fr) ∧ o + n * sz ≤ cs.size ∧ ∀ k, k < l.length → cs[o + k]? = l[k]?)

section
variable {P : Program} {h : Heap} {t : TypeId} {F : List SP}

theorem Sat.drop1 {A B : SP} (hs : Sat h (A :: B :: F)) : Sat h (A :: F) := hs.swap.tail
theorem Sat.drop2 {A B C : SP} (hs : Sat h (A :: B :: C :: F)) : Sat h (A :: B :: F) := (hs.front 2).tail
theorem runD_loadCells {b o n : Nat} {c : Array Value} {e : TypeId} {fr : Nat × Nat} (hb : h[b]? = some (.cells c e fr)) (hn : o + n ≤ c.size) : runD P (loadCells ⟨b, o, none⟩ n) h = some (c.extract o (o + n)) := by
  unfold loadCells
  rw [runD_loadCellsFrom hb, if_pos (by omega)]
  simp

theorem SrcAt.first {sz n : Nat} {w : Value} {l : List Value} (s : SrcAt h sz n w l) : runD P (Builtin.lenOf w) h = some n ∧ runD P (Builtin.firstCells sz n w) h = some l.toArray := by
  obtain ⟨h1, h2, a, cap, rfl, h3⟩ := s
  refine ⟨rfl, ?_⟩
  by_cases hn : 0 < n
  · obtain ⟨b, o, cs, ty, fr, rfl, e, hsz, hg⟩ := h3 hn
    show runD P (loadCells ⟨b, o, none⟩ (n * sz)) h = _
    rw [runD_loadCells e hsz]
    congr 1
    apply Array.ext_getElem?
    intro i
    rw [Array.getElem?_extract]
    split
    · rw [hg i (by omega)]; simp
    · rw [List.getElem?_toArray, List.getElem?_eq_none (by omega)]
  · obtain rfl : n = 0 := by omega
    obtain rfl : l = [] := List.eq_nil_of_length_eq_zero (by simpa using h1)
    cases a with
    | none => rfl
    | some a =>
      show runD P (loadCells a (0 * sz)) h = _
      rw [Nat.zero_mul]
      rfl

theorem growBy_le {need : Nat} : ∀ (r c : Nat), c ≤ need → Builtin.growBy need r c ≤ 2 * need + 1024
  | 0, c, hc => by simp only [Builtin.growBy]; omega
  | r + 1, c, hc => by
    simp only [Builtin.growBy]
    split
    · omega
    · by_cases h2 : c + (c + 768) / 4 ≤ need
      · exact growBy_le r _ h2
      · have : Builtin.growBy need r (c + (c + 768) / 4) = c + (c + 768) / 4 := by
          cases r with
          | zero => rfl
          | succ r => simp only [Builtin.growBy]; rw [if_pos (by omega)]
        rw [this]; omega
theorem nextslicecap_le {need old : Nat} (h : old ≤ need) : Builtin.nextslicecap need old ≤ 2 * need + 1024 := by
  unfold Builtin.nextslicecap
  split
  · omega
  · split
    · omega
    · exact growBy_le 4 old h

theorem zeroCells_size {z : Array Value} {n : Nat} : (Builtin.zeroCells z n).size = n * z.size := by simp [Builtin.zeroCells]

def notIntB (P : Program) (t : TypeId) : Bool := match P.underlying t with | some (.int _) => false | some _ => true | none => false

/-- append: the list grows, in its own block or in a new one. -/
theorem Sat.append {sz n m : Nat} {v w : Value} {l l2 : List Value} {u : TypeId} {t2 : TypeId} {K : Value → Heap → Prop} (hs : Sat h (sliceS sz n v l :: F)) (src : SrcAt h sz m w l2)
    (hsl : isSliceB P t = true) (hsz : sliceSz P t = sz) (hz : zeroOkB P (sliceElem P t) = true) (h2 : notIntB P t2 = true)
    (hb : (2 * (n + m) + 1024) * (tbytes P (sliceElem P t)).getD 0 ≤ 281474976710656) (hm : n + m ≤ 9223372036854775807)
    (hK : ∀ v' h', Sat h' (sliceS sz (n + m) v' (l ++ l2) :: F) → K v' h') : runH P (iAppend #[t, t2] u #[v, w]) h K := by
  obtain ⟨e, s, ht, hs1, hs2⟩ := isSliceB_of hsl
  have he : sliceElem P t = e := by simp [sliceElem, ht]
  rw [he] at hz hb
  obtain rfl : s = sz := by rw [← hsz, hs2]
  obtain ⟨i, hi⟩ : ∃ i, P.info? e = some i := by
    cases q : P.info? e with
    | none => simp [tsz, q] at hs1
    | some i => exact ⟨i, rfl⟩
  have hby : (tbytes P e).getD 0 = i.bytes := by simp [tbytes, hi]
  rw [hby] at hb
  simp only [zeroOkB, Bool.and_eq_true, decide_eq_true_eq] at hz
  obtain ⟨z, hz1⟩ := Option.isSome_iff_exists.1 hz.1
  have hz2 : z.cells.size = s := by have := hz.2; simp only [tzeroD, hz1, Option.getD_some, tszD, hs1] at this; exact this
  obtain ⟨d, hd, hd2⟩ : ∃ d, P.underlying t2 = some d ∧ (match d with | .int _ => true | _ => false) = false := by
    unfold notIntB at h2
    cases q : P.underlying t2 with
    | none => rw [q] at h2; cases h2
    | some d => rw [q] at h2; exact ⟨d, rfl, by cases d <;> first | rfl | cases h2⟩
  obtain ⟨q1, q2⟩ := src.first (P := P)
  obtain ⟨k1, k2, -⟩ := src
  obtain ⟨a, c, p1, p2, p3, ⟨r1, r2, r3⟩, p5⟩ := hs
  have hall : ∀ x ∈ l ++ l2, single x = true := fun x hx => (List.mem_append.1 hx).elim (r2 x) (k2 x)
  have hlen : (l ++ l2).length = (n + m) * s := by rw [List.length_append, r1, k1, Nat.add_mul]
  -- the two ends
  obtain ⟨base, cap, rfl, hcap⟩ : ∃ base cap, v = .slice base n cap ∧ ((base = none ∧ n = 0 ∧ cap = 0) ∨ ∃ lb cs ty, base = some ⟨lb, 0, none⟩ ∧ n ≤ cap ∧ cs.size = cap * s ∧ a lb = some (.cells cs ty (0, 0)) ∧ ∀ k, k < l.length → cs[k]? = l[k]?) := by
    rcases r3 with ⟨rfl, rfl⟩ | ⟨lb, cap, cs, ty, rfl, w1, w2, w3, w4⟩
    · exact ⟨none, 0, rfl, .inl ⟨rfl, rfl, rfl⟩⟩
    · exact ⟨_, cap, rfl, .inr ⟨lb, cs, ty, rfl, w1, w2, w3, w4⟩⟩
  unfold iAppend Builtin.append_
  simp only [List.getElem?_toArray, List.getElem?_cons_zero, List.getElem?_cons_succ]
  rw [runH_bind, runH_underlying ht]
  simp only
  rw [runH_bind, runH_of_runD _ (runD_sizeOf hs1)]
  rw [runH_bind, runH_underlying hd]
  have hz : runD P (Pure.pure (match d with | .int _ => true | x => false) : Sem Bool) h = some false := by
    cases d <;> first | rfl | cases hd2
  refine Eq.mpr (congrArg (fun q : Sem Bool => runH P (q >>= _) h K) (?_ : _ = (Pure.pure false : Sem Bool))) ?_
  · cases d <;> first | rfl | cases hd2
  simp only [pure_bind, Bool.false_eq_true, if_false, Bool.not_false, if_true]
  rw [runH_bind, runH_of_runD _ q1]
  by_cases hin : n + m ≤ cap
  · rw [if_pos hin, runH_bind, runH_of_runD _ q2]
    rcases hcap with ⟨rfl, rfl, rfl⟩ | ⟨lb, cs, ty, rfl, w1, w2, w3, w4⟩
    · obtain rfl : m = 0 := by omega
      refine hK _ _ ⟨a, c, p1, p2, p3, ⟨hlen, hall, .inl ⟨rfl, rfl⟩⟩, p5⟩
    · simp only
      rw [runH_bind, add_mk]
      have hlb : h[lb]? = some (.cells cs ty (0, 0)) := p2 lb _ w3
      have hle : (n + m) * s ≤ cap * s := Nat.mul_le_mul_right _ hin
      rw [Nat.add_mul] at hle
      refine storeCells_arr _ 0 h cs hlb k2 (by rw [k1]; omega) ?_
      intro c' hc' hg
      have base : Sat h (cellAt lb (.cells cs ty (0, 0)) :: F) := ⟨a, c, p1, p2, p3, w3, p5⟩
      refine hK _ _ ((base.set (.cells c' ty (0, 0))).imp fun b hb' => ⟨hlen, hall, .inr ⟨lb, cap, c', ty, rfl, hin, by rw [hc', w2], hb', fun k hk => ?_⟩⟩)
      rw [hg k, hlen, Nat.add_mul] at *
      by_cases hk2 : k < l.length
      · rw [if_neg (by omega), w4 k hk2, List.getElem?_append_left hk2]
      · rw [if_pos (by omega), List.getElem?_append_right (by omega)]
        congr 1
        omega
  · rw [if_neg hin]
    have g1 : ¬ ((n + m : Nat) : Int) > IntKind.i64.max := by rw [show IntKind.i64.max = 9223372036854775807 by decide]; omega
    have hold : cap ≤ n + m := by omega
    have g2 := nextslicecap_le hold
    have g3 : Builtin.nextslicecap (n + m) cap * i.bytes ≤ 281474976710656 := Nat.le_trans (Nat.mul_le_mul_right _ g2) hb
    have hold' : runD P (Builtin.firstCells s n (.slice base n cap)) h = some l.toArray := by
      refine (SrcAt.first (P := P) ⟨r1, r2, base, cap, rfl, fun hn => ?_⟩).2
      rcases hcap with ⟨rfl, rfl, rfl⟩ | ⟨lb, cs, ty, rfl, w1, w2, w3, w4⟩
      · omega
      · have : n * s ≤ cap * s := Nat.mul_le_mul_right _ w1
        exact ⟨lb, 0, cs, ty, _, rfl, p2 lb _ w3, by omega, fun k hk => by rw [Nat.zero_add]; exact w4 k hk⟩
    rw [runH_bind, runH_of_runD _ (runD_typeInfo hi)]
    rw [if_neg (by rintro ⟨q, -⟩; exact g1 q)]
    rw [runH_bind, runH_of_runD _ (runD_typeInfo hi)]
    rw [if_neg (by have e48 : (2 : Nat) ^ 48 = 281474976710656 := by decide
                   omega)]
    rw [runH_bind]
    show runH P (choose _) h _
    unfold choose
    simp only [runH]
    rw [if_neg (by simp [Question.forced])]
    intro tp
    obtain ⟨nc, hnc⟩ : ∃ nc, nc = (Question.appendCap (n + m) cap e).cut tp := ⟨_, rfl⟩
    have hge : n + m ≤ nc := by rw [hnc]; simp only [Question.cut]; omega
    rw [← hnc]
    simp only [runH_bind]
    rw [runH_of_runD _ (runD_typeInfo hi), runH_askRoom, runH_of_runD _ hold', runH_of_runD _ q2, runH_of_runD _ (runD_zero hz1)]
    refine hK _ _ ?_
    have s1 : Sat h F := SatP.mono p5 p3
    refine (s1.push _).imp fun b hb' => ⟨hlen, hall, .inr ⟨h.size, nc, _, e, rfl, hge, ?_, hb', fun k hk => ?_⟩⟩
    · simp only [Array.size_append, zeroCells_size, hz2, List.size_toArray]
      rw [r1, k1, ← Nat.add_mul, ← Nat.add_mul]
      congr 1
      omega
    · rw [Array.getElem?_append_left (by simpa using hk)]
      rw [← Array.getElem?_toList]
      simp

theorem SrcAt.none_ {sz : Nat} {a : Option Addr} {c : Nat} : SrcAt h sz 0 (.slice a 0 c) [] := ⟨by simp, by simp, a, c, rfl, fun q => by omega⟩
theorem SrcAt.of {sz n m o c : Nat} {w : Value} {l : List Value} {b : Nat} {cs : Array Value} {ty : TypeId} {fr : Nat × Nat} (hw : w = .slice (some ⟨b, o, none⟩) n c) (hb : h[b]? = some (.cells cs ty fr)) (hl : l.length = n * sz) (hx : ∀ x ∈ l, single x = true) (ho : o + n * sz ≤ cs.size) (hg : ∀ k, k < l.length → cs[o + k]? = l[k]?) : SrcAt h sz n w l :=
  ⟨hl, hx, _, c, hw, fun _ => ⟨b, o, cs, ty, fr, rfl, hb, ho, hg⟩⟩

/-- A literal's cells. -/
theorem SrcAt.lit {sz n c : Nat} {l : List Value} {b : Nat} {ty : TypeId} {fr : Nat × Nat} (hb : h[b]? = some (.cells l.toArray ty fr)) (hl : l.length = n * sz) (hx : ∀ x ∈ l, single x = true) : SrcAt h sz n (.slice (some ⟨b, 0, none⟩) n c) l :=
  ⟨hl, hx, _, c, rfl, fun _ => ⟨b, 0, l.toArray, ty, fr, rfl, hb, by simp [hl], fun k _ => by simp⟩⟩
/-- A part of a list. -/
theorem Sat.src {sz n : Nat} {v : Value} {l : List Value} (hs : Sat h (sliceS sz n v l :: F)) : SrcAt h sz n v l := by
  obtain ⟨a, c, p1, p2, p3, ⟨r1, r2, r3⟩, p5⟩ := hs
  rcases r3 with ⟨rfl, rfl⟩ | ⟨lb, cap, cs, ty, rfl, w1, w2, w3, w4⟩
  · exact ⟨r1, r2, none, 0, rfl, fun q => by omega⟩
  · have : n * sz ≤ cap * sz := Nat.mul_le_mul_right _ w1
    exact ⟨r1, r2, _, cap, rfl, fun _ => ⟨lb, 0, cs, ty, _, rfl, p2 lb _ w3, by omega, fun k hk => by rw [Nat.zero_add]; exact w4 k hk⟩⟩

theorem flat_get {α : Type} {enc : α → List Value} {sz : Nat} (he : ∀ x, (enc x).length = sz) : ∀ (L : List α) (i j : Nat), j < sz → (L.flatMap enc)[i * sz + j]? = (L[i]?).bind fun x => (enc x)[j]?
  | [], i, j, _ => by simp
  | x :: L, 0, j, hj => by simp only [List.flatMap_cons, Nat.zero_mul, Nat.zero_add]; rw [List.getElem?_append_left (by rw [he]; exact hj)]; rfl
  | x :: L, i + 1, j, hj => by
    simp only [List.flatMap_cons]
    rw [List.getElem?_append_right (by rw [he, Nat.succ_mul]; omega), he, show (i + 1) * sz + j - sz = i * sz + j by rw [Nat.succ_mul]; omega, flat_get he L i j hj]
    simp
theorem flat_len {α : Type} {enc : α → List Value} {sz : Nat} (he : ∀ x, (enc x).length = sz) : ∀ (L : List α), (L.flatMap enc).length = L.length * sz
  | [] => by simp
  | x :: L => by simp only [List.flatMap_cons, List.length_append, he, flat_len he L, List.length_cons, Nat.succ_mul]; omega
end
end Go.Eng
