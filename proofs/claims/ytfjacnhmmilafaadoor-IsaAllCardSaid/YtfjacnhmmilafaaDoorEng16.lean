/-
  THE ENGINE, PART 16: literals of lists; parts of lists.
-/
import Derived.Test.YtfjacnhmmilafaaDoorEng15
namespace Go.Eng
set_option linter.unusedSimpArgs false
set_option linter.unusedVariables false
set_option maxRecDepth 16000
set_option maxHeartbeats 4000000
open Go

def partsOk (sz : Nat) : Nat → List (Nat × Value) → Bool
  | _, [] => true
  | k, (i, v) :: r => i == k && v.cells.size == sz && partsOk sz (k + 1) r
def catL : List (Nat × Value) → List Value
  | [] => []
  | (_, v) :: r => v.cells.toList ++ catL r
theorem catL_nil : catL [] = [] := (rfl)
theorem catL_cons {i : Nat} {v : Value} {r : List (Nat × Value)} : catL ((i, v) :: r) = v.cells.toList ++ catL r := (rfl)
theorem partsOk_nil {sz k : Nat} : partsOk sz k [] = true := (rfl)
theorem partsOk_cons {sz k i : Nat} {v : Value} {r : List (Nat × Value)} : partsOk sz k ((i, v) :: r) = (i == k && v.cells.size == sz && partsOk sz (k + 1) r) := (rfl)

theorem foldl_put (off : Nat) : ∀ (xs : List (Value × Nat)) (n : Nat) (cs : Array Value), (∀ i x, xs[i]? = some x → x.2 = n + i) → off + n + xs.length ≤ cs.size →
    (xs.foldl (fun cs x => cs.setIfInBounds (off + x.2) x.1) cs).size = cs.size ∧ ∀ j : Nat, (xs.foldl (fun cs x => cs.setIfInBounds (off + x.2) x.1) cs)[j]? = if off + n ≤ j ∧ j < off + n + xs.length then (xs[j - (off + n)]?).map (·.1) else cs[j]?
  | [], n, cs, _, _ => ⟨rfl, fun j => by simp only [List.foldl_nil, List.length_nil]; rw [if_neg (by omega)]⟩
  | x :: xs, n, cs, hx, hle => by
    simp only [List.length_cons] at hle
    have h0 : x.2 = n := by simpa using hx 0 x rfl
    obtain ⟨q1, q2⟩ := foldl_put off xs (n + 1) (cs.setIfInBounds (off + x.2) x.1) (fun i y hy => by have := hx (i + 1) y (by simpa using hy); omega) (by simp; omega)
    refine ⟨by simpa using q1, fun j => ?_⟩
    rw [List.foldl_cons, q2 j]
    simp only [List.length_cons]
    by_cases h1 : off + (n + 1) ≤ j ∧ j < off + (n + 1) + xs.length
    · rw [if_pos h1, if_pos (by omega), show j - (off + n) = (j - (off + (n + 1))) + 1 by omega]; rfl
    · rw [if_neg h1, h0, Array.getElem?_setIfInBounds]
      by_cases h2 : j = off + n
      · subst h2
        rw [if_pos rfl, if_pos (by omega), if_pos (by omega), Nat.sub_self]; rfl
      · rw [if_neg (fun e => h2 e.symm), if_neg (by omega)]

theorem fill_parts {sz : Nat} : ∀ (ps : List (Nat × Value)) (k : Nat) (cs : Array Value), partsOk sz k ps = true → cs.size = (k + ps.length) * sz →
    ∃ cs', Instr.fill (fun i => some (i * sz, sz)) cs ps = some cs' ∧ cs'.size = cs.size ∧ ∀ j, cs'[j]? = if k * sz ≤ j then (catL ps)[j - k * sz]? else cs[j]?
  | [], k, cs, _, hs => ⟨cs, rfl, rfl, fun j => by
      split
      · rw [Array.getElem?_eq_none (by simp at hs; omega)]; rfl
      · rfl⟩
  | (i, v) :: ps, k, cs, hok, hs => by
    simp only [partsOk, Bool.and_eq_true, beq_iff_eq] at hok
    obtain ⟨⟨rfl, hv⟩, hok⟩ := hok
    simp only [List.length_cons] at hs
    have e1 : (i + (ps.length + 1)) * sz = i * sz + sz + ps.length * sz := by rw [Nat.add_mul, Nat.add_mul, Nat.one_mul]; omega
    rw [e1] at hs
    unfold Instr.fill
    have hc : (decide (v.cells.size ≠ sz) || decide (i * sz + v.cells.size > cs.size)) = false := by
      rw [hv]
      simp only [ne_eq, not_true_eq_false, decide_false, Bool.false_or, decide_eq_false_iff_not]
      omega
    simp only [hc, Bool.false_eq_true, if_false]
    have hl : v.cells.zipIdx.toList.length = sz := by simp [hv]
    have hfold := foldl_put (i * sz) v.cells.zipIdx.toList 0 cs (fun j x hx => by
      rw [Array.getElem?_toList, Array.getElem?_zipIdx] at hx
      obtain ⟨y, -, rfl⟩ := Option.map_eq_some_iff.1 hx
      simp) (by rw [hl]; omega)
    simp only [← Array.foldl_toList]
    obtain ⟨p1, p2⟩ := hfold
    generalize hcs2 : List.foldl _ cs v.cells.zipIdx.toList = cs2 at *
    have e2 : (i + 1 + ps.length) * sz = i * sz + sz + ps.length * sz := by rw [Nat.add_mul, Nat.add_mul, Nat.one_mul]
    obtain ⟨cs', f1, f2, f3⟩ := fill_parts ps (i + 1) cs2 hok (by rw [p1, hs, e2])
    refine ⟨cs', ?_, by rw [f2, p1], fun j => ?_⟩
    · rw [← f1]
    · rw [f3 j, Nat.add_mul, Nat.one_mul, catL_cons]
      have hlen : v.cells.toList.length = sz := by simp [hv]
      by_cases h1 : i * sz + sz ≤ j
      · rw [if_pos h1, if_pos (by omega), List.getElem?_append_right (by omega), hlen]
        congr 1; omega
      · rw [if_neg h1, p2 j, hl]
        by_cases h2 : i * sz ≤ j
        · rw [if_pos (by omega), if_pos h2, List.getElem?_append_left (by omega), Nat.add_zero, Array.getElem?_toList, Array.getElem?_zipIdx, Array.getElem?_toList]
          cases v.cells[j - i * sz]? <;> rfl
        · rw [if_neg (by omega), if_neg h2]

section
variable {P : Program} {h : Heap} {t : TypeId} {F : List SP}
theorem catL_len {sz : Nat} : ∀ (ps : List (Nat × Value)) (k : Nat), partsOk sz k ps = true → (catL ps).length = ps.length * sz
  | [], _, _ => by simp [catL]
  | (i, v) :: ps, k, hok => by
    simp only [partsOk, Bool.and_eq_true, beq_iff_eq] at hok
    rw [catL_cons, List.length_append, catL_len ps _ hok.2, List.length_cons, Nat.succ_mul, Array.length_toList, hok.1.2]
    omega

theorem runH_buildSlice {n : Nat} {ps : List (Nat × Value)} {K : Value → Heap → Prop} (hsl : isSliceB P t = true) (hz : (tzero P (sliceElem P t)).isSome = true) (hz2 : (tzeroD P (sliceElem P t)).cells.size = sliceSz P t)
    (hn : ps.length = n) (h24 : n * sliceSz P t ≤ 16777216) (hok : partsOk (sliceSz P t) 0 ps = true) :
    runH P (iBuildSlice t n ps.toArray) h K = K (.slice (some ⟨h.size, 0, none⟩) n n) (h.push (.cells (catL ps).toArray (sliceElem P t))) := by
  obtain ⟨e, s, ht, hs, hsz⟩ := isSliceB_of hsl
  have he : sliceElem P t = e := by simp [sliceElem, ht]
  rw [he] at hz hz2 ⊢
  rw [hsz] at hz2 h24 hok
  subst hn
  obtain ⟨z, hz'⟩ := Option.isSome_iff_exists.1 hz
  have hzd : tzeroD P e = z := by simp [tzeroD, hz']
  rw [hzd] at hz2
  unfold iBuildSlice Instr.buildSlice
  rw [runH_bind, runH_underlying ht]
  simp only
  rw [runH_bind, runH_of_runD _ (runD_sizeOf hs)]
  rw [if_neg (by have e24 : (2 : Nat) ^ 24 = 16777216 := by decide
                 omega)]
  have key : ∀ zc : Array Value, ∃ cs', Instr.fill (fun i => some (i * s, s)) ((Array.range (ps.length * s)).map (zc[· % zc.size]!)) ps = some cs' ∧ cs' = (catL ps).toArray := by
    intro zc
    obtain ⟨cs', f1, f2, f3⟩ := fill_parts (sz := s) ps 0 ((Array.range (ps.length * s)).map (zc[· % zc.size]!)) hok (by simp)
    refine ⟨cs', f1, ?_⟩
    apply Array.ext_getElem?
    intro j
    rw [f3 j]
    simp
  by_cases h0 : ps.length * s = 0
  · rw [if_pos h0, runH_bind]
    simp only [runH_pure]
    obtain ⟨cs', f1, rfl⟩ := key #[]
    simp only [List.toList_toArray, f1]
    rfl
  · rw [if_neg h0, runH_bind, runH_of_runD _ (runD_zero hz'), runH_bind]
    simp only [runH_pure]
    obtain ⟨cs', f1, rfl⟩ := key z.cells
    simp only [List.toList_toArray, f1]
    rfl

theorem runD_slice_slice {a : Option Addr} {n cap l u : Nat} {lo hi : Option Value} (hsl : isSliceB P t = true)
    (h1 : runD P (Instr.sliceBounds true n cap lo hi none) h = some (l, u, cap)) : runD P (iSliceAt t (.slice a n cap) lo hi none) h = some (.slice (if cap = l then a else a.map (·.add (l * sliceSz P t))) (u - l) (cap - l)) := by
  obtain ⟨e, s, ht, hs, hsz⟩ := isSliceB_of hsl
  unfold iSliceAt Instr.sliceAt
  rw [runD_bind, runD_underlying ht]
  simp only [Option.bind_some]
  unfold Instr.slice
  rw [runD_bind, runD_underlying ht]
  simp only [Option.bind_some]
  rw [runD_bind]
  have h1' : ∀ c, runD P (Instr.sliceBounds c n cap lo hi none) h = some (l, u, cap) → True := fun _ _ => trivial
  rw [h1]
  simp only [Option.bind_some]
  rw [runD_bind, runD_sizeOf hs]
  simp only [Option.bind_some, hsz]
  rfl
theorem sliceBounds_from {n cap k : Nat} {q : IntKind} {b : Bool} (hk : k ≤ n) : runD P (Instr.sliceBounds b n cap (some (.int q k)) none none) h = some (k, n, cap) := by
  unfold Instr.sliceBounds
  simp only [pure_bind]
  rw [runD_bind, runD_sliceBound (by omega) (by omega)]
  simp
theorem sliceBounds_to {n cap k : Nat} {q : IntKind} {b : Bool} (hk : k ≤ cap) : runD P (Instr.sliceBounds b n cap none (some (.int q k)) none) h = some (0, k, cap) := by
  unfold Instr.sliceBounds
  simp only [pure_bind]
  rw [runD_bind, runD_sliceBound (by omega) (by omega)]
  simp
theorem sliceBounds_both {n cap k m : Nat} {q q' : IntKind} {b : Bool} (hk : k ≤ m) (hm : m ≤ cap) : runD P (Instr.sliceBounds b n cap (some (.int q k)) (some (.int q' m)) none) h = some (k, m, cap) := by
  unfold Instr.sliceBounds
  simp only [pure_bind]
  rw [runD_bind, runD_sliceBound (by omega) (by omega)]
  simp only [Option.bind_some]
  rw [runD_bind, runD_sliceBound (by omega) (by omega)]
  simp

/-- A part of a list. -/
theorem Sat.part {sz n k m : Nat} {v : Value} {l : List Value} {lo hi : Option Value} (hs : Sat h (sliceS sz n v l :: F)) (hsl : isSliceB P t = true) (hsz : sliceSz P t = sz) (hk : k ≤ m) (hm : m ≤ n)
    (hb : ∀ cap (h' : Heap), n ≤ cap → runD P (Instr.sliceBounds true n cap lo hi none) h' = some (k, m, cap)) : ∃ w, (∀ h' : Heap, runD P (iSliceAt t v lo hi none) h' = some w) ∧ SrcAt h sz (m - k) w ((l.drop (k * sz)).take ((m - k) * sz)) := by
  subst hsz
  obtain ⟨a, c, p1, p2, p3, ⟨r1, r2, r3⟩, p5⟩ := hs
  have hlen : ((l.drop (k * sliceSz P t)).take ((m - k) * sliceSz P t)).length = (m - k) * sliceSz P t := by
    rw [List.length_take, List.length_drop, r1]
    have : m * sliceSz P t ≤ n * sliceSz P t := Nat.mul_le_mul_right _ hm
    rw [Nat.sub_mul]
    have : k * sliceSz P t ≤ m * sliceSz P t := Nat.mul_le_mul_right _ hk
    omega
  have hall : ∀ x ∈ (l.drop (k * sliceSz P t)).take ((m - k) * sliceSz P t), single x = true := fun x hx => r2 x (List.mem_of_mem_drop (List.mem_of_mem_take hx))
  rcases r3 with ⟨rfl, rfl⟩ | ⟨lb, cap, cs, ty, rfl, w1, w2, w3, w4⟩
  · obtain rfl : m = 0 := by omega
    obtain rfl : k = 0 := by omega
    exact ⟨_, fun h' => runD_slice_slice hsl (hb 0 h' (Nat.le_refl _)), hlen, hall, _, _, rfl, fun q => by omega⟩
  · refine ⟨_, fun h' => runD_slice_slice hsl (hb cap h' w1), hlen, hall, _, _, rfl, fun q => ?_⟩
    have hlb : h[lb]? = some (.cells cs ty (0, 0)) := p2 lb _ w3
    have e3 : m * sliceSz P t ≤ n * sliceSz P t := Nat.mul_le_mul_right _ hm
    have e4 : n * sliceSz P t ≤ cap * sliceSz P t := Nat.mul_le_mul_right _ w1
    have e5 : k * sliceSz P t ≤ m * sliceSz P t := Nat.mul_le_mul_right _ hk
    refine ⟨lb, k * sliceSz P t, cs, ty, _, ?_, hlb, ?_, fun i hi => ?_⟩
    · rw [if_neg (by omega)]
      simp [add_mk]
    · rw [Nat.sub_mul]; omega
    · rw [hlen, Nat.sub_mul] at hi
      rw [w4 _ (by omega), List.getElem?_take, if_pos (by rw [Nat.sub_mul]; omega), List.getElem?_drop]
theorem w8_id {a : Int} (h1 : 0 ≤ a) (h2 : a ≤ 255) : IntKind.u8.wrap a = a := by
  have e : IntKind.u8.wrap a = a % 256 := by simp [IntKind.wrap, IntKind.bits, IntKind.signed]
  rw [e]; omega
theorem w16_id {a : Int} (h1 : 0 ≤ a) (h2 : a ≤ 65535) : IntKind.u16.wrap a = a := by
  have e : IntKind.u16.wrap a = a % 65536 := by simp [IntKind.wrap, IntKind.bits, IntKind.signed]
  rw [e]; omega
theorem w32_id {a : Int} (h1 : 0 ≤ a) (h2 : a ≤ 4294967295) : IntKind.u32.wrap a = a := by
  have e : IntKind.u32.wrap a = a % 4294967296 := by simp [IntKind.wrap, IntKind.bits, IntKind.signed]
  rw [e]; omega
theorem Sat.toSlice {sz n cap lb : Nat} {l : List Value} {cs : Array Value} {ty : TypeId} (hs : Sat h (cellAt lb (.cells cs ty (0, 0)) :: F)) (hl : l.length = n * sz) (hx : ∀ x ∈ l, single x = true) (hc : n ≤ cap) (hz : cs.size = cap * sz) (hg : ∀ k, k < l.length → cs[k]? = l[k]?) :
    Sat h (sliceS sz n (.slice (some ⟨lb, 0, none⟩) n cap) l :: F) := hs.imp fun a ha => ⟨hl, hx, .inr ⟨lb, cap, cs, ty, rfl, hc, hz, ha, hg⟩⟩
theorem rdK_any {r : Option Value} {K : Value → Prop} (hK : ∀ v, K v) : rdK false r K := by
  unfold rdK
  split
  · exact hK _
  · exact ⟨rfl, hK _⟩
/-- What is read of a list. -/
theorem Sat.elems {sz n : Nat} {v : Value} {l : List Value} (hs : Sat h (sliceS sz n v l :: F)) : ∃ sl cap, v = .slice sl n cap ∧ n ≤ cap ∧ l.length = n * sz ∧ (n = 0 ∨ ∃ lb, sl = some ⟨lb, 0, none⟩ ∧ (∀ k, k < n * sz → hcellO h[lb]? k = l[k]?) ∧ ∀ o m, o + m ≤ n * sz → hreadO h[lb]? o m = some ((l.drop o).take m).toArray) := by
  obtain ⟨a, c, p1, p2, p3, ⟨r1, r2, r3⟩, p5⟩ := hs
  rcases r3 with ⟨rfl, rfl⟩ | ⟨lb, cap, cs, ty, rfl, w1, w2, w3, w4⟩
  · exact ⟨_, _, rfl, Nat.le_refl _, r1, .inl rfl⟩
  · have := p2 lb _ w3
    simp only [hp] at this
    refine ⟨_, _, rfl, w1, r1, .inr ⟨lb, rfl, fun k hk => ?_, fun o m hm => ?_⟩⟩
    · rw [this, hcellO_arr]
      exact w4 k (by omega)
    · have hle : n * sz ≤ cap * sz := Nat.mul_le_mul_right _ w1
      rw [this, hreadO_arr (by omega)]
      congr 1
      apply Array.ext_getElem?
      intro i
      rw [Array.getElem?_extract]
      simp only [List.getElem?_toArray, List.getElem?_take, List.getElem?_drop]
      split
      · rw [w4 _ (by omega), if_pos (by omega)]
      · rw [if_neg (by omega)]
theorem Sat.sliceOpen {sz n : Nat} {v : Value} {l : List Value} (hs : Sat h (sliceS sz n v l :: F)) (hn : 0 < n) : ∃ lb cap cs ty, v = .slice (some ⟨lb, 0, none⟩) n cap ∧ n ≤ cap ∧ h[lb]? = some (.cells cs ty (0, 0)) ∧ cs.size = cap * sz ∧ (∀ k, k < l.length → cs[k]? = l[k]?) ∧
    ∀ k x, k < l.length → single x = true → Sat (h.setIfInBounds lb (.cells (cs.setIfInBounds k x) ty (0, 0))) (sliceS sz n v (l.set k x) :: F) := by
  obtain ⟨a, c, p1, p2, p3, ⟨r1, r2, r3⟩, p5⟩ := hs
  rcases r3 with ⟨rfl, rfl⟩ | ⟨lb, cap, cs, ty, rfl, w1, w2, w3, w4⟩
  · omega
  · refine ⟨lb, cap, cs, ty, rfl, w1, p2 lb _ w3, w2, w4, fun k x hk hx => ?_⟩
    have base : Sat h (cellAt lb (.cells cs ty (0, 0)) :: F) := ⟨a, c, p1, p2, p3, w3, p5⟩
    refine (base.set (.cells (cs.setIfInBounds k x) ty (0, 0))).imp fun b hb => ⟨by simpa using r1, fun y hy => ?_, .inr ⟨lb, cap, _, ty, rfl, w1, by simpa using w2, hb, fun j hj => ?_⟩⟩
    · rcases List.mem_or_eq_of_mem_set hy with q | q
      · exact r2 y q
      · rw [q]; exact hx
    · simp only [List.length_set] at hj
      rw [Array.getElem?_setIfInBounds, List.getElem?_set]
      by_cases e : k = j
      · subst e
        have hle : n * sz ≤ cap * sz := Nat.mul_le_mul_right _ w1
        rw [if_pos rfl, if_pos rfl, if_pos (by omega), if_pos hk]
      · rw [if_neg e, if_neg e]; exact w4 j hj
theorem Sat.sliceEq {sz n : Nat} {v : Value} {l l' : List Value} (hs : Sat h (sliceS sz n v l :: F)) (e : l = l') : Sat h (sliceS sz n v l' :: F) := e ▸ hs
theorem Sat.nilS {sz : Nat} (hs : Sat h F) : Sat h (sliceS sz 0 (.slice none 0 0) [] :: F) :=
  ⟨fun _ => none, hp h, fun _ => .inl rfl, fun _ _ q => (by cases q), Part.le.refl _, ⟨by simp, by simp, .inl ⟨rfl, rfl⟩⟩, hs⟩
theorem Sat.emptyS {sz b : Nat} {ty : TypeId} (hs : Sat h (cellAt b (.cells #[] ty (0, 0)) :: F)) : Sat h (sliceS sz 0 (.slice (some ⟨b, 0, none⟩) 0 0) [] :: F) :=
  hs.imp fun a ha => ⟨by simp, by simp, .inr ⟨b, 0, #[], ty, rfl, Nat.le_refl _, by simp, ha, fun k hk => by simp at hk⟩⟩
theorem take_while {α : Type} {p : α → Bool} : ∀ (L : List α) (i : Nat), (∀ j x, j < i → L[j]? = some x → p x = true) → (∀ x, L[i]? = some x → p x = false) → L.takeWhile p = L.take i ∧ L.dropWhile p = L.drop i
  | [], i, _, _ => by simp
  | x :: L, 0, _, h2 => by have := h2 x rfl; simp [this]
  | x :: L, i + 1, h1, h2 => by
    have h0 := h1 0 x (by omega) rfl
    have ih := take_while L i (fun j y hj hy => h1 (j + 1) y (by omega) (by simpa using hy)) (fun y hy => h2 y (by simpa using hy))
    simp [h0, ih.1, ih.2]
end
section
variable {h : Heap} {a b c d : Obj}
theorem get_push2a : ((h.push a).push b)[h.size]? = some a := by rw [get_push_lt (by simp)]; exact get_push_new
theorem get_push2b : ((h.push a).push b)[h.size + 1]? = some b := by rw [← size_push' (h := h) (o := a)]; exact get_push_new
theorem get_push3a : (((h.push a).push b).push c)[h.size]? = some a := by rw [get_push_lt (by simp; omega)]; exact get_push2a
theorem get_push3b : (((h.push a).push b).push c)[h.size + 1]? = some b := by rw [get_push_lt (by simp)]; exact get_push2b
theorem get_push3c : (((h.push a).push b).push c)[h.size + 1 + 1]? = some c := by rw [← size_push' (h := h) (o := a)]; exact get_push2b
theorem set_push2a : ((h.push a).push b).setIfInBounds h.size d = (h.push d).push b := by
  apply Array.ext_getElem?
  intro i
  simp only [Array.getElem?_setIfInBounds, Array.getElem?_push, Array.size_push]
  by_cases e : h.size = i
  · subst e; simp; omega
  · have e2 : ¬ i = h.size := fun z => e z.symm
    simp [e, e2]
theorem set_push2b : ((h.push a).push b).setIfInBounds (h.size + 1) d = (h.push a).push d := by rw [← size_push' (h := h) (o := a)]; exact set_push_new
theorem set_push3a : (((h.push a).push b).push c).setIfInBounds h.size d = ((h.push d).push b).push c := by
  apply Array.ext_getElem?
  intro i
  simp only [Array.getElem?_setIfInBounds, Array.getElem?_push, Array.size_push]
  by_cases e : h.size = i
  · subst e
    simp
    rw [if_pos (by omega), if_neg (by omega)]
  · have e2 : ¬ i = h.size := fun z => e z.symm
    simp [e, e2]
theorem set_push3b : (((h.push a).push b).push c).setIfInBounds (h.size + 1) d = ((h.push a).push d).push c := by rw [← size_push' (h := h) (o := a)]; exact set_push2a
theorem set_push3c : (((h.push a).push b).push c).setIfInBounds (h.size + 1 + 1) d = ((h.push a).push b).push d := by rw [← size_push' (h := h) (o := a)]; exact set_push2b
end
attribute [go_sem] get_push2a get_push2b get_push3a get_push3b get_push3c set_push2a set_push2b set_push3a set_push3b set_push3c
attribute [go_sem ↓] runH_buildSlice
theorem tmod_pos {a b : Int} (h : 0 ≤ a) : a.tmod b = a % b := Int.tmod_eq_emod_of_nonneg h
theorem tdiv_pos {a b : Int} (h : 0 ≤ a) : a.tdiv b = a / b := Int.tdiv_eq_ediv_of_nonneg h
attribute [go_sem] catL_nil catL_cons partsOk_nil partsOk_cons
attribute [go_sem] Nat.add_zero List.size_toArray List.length_cons List.length_nil List.cons_append List.nil_append List.append_nil beq_self_eq_true Bool.and_self eq_self Option.map_some Bool.false_eq_true Bool.true_eq_false decide_true decide_false true_implies false_implies not_true_eq_false not_false_eq_true Int.toNat_natCast Nat.mul_one Nat.one_mul Nat.zero_mul forall_const if_true if_false or_true true_or or_false false_or and_false false_and
end Go.Eng
