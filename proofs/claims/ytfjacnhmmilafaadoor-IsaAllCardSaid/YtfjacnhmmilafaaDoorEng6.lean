/-
  THE ENGINE, PART 6: the instructions, one by one.
-/
import Derived.Test.YtfjacnhmmilafaaDoorEng5
namespace Go.Eng
set_option linter.unusedSimpArgs false
set_option linter.unusedVariables false
set_option maxRecDepth 16000
set_option maxHeartbeats 4000000
open Go

def aggD : TypeDesc → Bool
  | .struct _ | .array _ _ => true
  | _ => false
def aggB (P : Program) (t : TypeId) : Option Bool := (P.underlying t).map aggD
def tsz (P : Program) (t : TypeId) : Option Nat := (P.info? t).map (·.size)
def tbytes (P : Program) (t : TypeId) : Option Nat := (P.info? t).map (·.bytes)
def tzero (P : Program) (t : TypeId) : Option Value := (P.info? t).bind (·.zero)

def tszD (P : Program) (t : TypeId) : Nat := (tsz P t).getD 0
def tzeroD (P : Program) (t : TypeId) : Value := (tzero P t).getD undef
def isPtrB (P : Program) (t : TypeId) : Bool := match P.underlying t with | some (.pointer _) => true | _ => false
def isSliceB (P : Program) (t : TypeId) : Bool := match P.underlying t with | some (.slice e) => (tsz P e).isSome | _ => false
def sliceSz (P : Program) (t : TypeId) : Nat := match P.underlying t with | some (.slice e) => tszD P e | _ => 0
def isIntB (P : Program) (t : TypeId) : Bool := match P.underlying t with | some (.int _) => true | _ => false
def intKD (P : Program) (t : TypeId) : IntKind := match P.underlying t with | some (.int k) => k | _ => .i64
theorem isPtrB_of {P : Program} {t : TypeId} (h : isPtrB P t = true) : ∃ e, P.underlying t = some (.pointer e) := by
  unfold isPtrB at h; split at h
  · exact ⟨_, by assumption⟩
  · cases h
theorem isSliceB_of {P : Program} {t : TypeId} (h : isSliceB P t = true) : ∃ e s, P.underlying t = some (.slice e) ∧ tsz P e = some s ∧ sliceSz P t = s := by
  unfold isSliceB at h; split at h
  · rename_i e he
    obtain ⟨s, hs⟩ := Option.isSome_iff_exists.1 h
    exact ⟨e, s, he, hs, by simp [sliceSz, he, tszD, hs]⟩
  · cases h
theorem isIntB_of {P : Program} {t : TypeId} (h : isIntB P t = true) : P.underlying t = some (.int (intKD P t)) := by
  unfold isIntB at h; split at h
  · rename_i k hk; simp [intKD, hk]
  · cases h

section
variable {P : Program} {h : Heap} {t : TypeId} {α : Type}

theorem runD_underlying {d : TypeDesc} (hd : P.underlying t = some d) : runD P (underlying t) h = some d := by
  unfold underlying; rw [runD_bind]; show (some P).bind _ = _; simp [hd]
theorem runD_typeInfo {i : TypeInfo} (hd : P.info? t = some i) : runD P (typeInfo t) h = some i := by
  unfold typeInfo; rw [runD_bind]; show (some P).bind _ = _; simp [hd]
theorem runD_sizeOf {n : Nat} (hs : tsz P t = some n) : runD P (sizeOf t) h = some n := by
  unfold tsz at hs
  cases hi : P.info? t with
  | none => simp [hi] at hs
  | some i => simp [hi] at hs; subst hs; unfold sizeOf; rw [runD_bind, runD_typeInfo hi]; rfl
theorem runD_isAgg {b : Bool} (hs : aggB P t = some b) : runD P (isAgg t) h = some b := by
  unfold aggB at hs
  cases hi : P.underlying t with
  | none => simp [hi] at hs
  | some d =>
    simp [hi] at hs; subst hs
    unfold isAgg; rw [runD_bind, runD_underlying hi]
    cases d <;> rfl
theorem runD_zero {v : Value} (hs : tzero P t = some v) : runD P (zeroValue t) h = some v := by
  unfold tzero at hs
  cases hi : P.info? t with
  | none => simp [hi] at hs
  | some i =>
    simp [hi] at hs
    unfold zeroValue; rw [runD_bind, runD_typeInfo hi]; simp [hs]

/-! ### cells -/
def hcellO : Option Obj → Nat → Option Value
  | some (.cells c _ _), o => c[o]?
  | _, _ => none
def nthL : List Value → Nat → Option Value
  | [], _ => none
  | x :: _, 0 => some x
  | _ :: l, n + 1 => nthL l n
theorem nthL_eq : ∀ (l : List Value) (n : Nat), nthL l n = l[n]?
  | [], _ => by simp [nthL]
  | x :: l, 0 => by simp [nthL]
  | x :: l, n + 1 => by simp [nthL, nthL_eq l n]
theorem hcell_mk {b o : Nat} : hcell h ⟨b, o, none⟩ = hcellO h[b]? o := by
  simp only [hcell, hcellO]; cases h[b]? with
  | none => rfl
  | some x => cases x <;> rfl
theorem hcellO_lit {l : List Value} {e : TypeId} {fr : Nat × Nat} {o : Nat} : hcellO (some (.cells l.toArray e fr)) o = nthL l o := by simp [hcellO, nthL_eq]
theorem hcellO_arr {c : Array Value} {e : TypeId} {fr : Nat × Nat} {o : Nat} : hcellO (some (.cells c e fr)) o = c[o]? := (rfl)
theorem nthL_zero {x : Value} {l : List Value} : nthL (x :: l) 0 = some x := (rfl)
theorem nthL_succ {x : Value} {l : List Value} {n : Nat} : nthL (x :: l) (n + 1) = nthL l n := (rfl)

theorem add_mk {b o k : Nat} : Addr.add ⟨b, o, none⟩ k = ⟨b, o + k, none⟩ := by
  unfold Addr.add; split
  · rename_i e; subst e; rfl
  · rfl

theorem runD_load1 {a : Addr} : runD P (load a) h = hcell h a := by
  simp only [load, runD]; cases hcell h a <;> rfl
theorem runD_map {β : Type} {f : α → β} {s : Sem α} : runD P (f <$> s) h = (runD P s h).map f := by
  rw [← bind_pure_comp, runD_bind]; cases runD P s h <;> rfl

theorem runD_load {a : Addr} (ha : aggB P t = some false) : runD P (iLoadAt t (.pointer (some a))) h = hcell h a := by
  show runD P (loadVar t a) h = _
  unfold loadVar
  rw [runD_bind, runD_isAgg ha]
  simp only [Option.bind_some, Bool.false_eq_true, if_false]
  exact runD_load1

def hreadO : Option Obj → Nat → Nat → Option (Array Value)
  | some (.cells c _ _), o, n => if o + n ≤ c.size then some (c.extract o (o + n)) else none
  | _, _, _ => none
def takeN : List Value → Nat → Option (List Value)
  | _, 0 => some []
  | [], _ + 1 => none
  | x :: l, n + 1 => (takeN l n).map (x :: ·)
def cutN : List Value → Nat → Nat → Option (List Value)
  | l, 0, n => takeN l n
  | [], _ + 1, n => takeN [] n
  | _ :: l, o + 1, n => cutN l o n

theorem runD_loadCellsFrom {b o : Nat} {c : Array Value} {e : TypeId} {fr : Nat × Nat} (hb : h[b]? = some (.cells c e fr)) : ∀ (n i : Nat) (acc : Array Value),
    runD P (loadCellsFrom ⟨b, o, none⟩ i n acc) h = if n = 0 ∨ o + i + n ≤ c.size then some (acc ++ c.extract (o + i) (o + i + n)) else none
  | 0, i, acc => by simp [loadCellsFrom]; omega
  | n + 1, i, acc => by
    unfold loadCellsFrom
    rw [runD_bind]
    have : runD P (load (Addr.add ⟨b, o, none⟩ i)) h = c[o + i]? := by
      rw [add_mk, runD_load1, hcell_mk, hb, hcellO_arr]
    rw [this]
    by_cases hlt : o + i < c.size
    · rw [Array.getElem?_eq_getElem hlt, Option.bind_some, runD_loadCellsFrom hb n (i + 1)]
      have e1 : c.extract (o + i) (o + i + (n + 1)) = #[c[o + i]] ++ c.extract (o + (i + 1)) (o + (i + 1) + n) := by
        by_cases hle : o + i + (n + 1) ≤ c.size
        · apply Array.ext
          · simp; omega
          · intro j h1 h2
            simp only [Array.getElem_extract, Array.getElem_append]
            split
            · rename_i hj; simp at hj; subst hj; simp
            · rename_i hj; simp at hj; simp only [Array.size_extract] at h1; congr 1; simp; omega
        · apply Array.ext
          · simp; omega
          · intro j h1 h2
            simp only [Array.getElem_extract, Array.getElem_append]
            split
            · rename_i hj; simp at hj; subst hj; simp
            · rename_i hj; simp at hj; simp only [Array.size_extract] at h1; congr 1; simp; omega
      by_cases hle : o + i + (n + 1) ≤ c.size
      · rw [if_pos (.inr (by omega)), if_pos (.inr hle), e1]
        simp
      · by_cases hn : n = 0
        · omega
        · rw [if_neg (by omega), if_neg (by omega)]
    · rw [Array.getElem?_eq_none (by omega), Option.bind_none, if_neg (by omega)]

theorem runD_loadCells_none {a : Addr} {n : Nat} (hb : ∀ c e fr, h[a.block]? ≠ some (.cells c e fr)) : runD P (loadCells a (n + 1)) h = none := by
  unfold loadCells loadCellsFrom
  rw [runD_bind]
  have : runD P (load (a.add 0)) h = none := by
    have e0 : a.add 0 = a := (rfl)
    rw [e0, runD_load1]
    unfold hcell
    split
    · rename_i c e fr he; exact (hb _ _ _ he).elim
    · rfl
  rw [this]; rfl

theorem runD_load_agg' {b o n : Nat} (ha : aggB P t = some true) (hs : tsz P t = some (n + 1)) : runD P (iLoadAt t (.pointer (some ⟨b, o, none⟩))) h = (hreadO h[b]? o (n + 1)).map .agg := by
  show runD P (loadVar t _) h = _
  unfold loadVar
  rw [runD_bind, runD_isAgg ha]
  simp only [Option.bind_some, if_true]
  rw [runD_bind, runD_sizeOf hs]
  simp only [Option.bind_some]
  rw [runD_bind]
  have key : runD P (loadCells ⟨b, o, none⟩ (n + 1)) h = hreadO h[b]? o (n + 1) := by
    cases hb : h[b]? with
    | none => exact runD_loadCells_none (fun c e fr => by simp [hb])
    | some x =>
      cases x with
      | cells c e fr =>
        unfold loadCells
        rw [runD_loadCellsFrom hb]
        simp [hreadO]
      | _ => exact runD_loadCells_none (fun c e fr => by simp [hb])
  rw [key]
  cases hreadO h[b]? o (n + 1) <;> rfl

theorem runD_load_agg {b o : Nat} (ha : aggB P t = some true) (hs : 0 < tszD P t) : runD P (iLoadAt t (.pointer (some ⟨b, o, none⟩))) h = (hreadO h[b]? o (tszD P t)).map .agg := by
  unfold tszD at hs ⊢
  cases hn : tsz P t with
  | none => rw [hn] at hs; simp at hs
  | some n =>
    cases n with
    | zero => rw [hn] at hs; simp at hs
    | succ n => exact runD_load_agg' ha hn

theorem takeN_eq : ∀ (l : List Value) (n : Nat), takeN l n = if n ≤ l.length then some (l.take n) else none
  | l, 0 => by simp [takeN]
  | [], n + 1 => by simp [takeN]
  | x :: l, n + 1 => by
    simp only [takeN, takeN_eq l n, List.length_cons, Nat.add_le_add_iff_right, List.take_succ_cons]
    split <;> rfl
theorem cutN_eq : ∀ (l : List Value) (o n : Nat), cutN l o n = if n ≤ l.length - o then some ((l.drop o).take n) else none
  | l, 0, n => by simp [cutN, takeN_eq]
  | [], o + 1, n => by simp [cutN, takeN_eq]
  | x :: l, o + 1, n => by simp [cutN, cutN_eq l o n]
theorem hreadO_lit {l : List Value} {e : TypeId} {fr : Nat × Nat} {o n : Nat} : hreadO (some (.cells l.toArray e fr)) o (n + 1) = (cutN l o (n + 1)).map List.toArray := by
  simp only [hreadO, cutN_eq, List.size_toArray]
  by_cases hle : o + (n + 1) ≤ l.length
  · rw [if_pos hle, if_pos (by omega)]
    simp [List.extract_toArray, List.extract]
  · rw [if_neg hle, if_neg (by omega)]; rfl
theorem hreadO_arr {c : Array Value} {e : TypeId} {fr : Nat × Nat} {o n : Nat} (hn : o + n ≤ c.size) : hreadO (some (.cells c e fr)) o n = some (c.extract o (o + n)) := by simp [hreadO, hn]
theorem cutN_zero {l : List Value} {n : Nat} : cutN l 0 n = takeN l n := by cases l <;> rfl
theorem cutN_succ {x : Value} {l : List Value} {o n : Nat} : cutN (x :: l) (o + 1) n = cutN l o n := (rfl)
theorem takeN_zero {l : List Value} : takeN l 0 = some [] := by cases l <;> rfl
theorem takeN_succ {x : Value} {l : List Value} {n : Nat} : takeN (x :: l) (n + 1) = (takeN l n).map (x :: ·) := (rfl)

/-! ### stores -/
def hputO (h : Heap) (b : Nat) (K : Heap → Prop) : Option Obj → Nat → Value → Prop
  | some (.cells c e fr), o, v => o < c.size ∧ ¬ (fr.1 ≤ o ∧ o < fr.2) ∧ K (h.setIfInBounds b (.cells (c.setIfInBounds o v) e fr))
  | _, _, _ => False
theorem hputO_lit {b o : Nat} {l : List Value} {e : TypeId} {v : Value} {K : Heap → Prop} : hputO h b K (some (.cells l.toArray e (0, 0))) o v = (o < l.length ∧ K (h.setIfInBounds b (.cells (l.set o v).toArray e (0, 0)))) := by
  simp [hputO]
theorem hputO_arr {b o : Nat} {c : Array Value} {e : TypeId} {v : Value} {K : Heap → Prop} : hputO h b K (some (.cells c e (0, 0))) o v = (o < c.size ∧ K (h.setIfInBounds b (.cells (c.setIfInBounds o v) e (0, 0)))) := by
  simp [hputO]

theorem hputO_congr {b : Nat} {K : Heap → Prop} {x x' : Option Obj} {o o' : Nat} {v : Value} (e : x = x') (f : o = o') : hputO h b K x o v = hputO h b K x' o' v := by rw [e, f]
theorem runH_storeVar {a : Addr} {v : Value} {K : Unit → Heap → Prop} {n : Nat} (hs : tsz P t = some n) (hn : v.cells.size = n) : runH P (storeVar t a v) h K = runH P (storeCells a v.cells.toList) h K := by
  unfold storeVar
  rw [runH_bind, runH_of_runD _ (runD_sizeOf hs)]
  simp [hn]

theorem runH_store {b o : Nat} {v : Value} {K : Unit → Heap → Prop} (hs : tsz P t = some 1) (hv : single v = true) : runH P (iStoreAt t (.pointer (some ⟨b, o, none⟩)) v) h K = hputO h b (K ()) h[b]? o v := by
  show runH P (storeVar t _ v) h K = _
  have hc : v.cells = #[v] := by cases v <;> first | rfl | (simp [single] at hv)
  rw [runH_storeVar hs (by rw [hc]; rfl), hc]
  simp only [storeCells]
  rw [runH_bind]
  have e0 : Addr.add ⟨b, o, none⟩ 0 = ⟨b, o, none⟩ := (rfl)
  rw [e0]
  show (single v = true ∧ _) = _
  simp only [hv, true_and]
  cases hb : h[b]? with
  | none => simp [hputO]
  | some x =>
    cases x <;> simp [hputO]
    intro _ _
    exact Iff.rfl

/-- So many cells stored, one behind the other. -/
def hputsL (h : Heap) (b : Nat) (e : TypeId) (K : Heap → Prop) : List Value → Nat → List Value → Prop
  | c, _, [] => K (h.setIfInBounds b (.cells c.toArray e (0, 0)))
  | c, k, v :: l => single v = true ∧ k < c.length ∧ hputsL h b e K (c.set k v) (k + 1) l
def hputsO (h : Heap) (b : Nat) (K : Heap → Prop) (o : Nat) (l : List Value) : Option Obj → Prop
  | some (.cells c e fr) => fr = (0, 0) ∧ hputsL h b e K c.toList o l
  | _ => False
theorem hputsO_lit {b o : Nat} {c l : List Value} {e : TypeId} {K : Heap → Prop} : hputsO h b K o l (some (.cells c.toArray e (0, 0))) = hputsL h b e K c o l := by simp [hputsO]
theorem hputsL_nil {b o : Nat} {c : List Value} {e : TypeId} {K : Heap → Prop} : hputsL h b e K c o [] = K (h.setIfInBounds b (.cells c.toArray e (0, 0))) := (rfl)
theorem hputsL_cons {b k : Nat} {c l : List Value} {v : Value} {e : TypeId} {K : Heap → Prop} : hputsL h b e K c k (v :: l) = (single v = true ∧ k < c.length ∧ hputsL h b e K (c.set k v) (k + 1) l) := (rfl)
theorem hputsO_congr {b o : Nat} {K : Heap → Prop} {l : List Value} {x x' : Option Obj} (e : x = x') : hputsO h b K o l x = hputsO h b K o l x' := by rw [e]

theorem hputsL_set {b : Nat} {e : TypeId} {K : Heap → Prop} {x : Obj} {h : Heap} : ∀ (l : List Value) (k : Nat) (c : List Value), hputsL (h.setIfInBounds b x) b e K c k l = hputsL h b e K c k l
  | [], k, c => by simp [hputsL, Array.setIfInBounds_setIfInBounds]
  | v :: l, k, c => by simp only [hputsL, hputsL_set l]

theorem runH_storeCells {b o : Nat} {e : TypeId} {K : Unit → Heap → Prop} : ∀ (l : List Value) (i : Nat) (h : Heap) (c : List Value), h[b]? = some (.cells c.toArray e (0, 0)) → runH P (storeCells ⟨b, o, none⟩ l i) h K = hputsL h b e (K ()) c (o + i) l
  | [], i, h, c, hb => by
    have : h.setIfInBounds b (.cells c.toArray e (0, 0)) = h := by
      apply Array.ext_getElem?
      intro j
      rw [Array.getElem?_setIfInBounds]
      split
      · rename_i hj; subst hj
        split
        · exact hb.symm
        · rename_i hlt; exact (hlt (Array.getElem?_eq_some_iff.1 hb).1).elim
      · rfl
    simp only [hputsL, this]
    rfl
  | v :: l, i, h, c, hb => by
    have hlt : b < h.size := (Array.getElem?_eq_some_iff.1 hb).1
    have hset : c.toArray.setIfInBounds (o + i) v = (c.set (o + i) v).toArray := by simp
    have ih := runH_storeCells (o := o) (e := e) (K := K) l (i + 1) (h.setIfInBounds b (.cells (c.set (o + i) v).toArray e (0, 0))) (c.set (o + i) v) (by rw [Array.getElem?_setIfInBounds, if_pos rfl, if_pos hlt])
    rw [hputsL_set] at ih
    simp only [storeCells]
    rw [runH_bind, add_mk]
    show (single v = true ∧ _) = _
    simp only [hb, hputsL]
    apply propext
    constructor
    · rintro ⟨h1, -, h2, -, h3⟩
      refine ⟨h1, by simpa using h2, ?_⟩
      rw [hset] at h3
      exact ih ▸ h3
    · rintro ⟨h1, h2, h3⟩
      refine ⟨h1, trivial, by simpa using h2, by simp, ?_⟩
      rw [hset]
      exact ih ▸ h3

def plainRow : Option Obj → Prop
  | some (.cells _ _ fr) => fr = (0, 0)
  | _ => False
theorem plainRow_lit {c : Array Value} {e : TypeId} : plainRow (some (.cells c e (0, 0))) = True := by simp [plainRow]

theorem runH_store_agg {b o : Nat} {cs : List Value} {K : Unit → Heap → Prop} (hs : tszD P t = cs.length) (ht : (tsz P t).isSome = true) (hp : plainRow h[b]?) : runH P (iStoreAt t (.pointer (some ⟨b, o, none⟩)) (.agg cs.toArray)) h K = hputsO h b (K ()) o cs h[b]? := by
  obtain ⟨n, hn⟩ := Option.isSome_iff_exists.1 ht
  have e : tszD P t = n := by simp [tszD, hn]
  show runH P (storeVar t _ _) h K = _
  rw [runH_storeVar (n := n) hn (by simp [Value.cells, ← hs, e])]
  unfold plainRow at hp
  split at hp
  · rename_i c e fr hb
    subst hp
    rw [hb]
    simp only [hputsO, true_and]
    exact runH_storeCells cs 0 h c.toList (by simpa using hb)
  · exact hp.elim

theorem runH_box {v : Value} {K : Value → Heap → Prop} : runH P (iBox t v) h K = K (.pointer (some ⟨h.size, 0, none⟩)) (h.push (.cells v.cells t)) := (rfl)
theorem runH_alloc {v : Value} {K : Value → Heap → Prop} (hs : (tzero P t).isSome = true) : runH P (iAlloc t true v) h K = K (.pointer (some ⟨h.size, 0, none⟩)) (h.push (.cells (tzeroD P t).cells t)) := by
  obtain ⟨z, hz⟩ := Option.isSome_iff_exists.1 hs
  have e : tzeroD P t = z := by simp [tzeroD, hz]
  rw [e]
  unfold iAlloc Instr.alloc
  rw [runH_bind, runH_of_runD _ (runD_zero hz)]
  rfl
theorem runH_makeMap {K : Value → Heap → Prop} : runH P (iMakeMap t none) h K = K (.map (some h.size)) (h.push (.map #[] 0)) := (rfl)

/-! ### numbers -/
theorem binD_add {k : IntKind} {x y : Operand} {a b : Int} : binD P h .add t x y (.int k a) (.int k b) = some (.int k (k.wrap (a + b))) := by simp [binD, eqGuard, binOp, Op.intArith]
theorem binD_sub {k : IntKind} {x y : Operand} {a b : Int} : binD P h .sub t x y (.int k a) (.int k b) = some (.int k (k.wrap (a - b))) := by simp [binD, eqGuard, binOp, Op.intArith]
theorem binD_mul {k : IntKind} {x y : Operand} {a b : Int} : binD P h .mul t x y (.int k a) (.int k b) = some (.int k (k.wrap (a * b))) := by simp [binD, eqGuard, binOp, Op.intArith]
theorem binD_lss {k : IntKind} {x y : Operand} {a b : Int} : binD P h .lss t x y (.int k a) (.int k b) = some (.bool (decide (a < b))) := by simp [binD, eqGuard, binOp, Op.intCmp]
theorem binD_leq {k : IntKind} {x y : Operand} {a b : Int} : binD P h .leq t x y (.int k a) (.int k b) = some (.bool (decide (a ≤ b))) := by simp [binD, eqGuard, binOp, Op.intCmp]
theorem binD_gtr {k : IntKind} {x y : Operand} {a b : Int} : binD P h .gtr t x y (.int k a) (.int k b) = some (.bool (decide (b < a))) := by simp [binD, eqGuard, binOp, Op.intCmp]
theorem binD_geq {k : IntKind} {x y : Operand} {a b : Int} : binD P h .geq t x y (.int k a) (.int k b) = some (.bool (decide (b ≤ a))) := by simp [binD, eqGuard, binOp, Op.intCmp]
theorem binD_eql {k : IntKind} {x y : Operand} {a b : Int} : binD P h .eql t x y (.int k a) (.int k b) = some (.bool (decide (a = b))) := by
  simp [binD, eqGuard, binOp, Op.intCmp, Bool.beq_eq_decide_eq]
theorem binD_neq {k : IntKind} {x y : Operand} {a b : Int} : binD P h .neq t x y (.int k a) (.int k b) = some (.bool (decide (¬ a = b))) := by
  simp [binD, eqGuard, binOp, Op.intCmp, bne, Bool.beq_eq_decide_eq]
theorem binD_quo {k : IntKind} {x y : Operand} {a b : Int} (hb : b ≠ 0) : binD P h .quo t x y (.int k a) (.int k b) = some (.int k (k.wrap (a.tdiv b))) := by simp [binD, eqGuard, binOp, Op.intDiv, hb]
theorem binD_rem {k : IntKind} {x y : Operand} {a b : Int} (hb : b ≠ 0) : binD P h .rem t x y (.int k a) (.int k b) = some (.int k (a.tmod b)) := by simp [binD, eqGuard, binOp, Op.intDiv, hb]
theorem binD_and {k : IntKind} {x y : Operand} {a b : Int} : binD P h .and t x y (.int k a) (.int k b) = some (.int k (k.wrap (BitVec.ofInt k.bits a &&& BitVec.ofInt k.bits b).toNat)) := by simp [binD, eqGuard, binOp, Op.intBits]
theorem binD_or {k : IntKind} {x y : Operand} {a b : Int} : binD P h .or t x y (.int k a) (.int k b) = some (.int k (k.wrap (BitVec.ofInt k.bits a ||| BitVec.ofInt k.bits b).toNat)) := by simp [binD, eqGuard, binOp, Op.intBits]
theorem binD_xor {k : IntKind} {x y : Operand} {a b : Int} : binD P h .xor t x y (.int k a) (.int k b) = some (.int k (k.wrap (BitVec.ofInt k.bits a ^^^ BitVec.ofInt k.bits b).toNat)) := by simp [binD, eqGuard, binOp, Op.intBits]
theorem binD_andNot {k : IntKind} {x y : Operand} {a b : Int} : binD P h .andNot t x y (.int k a) (.int k b) = some (.int k (k.wrap (BitVec.ofInt k.bits a &&& ~~~BitVec.ofInt k.bits b).toNat)) := by simp [binD, eqGuard, binOp, Op.intBits]
theorem binD_shl {k k' : IntKind} {x y : Operand} {a b : Int} (hb : 0 ≤ b) : binD P h .shl t x y (.int k a) (.int k' b) = some (.int k (k.wrap (a * 2 ^ (min b.toNat k.bits)))) := by
  simp [binD, eqGuard, binOp, Op.shift, show ¬ b < 0 by omega]
theorem binD_shr {k k' : IntKind} {x y : Operand} {a b : Int} (hb : 0 ≤ b) : binD P h .shr t x y (.int k a) (.int k' b) = some (.int k (a.fdiv (2 ^ (min b.toNat k.bits)))) := by
  simp [binD, eqGuard, binOp, Op.shift, show ¬ b < 0 by omega]

theorem unary_not {b : Bool} : runD P (iUnary .not (.bool b)) h = some (.bool (!b)) := (rfl)
theorem unary_neg {k : IntKind} {a : Int} : runD P (iUnary .neg (.int k a)) h = some (.int k (k.wrap (0 - a))) := (rfl)

/-! ### equality of pointers, bools -/
theorem equalIn_ptr_nil {e : TypeId} {p : Option Addr} (d : Nat) (ht : P.underlying t = some (.pointer e)) : runD P (Op.equalIn (d + 1) t (.pointer p) (.pointer none)) h = some p.isNone := by
  simp only [Op.equalIn]
  rw [runD_bind, runD_underlying ht]
  cases p <;> rfl
theorem equal_ptr_nil {e : TypeId} {p : Option Addr} (ht : P.underlying t = some (.pointer e)) : runD P (Op.equal t (.pointer p) (.pointer none)) h = some p.isNone := equalIn_ptr_nil 9999 ht
theorem binD_eql_ptr_nil {p : Option Addr} {x y : Operand} (hp : isPtrB P t = true) : binD P h .eql t x y (.pointer p) (.pointer none) = some (.bool p.isNone) := by
  obtain ⟨e, ht⟩ := isPtrB_of hp
  have := equal_ptr_nil (h := h) (p := p) ht
  simp [binD, eqGuard, binOp, runD_map, this]
theorem binD_neq_ptr_nil {p : Option Addr} {x y : Operand} (hp : isPtrB P t = true) : binD P h .neq t x y (.pointer p) (.pointer none) = some (.bool !p.isNone) := by
  obtain ⟨e, ht⟩ := isPtrB_of hp
  have := equal_ptr_nil (h := h) (p := p) ht
  simp [binD, eqGuard, binOp, runD_map, this]
theorem equalIn_bool {a b : Bool} (d : Nat) (ht : P.underlying t = some .bool) : runD P (Op.equalIn (d + 1) t (.bool a) (.bool b)) h = some (a == b) := by
  simp only [Op.equalIn]
  rw [runD_bind, runD_underlying ht]
  rfl
theorem equal_bool {a b : Bool} (ht : P.underlying t = some .bool) : runD P (Op.equal t (.bool a) (.bool b)) h = some (a == b) := equalIn_bool 9999 ht
theorem binD_eql_bool {a b : Bool} {x y : Operand} (ht : P.underlying t = some .bool) : binD P h .eql t x y (.bool a) (.bool b) = some (.bool (a == b)) := by
  have := equal_bool (h := h) (a := a) (b := b) ht
  simp [binD, eqGuard, binOp, runD_map, this]
theorem binD_neq_bool {a b : Bool} {x y : Operand} (ht : P.underlying t = some .bool) : binD P h .neq t x y (.bool a) (.bool b) = some (.bool (!(a == b))) := by
  have := equal_bool (h := h) (a := a) (b := b) ht
  simp [binD, eqGuard, binOp, runD_map, this]

/-! ### parts -/
theorem runD_extract {l : List Value} {i : Nat} : runD P (iExtract (.tuple l.toArray) i) h = nthL l i := by
  simp only [iExtract, Instr.extract, nthL_eq, List.getElem?_toArray]
  cases l[i]? <;> rfl
def fieldD (P : Program) (t : TypeId) (f : Nat) : Option (Nat × TypeId) :=
  match P.underlying t with
  | some (.struct fs) => (fs[f]?).map fun x => (x.offset, x.type)
  | _ => none
theorem runD_field {cs : Array Value} {f : Nat} : runD P (iField t (.agg cs) f) h = (fieldD P t f).bind fun x => runD P (part x.2 cs x.1) h := by
  unfold iField Instr.field fieldD
  rw [runD_bind]
  cases hd : P.underlying t with
  | none => unfold underlying; rw [runD_bind]; show ((some P).bind _).bind _ = _; simp [hd]; intro a ha; cases ha
  | some d =>
    rw [runD_underlying hd]
    cases d <;> first | rfl | skip
    rename_i fs
    simp only [Option.bind_some]
    cases fs[f]? <;> rfl
theorem runD_part {cs : List Value} {o : Nat} (ha : aggB P t = some false) : runD P (part t cs.toArray o) h = nthL cs o := by
  unfold part
  rw [runD_bind, runD_isAgg ha]
  simp only [Option.bind_some, Bool.false_eq_true, if_false, nthL_eq, List.getElem?_toArray]
  cases cs[o]? <;> rfl
theorem runD_part_agg {cs : Array Value} {o : Nat} (ha : aggB P t = some true) (hs' : (tsz P t).isSome = true) : runD P (part t cs o) h = some (.agg (cs.extract o (o + tszD P t))) := by
  obtain ⟨n, hs⟩ := Option.isSome_iff_exists.1 hs'
  have e : tszD P t = n := by simp [tszD, hs]
  rw [e]
  unfold part
  rw [runD_bind, runD_isAgg ha]
  simp only [Option.bind_some, if_true]
  rw [runD_bind, runD_sizeOf hs]
  rfl
theorem runD_len_slice {a : Option Addr} {n m : Nat} {u : TypeId} (hsl : isSliceB P t = true) : runD P (iLen #[t] u #[.slice a n m]) h = some (.int .i64 n) := by
  obtain ⟨e, s, ht, -, -⟩ := isSliceB_of hsl
  unfold iLen Builtin.len_
  simp only [List.getElem?_toArray, List.getElem?_cons_zero]
  rw [runD_bind, runD_underlying ht]; rfl
theorem runD_len_string {s : ByteArray} {u : TypeId} (ht : P.underlying t = some .string) : runD P (iLen #[t] u #[.string s]) h = some (.int .i64 s.size) := by
  unfold iLen Builtin.len_
  simp only [List.getElem?_toArray, List.getElem?_cons_zero]
  rw [runD_bind, runD_underlying ht]; rfl
theorem runD_indexAt_slice {a : Addr} {n m : Nat} {k : IntKind} {i : Int} (hsl : isSliceB P t = true) (h0 : 0 ≤ i) (h1 : i < n) : runD P (iIndexAt t (.slice (some a) n m) (.int k i)) h = some (.pointer (some (a.add (i.toNat * sliceSz P t)))) := by
  obtain ⟨e, s, ht, hs, hsz⟩ := isSliceB_of hsl
  rw [hsz]
  unfold iIndexAt Instr.indexAt
  simp only [asIntOf, pure_bind]
  rw [runD_bind, runD_underlying ht]
  simp only [Option.bind_some]
  rw [runD_bind, runD_underlying ht]
  simp only [Option.bind_some, h0, h1, and_self, if_true]
  rw [runD_bind, runD_sizeOf hs]
  rfl
theorem runD_conv_int {k' : IntKind} {s d : TypeId} {a : Int} (hd' : isIntB P d = true) (hs' : (P.underlying s).isSome = true) : runD P (iConvert s d (.int k' a)) h = some (.int (intKD P d) ((intKD P d).wrap a)) := by
  have hd := isIntB_of hd'
  obtain ⟨ds, hs⟩ := Option.isSome_iff_exists.1 hs'
  unfold iConvert convert
  rw [runD_bind, runD_underlying hs, Option.bind_some, runD_bind, runD_underlying hd, Option.bind_some]
  rfl
theorem convW_int {s d : TypeId} (hd' : isIntB P d = true) : convW P s d = false := by
  have hd := isIntB_of hd'
  unfold convW; rw [hd]; cases P.underlying s with
  | none => rfl
  | some x => cases x <;> rfl

theorem single_int {k : IntKind} {a : Int} : single (.int k a) = true := (rfl)
theorem single_bool {b : Bool} : single (.bool b) = true := (rfl)
theorem single_ptr {p : Option Addr} : single (.pointer p) = true := (rfl)
theorem single_map {p : Option Nat} : single (.map p) = true := (rfl)
theorem single_slice {p : Option Addr} {n m : Nat} : single (.slice p n m) = true := (rfl)
theorem single_string {s : ByteArray} : single (.string s) = true := (rfl)
theorem cells_agg {c : Array Value} : (Value.agg c).cells = c := (rfl)
theorem cells_int {k : IntKind} {a : Int} : (Value.int k a).cells = #[.int k a] := (rfl)
theorem cells_bool {b : Bool} : (Value.bool b).cells = #[.bool b] := (rfl)
theorem cells_ptr {p : Option Addr} : (Value.pointer p).cells = #[.pointer p] := (rfl)
theorem cells_map {p : Option Nat} : (Value.map p).cells = #[.map p] := (rfl)
theorem cells_slice {p : Option Addr} {n m : Nat} : (Value.slice p n m).cells = #[.slice p n m] := (rfl)
theorem cells_string {s : ByteArray} : (Value.string s).cells = #[.string s] := (rfl)

/-! ### blocks -/
theorem runD_loadRes {a : Addr} : runD P (iLoadRes t (.pointer (some a))) h = runD P (iLoadAt t (.pointer (some a))) h := (rfl)
theorem set_push_new {x y : Obj} : (h.push x).setIfInBounds h.size y = h.push y := by
  apply Array.ext_getElem?
  intro i
  simp only [Array.getElem?_setIfInBounds, Array.getElem?_push, Array.size_push]
  split
  · rename_i hi; subst hi; simp
  · rename_i hi; rw [if_neg (fun e => hi e.symm), if_neg (fun e => hi e.symm)]
theorem get_set_same {b : Nat} {o : Obj} (hlt : b < h.size) : (h.setIfInBounds b o)[b]? = some o := by simp [hlt]
theorem get_set_ne {b b' : Nat} {o : Obj} (hne : b ≠ b') : (h.setIfInBounds b o)[b']? = h[b']? := by simp [hne]
theorem get_push_lt {b : Nat} {o : Obj} (hlt : b < h.size) : (h.push o)[b]? = h[b]? := by rw [Array.getElem?_push, if_neg (by omega)]
theorem get_push_new {o : Obj} : (h.push o)[h.size]? = some o := by simp
theorem lt_of_get {b : Nat} {o : Obj} (hb : h[b]? = some o) : b < h.size := (Array.getElem?_eq_some_iff.1 hb).1
theorem size_set {b : Nat} {o : Obj} : (h.setIfInBounds b o).size = h.size := by simp
theorem size_push' {o : Obj} : (h.push o).size = h.size + 1 := by simp

end

attribute [go_sem ↓] hcell_mk runD_load runD_load_agg hputO_lit runH_store runH_box runH_alloc runH_makeMap
  binD_add binD_sub binD_mul binD_lss binD_leq binD_gtr binD_geq binD_eql binD_neq binD_quo binD_rem binD_and binD_or binD_xor binD_andNot binD_shl binD_shr unary_not unary_neg
  binD_eql_ptr_nil binD_neq_ptr_nil binD_eql_bool binD_neq_bool runD_extract runD_field runD_part runD_part_agg runD_len_slice runD_len_string runD_indexAt_slice runD_conv_int convW_int
attribute [go_sem] single_int single_bool single_ptr single_map single_slice single_string cells_agg cells_int cells_bool cells_ptr cells_map cells_slice cells_string hcellO_lit nthL_zero nthL_succ add_mk hreadO_lit cutN_zero cutN_succ takeN_zero takeN_succ Option.map_some set_push_new runD_loadRes get_set_same get_set_ne get_push_lt get_push_new size_set size_push'
attribute [go_sem ↓] runH_store_agg hputsO_lit hputsL_nil hputsL_cons
attribute [go_sem] plainRow_lit List.set_cons_zero List.set_cons_succ List.length_cons List.length_nil
attribute [congr] hputO_congr hputsO_congr

end Go.Eng
