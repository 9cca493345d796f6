/-
  THE ENGINE, PART 7: maps keyed by int; what a call may turn.
-/
import Derived.Test.YtfjacnhmmilafaaDoorEng6
namespace Go.Eng
set_option linter.unusedSimpArgs false
set_option linter.unusedVariables false
set_option maxRecDepth 16000
set_option maxHeartbeats 4000000
open Go

/-- The end behind a variable: the reckoning does not look into it. -/
theorem HCalls.via {P : Program} {f : FuncId} {args : Array Value} {h : Heap} {S : Value → Heap → Prop} (H : ∀ R : Value → Heap → Prop, (∀ v h', S v h' → R v h') → HCalls P f args h R) : HCalls P f args h S := H S fun _ _ h => h

/-- Nothing that was there has turned. -/
structure Ext (h h' : Heap) : Prop where
  size : h.size ≤ h'.size
  get : ∀ b, b < h.size → h'[b]? = h[b]?

theorem Ext.refl (h : Heap) : Ext h h := ⟨Nat.le_refl _, fun _ _ => rfl⟩
theorem Ext.trans {a b c : Heap} (h : Ext a b) (k : Ext b c) : Ext a c := ⟨Nat.le_trans h.size k.size, fun i hi => (k.get i (Nat.lt_of_lt_of_le hi h.size)).trans (h.get i hi)⟩
theorem Ext.push (h : Heap) (o : Obj) : Ext h (h.push o) := ⟨by simp, fun b hb => get_push_lt hb⟩
theorem Ext.some {h h' : Heap} (e : Ext h h') {b : Nat} {o : Obj} (hb : h[b]? = some o) : h'[b]? = Option.some o := (e.get b (lt_of_get hb)).trans hb

/-- Nothing that was there has turned, but for the blocks of F. -/
structure Mod (F : Nat → Prop) (h h' : Heap) : Prop where
  size : h.size ≤ h'.size
  get : ∀ b, b < h.size → ¬ F b → h'[b]? = h[b]?

theorem Ext.mod {h h' : Heap} (e : Ext h h') (F : Nat → Prop) : Mod F h h' := ⟨e.size, fun b hb _ => e.get b hb⟩
theorem Mod.refl (F : Nat → Prop) (h : Heap) : Mod F h h := ⟨Nat.le_refl _, fun _ _ _ => rfl⟩
theorem Mod.trans {F : Nat → Prop} {a b c : Heap} (h : Mod F a b) (k : Mod F b c) : Mod F a c := ⟨Nat.le_trans h.size k.size, fun i hi hF => (k.get i (Nat.lt_of_lt_of_le hi h.size) hF).trans (h.get i hi hF)⟩
theorem Mod.mono {F G : Nat → Prop} {a b : Heap} (h : Mod F a b) (hFG : ∀ i, i < a.size → F i → G i) : Mod G a b := ⟨h.size, fun i hi hG => h.get i hi (fun hF => hG (hFG i hi hF))⟩
theorem Mod.some {F : Nat → Prop} {h h' : Heap} (e : Mod F h h') {b : Nat} {o : Obj} (hb : h[b]? = some o) (hF : ¬ F b) : h'[b]? = Option.some o := (e.get b (lt_of_get hb) hF).trans hb
theorem Mod.set {h : Heap} {b : Nat} {o : Obj} : Mod (· = b) h (h.setIfInBounds b o) := ⟨by simp, fun i _ hi => get_set_ne (fun e => hi e.symm)⟩
theorem Ext.trans' {F : Nat → Prop} {a b c : Heap} (h : Ext a b) (k : Mod F b c) (hF : ∀ i, i < a.size → ¬ F i) : Ext a c := ⟨Nat.le_trans h.size k.size, fun i hi => (k.get i (Nat.lt_of_lt_of_le hi h.size) (hF i hi)).trans (h.get i hi)⟩
theorem Mod.ext {F : Nat → Prop} {h h' : Heap} (e : Mod F h h') (hF : ∀ b, b < h.size → ¬ F b) : Ext h h' := ⟨e.size, fun b hb => e.get b hb (hF b hb)⟩

/-! ### maps keyed by int -/
def keyI (e : MapEntry) : Option Int := match e.key with | .int .i64 k => some k | _ => none

/-- The entry at a key. -/
def findI (l : List MapEntry) (k : Int) : Option MapEntry := l.find? fun e => keyI e == some k

structure MapIs (h : Heap) (r : Nat) (es : Array MapEntry) (clock : Nat) : Prop where
  at_ : h[r]? = some (.map es clock)
  keys : ∀ e ∈ es.toList, (keyI e).isSome = true
  nodup : (es.toList.map keyI).Nodup
  stamps : (es.toList.map (·.born)).Nodup
  old : ∀ e ∈ es.toList, e.born < clock

section
variable {P : Program} {h : Heap} {t kt et : TypeId} {r : Nat} {es : Array MapEntry} {clock : Nat}

theorem findNow_int {q : IntKind} {k : Int} : ∀ (l : List MapEntry) (i : Nat), (∀ e ∈ l, (keyI e).isSome = true) →
    Instr.findNow (.int q) (.int .i64 k) l i = some ((l.findIdx? fun e => keyI e == some k).bind fun j => (l[j]?).map fun e => (i + j, e.val))
  | [], i, _ => rfl
  | e :: l, i, hk => by
    have he := hk e (by simp)
    have ih := findNow_int (q := q) (k := k) l (i + 1) (fun x hx => hk x (by simp [hx]))
    unfold keyI at he
    split at he
    · rename_i x hx
      simp only [Instr.findNow, hx, Instr.sameNow, if_true]
      have hkey : keyI e = some x := by simp [keyI, hx]
      by_cases hkx : k = x
      · subst hkx
        simp [List.findIdx?_cons, hkey]
      · have h1 : (k == x) = false := by simpa using hkx
        have h2 : (some x == some k) = false := by simpa using fun e => hkx e.symm
        rw [h1]
        simp only [ih, List.findIdx?_cons, hkey, h2]
        cases hf : List.findIdx? (fun e => keyI e == some k) l with
        | none => simp
        | some j => simp [Nat.add_assoc, Nat.add_comm 1 j]
    · cases he

theorem runD_checkKey_int {em : Bool} {n : Nat} {k : Int} {q : IntKind} (hk : P.underlying kt = some (.int q)) : runD P (Instr.checkKey em (n + 1) kt (.int .i64 k)) h = some () := by
  simp only [Instr.checkKey]
  rw [runD_bind, runD_underlying hk]
  rfl

theorem runD_findKey {q : IntKind} {k : Int} (hk : P.underlying kt = some (.int q)) (hes : ∀ e ∈ es.toList, (keyI e).isSome = true) :
    runD P (Instr.findKey kt (.int .i64 k) es.toList) h = some ((es.toList.findIdx? fun e => keyI e == some k).bind fun j => (es.toList[j]?).map fun e => (j, e.val)) := by
  unfold Instr.findKey
  rw [runD_bind, runD_underlying hk]
  simp only [Option.bind_some, findNow_int es.toList 0 hes]
  simp

theorem findI_idx (l : List MapEntry) (k : Int) : ((l.findIdx? fun e => keyI e == some k).bind fun j => l[j]?) = findI l k := by
  unfold findI
  induction l with
  | nil => rfl
  | cons e l ih =>
    simp only [List.findIdx?_cons, List.find?_cons]
    cases hc : (keyI e == some k) with
    | true => simp
    | false =>
      simp only [Bool.false_eq_true, if_false]
      rw [← ih]
      cases List.findIdx? (fun e => keyI e == some k) l <;> simp

theorem runD_getObj {o : Obj} (hr : h[r]? = some o) (ho : ∀ c e f, o ≠ .cells c e f) : runD P (getObj r) h = some o := by
  simp only [getObj, runD, hr]

def elemT (P : Program) (t : TypeId) : TypeId := match P.underlying t with | some (.map _ e) => e | _ => 0
def intMapB (P : Program) (t : TypeId) : Bool := match P.underlying t with | some (.map k e) => isIntB P k && (tzero P e).isSome | _ => false

theorem runD_lookup_keys {q : IntKind} {z : Value} (hat : h[r]? = some (.map es clock)) (hkeys : ∀ e ∈ es.toList, (keyI e).isSome = true) (ht : P.underlying t = some (.map kt et)) (hk : P.underlying kt = some (.int q)) (hz : tzero P et = some z) (k : Int) (ok : Bool) :
    runD P (iLookup t (.map (some r)) (.int .i64 k) ok) h = some (bif ok then .tuple #[((findI es.toList k).map (·.val)).getD z, .bool (findI es.toList k).isSome] else ((findI es.toList k).map (·.val)).getD z) := by
  unfold iLookup Instr.lookup
  rw [runD_bind, runD_underlying ht]
  simp only [Option.bind_some]
  rw [runD_bind, runD_getObj hat (by simp)]
  simp only [Option.bind_some, pure_bind]
  rw [runD_bind, runD_checkKey_int hk]
  simp only [Option.bind_some]
  have hfi := findI_idx es.toList k
  rw [runD_bind, runD_findKey hk hkeys]
  cases hf : es.toList.findIdx? (fun e => keyI e == some k) with
  | none =>
    rw [hf] at hfi
    simp only [Option.bind_none] at hfi ⊢
    simp only [Option.bind_some]
    rw [runD_bind, runD_zero hz, ← hfi]
    cases ok <;> rfl
  | some j =>
    rw [hf] at hfi
    simp only [Option.bind_some] at hfi ⊢
    obtain ⟨hj, -⟩ := List.findIdx?_eq_some_iff_getElem.1 hf
    rw [List.getElem?_eq_getElem hj] at hfi ⊢
    simp only [Option.map_some, ← hfi]
    cases ok <;> rfl


/-- What a map holds. -/
def mapOf (es : Array MapEntry) (k : Int) : Option Value := (findI es.toList k).map (·.val)

def entI (k : Int) (v : Value) (n : Nat) : MapEntry := { key := .int .i64 k, val := v, born := n }
theorem keyI_ent {k : Int} {v : Value} {n : Nat} : keyI (entI k v n) = some k := rfl
theorem keyI_eq {e : MapEntry} {k : Int} (h : keyI e = some k) : e.key = .int .i64 k := by
  unfold keyI at h
  split at h
  · rename_i x hx; cases h; exact hx
  · cases h

theorem findI_none {l : List MapEntry} {k : Int} (hf : l.findIdx? (fun e => keyI e == some k) = none) : findI l k = none := by
  rw [← findI_idx, hf]; rfl

theorem runH_underlying {d : TypeDesc} (hd : P.underlying t = some d) {K : TypeDesc → Heap → Prop} : runH P (underlying t) h K = K d h := runH_of_runD _ (runD_underlying hd) K

theorem find_set {l : List MapEntry} {k : Int} {v : Value} {j : Nat} (hf : l.findIdx? (fun e => keyI e == some k) = some j) (hn : (l.map keyI).Nodup) (n : Nat) (k' : Int) :
    findI (l.set j (entI k v n)) k' = if k' = k then some (entI k v n) else findI l k' := by
  induction l generalizing j with
  | nil => simp at hf
  | cons e l ih =>
    simp only [List.findIdx?_cons] at hf
    cases hc : keyI e == some k with
    | true =>
      rw [hc] at hf
      simp at hf
      subst hf
      have he : keyI e = some k := by simpa using hc
      simp only [findI, List.set_cons_zero, List.find?_cons, keyI_ent, he]
      by_cases hk : k' = k
      · subst hk; simp
      · have : (some k == some k') = false := by simpa using fun e => hk e.symm
        simp [this, hk]
    | false =>
      rw [hc] at hf
      simp at hf
      obtain ⟨i, hi, rfl⟩ := hf
      have hn' : (l.map keyI).Nodup := (List.nodup_cons.1 (by simpa using hn)).2
      have := ih hi hn'
      simp only [findI, List.set_cons_succ, List.find?_cons] at this ⊢
      have he : keyI e ≠ some k := by simpa using hc
      by_cases hk : k' = k
      · subst hk
        simp only [hc]
        simpa using this
      · rw [this]; simp [hk]

theorem MapIs.update {q : IntKind} (hm : MapIs h r es clock) (ht : P.underlying t = some (.map kt et)) (hk : P.underlying kt = some (.int q)) {k : Int} {v : Value} {K : Unit → Heap → Prop}
    (hK : ∀ es' clock', MapIs (h.setIfInBounds r (.map es' clock')) r es' clock' → (∀ j, mapOf es' j = if j = k then some v else mapOf es j) → K () (h.setIfInBounds r (.map es' clock'))) :
    runH P (iMapUpdate t (.map (some r)) (.int .i64 k) v) h K := by
  have hlt := lt_of_get hm.at_
  unfold iMapUpdate Instr.mapUpdate
  rw [runH_bind, runH_underlying ht]
  simp only
  rw [runH_bind, runH_of_runD _ (runD_getObj hm.at_ (by simp))]
  simp only
  rw [runH_bind, runH_of_runD _ (runD_checkKey_int hk)]
  rw [runH_bind, runH_of_runD _ (runD_findKey hk hm.keys)]
  have hset : ∀ o, (∀ c e f, o ≠ .cells c e f) → runH P (setObj r o) h K = K () (h.setIfInBounds r o) := fun o _ => by
    simp only [setObj, runH, hm.at_]
  cases hf : es.toList.findIdx? (fun e => keyI e == some k) with
  | none =>
    simp only [Option.bind_none]
    rw [hset _ (by simp)]
    have hno : ∀ e ∈ es.toList, keyI e ≠ some k := by simpa using hf
    refine hK _ _ ⟨by simp [hlt], ?_, ?_, ?_, ?_⟩ ?_
    · simp only [Array.toList_push, List.mem_append, List.mem_singleton]
      rintro e (he | rfl)
      · exact hm.keys e he
      · rfl
    · simp only [Array.toList_push, List.map_append, List.map_cons, List.map_nil]
      refine List.nodup_append.2 ⟨hm.nodup, by simp, ?_⟩
      rintro a ha b hb rfl
      simp only [List.mem_singleton] at hb
      subst hb
      obtain ⟨e, he, he2⟩ := List.mem_map.1 ha
      exact hno e he he2
    · simp only [Array.toList_push, List.map_append, List.map_cons, List.map_nil]
      refine List.nodup_append.2 ⟨hm.stamps, by simp, ?_⟩
      rintro a ha b hb rfl
      simp only [List.mem_singleton] at hb
      subst hb
      obtain ⟨e, he, he2⟩ := List.mem_map.1 ha
      have := hm.old e he
      omega
    · simp only [Array.toList_push, List.mem_append, List.mem_singleton]
      rintro e (he | rfl)
      · have := hm.old e he; omega
      · simp
    · intro j
      simp only [mapOf, findI, Array.toList_push, List.find?_append]
      by_cases hj : j = k
      · subst hj
        have : List.find? (fun e => keyI e == some j) es.toList = none := by simpa using hno
        rw [this]
        simp [keyI]
      · have : (some k == some j) = false := by simpa using fun e => hj e.symm
        simp [hj, keyI, this]
  | some j =>
    obtain ⟨hj, hkj, -⟩ := List.findIdx?_eq_some_iff_getElem.1 hf
    have hkj' : keyI es.toList[j] = some k := by simpa using hkj
    have hj' : j < es.size := by simpa using hj
    simp only [Option.bind_some, List.getElem?_eq_getElem hj, Option.map_some]
    have hkey : ((es[j]?).map (·.key)).getD (.int .i64 k) = .int .i64 k := by
      rw [Array.getElem?_eq_getElem hj']
      exact keyI_eq (by simpa using hkj')
    have hst : runD P (Instr.keyThatStays (((es[j]?).map (·.key)).getD (.int .i64 k)) (.int .i64 k)) h = some (.int .i64 k) := by
      rw [hkey]
      unfold Instr.keyThatStays
      have : Instr.sameBits 10000 (.int .i64 k) (.int .i64 k) = true := by simp [Instr.sameBits]
      rw [if_pos this]; rfl
    rw [runH_bind, runH_of_runD _ hst, hset _ (by simp)]
    have hnew : (es.modify j fun e => { e with key := .int .i64 k, val := v }).toList = es.toList.set j (entI k v es[j].born) := by
      apply List.ext_getElem?
      intro i
      simp only [Array.getElem?_toList, Array.getElem?_modify, List.getElem?_set, Array.length_toList]
      by_cases hij : j = i
      · subst hij; simp [hj', entI]
      · simp [hij]
    have hkeys : (es.toList.set j (entI k v es[j].born)).map keyI = es.toList.map keyI := by
      rw [List.map_set, keyI_ent]
      apply List.ext_getElem?
      intro i
      simp only [List.getElem?_set, List.getElem?_map, List.length_map, Array.length_toList]
      by_cases hij : j = i
      · subst hij; simp [hj']; simpa using hkj'.symm
      · simp [hij]
    have hborn : (es.toList.set j (entI k v es[j].born)).map (·.born) = es.toList.map (·.born) := by
      rw [List.map_set]
      apply List.ext_getElem?
      intro i
      simp only [List.getElem?_set, List.getElem?_map, List.length_map, Array.length_toList]
      by_cases hij : j = i
      · subst hij; simp [hj', entI]
      · simp [hij]
    refine hK _ _ ⟨by simp [hlt], ?_, ?_, ?_, ?_⟩ ?_
    · rw [hnew]
      intro e he
      have : keyI e ∈ (es.toList.set j (entI k v es[j].born)).map keyI := List.mem_map_of_mem he
      rw [hkeys] at this
      obtain ⟨e', he', e2⟩ := List.mem_map.1 this
      rw [← e2]; exact hm.keys e' he'
    · rw [hnew, hkeys]; exact hm.nodup
    · rw [hnew, hborn]; exact hm.stamps
    · rw [hnew]
      intro e he
      have : e.born ∈ (es.toList.set j (entI k v es[j].born)).map (·.born) := List.mem_map_of_mem (f := (·.born)) he
      rw [hborn] at this
      obtain ⟨e', he', e2⟩ := List.mem_map.1 this
      rw [← e2]; exact hm.old e' he'
    · intro i
      simp only [mapOf, hnew, find_set hf hm.nodup]
      split <;> rfl

theorem MapIs.made {h : Heap} : MapIs (h.push (.map #[] 0)) h.size #[] 0 := ⟨by simp, by simp, by simp, by simp, by simp⟩
theorem MapIs.other {h' : Heap} (hm : MapIs h r es clock) (he : h'[r]? = h[r]?) : MapIs h' r es clock := ⟨he.trans hm.at_, hm.keys, hm.nodup, hm.stamps, hm.old⟩

/-- A look-up, by the map's block. -/
def intKeys (es : Array MapEntry) : Prop := ∀ e ∈ es.toList, (keyI e).isSome = true
def lookO (P : Program) (t : TypeId) (k : Int) (ok : Bool) : Option Obj → Option Value
  | some (.map es _) => some (bif ok then .tuple #[(mapOf es k).getD (tzeroD P (elemT P t)), .bool (mapOf es k).isSome] else (mapOf es k).getD (tzeroD P (elemT P t)))
  | _ => none
/-- Is that block a map keyed by int? -/
def isIntMap : Option Obj → Prop
  | some (.map es _) => intKeys es
  | _ => False
theorem MapIs.isInt (hm : MapIs h r es clock) : isIntMap (some (.map es clock)) = True := eq_true hm.keys

theorem runD_lookup {k : Int} {ok : Bool} (hi : isIntMap h[r]?) (ht : intMapB P t = true) : runD P (iLookup t (.map (some r)) (.int .i64 k) ok) h = lookO P t k ok h[r]? := by
  unfold isIntMap at hi
  split at hi
  · rename_i es clk hr
    unfold intMapB at ht
    split at ht
    · rename_i kt et hm
      simp only [Bool.and_eq_true] at ht
      have hq := isIntB_of ht.1
      obtain ⟨z, hz⟩ := Option.isSome_iff_exists.1 ht.2
      have e1 : elemT P t = et := by simp [elemT, hm]
      have e2 : tzeroD P et = z := by simp [tzeroD, hz]
      rw [runD_lookup_keys hr hi hm hq hz, hr]
      simp [lookO, mapOf, e1, e2]
    · cases ht
  · exact hi.elim
theorem lookO_some {k : Int} {c : Nat} : lookO P t k false (some (.map es c)) = some ((mapOf es k).getD (tzeroD P (elemT P t))) := (rfl)
theorem lookO_ok {k : Int} {c : Nat} : lookO P t k true (some (.map es c)) = some (.tuple #[(mapOf es k).getD (tzeroD P (elemT P t)), .bool (mapOf es k).isSome]) := (rfl)

end
attribute [go_sem ↓] runD_lookup lookO_some lookO_ok
end Go.Eng
