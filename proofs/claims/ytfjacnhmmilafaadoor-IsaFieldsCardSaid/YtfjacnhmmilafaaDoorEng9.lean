/-
  THE ENGINE, PART 9: equality of flat structs.
-/
import Derived.Test.YtfjacnhmmilafaaDoorEng8
import Derived.Laws.StructEq
namespace Go.Eng
set_option linter.unusedSimpArgs false
set_option linter.unusedVariables false
set_option maxRecDepth 16000
set_option maxHeartbeats 4000000
open Go

inductive CellK where
  | int (k : IntKind) | bool | str
deriving DecidableEq

def fitV : CellK → Value → Prop
  | .int k, .int k' _ => k' = k
  | .bool, .bool _ => True
  | .str, .string _ => True
  | _, _ => False
def fitL : List CellK → List Value → Prop
  | [], [] => True
  | k :: ks, v :: vs => fitV k v ∧ fitL ks vs
  | _, _ => False
def eqV : Value → Value → Bool
  | .int _ a, .int _ b => decide (a = b)
  | .bool a, .bool b => a == b
  | .string a, .string b => a == b
  | _, _ => false
def eqL : List Value → List Value → Bool
  | [], [] => true
  | a :: as, b :: bs => eqV a b && eqL as bs
  | _, _ => false

theorem fitL_length : ∀ {ks : List CellK} {xs : List Value}, fitL ks xs → xs.length = ks.length
  | [], [], _ => rfl
  | _ :: _, _ :: _, h => by simp [fitL_length h.2]
  | [], _ :: _, h => h.elim
  | _ :: _, [], h => h.elim
theorem fitL_append : ∀ {ks ls : List CellK} {xs : List Value}, fitL (ks ++ ls) xs → fitL ks (xs.take ks.length) ∧ fitL ls (xs.drop ks.length)
  | [], ls, xs, h => ⟨by simp [fitL], by simpa using h⟩
  | k :: ks, ls, [], h => h.elim
  | k :: ks, ls, x :: xs, h => by
    have := fitL_append (ks := ks) (ls := ls) h.2
    exact ⟨⟨h.1, this.1⟩, this.2⟩
theorem eqL_append : ∀ {a b c d : List Value}, a.length = c.length → eqL (a ++ b) (c ++ d) = (eqL a c && eqL b d)
  | [], b, [], d, _ => by simp [eqL]
  | x :: a, b, y :: c, d, h => by
    have := eqL_append (a := a) (b := b) (c := c) (d := d) (by simpa using h)
    simp [eqL, this, Bool.and_assoc]
  | [], _, _ :: _, _, h => by simp at h
  | _ :: _, _, [], _, h => by simp at h

theorem fitL_cons {k : CellK} {ks : List CellK} {v : Value} {vs : List Value} : fitL (k :: ks) (v :: vs) = (fitV k v ∧ fitL ks vs) := (rfl)
theorem fitL_nil : fitL [] [] = True := (rfl)
theorem fitV_int {k : IntKind} {n : Int} : fitV (.int k) (.int k n) = True := by simp [fitV]
theorem fitV_bool {b : Bool} : fitV .bool (.bool b) = True := (rfl)
theorem fitV_str {b : ByteArray} : fitV .str (.string b) = True := (rfl)
theorem eqL_cons {a b : Value} {as bs : List Value} : eqL (a :: as) (b :: bs) = (eqV a b && eqL as bs) := (rfl)
theorem eqL_nil : eqL [] [] = true := (rfl)
theorem eqV_int {k l : IntKind} {a b : Int} : eqV (.int k a) (.int l b) = decide (a = b) := (rfl)
theorem eqV_bool {a b : Bool} : eqV (.bool a) (.bool b) = (a == b) := (rfl)
theorem eqV_str {a b : ByteArray} : eqV (.string a) (.string b) = (a == b) := (rfl)
attribute [go_sem] fitL_cons fitL_nil fitV_int fitV_bool fitV_str eqL_cons eqL_nil eqV_int eqV_bool eqV_str

/-- A flat type's cells. -/
def flatF (P : Program) (rec : TypeId → Option (List CellK)) : List Field → Nat → Option (List CellK)
  | [], _ => some []
  | f :: fs, o => if f.name ≠ "_" ∧ f.offset = o then
      match rec f.type with
      | some ks => if tsz P f.type = some ks.length then (flatF P rec fs (o + ks.length)).map (ks ++ ·) else none
      | none => none
    else none
def flatK (P : Program) : Nat → TypeId → Option (List CellK)
  | 0, _ => none
  | d + 1, t => match P.underlying t with
    | some (.int k) => some [.int k]
    | some .bool => some [.bool]
    | some .string => some [.str]
    | some (.struct fs) => if P.stoodInHeld t = false ∧ fs.toList ≠ [] then flatF P (flatK P d) fs.toList 0 else none
    | _ => none

def flatOk (P : Program) (t : TypeId) (ks : List CellK) : Bool := decide (flatK P 6 t = some ks) && !(P.eqGuardType P.depth t) && (aggB P t == some true)

section
variable {P : Program} {h : Heap} {t : TypeId} {α : Type}

def packT (P : Program) (t : TypeId) (xs : List Value) (v : Value) : Prop := (aggB P t = some true ∧ v = .agg xs.toArray) ∨ (aggB P t = some false ∧ xs = [v])

theorem runD_map' {α β : Type} {s : Sem α} {f : α → β} : runD P (f <$> s) h = (runD P s h).map f := runD_map ..

theorem runD_ite {α : Type} {p : Prop} [Decidable p] {s r : Sem α} : runD P (if p then s else r) h = if p then runD P s h else runD P r h := by split <;> rfl

theorem runD_equalIn_struct (d : Nat) (xs ys : Array Value) (ht : P.underlying t = some (.struct (P.fieldsOf t))) (hp : P.stoodInHeld t = false) :
    runD P (Op.equalIn (d + 1) t (.agg xs) (.agg ys)) h = runD P (Op.eqFields d xs ys (P.fieldsOf t).toList) h := by
  simp only [Op.equalIn]
  rw [runD_bind, runD_underlying ht]
  simp only [Option.bind_some]
  rw [runD_bind, show runD P program h = some P from rfl]
  simp only [Option.bind_some, hp, Bool.false_eq_true, if_false]
  rw [← Array.forIn_toList, runD_bind]
  generalize (P.fieldsOf t).toList = fs
  clear ht
  induction fs with
  | nil => rfl
  | cons f fs ih =>
    simp only [List.forIn_cons, Op.eqFields]
    by_cases hf : f.name ≠ "_"
    · rw [if_pos hf, if_pos hf]
      simp only [runD_bind]
      cases runD P (part f.type xs f.offset) h with
      | none => rfl
      | some a =>
        simp only [Option.bind_some]
        cases runD P (part f.type ys f.offset) h with
        | none => rfl
        | some b =>
          simp only [Option.bind_some]
          cases runD P (Op.equalIn d f.type a b) h with
          | none => rfl
          | some r =>
            cases r
            · rfl
            · simp only [Option.bind_some, Bool.not_true, Bool.false_eq_true, if_false, Bool.not_false]
              exact ih
    · rw [if_neg hf, if_neg hf]
      simp only [runD_bind]
      exact ih

theorem runD_part_pack {ks : List CellK} {xs : List Value} {o : Nat} (hb : ∃ b, aggB P t = some b) (hs : tsz P t = some ks.length) (h1 : aggB P t = some false → ks.length = 1) (hx : o + ks.length ≤ xs.length) :
    ∃ v, runD P (part t xs.toArray o) h = some v ∧ packT P t ((xs.drop o).take ks.length) v := by
  obtain ⟨b, hb⟩ := hb
  cases b with
  | true =>
    refine ⟨_, runD_part_agg hb (by simp [hs]), .inl ⟨hb, ?_⟩⟩
    rw [show tszD P t = ks.length by simp [tszD, hs]]
    simp [List.extract_eq_take_drop]
  | false =>
    have e := h1 hb
    rw [e] at hx ⊢
    refine ⟨xs[o]'(by omega), ?_, .inr ⟨hb, ?_⟩⟩
    · rw [runD_part hb, nthL_eq, List.getElem?_eq_getElem (by omega)]
    · rw [List.drop_eq_getElem_cons (by omega)]; rfl

theorem flat_agg {d : Nat} {ks : List CellK} (hf : flatK P d t = some ks) : ∃ b, aggB P t = some b ∧ (b = false → ks.length = 1) := by
  cases d with
  | zero => cases hf
  | succ d =>
    unfold flatK at hf
    unfold aggB
    split at hf
    · rename_i e; rw [e]; cases hf; exact ⟨false, rfl, fun _ => rfl⟩
    · rename_i e; rw [e]; cases hf; exact ⟨false, rfl, fun _ => rfl⟩
    · rename_i e; rw [e]; cases hf; exact ⟨false, rfl, fun _ => rfl⟩
    · rename_i e; rw [e]; exact ⟨true, rfl, fun e => by cases e⟩
    · cases hf

theorem runD_equal_flat (e : Nat) : ∀ (d : Nat) (t : TypeId) (ks : List CellK), flatK P d t = some ks → ∀ (xs ys : List Value) (x y : Value), fitL ks xs → fitL ks ys → packT P t xs x → packT P t ys y →
    runD P (Op.equalIn (d + e) t x y) h = some (eqL xs ys) := by
  intro d
  induction d with
  | zero => intro t ks hk; cases hk
  | succ d ih =>
    intro t ks hk xs ys x y fx fy px py
    rw [show d + 1 + e = (d + e) + 1 by omega]
    unfold flatK at hk
    split at hk
    · rename_i k hu
      cases hk
      have ha : aggB P t = some false := by simp [aggB, hu, aggD]
      rcases px with ⟨q, -⟩ | ⟨-, rfl⟩
      · rw [ha] at q; cases q
      rcases py with ⟨q, -⟩ | ⟨-, rfl⟩
      · rw [ha] at q; cases q
      cases x <;> try exact (fx.1).elim
      cases y <;> try exact (fy.1).elim
      obtain ⟨rfl, -⟩ := fx
      have e2 := fy.1
      simp only [fitV] at e2
      subst e2
      simp only [Op.equalIn]
      rw [runD_bind, runD_underlying hu]
      simp [eqL, eqV, runD]
      rfl
    · rename_i hu
      cases hk
      have ha : aggB P t = some false := by simp [aggB, hu, aggD]
      rcases px with ⟨q, -⟩ | ⟨-, rfl⟩
      · rw [ha] at q; cases q
      rcases py with ⟨q, -⟩ | ⟨-, rfl⟩
      · rw [ha] at q; cases q
      cases x <;> try exact (fx.1).elim
      cases y <;> try exact (fy.1).elim
      simp only [Op.equalIn]
      rw [runD_bind, runD_underlying hu]
      simp only [eqL, eqV, Bool.and_true]
      rfl
    · rename_i hu
      cases hk
      have ha : aggB P t = some false := by simp [aggB, hu, aggD]
      rcases px with ⟨q, -⟩ | ⟨-, rfl⟩
      · rw [ha] at q; cases q
      rcases py with ⟨q, -⟩ | ⟨-, rfl⟩
      · rw [ha] at q; cases q
      cases x <;> try exact (fx.1).elim
      cases y <;> try exact (fy.1).elim
      simp only [Op.equalIn]
      rw [runD_bind, runD_underlying hu]
      simp only [eqL, eqV, Bool.and_true]
      rfl
    · rename_i fs hu
      split at hk
      · rename_i hc
        have ha : aggB P t = some true := by simp [aggB, hu, aggD]
        rcases px with ⟨-, rfl⟩ | ⟨q, -⟩
        · rcases py with ⟨-, rfl⟩ | ⟨q, -⟩
          · have hfo : P.fieldsOf t = fs := by simp [Program.fieldsOf, hu]
            rw [runD_equalIn_struct _ _ _ (by rw [hfo]; exact hu) hc.1, hfo]
            generalize fs.toList = l at hk
            have main : ∀ (l : List Field) (o : Nat) (ks : List CellK), flatF P (flatK P d) l o = some ks → fitL ks (xs.drop o) → fitL ks (ys.drop o) → o ≤ xs.length → o ≤ ys.length →
                runD P (Op.eqFields (d + e) xs.toArray ys.toArray l) h = some (eqL (xs.drop o) (ys.drop o)) := by
              intro l
              induction l with
              | nil =>
                intro o ks hk f1 f2 _ _
                cases hk
                have l1 := fitL_length f1
                have l2 := fitL_length f2
                rw [List.eq_nil_of_length_eq_zero l1, List.eq_nil_of_length_eq_zero l2]
                rfl
              | cons f l ihl =>
                intro o ks hk f1 f2 o1 o2
                unfold flatF at hk
                split at hk
                · rename_i hn
                  obtain ⟨hn, rfl⟩ := hn
                  split at hk
                  · rename_i k1 hk1
                    split at hk
                    · rename_i hs
                      obtain ⟨k2, hk2, rfl⟩ := Option.map_eq_some_iff.1 hk
                      obtain ⟨b, hb, hb1⟩ := flat_agg hk1
                      have len1 := fitL_length f1
                      have len2 := fitL_length f2
                      simp only [List.length_drop, List.length_append] at len1 len2
                      obtain ⟨g1, g2⟩ := fitL_append f1
                      obtain ⟨g3, g4⟩ := fitL_append f2
                      have one : aggB P f.type = some false → k1.length = 1 := fun q => hb1 (by rw [hb] at q; cases q; rfl)
                      obtain ⟨v, e1, p1⟩ := runD_part_pack (h := h) (xs := xs) (o := f.offset) ⟨b, hb⟩ hs one (by omega)
                      obtain ⟨u, e2, p2⟩ := runD_part_pack (h := h) (xs := ys) (o := f.offset) ⟨b, hb⟩ hs one (by omega)
                      have hh := ih f.type k1 hk1 _ _ v u g1 g3 p1 p2
                      simp only [List.drop_drop] at g2 g4
                      have rest := ihl (f.offset + k1.length) k2 hk2 g2 g4 (by omega) (by omega)
                      unfold Op.eqFields
                      rw [if_pos hn, runD_bind, e1]
                      simp only [Option.bind_some]
                      rw [runD_bind, e2]
                      simp only [Option.bind_some]
                      rw [runD_bind, hh]
                      simp only [Option.bind_some]
                      have split : ∀ zs : List Value, zs.drop f.offset = (zs.drop f.offset).take k1.length ++ zs.drop (f.offset + k1.length) := fun zs => by
                        rw [← List.drop_drop, List.take_append_drop]
                      rw [split xs, split ys, eqL_append (by simp; omega)]
                      rw [← split xs, ← split ys]
                      cases eqL ((xs.drop f.offset).take k1.length) ((ys.drop f.offset).take k1.length)
                      · rfl
                      · simpa using rest
                    · cases hk
                  · cases hk
                · cases hk
            have := main l 0 ks hk (by simpa using fx) (by simpa using fy) (by omega) (by omega)
            simpa using this
          · rw [ha] at q; cases q
        · rw [ha] at q; cases q
      · cases hk
    · cases hk

theorem binD_eql_flat {ks : List CellK} {xs ys : List Value} {x y : Operand} (hf : flatOk P t ks = true) (h1 : fitL ks xs) (h2 : fitL ks ys) :
    binD P h .eql t x y (.agg xs.toArray) (.agg ys.toArray) = some (.bool (eqL xs ys)) := by
  simp only [flatOk, Bool.and_eq_true, decide_eq_true_eq, Bool.not_eq_true', beq_iff_eq] at hf
  obtain ⟨⟨k1, k2⟩, k3⟩ := hf
  have := runD_equal_flat (P := P) (h := h) 9994 6 t ks k1 xs ys (.agg xs.toArray) (.agg ys.toArray) h1 h2 (.inl ⟨k3, rfl⟩) (.inl ⟨k3, rfl⟩)
  unfold binD
  rw [runD_bind]
  have g : runD P (eqGuard .eql t x y (.agg xs.toArray) (.agg ys.toArray)) h = some () := by
    simp only [eqGuard, Bool.not_true, Bool.false_eq_true, if_false]
    rw [runD_bind, show runD P program h = some P from rfl]
    simp only [Option.bind_some]
    rw [runD_bind, show runD P program h = some P from rfl]
    simp only [Option.bind_some, k2, Bool.not_false, if_true]
    rfl
  rw [g]
  simp only [Option.bind_some, binOp]
  rw [runD_bind, show Op.equal t (.agg xs.toArray) (.agg ys.toArray) = Op.equalIn (6 + 9994) t (.agg xs.toArray) (.agg ys.toArray) from rfl, this]
  rfl
theorem binD_neq_flat {ks : List CellK} {xs ys : List Value} {x y : Operand} (hf : flatOk P t ks = true) (h1 : fitL ks xs) (h2 : fitL ks ys) :
    binD P h .neq t x y (.agg xs.toArray) (.agg ys.toArray) = some (.bool (!eqL xs ys)) := by
  simp only [flatOk, Bool.and_eq_true, decide_eq_true_eq, Bool.not_eq_true', beq_iff_eq] at hf
  obtain ⟨⟨k1, k2⟩, k3⟩ := hf
  have := runD_equal_flat (P := P) (h := h) 9994 6 t ks k1 xs ys (.agg xs.toArray) (.agg ys.toArray) h1 h2 (.inl ⟨k3, rfl⟩) (.inl ⟨k3, rfl⟩)
  unfold binD
  rw [runD_bind]
  have g : runD P (eqGuard .neq t x y (.agg xs.toArray) (.agg ys.toArray)) h = some () := by
    simp only [eqGuard, Bool.not_true, Bool.false_eq_true, if_false]
    rw [runD_bind, show runD P program h = some P from rfl]
    simp only [Option.bind_some]
    rw [runD_bind, show runD P program h = some P from rfl]
    simp only [Option.bind_some, k2, Bool.not_false, if_true]
    rfl
  rw [g]
  simp only [Option.bind_some, binOp]
  rw [runD_bind, show Op.equal t (.agg xs.toArray) (.agg ys.toArray) = Op.equalIn (6 + 9994) t (.agg xs.toArray) (.agg ys.toArray) from rfl, this]
  rfl
end
theorem w64_id {a : Int} (h1 : -9223372036854775808 ≤ a) (h2 : a ≤ 9223372036854775807) : IntKind.i64.wrap a = a := by
  have e1 : (2 : Int) ^ 64 = 18446744073709551616 := by decide
  have e2 : (2 : Int) ^ (64 - 1) = 9223372036854775808 := by decide
  simp only [IntKind.wrap, IntKind.bits, IntKind.signed, e1, e2, Bool.true_and]
  split
  · rename_i h; simp only [decide_eq_true_eq] at h; omega
  · rename_i h; simp only [decide_eq_true_eq] at h; omega
end Go.Eng
