/-
  THE ENGINE, PART 4s: a drawn region in whichever order: what reads may float, and is read again behind each write.
-/
import Derived.Test.YtfjacnhmmilafaaDoorEng4a
namespace Go.Eng
set_option linter.unusedSimpArgs false
set_option linter.unusedVariables false
set_option maxRecDepth 16000
set_option maxHeartbeats 4000000
open Go

/-! ### the slots that an operation looks at -/
def opdT : Operand → List Nat
  | .tmp t => [t]
  | _ => []
def optT : Option Operand → List Nat
  | some x => opdT x
  | none => []
def opT : Op → List Nat
  | .move x => opdT x
  | .assign x => opdT x
  | .pick c x y => opdT c ++ (opdT x ++ opdT y)
  | .load _ x => opdT x
  | .nilCheck x => opdT x
  | .binOp _ _ x y _ => opdT x ++ opdT y
  | .unOp _ _ x => opdT x
  | .convert _ _ x => opdT x
  | .slice _ x lo hi mx => opdT x ++ (optT lo ++ (optT hi ++ optT mx))
  | .fieldAddr _ x _ => opdT x
  | .field _ x _ => opdT x
  | .indexAddr _ x i => opdT x ++ opdT i
  | .index _ x i => opdT x ++ opdT i
  | .lookup _ x i _ => opdT x ++ opdT i
  | .extract x _ => opdT x
  | .build _ ps => ps.toList.flatMap fun x => opdT x.2
  | .makeFunc _ f g => f.toList.flatMap opdT ++ g.toList.flatMap opdT
  | .makeInterface _ x => opdT x
  | .entry x => opdT x
  | .box _ x => opdT x
  | .buildSlice _ _ ps => ps.toList.flatMap fun x => opdT x.2
  | .store _ x y => opdT x ++ opdT y
  | .mapUpdate _ m k x => opdT m ++ (opdT k ++ opdT x)
  | .insert _ m k x => opdT m ++ (opdT k ++ opdT x)
  | .makeMap _ r => optT r
  | .makeSlice _ x y => opdT x ++ opdT y
  | .range _ x => opdT x
  | .next x _ => opdT x
  | .mapEntry _ m k => opdT m ++ opdT k
  | .entryStore _ m s x => opdT m ++ (opdT s ++ opdT x)
  | .call ⟨.value x, args, _⟩ => opdT x ++ args.toList.flatMap opdT
  | .call ⟨_, args, _⟩ => args.toList.flatMap opdT
  | _ => []
def gdT (ops : Array Oper) : Option (Nat × Bool) → List Nat
  | none => []
  | some (j, _) => match (ops[j]?).bind (·.dst) with
    | some d => [d]
    | none => []
def looks (ops : Array Oper) (o : Oper) : List Nat := gdT ops o.guard ++ opT o.op

/-- They know the same of these slots. -/
def AgreeE (S : List Nat) (E E' : Env) : Prop := ∀ t ∈ S, E.get t = E'.get t
theorem AgreeE.left {S T : List Nat} {E E' : Env} (h : AgreeE (S ++ T) E E') : AgreeE S E E' := fun t ht => h t (List.mem_append_left _ ht)
theorem AgreeE.right {S T : List Nat} {E E' : Env} (h : AgreeE (S ++ T) E E') : AgreeE T E E' := fun t ht => h t (List.mem_append_right _ ht)

section
variable {E E' : Env}
theorem evK_cg {x : Operand} (h : AgreeE (opdT x) E E') (c : Bool) : evK E c x = evK E' c x := by
  funext K
  cases x <;> try rfl
  rename_i t
  have := h t (by simp [opdT])
  simp only [evK, this]
theorem evL_cg : ∀ {l : List Operand}, AgreeE (l.flatMap opdT) E E' → ∀ c, evL E c l = evL E' c l
  | [], _, c => rfl
  | x :: l, h, c => by
    have h1 := evK_cg h.left c
    have h2 := evL_cg h.right c
    funext K
    simp only [evL, h1, h2]
theorem evO_cg {x : Option Operand} (h : AgreeE (optT x) E E') (c : Bool) : evO E c x = evO E' c x := by
  cases x with
  | none => rfl
  | some x => funext K; simp only [evO, evK_cg (x := x) h c]
theorem evP_cg : ∀ {l : List (Nat × Operand)}, AgreeE (l.flatMap fun x => opdT x.2) E E' → ∀ c, evP E c l = evP E' c l
  | [], _, c => rfl
  | x :: l, h, c => by
    have h1 := evK_cg (x := x.2) h.left c
    have h2 := evP_cg h.right c
    funext K
    simp only [evP, h1, h2]
theorem gdK_cg {ops : Array Oper} {g : Option (Nat × Bool)} (h : AgreeE (gdT ops g) E E') : gdK ops E g = gdK ops E' g := by
  funext F
  unfold gdK gdT at *
  split at h
  · rfl
  · rename_i j w
    simp only
    split at h
    · rename_i d hd
      have := h d (by simp)
      simp only [hd, this]
    · rename_i hd
      simp only [hd]

theorem opR_cg {P : Program} {ty : TypeId} {c : Bool} {h : Heap} {op : Op} (ha : AgreeE (opT op) E E') : opR P ty E c h op = opR P ty E' c h op := by
  funext K
  cases op <;> simp only [opR] <;> simp only [opT] at ha
  case move x => rw [evK_cg ha]
  case assign x => rw [evK_cg ha]
  case pick cn x y => simp only [evK_cg ha.left, evK_cg ha.right.left, evK_cg ha.right.right]
  case load t x => rw [evK_cg ha]
  case nilCheck x => rw [evK_cg ha]
  case binOp o t x y u => simp only [evK_cg ha.left, evK_cg ha.right]
  case unOp o t x => rw [evK_cg ha]
  case convert s d x => rw [evK_cg ha]
  case slice t x lo hi mx => simp only [evK_cg ha.left, evO_cg ha.right.left, evO_cg ha.right.right.left, evO_cg ha.right.right.right]
  case fieldAddr s x f => rw [evK_cg ha]
  case field s x f => rw [evK_cg ha]
  case indexAddr t x i => simp only [evK_cg ha.left, evK_cg ha.right]
  case index t x i => simp only [evK_cg ha.left, evK_cg ha.right]
  case lookup t x i ok => simp only [evK_cg ha.left, evK_cg ha.right]
  case extract x i => rw [evK_cg ha]
  case build t ps => rw [evP_cg ha]
  case makeFunc fn f g => simp only [evL_cg ha.left, evL_cg ha.right]
  case makeInterface t x => rw [evK_cg ha]
  case entry x => rw [evK_cg ha]
  case call cl =>
    obtain ⟨callee, args, tys⟩ := cl
    cases callee <;> simp only <;> simp only at ha
    rw [evL_cg ha]

theorem opW_cg {P : Program} {ty : TypeId} {c : Bool} {h : Heap} {op : Op} (ha : AgreeE (opT op) E E') : opW P ty E c h op = opW P ty E' c h op := by
  funext K
  cases op <;> simp only [opW] <;> simp only [opT] at ha
  case box t x => rw [evK_cg ha]
  case buildSlice t n ps => rw [evP_cg ha]
  case store t x y => simp only [evK_cg ha.left, evK_cg ha.right]
  case mapUpdate t m k x => simp only [evK_cg ha.left, evK_cg ha.right.left, evK_cg ha.right.right]
  case insert t m k x => simp only [evK_cg ha.left, evK_cg ha.right.left, evK_cg ha.right.right]
  case makeMap t r => rw [evO_cg ha]
  case makeSlice t x y => simp only [evK_cg ha.left, evK_cg ha.right]
  case convert s d x => rw [evK_cg ha]
  case range t x => rw [evK_cg ha]
  case next x st => rw [evK_cg ha]
  case mapEntry t m k => simp only [evK_cg ha.left, evK_cg ha.right]
  case entryStore t m s x => simp only [evK_cg ha.left, evK_cg ha.right.left, evK_cg ha.right.right]
  case call cl =>
    obtain ⟨callee, args, tys⟩ := cl
    cases callee
    case builtin b => simp only at ha ⊢; rw [evL_cg ha]
    case value x =>
      simp only at ha
      have h1 := evL_cg ha.right
      have h2 := evK_cg ha.left
      cases x <;> simp only [h1, h2]
    all_goals rfl

theorem opH_cg {P : Program} {ty : TypeId} {c : Bool} {h : Heap} {op : Op} (ha : AgreeE (opT op) E E') : opH P ty E c h op = opH P ty E' c h op := by
  funext K
  unfold opH
  rw [opW_cg ha, opR_cg ha]
end

/-! ### what is read is one value -/
def Det {α : Type} (X : (α → Prop) → Prop) : Prop := ∀ K, X K → ∃ v, K v ∧ ∀ K', K' v → X K'
theorem det_pure {α : Type} (v : α) : Det (fun K : α → Prop => K v) := fun _ h => ⟨v, h, fun _ h => h⟩
theorem det_bind {α β : Type} {X : (α → Prop) → Prop} {Y : α → (β → Prop) → Prop} (hX : Det X) (hY : ∀ a, Det (Y a)) : Det (fun K => X fun a => Y a K) := fun K h => by
  obtain ⟨a, h1, h2⟩ := hX _ h
  obtain ⟨b, h3, h4⟩ := hY a _ h1
  exact ⟨b, h3, fun K' hk => h2 _ (h4 _ hk)⟩
theorem det_false {α : Type} : Det (fun _ : α → Prop => False) := fun _ h => h.elim
section
variable {E : Env} {c : Bool}
theorem evK_det {x : Operand} : Det (evK E c x) := by
  cases x
  case tmp t =>
    intro K h
    simp only [evK] at h ⊢
    split at h
    · exact ⟨_, h.2, fun K' hk => ⟨h.1, hk⟩⟩
    · exact h.elim
  all_goals exact det_pure _
theorem evL_det : ∀ {l : List Operand}, Det (evL E c l)
  | [] => det_pure _
  | x :: l => det_bind (Y := fun v (K : List Value → Prop) => evL E c l fun vs => K (v :: vs)) (evK_det (x := x)) fun v => det_bind (Y := fun vs (K : List Value → Prop) => K (v :: vs)) (evL_det (l := l)) fun vs => det_pure _
theorem evO_det {x : Option Operand} : Det (evO E c x) := by
  cases x with
  | none => exact det_pure _
  | some x => exact det_bind (Y := fun v K => K (some v)) evK_det fun v => det_pure _
theorem evP_det : ∀ {l : List (Nat × Operand)}, Det (evP E c l)
  | [] => det_pure _
  | x :: l => det_bind (Y := fun v (K : List (Nat × Value) → Prop) => evP E c l fun vs => K ((x.1, v) :: vs)) (evK_det (x := x.2)) fun v => det_bind (Y := fun vs (K : List (Nat × Value) → Prop) => K ((x.1, v) :: vs)) (evP_det (l := l)) fun vs => det_pure _
theorem rdK_det {r : Option Value} : Det (rdK c r) := by
  cases r with
  | none => intro K h; exact ⟨undef, h.2, fun K' hk => ⟨h.1, hk⟩⟩
  | some v => exact det_pure _
theorem pickK_det {v : Value} {F : Bool → (Value → Prop) → Prop} (hF : ∀ b, Det (F b)) : Det (fun K => pickK c v (fun b => F b K) K) := by
  intro K h
  unfold pickK at h
  split at h
  · obtain ⟨u, h1, h2⟩ := hF _ _ h
    exact ⟨u, h1, fun K' hk => h2 _ hk⟩
  · rename_i hne
    refine ⟨undef, h.2, fun K' hk => ?_⟩
    unfold pickK
    split
    · rename_i b; exact (hne b rfl).elim
    · exact ⟨h.1, hk⟩
theorem gdK_det {ops : Array Oper} {g : Option (Nat × Bool)} : Det (gdK ops E g) := by
  intro F h
  unfold gdK at h
  split at h
  · exact ⟨true, h, fun F' hf => hf⟩
  · rename_i j w
    split at h
    · rename_i d hd
      split at h
      · rename_i v c hv
        exact ⟨_, h, fun F' hf => by simp only [gdK, hd, hv]; exact hf⟩
      · exact h.elim
    · exact h.elim

theorem opR_det {P : Program} {ty : TypeId} {h : Heap} {op : Op} : Det (opR P ty E c h op) := by
  cases op
  case move x => exact evK_det
  case assign x => exact evK_det
  case pick cn x y =>
    exact det_bind (Y := fun vc K => pickK c vc (fun b => evK E (c && b) x fun vx => evK E (c && !b) y fun vy => K (bif b then vx else vy)) K) evK_det fun vc =>
      pickK_det (F := fun b K => evK E (c && b) x fun vx => evK E (c && !b) y fun vy => K (bif b then vx else vy)) fun b => det_bind (Y := fun vx K => evK E (c && !b) y fun vy => K (bif b then vx else vy)) evK_det fun vx => det_bind (Y := fun vy K => K (bif b then vx else vy)) evK_det fun vy => det_pure _
  case load t x => exact det_bind (Y := fun v => rdK c (runD P (iLoadAt t v) h)) evK_det fun v => rdK_det
  case nilCheck x => exact det_bind (Y := fun v => rdK c (nilV v)) evK_det fun v => rdK_det
  case binOp o t x y u => exact det_bind (Y := fun vx K => evK E c y fun vy => rdK c (runD P (do eqGuard o t x y vx vy; binOp o t vx vy) h) K) evK_det fun vx => det_bind (Y := fun vy => rdK c (runD P (do eqGuard o t x y vx vy; binOp o t vx vy) h)) evK_det fun vy => rdK_det
  case unOp o t x => exact det_bind (Y := fun v => rdK c (runD P (iUnary o v) h)) evK_det fun v => rdK_det
  case convert s d x => exact det_bind (Y := fun v => rdK c (runD P (iConvert s d v) h)) evK_det fun v => rdK_det
  case slice t x lo hi mx =>
    exact det_bind (Y := fun v K => evO E c lo fun l => evO E c hi fun u => evO E c mx fun m => rdK c (runD P (iSliceAt t v l u m) h) K) evK_det fun v =>
      det_bind (Y := fun l K => evO E c hi fun u => evO E c mx fun m => rdK c (runD P (iSliceAt t v l u m) h) K) evO_det fun l =>
      det_bind (Y := fun u K => evO E c mx fun m => rdK c (runD P (iSliceAt t v l u m) h) K) evO_det fun u =>
      det_bind (Y := fun m => rdK c (runD P (iSliceAt t v l u m) h)) evO_det fun m => rdK_det
  case fieldAddr s x f => exact det_bind (Y := fun v => rdK c (runD P (iFieldAt s v f) h)) evK_det fun v => rdK_det
  case field s x f => exact det_bind (Y := fun v => rdK c (runD P (iField s v f) h)) evK_det fun v => rdK_det
  case indexAddr t x i => exact det_bind (Y := fun v K => evK E c i fun vi => rdK c (runD P (iIndexAt t v vi) h) K) evK_det fun v => det_bind (Y := fun vi => rdK c (runD P (iIndexAt t v vi) h)) evK_det fun vi => rdK_det
  case index t x i => exact det_bind (Y := fun v K => evK E c i fun vi => rdK c (runD P (iIndex t v vi) h) K) evK_det fun v => det_bind (Y := fun vi => rdK c (runD P (iIndex t v vi) h)) evK_det fun vi => rdK_det
  case lookup t x i ok => exact det_bind (Y := fun v K => evK E c i fun vi => rdK c (runD P (iLookup t v vi ok) h) K) evK_det fun v => det_bind (Y := fun vi => rdK c (runD P (iLookup t v vi ok) h)) evK_det fun vi => rdK_det
  case extract x i => exact det_bind (Y := fun v => rdK c (runD P (iExtract v i) h)) evK_det fun v => rdK_det
  case build t ps => exact det_bind (Y := fun vs => rdK c (runD P (iBuild t vs.toArray) h)) evP_det fun v => rdK_det
  case makeFunc fn f g => exact det_bind (Y := fun vf K => evL E c g.toList fun vg => K (Value.func fn vf.toArray vg.toArray)) evL_det fun vf => det_bind (Y := fun vg K => K (Value.func fn vf.toArray vg.toArray)) evL_det fun vg => det_pure _
  case makeInterface t x => exact det_bind (Y := fun v => rdK c (runD P (iMakeInterface t v) h)) evK_det fun v => rdK_det
  case entry x => exact det_bind (Y := fun v => rdK c (runD P (iEntry v) h)) evK_det fun v => rdK_det
  case call cl =>
    obtain ⟨callee, args, tys⟩ := cl
    cases callee
    case builtin b =>
      intro K hK
      obtain ⟨hq, hK⟩ := hK
      obtain ⟨v, h1, h2⟩ := det_bind (Y := fun vs => rdK c (runD P (builtinV b tys ty vs.toArray) h)) evL_det (fun v => rdK_det) K hK
      exact ⟨v, h1, fun K' hk => ⟨hq, h2 K' hk⟩⟩
    all_goals exact det_false
  all_goals exact det_false
end
end Go.Eng
