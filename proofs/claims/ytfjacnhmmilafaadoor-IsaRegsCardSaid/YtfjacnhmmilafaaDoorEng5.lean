/-
  THE ENGINE, PART 5: the rules by which a body is reckoned.
-/
import Derived.Test.YtfjacnhmmilafaaDoorEng4
import Derived.KernelRfl
namespace Go.Eng
set_option linter.unusedSimpArgs false
set_option linter.unusedVariables false
set_option maxRecDepth 16000
set_option maxHeartbeats 4000000
open Go

section
variable {P : Program} {T : Tab} {b : Nat} {Q : Ex → Env → Heap → Prop} {E : Env} {h : Heap} {ty : TypeId} {c : Bool} {K : Value → Heap → Prop} {KE : Env → Heap → Prop} {KV : Value → Prop} {ops : Array Oper}
  {X : (Ex → Env → Heap → Prop) → Env → Heap → Prop}

/-- Lazy. -/
def selB {α : Type} (b : Bool) (x y : α) : α := bif b then x else y
theorem selB_true {α : Type} {x y : α} : selB true x y = x := (rfl)
theorem selB_false {α : Type} {x y : α} : selB false x y = y := (rfl)
theorem selB_congr {α : Type} {b b' : Bool} {x y : α} (e : b = b') : selB b x y = selB b' x y := by rw [e]
theorem dev_skip : dev P T b .skip Q E h = Q .normal E h := (rfl)
theorem dev_region {id : Nat} {d : Bool} : dev P T b (.region id ops d) Q E h = regDev P ops (schAt T.sch id) E h (regK (tabAt T.reg id) Q) := (rfl)
theorem dev_seq {x y : Code} : dev P T b (.seq x y) Q E h = dev P T b x (seqQ (dev P T b y) Q) E h := (rfl)
theorem dev_cond {x : Operand} {y z : Code} : dev P T b (.cond x y z) Q E h = evK E true x fun v => condK v (dev P T b y Q (condE x true E) h) (dev P T b z Q (condE x false E) h) := (rfl)
theorem condE_tmp {t : Tmp} {x : Bool} : condE (.tmp t) x E = .cons t (.bool x) true E := (rfl)
theorem condE_const {v : Value} {x : Bool} : condE (.const v) x E = E := (rfl)
theorem dev_block {id : Nat} {x : Code} : dev P T b (.block id x) Q E h = dev P T id x (blockQ id Q) E h := (rfl)
theorem dev_loop {x : Code} : dev P T b (.loop x) Q E h = loopH (tabAt T.loops b) (dev P T b x) Q E h := (rfl)
theorem dev_exit {id : Nat} : dev P T b (.exit id) Q E h = Q (.exit id) E h := (rfl)
theorem dev_scope {x : Code} : dev P T b (.scope x) Q E h = dev P T b x Q E h := (rfl)
theorem dev_label {l : Nat} : dev P T b (.label l) Q E h = Q .normal E h := (rfl)
theorem dev_ret : dev P T b .ret Q E h = Q .ret E h := (rfl)
theorem seqQ_normal : seqQ X Q .normal E h = X Q E h := (rfl)
theorem seqQ_exit {i : Nat} : seqQ X Q (.exit i) E h = Q (.exit i) E h := (rfl)
theorem seqQ_ret : seqQ X Q .ret E h = Q .ret E h := (rfl)
theorem blockQ_normal {id : Nat} : blockQ id Q .normal E h = Q .normal E h := (rfl)
theorem blockQ_ret {id : Nat} : blockQ id Q .ret E h = Q .ret E h := (rfl)
theorem blockQ_hit {id : Nat} : blockQ id Q (.exit id) E h = Q .normal E h := by simp [blockQ]
theorem blockQ_miss {id i : Nat} (hi : (i == id) = false) : blockQ id Q (.exit i) E h = Q (.exit i) E h := by simp [blockQ, hi]
def rndN (I : Env → Heap → Prop) (E : Env) (h : Heap) : Prop := I E h
theorem roundsQ_normal {I : Env → Heap → Prop} {l : List Nat} : roundsQ I l Q .normal E h = rndN I (E.keep l) h := (rfl)
theorem rndN_eq {I : Env → Heap → Prop} : rndN I E h = I E h := (rfl)
theorem rndN_congr {I : Env → Heap → Prop} {E' : Env} {h' : Heap} (e : E = E') (f : h = h') : rndN I E h = rndN I E' h' := by rw [e, f]
theorem roundsQ_exit {I : Env → Heap → Prop} {l : List Nat} {i : Nat} : roundsQ I l Q (.exit i) E h = Q (.exit i) E h := (rfl)
theorem roundsQ_ret {I : Env → Heap → Prop} {l : List Nat} : roundsQ I l Q .ret E h = Q .ret E h := (rfl)
def regN (Q : Ex → Env → Heap → Prop) (E : Env) (h : Heap) : Prop := Q .normal E h
theorem regK_eq {l : List Nat} : regK l Q E h = regN Q (E.keep l) h := (rfl)
theorem regN_eq : regN Q E h = Q .normal E h := (rfl)
theorem tabAt_hit {k : Nat} {l : List Nat} {r : List (Nat × List Nat)} : tabAt ((k, l) :: r) k = l := by simp [tabAt]
theorem tabAt_miss {k i : Nat} {l : List Nat} {r : List (Nat × List Nat)} (hki : (k == i) = false) : tabAt ((k, l) :: r) i = tabAt r i := by simp [tabAt, hki]
theorem schAt_nil {i : Nat} : schAt [] i = none := (rfl)
theorem schAt_hit {k : Nat} {l : Sch} {r : List (Nat × Sch)} : schAt ((k, l) :: r) k = some l := by simp [schAt]
theorem schAt_miss {k i : Nat} {l : Sch} {r : List (Nat × Sch)} (hki : (k == i) = false) : schAt ((k, l) :: r) i = schAt r i := by simp [schAt, hki]
theorem regDev_none : regDev P ops none E h KE = devOps P ops ops.toList E h KE := (rfl)
theorem regDev_some {wm rm : Nat} {am : List Nat} {l : Plan} : regDev P ops (some ⟨wm, rm, am, l⟩) E h KE = devSched P ops l E h KE := (rfl)
theorem regDev_congr {s s' : Option Sch} (e : s = s') : regDev P ops s E h KE = regDev P ops s' E h KE := by rw [e]
theorem devSched_nil : devSched P ops .done E h KE = KE E h := (rfl)
theorem devSched_no : devSched P ops .no E h KE = True := (rfl)
theorem devSched_cons {i : Nat} {ag : Bool} {l : Plan} : devSched P ops (.rd i ag l) E h KE = schO P ops (devSched P ops l) E h KE ag (nthO ops.toList i) := (rfl)
theorem devSched_wr {i : Nat} {l alt : Plan} : devSched P ops (.wr i l alt) E h KE = (schO P ops (devSched P ops l) E h KE false (nthO ops.toList i) ∧ devSched P ops alt E h KE) := (rfl)
theorem nthO_zero {o : Oper} {l : List Oper} : nthO (o :: l) 0 = some o := (rfl)
theorem nthO_succ {o : Oper} {l : List Oper} {n : Nat} : nthO (o :: l) (n + 1) = nthO l n := (rfl)
theorem schO_congr {Y : Env → Heap → (Env → Heap → Prop) → Prop} {ag : Bool} {o o' : Option Oper} (e : o = o') : schO P ops Y E h KE ag o = schO P ops Y E h KE ag o' := by rw [e]
theorem schO_go {Y : Env → Heap → (Env → Heap → Prop) → Prop} {dst : Option Tmp} {op : Op} {u : TypeId} {pos : String} {after : Array Edge} : schO P ops Y E h KE false (some ⟨dst, op, u, pos, after, none⟩) = opH P u E true h op (opsK Y E dst true KE) := (rfl)
theorem schO_again {Y : Env → Heap → (Env → Heap → Prop) → Prop} {dst : Option Tmp} {op : Op} {u : TypeId} {pos : String} {after : Array Edge} : schO P ops Y E h KE true (some ⟨dst, op, u, pos, after, none⟩) = opH P u E true h op (fun v _ => sameV E dst true v ∧ Y E h KE) := (rfl)
theorem sameV_none {v : Value} : sameV E none c v = True := (rfl)
theorem sameV_some {s : Tmp} {v : Value} : sameV E (some s) c v = sameG c v (E.get s) := (rfl)
theorem sameG_some {v v0 : Value} {c0 : Bool} : sameG c v (some (v0, c0)) = (c0 = c ∧ (c = true → v = v0)) := (rfl)
theorem sameG_congr {v : Value} {r r' : Option (Value × Bool)} (e : r = r') : sameG c v r = sameG c v r' := by rw [e]
theorem devOps_nil : devOps P ops [] E h KE = KE E h := (rfl)
theorem devOps_cons {dst : Option Tmp} {op : Op} {u : TypeId} {pos : String} {after : Array Edge} {l : List Oper} : devOps P ops (⟨dst, op, u, pos, after, none⟩ :: l) E h KE = opH P u E true h op (opsK (devOps P ops l) E dst true KE) := (rfl)
/-- The slot that a guard looks at. -/
def gdJ (E : Env) (want : Bool) (F : Bool → Prop) : List Oper → Nat → Prop
  | [], _ => False
  | o :: _, 0 => match o.dst with
    | some d => match E.get d with
      | some (v, c) => F (gdV c want v)
      | none => False
    | none => False
  | _ :: l, j + 1 => gdJ E want F l j
theorem gdJ_eq {want : Bool} {F : Bool → Prop} : ∀ {l : List Oper} {j : Nat}, gdJ E want F l j = match (l[j]?).bind (·.dst) with
    | some d => match E.get d with
      | some (v, c) => F (gdV c want v)
      | none => False
    | none => False
  | [], j => by simp [gdJ]
  | o :: l, 0 => by simp [gdJ]
  | o :: l, j + 1 => by simp only [gdJ, List.getElem?_cons_succ]; exact gdJ_eq
theorem devOps_guard {dst : Option Tmp} {op : Op} {u : TypeId} {pos : String} {after : Array Edge} {j : Nat} {want : Bool} {l : List Oper} {all : List Oper} : devOps P all.toArray (⟨dst, op, u, pos, after, some (j, want)⟩ :: l) E h KE =
    gdJ E want (fun c => opH P u E c h op (opsK (devOps P all.toArray l) E dst c KE)) all j := by
  rw [gdJ_eq]; simp only [devOps, gdK, List.getElem?_toArray]
  cases (all[j]?).bind (·.dst) with
  | none => rfl
  | some d => simp only; cases E.get d <;> rfl
theorem gdK_some {F : Bool → Prop} {all : List Oper} {j : Nat} {want : Bool} : gdK all.toArray E (some (j, want)) F = gdJ E want F all j := by
  rw [gdJ_eq]; simp only [gdK, List.getElem?_toArray]
  cases (all[j]?).bind (·.dst) with
  | none => rfl
  | some d => simp only; cases E.get d <;> rfl
theorem schO_goG {Y : Env → Heap → (Env → Heap → Prop) → Prop} {dst : Option Tmp} {op : Op} {u : TypeId} {pos : String} {after : Array Edge} {j : Nat} {want : Bool} {all : List Oper} : schO P all.toArray Y E h KE false (some ⟨dst, op, u, pos, after, some (j, want)⟩) = gdJ E want (fun c => opH P u E c h op (opsK Y E dst c KE)) all j := by
  rw [← gdK_some]; rfl
theorem schO_againG {Y : Env → Heap → (Env → Heap → Prop) → Prop} {dst : Option Tmp} {op : Op} {u : TypeId} {pos : String} {after : Array Edge} {j : Nat} {want : Bool} {all : List Oper} : schO P all.toArray Y E h KE true (some ⟨dst, op, u, pos, after, some (j, want)⟩) = gdJ E want (fun c => opH P u E c h op (fun v _ => sameV E dst c v ∧ Y E h KE)) all j := by
  rw [← gdK_some]; rfl
theorem opsK_some {Y : Env → Heap → (Env → Heap → Prop) → Prop} {d : Tmp} {v : Value} : opsK Y E (some d) c KE v h = Y (.cons d v c E) h KE := (rfl)
theorem opsK_none {Y : Env → Heap → (Env → Heap → Prop) → Prop} {v : Value} : opsK Y E none c KE v h = Y E h KE := (rfl)
def gdG (want : Bool) (F : Bool → Prop) : Option (Value × Bool) → Prop
  | some (v, c) => F (gdV c want v)
  | none => False
theorem gdJ_zero {d : Tmp} {op : Op} {u : TypeId} {pos : String} {after : Array Edge} {g : Option (Nat × Bool)} {want : Bool} {F : Bool → Prop} {l : List Oper} : gdJ E want F (⟨some d, op, u, pos, after, g⟩ :: l) 0 = gdG want F (E.get d) := by
  simp only [gdJ]; cases E.get d <;> rfl
theorem gdJ_succ {o : Oper} {want : Bool} {F : Bool → Prop} {l : List Oper} {j : Nat} : gdJ E want F (o :: l) (j + 1) = gdJ E want F l j := (rfl)
theorem gdG_some {want : Bool} {F : Bool → Prop} {v : Value} {c : Bool} : gdG want F (some (v, c)) = F (gdV c want v) := (rfl)
theorem gdV_true {c x : Bool} : gdV c true (.bool x) = (c && x) := (rfl)
theorem gdV_false {c x : Bool} : gdV c false (.bool x) = (c && !x) := (rfl)
theorem put_some {d : Tmp} {v : Value} : E.put (some d) v c = .cons d v c E := (rfl)
theorem put_none {v : Value} : E.put none v c = E := (rfl)
theorem get_hit {s : Nat} {v : Value} : (Env.cons s v c E).get s = some (v, c) := by simp [Env.get]
theorem get_miss {s t : Nat} {v : Value} (hst : (s == t) = false) : (Env.cons s v c E).get t = E.get t := by simp [Env.get, hst]
theorem get_nil {t : Nat} : Env.nil.get t = none := (rfl)
def keepG (s : Nat) (R : Env) : Option (Value × Bool) → Env
  | some (v, c) => .cons s v c R
  | none => R
theorem keep_nil : E.keep [] = .nil := (rfl)
theorem keep_cons {s : Nat} {l : List Nat} : E.keep (s :: l) = keepG s (E.keep l) (E.get s) := by
  simp only [Env.keep]; cases E.get s <;> rfl
theorem keepG_some {s : Nat} {v : Value} {c : Bool} {R : Env} : keepG s R (some (v, c)) = .cons s v c R := (rfl)
theorem keepG_none {s : Nat} {R : Env} : keepG s R none = R := (rfl)
def evG (c : Bool) (K : Value → Prop) : Option (Value × Bool) → Prop
  | some (v, cx) => (c = true → cx = true) ∧ K v
  | none => False
theorem evK_tmp {t : Tmp} : evK E c (.tmp t) KV = evG c KV (E.get t) := by
  simp only [evK]; cases E.get t <;> rfl
theorem evK_const {v : Value} : evK E c (.const v) KV = KV v := (rfl)
theorem evK_global {g : Nat} : evK E c (.global g) KV = KV (.pointer (some ⟨g, 0, none⟩)) := (rfl)
theorem evK_func {f : Nat} : evK E c (.func f) KV = KV (.func (.func f) #[] #[]) := (rfl)
theorem evG_true {v : Value} : evG c KV (some (v, true)) = KV v := by simp [evG]
theorem evG_same {v : Value} : evG c KV (some (v, c)) = KV v := by simp [evG]
theorem evG_some {v : Value} {cx : Bool} : evG c KV (some (v, cx)) = ((c = true → cx = true) ∧ KV v) := (rfl)
theorem evL_nil {F : List Value → Prop} : evL E c [] F = F [] := (rfl)
theorem evL_cons {x : Operand} {l : List Operand} {F : List Value → Prop} : evL E c (x :: l) F = evK E c x fun v => evL E c l fun vs => F (v :: vs) := (rfl)
theorem evO_none {F : Option Value → Prop} : evO E c none F = F none := (rfl)
theorem evO_some {x : Operand} {F : Option Value → Prop} : evO E c (some x) F = evK E c x fun v => F (some v) := (rfl)
theorem evP_nil {F : List (Nat × Value) → Prop} : evP E c [] F = F [] := (rfl)
theorem evP_cons {k : Nat} {x : Operand} {l : List (Nat × Operand)} {F : List (Nat × Value) → Prop} : evP E c ((k, x) :: l) F = evK E c x fun v => evP E c l fun vs => F ((k, v) :: vs) := (rfl)
theorem rdK_some {v : Value} : rdK c (some v) KV = KV v := (rfl)
theorem rdK_none : rdK true none KV = False := by simp [rdK]
theorem wrK_true {Y : Prop} : wrK true h Y K = Y := by simp [wrK]
theorem wrK_false {Y : Prop} : wrK false h Y K = K undef h := by simp [wrK]
theorem wrK_eq {Y : Prop} : wrK c h Y K = ((c = true → Y) ∧ (c = false → K undef h)) := (rfl)
theorem condK_true {Y Z : Prop} : condK (.bool true) Y Z = Y := by simp [condK]
theorem condK_false {Y Z : Prop} : condK (.bool false) Y Z = Z := by simp [condK]
theorem condK_bool {x : Bool} {Y Z : Prop} : condK (.bool x) Y Z = ((x = true → Y) ∧ (x = false → Z)) := (rfl)
theorem condK_decide {p : Prop} [Decidable p] {Y Z : Prop} : condK (.bool (decide p)) Y Z = ((p → Y) ∧ (¬ p → Z)) := by simp [condK]
theorem pickK_bool {x : Bool} {F : Bool → Prop} : pickK c (.bool x) F KV = F x := (rfl)
theorem cond_bool {x y z : Bool} : (bif x then Value.bool y else Value.bool z) = .bool (bif x then y else z) := by cases x <;> rfl
theorem cond_tt {x y : Bool} : (bif x then true else y) = (x || y) := by cases x <;> rfl
theorem cond_ff {x y : Bool} : (bif x then y else false) = (x && y) := by cases x <;> rfl
theorem nilV_some {a : Addr} : nilV (.pointer (some a)) = some (.pointer (some a)) := (rfl)
theorem nilV_none : nilV (.pointer none) = none := (rfl)
theorem nilV_func {f : FuncId} {x y : Array Value} : nilV (.func (.func f) x y) = some (.func (.func f) x y) := (rfl)

theorem opH_move {x : Operand} : opH P ty E c h (.move x) K = evK E c x fun v => K v h := (rfl)
theorem opH_assign {x : Operand} : opH P ty E c h (.assign x) K = evK E c x fun v => K v h := (rfl)
theorem opH_pick {cn x y : Operand} : opH P ty E c h (.pick cn x y) K = evK E c cn fun vc => pickK c vc (fun b => evK E (c && b) x fun vx => evK E (c && !b) y fun vy => K (bif b then vx else vy) h) fun v => K v h := (rfl)
theorem opH_load {t : TypeId} {x : Operand} : opH P ty E c h (.load t x) K = evK E c x fun v => rdK c (runD P (iLoadAt t v) h) fun v => K v h := (rfl)
theorem opH_nilCheck {x : Operand} : opH P ty E c h (.nilCheck x) K = evK E c x fun v => rdK c (nilV v) fun v => K v h := (rfl)
/-- An operator on two values. -/
def binD (P : Program) (h : Heap) (o : BinOp) (t : TypeId) (x y : Operand) (a b : Value) : Option Value := runD P (do eqGuard o t x y a b; binOp o t a b) h
theorem opH_binOp {o : BinOp} {t u : TypeId} {x y : Operand} : opH P ty E c h (.binOp o t x y u) K = evK E c x fun vx => evK E c y fun vy => rdK c (binD P h o t x y vx vy) fun v => K v h := (rfl)
theorem opH_unOp {o : UnOp} {t : TypeId} {x : Operand} : opH P ty E c h (.unOp o t x) K = evK E c x fun v => rdK c (runD P (iUnary o v) h) fun v => K v h := (rfl)
theorem opH_convert {s d : TypeId} {x : Operand} : opH P ty E c h (.convert s d x) K = selB (convW P s d) (evK E c x fun v => wrK c h (runH P (iConvert s d v) h K) K) (evK E c x fun v => rdK c (runD P (iConvert s d v) h) fun v => K v h) := (rfl)
theorem opH_slice {t : TypeId} {x : Operand} {lo hi mx : Option Operand} : opH P ty E c h (.slice t x lo hi mx) K = evK E c x fun v => evO E c lo fun l => evO E c hi fun u => evO E c mx fun m => rdK c (runD P (iSliceAt t v l u m) h) fun v => K v h := (rfl)
theorem opH_fieldAddr {s : TypeId} {x : Operand} {f : Nat} : opH P ty E c h (.fieldAddr s x f) K = evK E c x fun v => rdK c (runD P (iFieldAt s v f) h) fun v => K v h := (rfl)
theorem opH_field {s : TypeId} {x : Operand} {f : Nat} : opH P ty E c h (.field s x f) K = evK E c x fun v => rdK c (runD P (iField s v f) h) fun v => K v h := (rfl)
theorem opH_indexAddr {t : TypeId} {x i : Operand} : opH P ty E c h (.indexAddr t x i) K = evK E c x fun v => evK E c i fun vi => rdK c (runD P (iIndexAt t v vi) h) fun v => K v h := (rfl)
theorem opH_index {t : TypeId} {x i : Operand} : opH P ty E c h (.index t x i) K = evK E c x fun v => evK E c i fun vi => rdK c (runD P (iIndex t v vi) h) fun v => K v h := (rfl)
theorem opH_lookup {t : TypeId} {x i : Operand} {ok : Bool} : opH P ty E c h (.lookup t x i ok) K = evK E c x fun v => evK E c i fun vi => rdK c (runD P (iLookup t v vi ok) h) fun v => K v h := (rfl)
theorem opH_extract {x : Operand} {i : Nat} : opH P ty E c h (.extract x i) K = evK E c x fun v => rdK c (runD P (iExtract v i) h) fun v => K v h := (rfl)
theorem opH_build {t : TypeId} {ps : Array (Nat × Operand)} : opH P ty E c h (.build t ps) K = evP E c ps.toList fun vs => rdK c (runD P (iBuild t vs.toArray) h) fun v => K v h := (rfl)
theorem opH_makeFunc {fn : Fn} {f g : Array Operand} : opH P ty E c h (.makeFunc fn f g) K = evL E c f.toList fun vf => evL E c g.toList fun vg => K (.func fn vf.toArray vg.toArray) h := (rfl)
theorem opH_makeInterface {t : TypeId} {x : Operand} : opH P ty E c h (.makeInterface t x) K = evK E c x fun v => rdK c (runD P (iMakeInterface t v) h) fun v => K v h := (rfl)
theorem opH_entry {x : Operand} : opH P ty E c h (.entry x) K = evK E c x fun v => rdK c (runD P (iEntry v) h) fun v => K v h := (rfl)
theorem opH_len {args : Array Operand} {tys : Array TypeId} : opH P ty E c h (.call ⟨.builtin .len, args, tys⟩) K = evL E c args.toList fun vs => rdK c (runD P (iLen tys ty vs.toArray) h) fun v => K v h := by
  simp [opH, isW, quietB, opR, builtinV]
theorem opH_cap {args : Array Operand} {tys : Array TypeId} : opH P ty E c h (.call ⟨.builtin .cap, args, tys⟩) K = evL E c args.toList fun vs => rdK c (runD P (iCap tys ty vs.toArray) h) fun v => K v h := by
  simp [opH, isW, quietB, opR, builtinV]
theorem opH_max {args : Array Operand} {tys : Array TypeId} : opH P ty E c h (.call ⟨.builtin .max, args, tys⟩) K = evL E c args.toList fun vs => rdK c (runD P (iMax tys ty vs.toArray) h) fun v => K v h := by
  simp [opH, isW, quietB, opR, builtinV]
theorem opH_min {args : Array Operand} {tys : Array TypeId} : opH P ty E c h (.call ⟨.builtin .min, args, tys⟩) K = evL E c args.toList fun vs => rdK c (runD P (iMin tys ty vs.toArray) h) fun v => K v h := by
  simp [opH, isW, quietB, opR, builtinV]
theorem opH_alloc {t : TypeId} : opH P ty E c h (.alloc t) K = wrK c h (runH P (iAlloc t true (.tuple #[])) h K) K := (rfl)
theorem opH_box {t : TypeId} {x : Operand} : opH P ty E c h (.box t x) K = evK E c x fun v => wrK c h (runH P (iBox t v) h K) K := (rfl)
theorem opH_buildSlice {t : TypeId} {n : Nat} {ps : Array (Nat × Operand)} : opH P ty E c h (.buildSlice t n ps) K = evP E c ps.toList fun vs => wrK c h (runH P (iBuildSlice t n vs.toArray) h K) K := (rfl)
theorem opH_store {t : TypeId} {x y : Operand} : opH P ty E c h (.store t x y) K = evK E c x fun v => evK E c y fun u => wrK c h (runH P (iStoreAt t v u) h fun _ h' => K undef h') K := (rfl)
theorem opH_mapUpdate {t : TypeId} {m k x : Operand} : opH P ty E c h (.mapUpdate t m k x) K = evK E c m fun vm => evK E c k fun vk => evK E c x fun v => wrK c h (runH P (iMapUpdate t vm vk v) h fun _ h' => K undef h') K := (rfl)
theorem opH_insert {t : TypeId} {m k x : Operand} : opH P ty E c h (.insert t m k x) K = evK E c m fun vm => evK E c k fun vk => evK E c x fun v => wrK c h (runH P (iMapUpdate t vm vk v) h fun _ h' => K undef h') K := (rfl)
theorem opH_makeMap {t : TypeId} {r : Option Operand} : opH P ty E c h (.makeMap t r) K = evO E c r fun v => wrK c h (runH P (iMakeMap t v) h K) K := (rfl)
theorem opH_makeSlice {t : TypeId} {x y : Operand} : opH P ty E c h (.makeSlice t x y) K = evK E c x fun v => evK E c y fun u => wrK c h (runH P (iMakeSlice t v u) h K) K := (rfl)
theorem opH_range {t : TypeId} {x : Operand} : opH P ty E c h (.range t x) K = evK E c x fun v => wrK c h (runH P (iRange t v) h K) K := (rfl)
theorem opH_next {x : Operand} {st : Bool} : opH P ty E c h (.next x st) K = evK E c x fun v => wrK c h (runH P (iNext v st ty) h K) K := (rfl)
theorem opH_mapEntry {t : TypeId} {m k : Operand} : opH P ty E c h (.mapEntry t m k) K = evK E c m fun vm => evK E c k fun vk => wrK c h (runH P (iMapEntry t vm vk) h K) K := (rfl)
theorem opH_entryStore {t : TypeId} {m s x : Operand} : opH P ty E c h (.entryStore t m s x) K = evK E c m fun vm => evK E c s fun vs => evK E c x fun v => wrK c h (runH P (iEntryStore t vm vs v) h fun _ h' => K undef h') K := (rfl)
theorem opH_append {args : Array Operand} {tys : Array TypeId} : opH P ty E c h (.call ⟨.builtin .append, args, tys⟩) K = evL E c args.toList fun vs => wrK c h (runH P (iAppend tys ty vs.toArray) h K) K := (rfl)
theorem opH_copy {args : Array Operand} {tys : Array TypeId} : opH P ty E c h (.call ⟨.builtin .copy, args, tys⟩) K = evL E c args.toList fun vs => wrK c h (runH P (iCopy tys ty vs.toArray) h K) K := (rfl)
theorem opH_clear {args : Array Operand} {tys : Array TypeId} : opH P ty E c h (.call ⟨.builtin .clear, args, tys⟩) K = evL E c args.toList fun vs => wrK c h (runH P (iClear tys ty vs.toArray) h K) K := (rfl)
theorem opH_delete {args : Array Operand} {tys : Array TypeId} : opH P ty E c h (.call ⟨.builtin .delete, args, tys⟩) K = evL E c args.toList fun vs => wrK c h (runH P (iDelete tys ty vs.toArray) h K) K := (rfl)
theorem opH_call {f : FuncId} {args : Array Operand} {tys : Array TypeId} : opH P ty E c h (.call ⟨.value (.func f), args, tys⟩) K = (okFn P f = true ∧ evL E c args.toList fun vs => wrK c h (HCalls P f vs.toArray h K) K) := (rfl)
theorem opH_callT {t : Tmp} {args : Array Operand} {tys : Array TypeId} : opH P ty E c h (.call ⟨.value (.tmp t), args, tys⟩) K = evK E c (.tmp t) fun v => evL E c args.toList fun vs => wrK c h (callV P v vs h K) K := (rfl)
theorem callV_func {f : FuncId} {first captured : Array Value} {args : List Value} : callV P (.func (.func f) first captured) args h K = (okFn P f = true ∧ HCalls P f (first ++ args.toArray ++ captured) h K) := (rfl)

theorem resL_nil {F : List Value → Prop} : resL P E h [] F = F [] := (rfl)
theorem resL_cons {r : ResultVar} {l : List ResultVar} {F : List Value → Prop} : resL P E h (r :: l) F = resK P E h r fun v => resL P E h l fun vs => F (v :: vs) := (rfl)
theorem resK_tmp {t : Tmp} : resK P E h (.tmp t) KV = evK E true (.tmp t) KV := (rfl)
theorem resK_cell {t : Tmp} {u : TypeId} : resK P E h (.cell t u) KV = evK E true (.tmp t) fun v => rdK true (runD P (iLoadRes u v) h) KV := (rfl)
theorem resV_nil : resV [] = .tuple #[] := (rfl)
theorem resV_one {v : Value} : resV [v] = v := (rfl)
theorem resV_two {v u : Value} {l : List Value} : resV (v :: u :: l) = .tuple (v :: u :: l).toArray := (rfl)
theorem retQ_normal {rs : List ResultVar} {R : Value → Heap → Prop} : retQ P rs R .normal E h = resL P E h rs fun vs => R (resV vs) h := (rfl)
theorem retQ_ret {rs : List ResultVar} {R : Value → Heap → Prop} : retQ P rs R .ret E h = resL P E h rs fun vs => R (resV vs) h := (rfl)
theorem args_nil {k : Nat} : Env.args k [] = .nil := (rfl)
theorem args_cons {k : Nat} {v : Value} {l : List Value} : Env.args k (v :: l) = .cons k v true (Env.args (k + 1) l) := (rfl)

theorem evG_congr {r r' : Option (Value × Bool)} (e : r = r') : evG c KV r = evG c KV r' := by rw [e]
theorem rdK_congr {r r' : Option Value} (e : r = r') : rdK c r KV = rdK c r' KV := by rw [e]
theorem condK_congr {v v' : Value} {Y Z : Prop} (e : v = v') : condK v Y Z = condK v' Y Z := by rw [e]
theorem pickK_congr {v v' : Value} {F : Bool → Prop} (e : v = v') : pickK c v F KV = pickK c v' F KV := by rw [e]
theorem gdG_congr {r r' : Option (Value × Bool)} {want : Bool} {F : Bool → Prop} (e : r = r') : gdG want F r = gdG want F r' := by rw [e]
theorem wrK_congr {c' : Bool} {Y : Prop} (e : c = c') : wrK c h Y K = wrK c' h Y K := by rw [e]
theorem regN_congr {E' : Env} {h' : Heap} (e : E = E') (f : h = h') : regN Q E h = regN Q E' h' := by rw [e, f]
theorem HCalls_congr {f : FuncId} {a a' : Array Value} (e : a = a') : HCalls P f a h K = HCalls P f a' h K := by rw [e]
theorem runH_congr {α : Type} {s s' : Sem α} {F : α → Heap → Prop} (e : s = s') : runH P s h F = runH P s' h F := by rw [e]
theorem loopH_congr {l : List Nat} {E E' : Env} (e : E = E') : loopH l X Q E h = loopH l X Q E' h := by rw [e]
end

attribute [go_sem ↓] dev_skip dev_region dev_seq dev_cond condE_tmp condE_const dev_block dev_loop dev_exit dev_scope dev_label dev_ret roundsQ_normal roundsQ_exit roundsQ_ret seqQ_normal seqQ_exit seqQ_ret blockQ_normal blockQ_ret blockQ_hit blockQ_miss
  regK_eq tabAt_hit tabAt_miss schAt_nil schAt_hit schAt_miss regDev_none regDev_some devSched_nil devSched_no devSched_cons devSched_wr nthO_zero nthO_succ schO_go schO_again schO_goG schO_againG sameV_none sameV_some sameG_some devOps_nil devOps_cons devOps_guard opsK_some opsK_none gdJ_zero gdJ_succ gdG_some gdV_true gdV_false put_some put_none get_hit get_miss get_nil keep_nil keep_cons keepG_some keepG_none
  evK_tmp evK_const evK_global evK_func evL_nil evL_cons evO_none evO_some evP_nil evP_cons rdK_some rdK_none wrK_true wrK_false
  condK_true condK_false pickK_bool nilV_some nilV_none nilV_func
  opH_move opH_assign opH_pick opH_load opH_nilCheck opH_binOp opH_unOp opH_convert opH_slice opH_fieldAddr opH_field opH_indexAddr opH_index opH_lookup opH_extract opH_build opH_makeFunc opH_makeInterface opH_entry
  opH_len opH_cap opH_max opH_min opH_alloc opH_box opH_buildSlice opH_store opH_mapUpdate opH_insert opH_makeMap opH_makeSlice opH_range opH_next opH_mapEntry opH_entryStore opH_append opH_copy opH_clear opH_delete opH_call opH_callT callV_func
  resL_nil resL_cons resK_tmp resK_cell resV_nil resV_one resV_two retQ_normal retQ_ret args_nil args_cons
attribute [go_sem] Nat.zero_add ne_eq selB_true selB_false Option.map_none true_and and_true Bool.true_and Bool.and_true Bool.not_true Bool.not_false Bool.not_not not_false_eq_true Option.isNone_none Option.isNone_some Option.isSome_none Option.isSome_some Option.getD_none Option.getD_some Int.natCast_nonneg decide_eq_true_eq evG_true evG_same rndN_eq regN_eq cond_bool cond_tt cond_ff cond_true cond_false Option.bind_some
attribute [go_sem low] condK_bool
attribute [congr] regDev_congr schO_congr sameG_congr rndN_congr evG_congr rdK_congr condK_congr pickK_congr gdG_congr wrK_congr selB_congr regN_congr HCalls_congr runH_congr loopH_congr

end Go.Eng
