/-
  THE ENGINE, PART 5: the rules by which a body is reckoned.
-/
import Derived.Test.YtaijcllgdlalpaaGreatDoorZj0
import Derived.KernelRfl
import Derived.Laws.StructEq
set_option linter.unusedSimpArgs false
set_option linter.unusedVariables false
set_option maxRecDepth 16000
set_option maxHeartbeats 4000000
namespace Go.Eng
open Go

section
variable {P : Program} {T : Tab} {b : Nat} {Q : Ex → Env → Heap → Prop} {E : Env} {h : Heap} {ty : TypeId} {c : Bool} {K : Value → Heap → Prop} {KE : Env → Heap → Prop} {KV : Value → Prop} {ops : Array Oper}
  {X : (Ex → Env → Heap → Prop) → Env → Heap → Prop}

/-- Lazy. -/
def selB {α : Type} (b : Bool) (x y : α) : α := bif b then x else y
theorem selB_true {α : Type} {x y : α} : selB true x y = x := (rfl)
theorem selB_false {α : Type} {x y : α} : selB false x y = y := (rfl)
theorem selB_congr {α : Type} {b b' : Bool} {x y : α} (e : b = b') : selB b x y = selB b' x y := by rw [e]
theorem dev_skip : dev P T b .skip Q E h = Q .normal E h := (rfl)
theorem dev_region {id : Nat} {d : Bool} : dev P T b (.region id ops d) Q E h = regDev P ops (schAt T.sch id) E h (regK (tabAt T.reg id) Q) := (rfl)
theorem dev_seq {x y : Code} : dev P T b (.seq x y) Q E h = dev P T b x (seqQ (dev P T b y) Q) E h := (rfl)
theorem dev_cond {x : Operand} {y z : Code} : dev P T b (.cond x y z) Q E h = evK E true x fun v => condK v (dev P T b y Q (condE x true E) h) (dev P T b z Q (condE x false E) h) := (rfl)
theorem condE_tmp {t : Tmp} {x : Bool} : condE (.tmp t) x E = .cons t (.bool x) true E := (rfl)
theorem condE_const {v : Value} {x : Bool} : condE (.const v) x E = E := (rfl)
theorem dev_block {id : Nat} {x : Code} : dev P T b (.block id x) Q E h = dev P T id x (blockQ id Q) E h := (rfl)
theorem dev_loop {x : Code} : dev P T b (.loop x) Q E h = loopH (tabAt T.loops b) (dev P T b x) Q E h := (rfl)
theorem dev_exit {id : Nat} : dev P T b (.exit id) Q E h = Q (.exit id) E h := (rfl)
theorem dev_scope {x : Code} : dev P T b (.scope x) Q E h = dev P T b x Q E h := (rfl)
theorem dev_label {l : Nat} : dev P T b (.label l) Q E h = Q .normal E h := (rfl)
theorem dev_ret : dev P T b .ret Q E h = Q .ret E h := (rfl)
theorem seqQ_normal : seqQ X Q .normal E h = X Q E h := (rfl)
theorem seqQ_exit {i : Nat} : seqQ X Q (.exit i) E h = Q (.exit i) E h := (rfl)
theorem seqQ_ret : seqQ X Q .ret E h = Q .ret E h := (rfl)
theorem blockQ_normal {id : Nat} : blockQ id Q .normal E h = Q .normal E h := (rfl)
theorem blockQ_ret {id : Nat} : blockQ id Q .ret E h = Q .ret E h := (rfl)
theorem blockQ_hit {id : Nat} : blockQ id Q (.exit id) E h = Q .normal E h := by simp [blockQ]
theorem blockQ_miss {id i : Nat} (hi : (i == id) = false) : blockQ id Q (.exit i) E h = Q (.exit i) E h := by simp [blockQ, hi]
def rndN (I : Env → Heap → Prop) (E : Env) (h : Heap) : Prop := I E h
theorem roundsQ_normal {I : Env → Heap → Prop} {l : List Nat} : roundsQ I l Q .normal E h = rndN I (E.keep l) h := (rfl)
theorem rndN_eq {I : Env → Heap → Prop} : rndN I E h = I E h := (rfl)
theorem rndN_congr {I : Env → Heap → Prop} {E' : Env} {h' : Heap} (e : E = E') (f : h = h') : rndN I E h = rndN I E' h' := by rw [e, f]
theorem roundsQ_exit {I : Env → Heap → Prop} {l : List Nat} {i : Nat} : roundsQ I l Q (.exit i) E h = Q (.exit i) E h := (rfl)
theorem roundsQ_ret {I : Env → Heap → Prop} {l : List Nat} : roundsQ I l Q .ret E h = Q .ret E h := (rfl)
def regN (Q : Ex → Env → Heap → Prop) (E : Env) (h : Heap) : Prop := Q .normal E h
theorem regK_eq {l : List Nat} : regK l Q E h = regN Q (E.keep l) h := (rfl)
theorem regN_eq : regN Q E h = Q .normal E h := (rfl)
theorem tabAt_hit {k : Nat} {l : List Nat} {r : List (Nat × List Nat)} : tabAt ((k, l) :: r) k = l := by simp [tabAt]
theorem tabAt_miss {k i : Nat} {l : List Nat} {r : List (Nat × List Nat)} (hki : (k == i) = false) : tabAt ((k, l) :: r) i = tabAt r i := by simp [tabAt, hki]
theorem schAt_nil {i : Nat} : schAt [] i = none := (rfl)
theorem schAt_hit {k : Nat} {l : Sch} {r : List (Nat × Sch)} : schAt ((k, l) :: r) k = some l := by simp [schAt]
theorem schAt_miss {k i : Nat} {l : Sch} {r : List (Nat × Sch)} (hki : (k == i) = false) : schAt ((k, l) :: r) i = schAt r i := by simp [schAt, hki]
theorem regDev_none : regDev P ops none E h KE = devOps P ops ops.toList E h KE := (rfl)
theorem regDev_some {wm rm : Nat} {am : List Nat} {l : Plan} : regDev P ops (some ⟨wm, rm, am, l⟩) E h KE = devSched P ops l E h KE := (rfl)
theorem regDev_congr {s s' : Option Sch} (e : s = s') : regDev P ops s E h KE = regDev P ops s' E h KE := by rw [e]
theorem devSched_nil : devSched P ops .done E h KE = KE E h := (rfl)
theorem devSched_no : devSched P ops .no E h KE = True := (rfl)
theorem devSched_cons {i : Nat} {ag : Bool} {l : Plan} : devSched P ops (.rd i ag l) E h KE = schO P ops (devSched P ops l) E h KE ag (nthO ops.toList i) := (rfl)
theorem devSched_wr {i : Nat} {l alt : Plan} : devSched P ops (.wr i l alt) E h KE = (schO P ops (devSched P ops l) E h KE false (nthO ops.toList i) ∧ devSched P ops alt E h KE) := (rfl)
theorem nthO_zero {o : Oper} {l : List Oper} : nthO (o :: l) 0 = some o := (rfl)
theorem nthO_succ {o : Oper} {l : List Oper} {n : Nat} : nthO (o :: l) (n + 1) = nthO l n := (rfl)
theorem schO_congr {Y : Env → Heap → (Env → Heap → Prop) → Prop} {ag : Bool} {o o' : Option Oper} (e : o = o') : schO P ops Y E h KE ag o = schO P ops Y E h KE ag o' := by rw [e]
theorem schO_go {Y : Env → Heap → (Env → Heap → Prop) → Prop} {dst : Option Tmp} {op : Op} {u : TypeId} {pos : String} {after : Array Edge} : schO P ops Y E h KE false (some ⟨dst, op, u, pos, after, none⟩) = opH P u E true h op (opsK Y E dst true KE) := (rfl)
theorem schO_again {Y : Env → Heap → (Env → Heap → Prop) → Prop} {dst : Option Tmp} {op : Op} {u : TypeId} {pos : String} {after : Array Edge} : schO P ops Y E h KE true (some ⟨dst, op, u, pos, after, none⟩) = opH P u E true h op (fun v _ => sameV E dst true v ∧ Y E h KE) := (rfl)
theorem sameV_none {v : Value} : sameV E none c v = True := (rfl)
theorem sameV_some {s : Tmp} {v : Value} : sameV E (some s) c v = sameG c v (E.get s) := (rfl)
theorem sameG_some {v v0 : Value} {c0 : Bool} : sameG c v (some (v0, c0)) = (c0 = c ∧ (c = true → v = v0)) := (rfl)
theorem sameG_congr {v : Value} {r r' : Option (Value × Bool)} (e : r = r') : sameG c v r = sameG c v r' := by rw [e]
theorem devOps_nil : devOps P ops [] E h KE = KE E h := (rfl)
theorem devOps_cons {dst : Option Tmp} {op : Op} {u : TypeId} {pos : String} {after : Array Edge} {l : List Oper} : devOps P ops (⟨dst, op, u, pos, after, none⟩ :: l) E h KE = opH P u E true h op (opsK (devOps P ops l) E dst true KE) := (rfl)
/-- The slot that a guard looks at. -/
def gdJ (E : Env) (want : Bool) (F : Bool → Prop) : List Oper → Nat → Prop
  | [], _ => False
  | o :: _, 0 => match o.dst with
    | some d => match E.get d with
      | some (v, c) => F (gdV c want v)
      | none => False
    | none => False
  | _ :: l, j + 1 => gdJ E want F l j
theorem gdJ_eq {want : Bool} {F : Bool → Prop} : ∀ {l : List Oper} {j : Nat}, gdJ E want F l j = match (l[j]?).bind (·.dst) with
    | some d => match E.get d with
      | some (v, c) => F (gdV c want v)
      | none => False
    | none => False
  | [], j => by simp [gdJ]
  | o :: l, 0 => by simp [gdJ]
  | o :: l, j + 1 => by simp only [gdJ, List.getElem?_cons_succ]; exact gdJ_eq
theorem devOps_guard {dst : Option Tmp} {op : Op} {u : TypeId} {pos : String} {after : Array Edge} {j : Nat} {want : Bool} {l : List Oper} {all : List Oper} : devOps P all.toArray (⟨dst, op, u, pos, after, some (j, want)⟩ :: l) E h KE =
    gdJ E want (fun c => opH P u E c h op (opsK (devOps P all.toArray l) E dst c KE)) all j := by
  rw [gdJ_eq]; simp only [devOps, gdK, List.getElem?_toArray]
  cases (all[j]?).bind (·.dst) with
  | none => rfl
  | some d => simp only; cases E.get d <;> rfl
theorem gdK_some {F : Bool → Prop} {all : List Oper} {j : Nat} {want : Bool} : gdK all.toArray E (some (j, want)) F = gdJ E want F all j := by
  rw [gdJ_eq]; simp only [gdK, List.getElem?_toArray]
  cases (all[j]?).bind (·.dst) with
  | none => rfl
  | some d => simp only; cases E.get d <;> rfl
theorem schO_goG {Y : Env → Heap → (Env → Heap → Prop) → Prop} {dst : Option Tmp} {op : Op} {u : TypeId} {pos : String} {after : Array Edge} {j : Nat} {want : Bool} {all : List Oper} : schO P all.toArray Y E h KE false (some ⟨dst, op, u, pos, after, some (j, want)⟩) = gdJ E want (fun c => opH P u E c h op (opsK Y E dst c KE)) all j := by
  rw [← gdK_some]; rfl
theorem schO_againG {Y : Env → Heap → (Env → Heap → Prop) → Prop} {dst : Option Tmp} {op : Op} {u : TypeId} {pos : String} {after : Array Edge} {j : Nat} {want : Bool} {all : List Oper} : schO P all.toArray Y E h KE true (some ⟨dst, op, u, pos, after, some (j, want)⟩) = gdJ E want (fun c => opH P u E c h op (fun v _ => sameV E dst c v ∧ Y E h KE)) all j := by
  rw [← gdK_some]; rfl
theorem opsK_some {Y : Env → Heap → (Env → Heap → Prop) → Prop} {d : Tmp} {v : Value} : opsK Y E (some d) c KE v h = Y (.cons d v c E) h KE := (rfl)
theorem opsK_none {Y : Env → Heap → (Env → Heap → Prop) → Prop} {v : Value} : opsK Y E none c KE v h = Y E h KE := (rfl)
def gdG (want : Bool) (F : Bool → Prop) : Option (Value × Bool) → Prop
  | some (v, c) => F (gdV c want v)
  | none => False
theorem gdJ_zero {d : Tmp} {op : Op} {u : TypeId} {pos : String} {after : Array Edge} {g : Option (Nat × Bool)} {want : Bool} {F : Bool → Prop} {l : List Oper} : gdJ E want F (⟨some d, op, u, pos, after, g⟩ :: l) 0 = gdG want F (E.get d) := by
  simp only [gdJ]; cases E.get d <;> rfl
theorem gdJ_succ {o : Oper} {want : Bool} {F : Bool → Prop} {l : List Oper} {j : Nat} : gdJ E want F (o :: l) (j + 1) = gdJ E want F l j := (rfl)
theorem gdG_some {want : Bool} {F : Bool → Prop} {v : Value} {c : Bool} : gdG want F (some (v, c)) = F (gdV c want v) := (rfl)
theorem gdV_true {c x : Bool} : gdV c true (.bool x) = (c && x) := (rfl)
theorem gdV_false {c x : Bool} : gdV c false (.bool x) = (c && !x) := (rfl)
theorem put_some {d : Tmp} {v : Value} : E.put (some d) v c = .cons d v c E := (rfl)
theorem put_none {v : Value} : E.put none v c = E := (rfl)
theorem get_hit {s : Nat} {v : Value} : (Env.cons s v c E).get s = some (v, c) := by simp [Env.get]
theorem get_miss {s t : Nat} {v : Value} (hst : (s == t) = false) : (Env.cons s v c E).get t = E.get t := by simp [Env.get, hst]
theorem get_nil {t : Nat} : Env.nil.get t = none := (rfl)
def keepG (s : Nat) (R : Env) : Option (Value × Bool) → Env
  | some (v, c) => .cons s v c R
  | none => R
theorem keep_nil : E.keep [] = .nil := (rfl)
theorem keep_cons {s : Nat} {l : List Nat} : E.keep (s :: l) = keepG s (E.keep l) (E.get s) := by
  simp only [Env.keep]; cases E.get s <;> rfl
theorem keepG_some {s : Nat} {v : Value} {c : Bool} {R : Env} : keepG s R (some (v, c)) = .cons s v c R := (rfl)
theorem keepG_none {s : Nat} {R : Env} : keepG s R none = R := (rfl)
def evG (c : Bool) (K : Value → Prop) : Option (Value × Bool) → Prop
  | some (v, cx) => (c = true → cx = true) ∧ K v
  | none => False
theorem evK_tmp {t : Tmp} : evK E c (.tmp t) KV = evG c KV (E.get t) := by
  simp only [evK]; cases E.get t <;> rfl
theorem evK_const {v : Value} : evK E c (.const v) KV = KV v := (rfl)
theorem evK_global {g : Nat} : evK E c (.global g) KV = KV (.pointer (some ⟨g, 0, none⟩)) := (rfl)
theorem evK_func {f : Nat} : evK E c (.func f) KV = KV (.func (.func f) #[] #[]) := (rfl)
theorem evG_true {v : Value} : evG c KV (some (v, true)) = KV v := by simp [evG]
theorem evG_same {v : Value} : evG c KV (some (v, c)) = KV v := by simp [evG]
theorem evL_nil {F : List Value → Prop} : evL E c [] F = F [] := (rfl)
theorem evL_cons {x : Operand} {l : List Operand} {F : List Value → Prop} : evL E c (x :: l) F = evK E c x fun v => evL E c l fun vs => F (v :: vs) := (rfl)
theorem evO_none {F : Option Value → Prop} : evO E c none F = F none := (rfl)
theorem evO_some {x : Operand} {F : Option Value → Prop} : evO E c (some x) F = evK E c x fun v => F (some v) := (rfl)
theorem evP_nil {F : List (Nat × Value) → Prop} : evP E c [] F = F [] := (rfl)
theorem evP_cons {k : Nat} {x : Operand} {l : List (Nat × Operand)} {F : List (Nat × Value) → Prop} : evP E c ((k, x) :: l) F = evK E c x fun v => evP E c l fun vs => F ((k, v) :: vs) := (rfl)
theorem rdK_some {v : Value} : rdK c (some v) KV = KV v := (rfl)
theorem rdK_none : rdK true none KV = False := by simp [rdK]
theorem wrK_true {Y : Prop} : wrK true h Y K = Y := by simp [wrK]
theorem wrK_false {Y : Prop} : wrK false h Y K = K undef h := by simp [wrK]
theorem condK_true {Y Z : Prop} : condK (.bool true) Y Z = Y := by simp [condK]
theorem condK_false {Y Z : Prop} : condK (.bool false) Y Z = Z := by simp [condK]
theorem condK_bool {x : Bool} {Y Z : Prop} : condK (.bool x) Y Z = ((x = true → Y) ∧ (x = false → Z)) := (rfl)
theorem condK_decide {p : Prop} [Decidable p] {Y Z : Prop} : condK (.bool (decide p)) Y Z = ((p → Y) ∧ (¬ p → Z)) := by simp [condK]
theorem pickK_bool {x : Bool} {F : Bool → Prop} : pickK c (.bool x) F KV = F x := (rfl)
theorem cond_bool {x y z : Bool} : (bif x then Value.bool y else Value.bool z) = .bool (bif x then y else z) := by cases x <;> rfl
theorem cond_tt {x y : Bool} : (bif x then true else y) = (x || y) := by cases x <;> rfl
theorem cond_ff {x y : Bool} : (bif x then y else false) = (x && y) := by cases x <;> rfl
theorem nilV_some {a : Addr} : nilV (.pointer (some a)) = some (.pointer (some a)) := (rfl)
theorem nilV_none : nilV (.pointer none) = none := (rfl)
theorem nilV_func {f : FuncId} {x y : Array Value} : nilV (.func (.func f) x y) = some (.func (.func f) x y) := (rfl)

theorem opH_move {x : Operand} : opH P ty E c h (.move x) K = evK E c x fun v => K v h := (rfl)
theorem opH_assign {x : Operand} : opH P ty E c h (.assign x) K = evK E c x fun v => K v h := (rfl)
theorem opH_pick {cn x y : Operand} : opH P ty E c h (.pick cn x y) K = evK E c cn fun vc => pickK c vc (fun b => evK E (c && b) x fun vx => evK E (c && !b) y fun vy => K (bif b then vx else vy) h) fun v => K v h := (rfl)
theorem opH_load {t : TypeId} {x : Operand} : opH P ty E c h (.load t x) K = evK E c x fun v => rdK c (runD P (iLoadAt t v) h) fun v => K v h := (rfl)
theorem opH_nilCheck {x : Operand} : opH P ty E c h (.nilCheck x) K = evK E c x fun v => rdK c (nilV v) fun v => K v h := (rfl)
/-- An operator on two values. -/
def binD (P : Program) (h : Heap) (o : BinOp) (t : TypeId) (x y : Operand) (a b : Value) : Option Value := runD P (do eqGuard o t x y a b; binOp o t a b) h
theorem opH_binOp {o : BinOp} {t u : TypeId} {x y : Operand} : opH P ty E c h (.binOp o t x y u) K = evK E c x fun vx => evK E c y fun vy => rdK c (binD P h o t x y vx vy) fun v => K v h := (rfl)
theorem opH_unOp {o : UnOp} {t : TypeId} {x : Operand} : opH P ty E c h (.unOp o t x) K = evK E c x fun v => rdK c (runD P (iUnary o v) h) fun v => K v h := (rfl)
theorem opH_convert {s d : TypeId} {x : Operand} : opH P ty E c h (.convert s d x) K = selB (convW P s d) (evK E c x fun v => wrK c h (runH P (iConvert s d v) h K) K) (evK E c x fun v => rdK c (runD P (iConvert s d v) h) fun v => K v h) := (rfl)
theorem opH_slice {t : TypeId} {x : Operand} {lo hi mx : Option Operand} : opH P ty E c h (.slice t x lo hi mx) K = evK E c x fun v => evO E c lo fun l => evO E c hi fun u => evO E c mx fun m => rdK c (runD P (iSliceAt t v l u m) h) fun v => K v h := (rfl)
theorem opH_fieldAddr {s : TypeId} {x : Operand} {f : Nat} : opH P ty E c h (.fieldAddr s x f) K = evK E c x fun v => rdK c (runD P (iFieldAt s v f) h) fun v => K v h := (rfl)
theorem opH_field {s : TypeId} {x : Operand} {f : Nat} : opH P ty E c h (.field s x f) K = evK E c x fun v => rdK c (runD P (iField s v f) h) fun v => K v h := (rfl)
theorem opH_indexAddr {t : TypeId} {x i : Operand} : opH P ty E c h (.indexAddr t x i) K = evK E c x fun v => evK E c i fun vi => rdK c (runD P (iIndexAt t v vi) h) fun v => K v h := (rfl)
theorem opH_index {t : TypeId} {x i : Operand} : opH P ty E c h (.index t x i) K = evK E c x fun v => evK E c i fun vi => rdK c (runD P (iIndex t v vi) h) fun v => K v h := (rfl)
theorem opH_lookup {t : TypeId} {x i : Operand} {ok : Bool} : opH P ty E c h (.lookup t x i ok) K = evK E c x fun v => evK E c i fun vi => rdK c (runD P (iLookup t v vi ok) h) fun v => K v h := (rfl)
theorem opH_extract {x : Operand} {i : Nat} : opH P ty E c h (.extract x i) K = evK E c x fun v => rdK c (runD P (iExtract v i) h) fun v => K v h := (rfl)
theorem opH_build {t : TypeId} {ps : Array (Nat × Operand)} : opH P ty E c h (.build t ps) K = evP E c ps.toList fun vs => rdK c (runD P (iBuild t vs.toArray) h) fun v => K v h := (rfl)
theorem opH_makeFunc {fn : Fn} {f g : Array Operand} : opH P ty E c h (.makeFunc fn f g) K = evL E c f.toList fun vf => evL E c g.toList fun vg => K (.func fn vf.toArray vg.toArray) h := (rfl)
theorem opH_makeInterface {t : TypeId} {x : Operand} : opH P ty E c h (.makeInterface t x) K = evK E c x fun v => rdK c (runD P (iMakeInterface t v) h) fun v => K v h := (rfl)
theorem opH_entry {x : Operand} : opH P ty E c h (.entry x) K = evK E c x fun v => rdK c (runD P (iEntry v) h) fun v => K v h := (rfl)
theorem opH_len {args : Array Operand} {tys : Array TypeId} : opH P ty E c h (.call ⟨.builtin .len, args, tys⟩) K = evL E c args.toList fun vs => rdK c (runD P (iLen tys ty vs.toArray) h) fun v => K v h := by
  simp [opH, isW, quietB, opR, builtinV]
theorem opH_cap {args : Array Operand} {tys : Array TypeId} : opH P ty E c h (.call ⟨.builtin .cap, args, tys⟩) K = evL E c args.toList fun vs => rdK c (runD P (iCap tys ty vs.toArray) h) fun v => K v h := by
  simp [opH, isW, quietB, opR, builtinV]
theorem opH_max {args : Array Operand} {tys : Array TypeId} : opH P ty E c h (.call ⟨.builtin .max, args, tys⟩) K = evL E c args.toList fun vs => rdK c (runD P (iMax tys ty vs.toArray) h) fun v => K v h := by
  simp [opH, isW, quietB, opR, builtinV]
theorem opH_min {args : Array Operand} {tys : Array TypeId} : opH P ty E c h (.call ⟨.builtin .min, args, tys⟩) K = evL E c args.toList fun vs => rdK c (runD P (iMin tys ty vs.toArray) h) fun v => K v h := by
  simp [opH, isW, quietB, opR, builtinV]
theorem opH_alloc {t : TypeId} : opH P ty E c h (.alloc t) K = wrK c h (runH P (iAlloc t true (.tuple #[])) h K) K := (rfl)
theorem opH_box {t : TypeId} {x : Operand} : opH P ty E c h (.box t x) K = evK E c x fun v => wrK c h (runH P (iBox t v) h K) K := (rfl)
theorem opH_buildSlice {t : TypeId} {n : Nat} {ps : Array (Nat × Operand)} : opH P ty E c h (.buildSlice t n ps) K = evP E c ps.toList fun vs => wrK c h (runH P (iBuildSlice t n vs.toArray) h K) K := (rfl)
theorem opH_store {t : TypeId} {x y : Operand} : opH P ty E c h (.store t x y) K = evK E c x fun v => evK E c y fun u => wrK c h (runH P (iStoreAt t v u) h fun _ h' => K undef h') K := (rfl)
theorem opH_mapUpdate {t : TypeId} {m k x : Operand} : opH P ty E c h (.mapUpdate t m k x) K = evK E c m fun vm => evK E c k fun vk => evK E c x fun v => wrK c h (runH P (iMapUpdate t vm vk v) h fun _ h' => K undef h') K := (rfl)
theorem opH_insert {t : TypeId} {m k x : Operand} : opH P ty E c h (.insert t m k x) K = evK E c m fun vm => evK E c k fun vk => evK E c x fun v => wrK c h (runH P (iMapUpdate t vm vk v) h fun _ h' => K undef h') K := (rfl)
theorem opH_makeMap {t : TypeId} {r : Option Operand} : opH P ty E c h (.makeMap t r) K = evO E c r fun v => wrK c h (runH P (iMakeMap t v) h K) K := (rfl)
theorem opH_makeSlice {t : TypeId} {x y : Operand} : opH P ty E c h (.makeSlice t x y) K = evK E c x fun v => evK E c y fun u => wrK c h (runH P (iMakeSlice t v u) h K) K := (rfl)
theorem opH_range {t : TypeId} {x : Operand} : opH P ty E c h (.range t x) K = evK E c x fun v => wrK c h (runH P (iRange t v) h K) K := (rfl)
theorem opH_next {x : Operand} {st : Bool} : opH P ty E c h (.next x st) K = evK E c x fun v => wrK c h (runH P (iNext v st ty) h K) K := (rfl)
theorem opH_mapEntry {t : TypeId} {m k : Operand} : opH P ty E c h (.mapEntry t m k) K = evK E c m fun vm => evK E c k fun vk => wrK c h (runH P (iMapEntry t vm vk) h K) K := (rfl)
theorem opH_entryStore {t : TypeId} {m s x : Operand} : opH P ty E c h (.entryStore t m s x) K = evK E c m fun vm => evK E c s fun vs => evK E c x fun v => wrK c h (runH P (iEntryStore t vm vs v) h fun _ h' => K undef h') K := (rfl)
theorem opH_append {args : Array Operand} {tys : Array TypeId} : opH P ty E c h (.call ⟨.builtin .append, args, tys⟩) K = evL E c args.toList fun vs => wrK c h (runH P (iAppend tys ty vs.toArray) h K) K := (rfl)
theorem opH_copy {args : Array Operand} {tys : Array TypeId} : opH P ty E c h (.call ⟨.builtin .copy, args, tys⟩) K = evL E c args.toList fun vs => wrK c h (runH P (iCopy tys ty vs.toArray) h K) K := (rfl)
theorem opH_clear {args : Array Operand} {tys : Array TypeId} : opH P ty E c h (.call ⟨.builtin .clear, args, tys⟩) K = evL E c args.toList fun vs => wrK c h (runH P (iClear tys ty vs.toArray) h K) K := (rfl)
theorem opH_delete {args : Array Operand} {tys : Array TypeId} : opH P ty E c h (.call ⟨.builtin .delete, args, tys⟩) K = evL E c args.toList fun vs => wrK c h (runH P (iDelete tys ty vs.toArray) h K) K := (rfl)
theorem opH_call {f : FuncId} {args : Array Operand} {tys : Array TypeId} : opH P ty E c h (.call ⟨.value (.func f), args, tys⟩) K = (okFn P f = true ∧ evL E c args.toList fun vs => wrK c h (HCalls P f vs.toArray h K) K) := (rfl)
theorem opH_callT {t : Tmp} {args : Array Operand} {tys : Array TypeId} : opH P ty E c h (.call ⟨.value (.tmp t), args, tys⟩) K = evK E c (.tmp t) fun v => evL E c args.toList fun vs => wrK c h (callV P v vs h K) K := (rfl)
theorem callV_func {f : FuncId} {first captured : Array Value} {args : List Value} : callV P (.func (.func f) first captured) args h K = (okFn P f = true ∧ HCalls P f (first ++ args.toArray ++ captured) h K) := (rfl)

theorem resL_nil {F : List Value → Prop} : resL P E h [] F = F [] := (rfl)
theorem resL_cons {r : ResultVar} {l : List ResultVar} {F : List Value → Prop} : resL P E h (r :: l) F = resK P E h r fun v => resL P E h l fun vs => F (v :: vs) := (rfl)
theorem resK_tmp {t : Tmp} : resK P E h (.tmp t) KV = evK E true (.tmp t) KV := (rfl)
theorem resK_cell {t : Tmp} {u : TypeId} : resK P E h (.cell t u) KV = evK E true (.tmp t) fun v => rdK true (runD P (iLoadRes u v) h) KV := (rfl)
theorem resV_nil : resV [] = .tuple #[] := (rfl)
theorem resV_one {v : Value} : resV [v] = v := (rfl)
theorem resV_two {v u : Value} {l : List Value} : resV (v :: u :: l) = .tuple (v :: u :: l).toArray := (rfl)
theorem retQ_normal {rs : List ResultVar} {R : Value → Heap → Prop} : retQ P rs R .normal E h = resL P E h rs fun vs => R (resV vs) h := (rfl)
theorem retQ_ret {rs : List ResultVar} {R : Value → Heap → Prop} : retQ P rs R .ret E h = resL P E h rs fun vs => R (resV vs) h := (rfl)
theorem args_nil {k : Nat} : Env.args k [] = .nil := (rfl)
theorem args_cons {k : Nat} {v : Value} {l : List Value} : Env.args k (v :: l) = .cons k v true (Env.args (k + 1) l) := (rfl)

theorem evG_congr {r r' : Option (Value × Bool)} (e : r = r') : evG c KV r = evG c KV r' := by rw [e]
theorem rdK_congr {r r' : Option Value} (e : r = r') : rdK c r KV = rdK c r' KV := by rw [e]
theorem condK_congr {v v' : Value} {Y Z : Prop} (e : v = v') : condK v Y Z = condK v' Y Z := by rw [e]
theorem pickK_congr {v v' : Value} {F : Bool → Prop} (e : v = v') : pickK c v F KV = pickK c v' F KV := by rw [e]
theorem gdG_congr {r r' : Option (Value × Bool)} {want : Bool} {F : Bool → Prop} (e : r = r') : gdG want F r = gdG want F r' := by rw [e]
theorem wrK_congr {c' : Bool} {Y : Prop} (e : c = c') : wrK c h Y K = wrK c' h Y K := by rw [e]
theorem regN_congr {E' : Env} {h' : Heap} (e : E = E') (f : h = h') : regN Q E h = regN Q E' h' := by rw [e, f]
theorem HCalls_congr {f : FuncId} {a a' : Array Value} (e : a = a') : HCalls P f a h K = HCalls P f a' h K := by rw [e]
theorem runH_congr {α : Type} {s s' : Sem α} {F : α → Heap → Prop} (e : s = s') : runH P s h F = runH P s' h F := by rw [e]
theorem loopH_congr {l : List Nat} {E E' : Env} (e : E = E') : loopH l X Q E h = loopH l X Q E' h := by rw [e]
end

attribute [go_sem ↓] dev_skip dev_region dev_seq dev_cond condE_tmp condE_const dev_block dev_loop dev_exit dev_scope dev_label dev_ret roundsQ_normal roundsQ_exit roundsQ_ret seqQ_normal seqQ_exit seqQ_ret blockQ_normal blockQ_ret blockQ_hit blockQ_miss
  regK_eq tabAt_hit tabAt_miss schAt_nil schAt_hit schAt_miss regDev_none regDev_some devSched_nil devSched_no devSched_cons devSched_wr nthO_zero nthO_succ schO_go schO_again schO_goG schO_againG sameV_none sameV_some sameG_some devOps_nil devOps_cons devOps_guard opsK_some opsK_none gdJ_zero gdJ_succ gdG_some gdV_true gdV_false put_some put_none get_hit get_miss get_nil keep_nil keep_cons keepG_some keepG_none
  evK_tmp evK_const evK_global evK_func evL_nil evL_cons evO_none evO_some evP_nil evP_cons rdK_some rdK_none wrK_true wrK_false
  condK_true condK_false pickK_bool nilV_some nilV_none nilV_func
  opH_move opH_assign opH_pick opH_load opH_nilCheck opH_binOp opH_unOp opH_convert opH_slice opH_fieldAddr opH_field opH_indexAddr opH_index opH_lookup opH_extract opH_build opH_makeFunc opH_makeInterface opH_entry
  opH_len opH_cap opH_max opH_min opH_alloc opH_box opH_buildSlice opH_store opH_mapUpdate opH_insert opH_makeMap opH_makeSlice opH_range opH_next opH_mapEntry opH_entryStore opH_append opH_copy opH_clear opH_delete opH_call opH_callT callV_func
  resL_nil resL_cons resK_tmp resK_cell resV_nil resV_one resV_two retQ_normal retQ_ret args_nil args_cons
attribute [go_sem] Nat.zero_add ne_eq selB_true selB_false Option.map_none true_and and_true Bool.true_and Bool.and_true Bool.not_true Bool.not_false Bool.not_not not_false_eq_true Option.isNone_none Option.isNone_some Option.isSome_none Option.isSome_some Option.getD_none Option.getD_some Int.natCast_nonneg decide_eq_true_eq evG_true evG_same rndN_eq regN_eq cond_bool cond_tt cond_ff cond_true cond_false Option.bind_some
attribute [go_sem low] condK_bool
attribute [congr] regDev_congr schO_congr sameG_congr rndN_congr evG_congr rdK_congr condK_congr pickK_congr gdG_congr wrK_congr selB_congr regN_congr HCalls_congr runH_congr loopH_congr

end Go.Eng
/-
  THE ENGINE, PART 6: the instructions, one by one.
-/
namespace Go.Eng
open Go

def aggD : TypeDesc → Bool
  | .struct _ | .array _ _ => true
  | _ => false
def aggB (P : Program) (t : TypeId) : Option Bool := (P.underlying t).map aggD
def tsz (P : Program) (t : TypeId) : Option Nat := (P.info? t).map (·.size)
def tbytes (P : Program) (t : TypeId) : Option Nat := (P.info? t).map (·.bytes)
def tzero (P : Program) (t : TypeId) : Option Value := (P.info? t).bind (·.zero)

def tszD (P : Program) (t : TypeId) : Nat := (tsz P t).getD 0
def tzeroD (P : Program) (t : TypeId) : Value := (tzero P t).getD undef
def isPtrB (P : Program) (t : TypeId) : Bool := match P.underlying t with | some (.pointer _) => true | _ => false
def isSliceB (P : Program) (t : TypeId) : Bool := match P.underlying t with | some (.slice e) => (tsz P e).isSome | _ => false
def sliceSz (P : Program) (t : TypeId) : Nat := match P.underlying t with | some (.slice e) => tszD P e | _ => 0
def isIntB (P : Program) (t : TypeId) : Bool := match P.underlying t with | some (.int _) => true | _ => false
def intKD (P : Program) (t : TypeId) : IntKind := match P.underlying t with | some (.int k) => k | _ => .i64
theorem isPtrB_of {P : Program} {t : TypeId} (h : isPtrB P t = true) : ∃ e, P.underlying t = some (.pointer e) := by
  unfold isPtrB at h; split at h
  · exact ⟨_, by assumption⟩
  · cases h
theorem isSliceB_of {P : Program} {t : TypeId} (h : isSliceB P t = true) : ∃ e s, P.underlying t = some (.slice e) ∧ tsz P e = some s ∧ sliceSz P t = s := by
  unfold isSliceB at h; split at h
  · rename_i e he
    obtain ⟨s, hs⟩ := Option.isSome_iff_exists.1 h
    exact ⟨e, s, he, hs, by simp [sliceSz, he, tszD, hs]⟩
  · cases h
theorem isIntB_of {P : Program} {t : TypeId} (h : isIntB P t = true) : P.underlying t = some (.int (intKD P t)) := by
  unfold isIntB at h; split at h
  · rename_i k hk; simp [intKD, hk]
  · cases h

section
variable {P : Program} {h : Heap} {t : TypeId} {α : Type}

theorem runD_underlying {d : TypeDesc} (hd : P.underlying t = some d) : runD P (underlying t) h = some d := by
  unfold underlying; rw [runD_bind]; show (some P).bind _ = _; simp [hd]
theorem runD_typeInfo {i : TypeInfo} (hd : P.info? t = some i) : runD P (typeInfo t) h = some i := by
  unfold typeInfo; rw [runD_bind]; show (some P).bind _ = _; simp [hd]
theorem runD_sizeOf {n : Nat} (hs : tsz P t = some n) : runD P (sizeOf t) h = some n := by
  unfold tsz at hs
  cases hi : P.info? t with
  | none => simp [hi] at hs
  | some i => simp [hi] at hs; subst hs; unfold sizeOf; rw [runD_bind, runD_typeInfo hi]; rfl
theorem runD_isAgg {b : Bool} (hs : aggB P t = some b) : runD P (isAgg t) h = some b := by
  unfold aggB at hs
  cases hi : P.underlying t with
  | none => simp [hi] at hs
  | some d =>
    simp [hi] at hs; subst hs
    unfold isAgg; rw [runD_bind, runD_underlying hi]
    cases d <;> rfl
theorem runD_zero {v : Value} (hs : tzero P t = some v) : runD P (zeroValue t) h = some v := by
  unfold tzero at hs
  cases hi : P.info? t with
  | none => simp [hi] at hs
  | some i =>
    simp [hi] at hs
    unfold zeroValue; rw [runD_bind, runD_typeInfo hi]; simp [hs]

/-! ### cells -/
def hcellO : Option Obj → Nat → Option Value
  | some (.cells c _ _), o => c[o]?
  | _, _ => none
def nthL : List Value → Nat → Option Value
  | [], _ => none
  | x :: _, 0 => some x
  | _ :: l, n + 1 => nthL l n
theorem nthL_eq : ∀ (l : List Value) (n : Nat), nthL l n = l[n]?
  | [], _ => by simp [nthL]
  | x :: l, 0 => by simp [nthL]
  | x :: l, n + 1 => by simp [nthL, nthL_eq l n]
theorem hcell_mk {b o : Nat} : hcell h ⟨b, o, none⟩ = hcellO h[b]? o := by
  simp only [hcell, hcellO]; cases h[b]? with
  | none => rfl
  | some x => cases x <;> rfl
theorem hcellO_lit {l : List Value} {e : TypeId} {fr : Nat × Nat} {o : Nat} : hcellO (some (.cells l.toArray e fr)) o = nthL l o := by simp [hcellO, nthL_eq]
theorem hcellO_arr {c : Array Value} {e : TypeId} {fr : Nat × Nat} {o : Nat} : hcellO (some (.cells c e fr)) o = c[o]? := (rfl)
theorem nthL_zero {x : Value} {l : List Value} : nthL (x :: l) 0 = some x := (rfl)
theorem nthL_succ {x : Value} {l : List Value} {n : Nat} : nthL (x :: l) (n + 1) = nthL l n := (rfl)

theorem add_mk {b o k : Nat} : Addr.add ⟨b, o, none⟩ k = ⟨b, o + k, none⟩ := by
  unfold Addr.add; split
  · rename_i e; subst e; rfl
  · rfl

theorem runD_load1 {a : Addr} : runD P (load a) h = hcell h a := by
  simp only [load, runD]; cases hcell h a <;> rfl
theorem runD_map {β : Type} {f : α → β} {s : Sem α} : runD P (f <$> s) h = (runD P s h).map f := by
  rw [← bind_pure_comp, runD_bind]; cases runD P s h <;> rfl

theorem runD_load {a : Addr} (ha : aggB P t = some false) : runD P (iLoadAt t (.pointer (some a))) h = hcell h a := by
  show runD P (loadVar t a) h = _
  unfold loadVar
  rw [runD_bind, runD_isAgg ha]
  simp only [Option.bind_some, Bool.false_eq_true, if_false]
  exact runD_load1

def hreadO : Option Obj → Nat → Nat → Option (Array Value)
  | some (.cells c _ _), o, n => if o + n ≤ c.size then some (c.extract o (o + n)) else none
  | _, _, _ => none
def takeN : List Value → Nat → Option (List Value)
  | _, 0 => some []
  | [], _ + 1 => none
  | x :: l, n + 1 => (takeN l n).map (x :: ·)
def cutN : List Value → Nat → Nat → Option (List Value)
  | l, 0, n => takeN l n
  | [], _ + 1, n => takeN [] n
  | _ :: l, o + 1, n => cutN l o n

theorem runD_loadCellsFrom {b o : Nat} {c : Array Value} {e : TypeId} {fr : Nat × Nat} (hb : h[b]? = some (.cells c e fr)) : ∀ (n i : Nat) (acc : Array Value),
    runD P (loadCellsFrom ⟨b, o, none⟩ i n acc) h = if n = 0 ∨ o + i + n ≤ c.size then some (acc ++ c.extract (o + i) (o + i + n)) else none
  | 0, i, acc => by simp [loadCellsFrom]; omega
  | n + 1, i, acc => by
    unfold loadCellsFrom
    rw [runD_bind]
    have : runD P (load (Addr.add ⟨b, o, none⟩ i)) h = c[o + i]? := by
      rw [add_mk, runD_load1, hcell_mk, hb, hcellO_arr]
    rw [this]
    by_cases hlt : o + i < c.size
    · rw [Array.getElem?_eq_getElem hlt, Option.bind_some, runD_loadCellsFrom hb n (i + 1)]
      have e1 : c.extract (o + i) (o + i + (n + 1)) = #[c[o + i]] ++ c.extract (o + (i + 1)) (o + (i + 1) + n) := by
        by_cases hle : o + i + (n + 1) ≤ c.size
        · apply Array.ext
          · simp; omega
          · intro j h1 h2
            simp only [Array.getElem_extract, Array.getElem_append]
            split
            · rename_i hj; simp at hj; subst hj; simp
            · rename_i hj; simp at hj; simp only [Array.size_extract] at h1; congr 1; simp; omega
        · apply Array.ext
          · simp; omega
          · intro j h1 h2
            simp only [Array.getElem_extract, Array.getElem_append]
            split
            · rename_i hj; simp at hj; subst hj; simp
            · rename_i hj; simp at hj; simp only [Array.size_extract] at h1; congr 1; simp; omega
      by_cases hle : o + i + (n + 1) ≤ c.size
      · rw [if_pos (.inr (by omega)), if_pos (.inr hle), e1]
        simp
      · by_cases hn : n = 0
        · omega
        · rw [if_neg (by omega), if_neg (by omega)]
    · rw [Array.getElem?_eq_none (by omega), Option.bind_none, if_neg (by omega)]

theorem runD_loadCells_none {a : Addr} {n : Nat} (hb : ∀ c e fr, h[a.block]? ≠ some (.cells c e fr)) : runD P (loadCells a (n + 1)) h = none := by
  unfold loadCells loadCellsFrom
  rw [runD_bind]
  have : runD P (load (a.add 0)) h = none := by
    have e0 : a.add 0 = a := (rfl)
    rw [e0, runD_load1]
    unfold hcell
    split
    · rename_i c e fr he; exact (hb _ _ _ he).elim
    · rfl
  rw [this]; rfl

theorem runD_load_agg' {b o n : Nat} (ha : aggB P t = some true) (hs : tsz P t = some (n + 1)) : runD P (iLoadAt t (.pointer (some ⟨b, o, none⟩))) h = (hreadO h[b]? o (n + 1)).map .agg := by
  show runD P (loadVar t _) h = _
  unfold loadVar
  rw [runD_bind, runD_isAgg ha]
  simp only [Option.bind_some, if_true]
  rw [runD_bind, runD_sizeOf hs]
  simp only [Option.bind_some]
  rw [runD_bind]
  have key : runD P (loadCells ⟨b, o, none⟩ (n + 1)) h = hreadO h[b]? o (n + 1) := by
    cases hb : h[b]? with
    | none => exact runD_loadCells_none (fun c e fr => by simp [hb])
    | some x =>
      cases x with
      | cells c e fr =>
        unfold loadCells
        rw [runD_loadCellsFrom hb]
        simp [hreadO]
      | _ => exact runD_loadCells_none (fun c e fr => by simp [hb])
  rw [key]
  cases hreadO h[b]? o (n + 1) <;> rfl

theorem runD_load_agg {b o : Nat} (ha : aggB P t = some true) (hs : 0 < tszD P t) : runD P (iLoadAt t (.pointer (some ⟨b, o, none⟩))) h = (hreadO h[b]? o (tszD P t)).map .agg := by
  unfold tszD at hs ⊢
  cases hn : tsz P t with
  | none => rw [hn] at hs; simp at hs
  | some n =>
    cases n with
    | zero => rw [hn] at hs; simp at hs
    | succ n => exact runD_load_agg' ha hn

theorem takeN_eq : ∀ (l : List Value) (n : Nat), takeN l n = if n ≤ l.length then some (l.take n) else none
  | l, 0 => by simp [takeN]
  | [], n + 1 => by simp [takeN]
  | x :: l, n + 1 => by
    simp only [takeN, takeN_eq l n, List.length_cons, Nat.add_le_add_iff_right, List.take_succ_cons]
    split <;> rfl
theorem cutN_eq : ∀ (l : List Value) (o n : Nat), cutN l o n = if n ≤ l.length - o then some ((l.drop o).take n) else none
  | l, 0, n => by simp [cutN, takeN_eq]
  | [], o + 1, n => by simp [cutN, takeN_eq]
  | x :: l, o + 1, n => by simp [cutN, cutN_eq l o n]
theorem hreadO_lit {l : List Value} {e : TypeId} {fr : Nat × Nat} {o n : Nat} : hreadO (some (.cells l.toArray e fr)) o (n + 1) = (cutN l o (n + 1)).map List.toArray := by
  simp only [hreadO, cutN_eq, List.size_toArray]
  by_cases hle : o + (n + 1) ≤ l.length
  · rw [if_pos hle, if_pos (by omega)]
    simp [List.extract_toArray, List.extract]
  · rw [if_neg hle, if_neg (by omega)]; rfl
theorem hreadO_arr {c : Array Value} {e : TypeId} {fr : Nat × Nat} {o n : Nat} (hn : o + n ≤ c.size) : hreadO (some (.cells c e fr)) o n = some (c.extract o (o + n)) := by simp [hreadO, hn]
theorem cutN_zero {l : List Value} {n : Nat} : cutN l 0 n = takeN l n := by cases l <;> rfl
theorem cutN_succ {x : Value} {l : List Value} {o n : Nat} : cutN (x :: l) (o + 1) n = cutN l o n := (rfl)
theorem takeN_zero {l : List Value} : takeN l 0 = some [] := by cases l <;> rfl
theorem takeN_succ {x : Value} {l : List Value} {n : Nat} : takeN (x :: l) (n + 1) = (takeN l n).map (x :: ·) := (rfl)

/-! ### stores -/
def hputO (h : Heap) (b : Nat) (K : Heap → Prop) : Option Obj → Nat → Value → Prop
  | some (.cells c e fr), o, v => o < c.size ∧ ¬ (fr.1 ≤ o ∧ o < fr.2) ∧ K (h.setIfInBounds b (.cells (c.setIfInBounds o v) e fr))
  | _, _, _ => False
theorem hputO_lit {b o : Nat} {l : List Value} {e : TypeId} {v : Value} {K : Heap → Prop} : hputO h b K (some (.cells l.toArray e (0, 0))) o v = (o < l.length ∧ K (h.setIfInBounds b (.cells (l.set o v).toArray e (0, 0)))) := by
  simp [hputO]
theorem hputO_arr {b o : Nat} {c : Array Value} {e : TypeId} {v : Value} {K : Heap → Prop} : hputO h b K (some (.cells c e (0, 0))) o v = (o < c.size ∧ K (h.setIfInBounds b (.cells (c.setIfInBounds o v) e (0, 0)))) := by
  simp [hputO]

theorem hputO_congr {b : Nat} {K : Heap → Prop} {x x' : Option Obj} {o o' : Nat} {v : Value} (e : x = x') (f : o = o') : hputO h b K x o v = hputO h b K x' o' v := by rw [e, f]
theorem runH_storeVar {a : Addr} {v : Value} {K : Unit → Heap → Prop} {n : Nat} (hs : tsz P t = some n) (hn : v.cells.size = n) : runH P (storeVar t a v) h K = runH P (storeCells a v.cells.toList) h K := by
  unfold storeVar
  rw [runH_bind, runH_of_runD _ (runD_sizeOf hs)]
  simp [hn]

theorem runH_store {b o : Nat} {v : Value} {K : Unit → Heap → Prop} (hs : tsz P t = some 1) (hv : single v = true) : runH P (iStoreAt t (.pointer (some ⟨b, o, none⟩)) v) h K = hputO h b (K ()) h[b]? o v := by
  show runH P (storeVar t _ v) h K = _
  have hc : v.cells = #[v] := by cases v <;> first | rfl | (simp [single] at hv)
  rw [runH_storeVar hs (by rw [hc]; rfl), hc]
  simp only [storeCells]
  rw [runH_bind]
  have e0 : Addr.add ⟨b, o, none⟩ 0 = ⟨b, o, none⟩ := (rfl)
  rw [e0]
  show (single v = true ∧ _) = _
  simp only [hv, true_and]
  cases hb : h[b]? with
  | none => simp [hputO]
  | some x =>
    cases x <;> simp [hputO]
    intro _ _
    exact Iff.rfl

/-- So many cells stored, one behind the other. -/
def hputsL (h : Heap) (b : Nat) (e : TypeId) (K : Heap → Prop) : List Value → Nat → List Value → Prop
  | c, _, [] => K (h.setIfInBounds b (.cells c.toArray e (0, 0)))
  | c, k, v :: l => single v = true ∧ k < c.length ∧ hputsL h b e K (c.set k v) (k + 1) l
def hputsO (h : Heap) (b : Nat) (K : Heap → Prop) (o : Nat) (l : List Value) : Option Obj → Prop
  | some (.cells c e fr) => fr = (0, 0) ∧ hputsL h b e K c.toList o l
  | _ => False
theorem hputsO_lit {b o : Nat} {c l : List Value} {e : TypeId} {K : Heap → Prop} : hputsO h b K o l (some (.cells c.toArray e (0, 0))) = hputsL h b e K c o l := by simp [hputsO]
theorem hputsL_nil {b o : Nat} {c : List Value} {e : TypeId} {K : Heap → Prop} : hputsL h b e K c o [] = K (h.setIfInBounds b (.cells c.toArray e (0, 0))) := (rfl)
theorem hputsL_cons {b k : Nat} {c l : List Value} {v : Value} {e : TypeId} {K : Heap → Prop} : hputsL h b e K c k (v :: l) = (single v = true ∧ k < c.length ∧ hputsL h b e K (c.set k v) (k + 1) l) := (rfl)
theorem hputsO_congr {b o : Nat} {K : Heap → Prop} {l : List Value} {x x' : Option Obj} (e : x = x') : hputsO h b K o l x = hputsO h b K o l x' := by rw [e]

theorem hputsL_set {b : Nat} {e : TypeId} {K : Heap → Prop} {x : Obj} {h : Heap} : ∀ (l : List Value) (k : Nat) (c : List Value), hputsL (h.setIfInBounds b x) b e K c k l = hputsL h b e K c k l
  | [], k, c => by simp [hputsL, Array.setIfInBounds_setIfInBounds]
  | v :: l, k, c => by simp only [hputsL, hputsL_set l]

theorem runH_storeCells {b o : Nat} {e : TypeId} {K : Unit → Heap → Prop} : ∀ (l : List Value) (i : Nat) (h : Heap) (c : List Value), h[b]? = some (.cells c.toArray e (0, 0)) → runH P (storeCells ⟨b, o, none⟩ l i) h K = hputsL h b e (K ()) c (o + i) l
  | [], i, h, c, hb => by
    have : h.setIfInBounds b (.cells c.toArray e (0, 0)) = h := by
      apply Array.ext_getElem?
      intro j
      rw [Array.getElem?_setIfInBounds]
      split
      · rename_i hj; subst hj
        split
        · exact hb.symm
        · rename_i hlt; exact (hlt (Array.getElem?_eq_some_iff.1 hb).1).elim
      · rfl
    simp only [hputsL, this]
    rfl
  | v :: l, i, h, c, hb => by
    have hlt : b < h.size := (Array.getElem?_eq_some_iff.1 hb).1
    have hset : c.toArray.setIfInBounds (o + i) v = (c.set (o + i) v).toArray := by simp
    have ih := runH_storeCells (o := o) (e := e) (K := K) l (i + 1) (h.setIfInBounds b (.cells (c.set (o + i) v).toArray e (0, 0))) (c.set (o + i) v) (by rw [Array.getElem?_setIfInBounds, if_pos rfl, if_pos hlt])
    rw [hputsL_set] at ih
    simp only [storeCells]
    rw [runH_bind, add_mk]
    show (single v = true ∧ _) = _
    simp only [hb, hputsL]
    apply propext
    constructor
    · rintro ⟨h1, -, h2, -, h3⟩
      refine ⟨h1, by simpa using h2, ?_⟩
      rw [hset] at h3
      exact ih ▸ h3
    · rintro ⟨h1, h2, h3⟩
      refine ⟨h1, trivial, by simpa using h2, by simp, ?_⟩
      rw [hset]
      exact ih ▸ h3

def plainRow : Option Obj → Prop
  | some (.cells _ _ fr) => fr = (0, 0)
  | _ => False
theorem plainRow_lit {c : Array Value} {e : TypeId} : plainRow (some (.cells c e (0, 0))) = True := by simp [plainRow]

theorem runH_store_agg {b o : Nat} {cs : List Value} {K : Unit → Heap → Prop} (hs : tszD P t = cs.length) (ht : (tsz P t).isSome = true) (hp : plainRow h[b]?) : runH P (iStoreAt t (.pointer (some ⟨b, o, none⟩)) (.agg cs.toArray)) h K = hputsO h b (K ()) o cs h[b]? := by
  obtain ⟨n, hn⟩ := Option.isSome_iff_exists.1 ht
  have e : tszD P t = n := by simp [tszD, hn]
  show runH P (storeVar t _ _) h K = _
  rw [runH_storeVar (n := n) hn (by simp [Value.cells, ← hs, e])]
  unfold plainRow at hp
  split at hp
  · rename_i c e fr hb
    subst hp
    rw [hb]
    simp only [hputsO, true_and]
    exact runH_storeCells cs 0 h c.toList (by simpa using hb)
  · exact hp.elim

theorem runH_box {v : Value} {K : Value → Heap → Prop} : runH P (iBox t v) h K = K (.pointer (some ⟨h.size, 0, none⟩)) (h.push (.cells v.cells t)) := (rfl)
theorem runH_alloc {v : Value} {K : Value → Heap → Prop} (hs : (tzero P t).isSome = true) : runH P (iAlloc t true v) h K = K (.pointer (some ⟨h.size, 0, none⟩)) (h.push (.cells (tzeroD P t).cells t)) := by
  obtain ⟨z, hz⟩ := Option.isSome_iff_exists.1 hs
  have e : tzeroD P t = z := by simp [tzeroD, hz]
  rw [e]
  unfold iAlloc Instr.alloc
  rw [runH_bind, runH_of_runD _ (runD_zero hz)]
  rfl
theorem runH_makeMap {K : Value → Heap → Prop} : runH P (iMakeMap t none) h K = K (.map (some h.size)) (h.push (.map #[] 0)) := (rfl)

/-! ### numbers -/
theorem binD_add {k : IntKind} {x y : Operand} {a b : Int} : binD P h .add t x y (.int k a) (.int k b) = some (.int k (k.wrap (a + b))) := by simp [binD, eqGuard, binOp, Op.intArith]
theorem binD_sub {k : IntKind} {x y : Operand} {a b : Int} : binD P h .sub t x y (.int k a) (.int k b) = some (.int k (k.wrap (a - b))) := by simp [binD, eqGuard, binOp, Op.intArith]
theorem binD_mul {k : IntKind} {x y : Operand} {a b : Int} : binD P h .mul t x y (.int k a) (.int k b) = some (.int k (k.wrap (a * b))) := by simp [binD, eqGuard, binOp, Op.intArith]
theorem binD_lss {k : IntKind} {x y : Operand} {a b : Int} : binD P h .lss t x y (.int k a) (.int k b) = some (.bool (decide (a < b))) := by simp [binD, eqGuard, binOp, Op.intCmp]
theorem binD_leq {k : IntKind} {x y : Operand} {a b : Int} : binD P h .leq t x y (.int k a) (.int k b) = some (.bool (decide (a ≤ b))) := by simp [binD, eqGuard, binOp, Op.intCmp]
theorem binD_gtr {k : IntKind} {x y : Operand} {a b : Int} : binD P h .gtr t x y (.int k a) (.int k b) = some (.bool (decide (b < a))) := by simp [binD, eqGuard, binOp, Op.intCmp]
theorem binD_geq {k : IntKind} {x y : Operand} {a b : Int} : binD P h .geq t x y (.int k a) (.int k b) = some (.bool (decide (b ≤ a))) := by simp [binD, eqGuard, binOp, Op.intCmp]
theorem binD_eql {k : IntKind} {x y : Operand} {a b : Int} : binD P h .eql t x y (.int k a) (.int k b) = some (.bool (decide (a = b))) := by
  simp [binD, eqGuard, binOp, Op.intCmp, Bool.beq_eq_decide_eq]
theorem binD_neq {k : IntKind} {x y : Operand} {a b : Int} : binD P h .neq t x y (.int k a) (.int k b) = some (.bool (decide (¬ a = b))) := by
  simp [binD, eqGuard, binOp, Op.intCmp, bne, Bool.beq_eq_decide_eq]
theorem binD_quo {k : IntKind} {x y : Operand} {a b : Int} (hb : b ≠ 0) : binD P h .quo t x y (.int k a) (.int k b) = some (.int k (k.wrap (a.tdiv b))) := by simp [binD, eqGuard, binOp, Op.intDiv, hb]
theorem binD_rem {k : IntKind} {x y : Operand} {a b : Int} (hb : b ≠ 0) : binD P h .rem t x y (.int k a) (.int k b) = some (.int k (a.tmod b)) := by simp [binD, eqGuard, binOp, Op.intDiv, hb]
theorem binD_and {k : IntKind} {x y : Operand} {a b : Int} : binD P h .and t x y (.int k a) (.int k b) = some (.int k (k.wrap (BitVec.ofInt k.bits a &&& BitVec.ofInt k.bits b).toNat)) := by simp [binD, eqGuard, binOp, Op.intBits]
theorem binD_or {k : IntKind} {x y : Operand} {a b : Int} : binD P h .or t x y (.int k a) (.int k b) = some (.int k (k.wrap (BitVec.ofInt k.bits a ||| BitVec.ofInt k.bits b).toNat)) := by simp [binD, eqGuard, binOp, Op.intBits]
theorem binD_xor {k : IntKind} {x y : Operand} {a b : Int} : binD P h .xor t x y (.int k a) (.int k b) = some (.int k (k.wrap (BitVec.ofInt k.bits a ^^^ BitVec.ofInt k.bits b).toNat)) := by simp [binD, eqGuard, binOp, Op.intBits]
theorem binD_andNot {k : IntKind} {x y : Operand} {a b : Int} : binD P h .andNot t x y (.int k a) (.int k b) = some (.int k (k.wrap (BitVec.ofInt k.bits a &&& ~~~BitVec.ofInt k.bits b).toNat)) := by simp [binD, eqGuard, binOp, Op.intBits]
theorem binD_shl {k k' : IntKind} {x y : Operand} {a b : Int} (hb : 0 ≤ b) : binD P h .shl t x y (.int k a) (.int k' b) = some (.int k (k.wrap (a * 2 ^ (min b.toNat k.bits)))) := by
  simp [binD, eqGuard, binOp, Op.shift, show ¬ b < 0 by omega]
theorem binD_shr {k k' : IntKind} {x y : Operand} {a b : Int} (hb : 0 ≤ b) : binD P h .shr t x y (.int k a) (.int k' b) = some (.int k (a.fdiv (2 ^ (min b.toNat k.bits)))) := by
  simp [binD, eqGuard, binOp, Op.shift, show ¬ b < 0 by omega]

theorem unary_not {b : Bool} : runD P (iUnary .not (.bool b)) h = some (.bool (!b)) := (rfl)
theorem unary_neg {k : IntKind} {a : Int} : runD P (iUnary .neg (.int k a)) h = some (.int k (k.wrap (0 - a))) := (rfl)

/-! ### equality of pointers, bools -/
theorem equalIn_ptr_nil {e : TypeId} {p : Option Addr} (d : Nat) (ht : P.underlying t = some (.pointer e)) : runD P (Op.equalIn (d + 1) t (.pointer p) (.pointer none)) h = some p.isNone := by
  simp only [Op.equalIn]
  rw [runD_bind, runD_underlying ht]
  cases p <;> rfl
theorem equal_ptr_nil {e : TypeId} {p : Option Addr} (ht : P.underlying t = some (.pointer e)) : runD P (Op.equal t (.pointer p) (.pointer none)) h = some p.isNone := equalIn_ptr_nil 9999 ht
theorem binD_eql_ptr_nil {p : Option Addr} {x y : Operand} (hp : isPtrB P t = true) : binD P h .eql t x y (.pointer p) (.pointer none) = some (.bool p.isNone) := by
  obtain ⟨e, ht⟩ := isPtrB_of hp
  have := equal_ptr_nil (h := h) (p := p) ht
  simp [binD, eqGuard, binOp, runD_map, this]
theorem binD_neq_ptr_nil {p : Option Addr} {x y : Operand} (hp : isPtrB P t = true) : binD P h .neq t x y (.pointer p) (.pointer none) = some (.bool !p.isNone) := by
  obtain ⟨e, ht⟩ := isPtrB_of hp
  have := equal_ptr_nil (h := h) (p := p) ht
  simp [binD, eqGuard, binOp, runD_map, this]
theorem equalIn_bool {a b : Bool} (d : Nat) (ht : P.underlying t = some .bool) : runD P (Op.equalIn (d + 1) t (.bool a) (.bool b)) h = some (a == b) := by
  simp only [Op.equalIn]
  rw [runD_bind, runD_underlying ht]
  rfl
theorem equal_bool {a b : Bool} (ht : P.underlying t = some .bool) : runD P (Op.equal t (.bool a) (.bool b)) h = some (a == b) := equalIn_bool 9999 ht
theorem binD_eql_bool {a b : Bool} {x y : Operand} (ht : P.underlying t = some .bool) : binD P h .eql t x y (.bool a) (.bool b) = some (.bool (a == b)) := by
  have := equal_bool (h := h) (a := a) (b := b) ht
  simp [binD, eqGuard, binOp, runD_map, this]
theorem binD_neq_bool {a b : Bool} {x y : Operand} (ht : P.underlying t = some .bool) : binD P h .neq t x y (.bool a) (.bool b) = some (.bool (!(a == b))) := by
  have := equal_bool (h := h) (a := a) (b := b) ht
  simp [binD, eqGuard, binOp, runD_map, this]

/-! ### parts -/
theorem runD_extract {l : List Value} {i : Nat} : runD P (iExtract (.tuple l.toArray) i) h = nthL l i := by
  simp only [iExtract, Instr.extract, nthL_eq, List.getElem?_toArray]
  cases l[i]? <;> rfl
def fieldD (P : Program) (t : TypeId) (f : Nat) : Option (Nat × TypeId) :=
  match P.underlying t with
  | some (.struct fs) => (fs[f]?).map fun x => (x.offset, x.type)
  | _ => none
theorem runD_field {cs : Array Value} {f : Nat} : runD P (iField t (.agg cs) f) h = (fieldD P t f).bind fun x => runD P (part x.2 cs x.1) h := by
  unfold iField Instr.field fieldD
  rw [runD_bind]
  cases hd : P.underlying t with
  | none => unfold underlying; rw [runD_bind]; show ((some P).bind _).bind _ = _; simp [hd]; intro a ha; cases ha
  | some d =>
    rw [runD_underlying hd]
    cases d <;> first | rfl | skip
    rename_i fs
    simp only [Option.bind_some]
    cases fs[f]? <;> rfl
theorem runD_part {cs : List Value} {o : Nat} (ha : aggB P t = some false) : runD P (part t cs.toArray o) h = nthL cs o := by
  unfold part
  rw [runD_bind, runD_isAgg ha]
  simp only [Option.bind_some, Bool.false_eq_true, if_false, nthL_eq, List.getElem?_toArray]
  cases cs[o]? <;> rfl
theorem runD_part_agg {cs : Array Value} {o : Nat} (ha : aggB P t = some true) (hs' : (tsz P t).isSome = true) : runD P (part t cs o) h = some (.agg (cs.extract o (o + tszD P t))) := by
  obtain ⟨n, hs⟩ := Option.isSome_iff_exists.1 hs'
  have e : tszD P t = n := by simp [tszD, hs]
  rw [e]
  unfold part
  rw [runD_bind, runD_isAgg ha]
  simp only [Option.bind_some, if_true]
  rw [runD_bind, runD_sizeOf hs]
  rfl
theorem runD_len_slice {a : Option Addr} {n m : Nat} {u : TypeId} (hsl : isSliceB P t = true) : runD P (iLen #[t] u #[.slice a n m]) h = some (.int .i64 n) := by
  obtain ⟨e, s, ht, -, -⟩ := isSliceB_of hsl
  unfold iLen Builtin.len_
  simp only [List.getElem?_toArray, List.getElem?_cons_zero]
  rw [runD_bind, runD_underlying ht]; rfl
theorem runD_len_string {s : ByteArray} {u : TypeId} (ht : P.underlying t = some .string) : runD P (iLen #[t] u #[.string s]) h = some (.int .i64 s.size) := by
  unfold iLen Builtin.len_
  simp only [List.getElem?_toArray, List.getElem?_cons_zero]
  rw [runD_bind, runD_underlying ht]; rfl
theorem runD_indexAt_slice {a : Addr} {n m : Nat} {k : IntKind} {i : Int} (hsl : isSliceB P t = true) (h0 : 0 ≤ i) (h1 : i < n) : runD P (iIndexAt t (.slice (some a) n m) (.int k i)) h = some (.pointer (some (a.add (i.toNat * sliceSz P t)))) := by
  obtain ⟨e, s, ht, hs, hsz⟩ := isSliceB_of hsl
  rw [hsz]
  unfold iIndexAt Instr.indexAt
  simp only [asIntOf, pure_bind]
  rw [runD_bind, runD_underlying ht]
  simp only [Option.bind_some]
  rw [runD_bind, runD_underlying ht]
  simp only [Option.bind_some, h0, h1, and_self, if_true]
  rw [runD_bind, runD_sizeOf hs]
  rfl
theorem runD_conv_int {k' : IntKind} {s d : TypeId} {a : Int} (hd' : isIntB P d = true) (hs' : (P.underlying s).isSome = true) : runD P (iConvert s d (.int k' a)) h = some (.int (intKD P d) ((intKD P d).wrap a)) := by
  have hd := isIntB_of hd'
  obtain ⟨ds, hs⟩ := Option.isSome_iff_exists.1 hs'
  unfold iConvert convert
  rw [runD_bind, runD_underlying hs, Option.bind_some, runD_bind, runD_underlying hd, Option.bind_some]
  rfl
theorem convW_int {s d : TypeId} (hd' : isIntB P d = true) : convW P s d = false := by
  have hd := isIntB_of hd'
  unfold convW; rw [hd]; cases P.underlying s with
  | none => rfl
  | some x => cases x <;> rfl

theorem single_int {k : IntKind} {a : Int} : single (.int k a) = true := (rfl)
theorem single_bool {b : Bool} : single (.bool b) = true := (rfl)
theorem single_ptr {p : Option Addr} : single (.pointer p) = true := (rfl)
theorem single_map {p : Option Nat} : single (.map p) = true := (rfl)
theorem single_slice {p : Option Addr} {n m : Nat} : single (.slice p n m) = true := (rfl)
theorem single_string {s : ByteArray} : single (.string s) = true := (rfl)
theorem cells_agg {c : Array Value} : (Value.agg c).cells = c := (rfl)
theorem cells_int {k : IntKind} {a : Int} : (Value.int k a).cells = #[.int k a] := (rfl)
theorem cells_bool {b : Bool} : (Value.bool b).cells = #[.bool b] := (rfl)
theorem cells_ptr {p : Option Addr} : (Value.pointer p).cells = #[.pointer p] := (rfl)
theorem cells_map {p : Option Nat} : (Value.map p).cells = #[.map p] := (rfl)
theorem cells_slice {p : Option Addr} {n m : Nat} : (Value.slice p n m).cells = #[.slice p n m] := (rfl)
theorem cells_string {s : ByteArray} : (Value.string s).cells = #[.string s] := (rfl)

/-! ### blocks -/
theorem runD_loadRes {a : Addr} : runD P (iLoadRes t (.pointer (some a))) h = runD P (iLoadAt t (.pointer (some a))) h := (rfl)
theorem set_push_new {x y : Obj} : (h.push x).setIfInBounds h.size y = h.push y := by
  apply Array.ext_getElem?
  intro i
  simp only [Array.getElem?_setIfInBounds, Array.getElem?_push, Array.size_push]
  split
  · rename_i hi; subst hi; simp
  · rename_i hi; rw [if_neg (fun e => hi e.symm), if_neg (fun e => hi e.symm)]
theorem get_set_same {b : Nat} {o : Obj} (hlt : b < h.size) : (h.setIfInBounds b o)[b]? = some o := by simp [hlt]
theorem get_set_ne {b b' : Nat} {o : Obj} (hne : b ≠ b') : (h.setIfInBounds b o)[b']? = h[b']? := by simp [hne]
theorem get_push_lt {b : Nat} {o : Obj} (hlt : b < h.size) : (h.push o)[b]? = h[b]? := by rw [Array.getElem?_push, if_neg (by omega)]
theorem get_push_new {o : Obj} : (h.push o)[h.size]? = some o := by simp
theorem lt_of_get {b : Nat} {o : Obj} (hb : h[b]? = some o) : b < h.size := (Array.getElem?_eq_some_iff.1 hb).1
theorem size_set {b : Nat} {o : Obj} : (h.setIfInBounds b o).size = h.size := by simp
theorem size_push' {o : Obj} : (h.push o).size = h.size + 1 := by simp

end

attribute [go_sem ↓] hcell_mk runD_load runD_load_agg hputO_lit runH_store runH_box runH_alloc runH_makeMap
  binD_add binD_sub binD_mul binD_lss binD_leq binD_gtr binD_geq binD_eql binD_neq binD_quo binD_rem binD_and binD_or binD_xor binD_andNot binD_shl binD_shr unary_not unary_neg
  binD_eql_ptr_nil binD_neq_ptr_nil binD_eql_bool binD_neq_bool runD_extract runD_field runD_part runD_part_agg runD_len_slice runD_len_string runD_indexAt_slice runD_conv_int convW_int
attribute [go_sem] single_int single_bool single_ptr single_map single_slice single_string cells_agg cells_int cells_bool cells_ptr cells_map cells_slice cells_string hcellO_lit nthL_zero nthL_succ add_mk hreadO_lit cutN_zero cutN_succ takeN_zero takeN_succ Option.map_some set_push_new runD_loadRes get_set_same get_set_ne get_push_lt get_push_new size_set size_push'
attribute [go_sem ↓] runH_store_agg hputsO_lit hputsL_nil hputsL_cons
attribute [go_sem] plainRow_lit List.set_cons_zero List.set_cons_succ List.length_cons List.length_nil
attribute [congr] hputO_congr hputsO_congr

end Go.Eng
/-
  THE ENGINE, PART 7: maps keyed by int; what a call may turn.
-/
namespace Go.Eng
open Go

/-- The end behind a variable: the reckoning does not look into it. -/
theorem HCalls.via {P : Program} {f : FuncId} {args : Array Value} {h : Heap} {S : Value → Heap → Prop} (H : ∀ R : Value → Heap → Prop, (∀ v h', S v h' → R v h') → HCalls P f args h R) : HCalls P f args h S := H S fun _ _ h => h

/-- Nothing that was there has turned. -/
structure Ext (h h' : Heap) : Prop where
  size : h.size ≤ h'.size
  get : ∀ b, b < h.size → h'[b]? = h[b]?

theorem Ext.refl (h : Heap) : Ext h h := ⟨Nat.le_refl _, fun _ _ => rfl⟩
theorem Ext.trans {a b c : Heap} (h : Ext a b) (k : Ext b c) : Ext a c := ⟨Nat.le_trans h.size k.size, fun i hi => (k.get i (Nat.lt_of_lt_of_le hi h.size)).trans (h.get i hi)⟩
theorem Ext.push (h : Heap) (o : Obj) : Ext h (h.push o) := ⟨by simp, fun b hb => get_push_lt hb⟩
theorem Ext.some {h h' : Heap} (e : Ext h h') {b : Nat} {o : Obj} (hb : h[b]? = some o) : h'[b]? = Option.some o := (e.get b (lt_of_get hb)).trans hb

/-- Nothing that was there has turned, but for the blocks of F. -/
structure Mod (F : Nat → Prop) (h h' : Heap) : Prop where
  size : h.size ≤ h'.size
  get : ∀ b, b < h.size → ¬ F b → h'[b]? = h[b]?

def keyI (e : MapEntry) : Option Int := match e.key with | .int .i64 k => some k | _ => none

/-- The entry at a key. -/
def findI (l : List MapEntry) (k : Int) : Option MapEntry := l.find? fun e => keyI e == some k

structure MapIs (h : Heap) (r : Nat) (es : Array MapEntry) (clock : Nat) : Prop where
  at_ : h[r]? = some (.map es clock)
  keys : ∀ e ∈ es.toList, (keyI e).isSome = true
  nodup : (es.toList.map keyI).Nodup
  stamps : (es.toList.map (·.born)).Nodup
  old : ∀ e ∈ es.toList, e.born < clock

section
variable {P : Program} {h : Heap} {t kt et : TypeId} {r : Nat} {es : Array MapEntry} {clock : Nat}

theorem findNow_int {q : IntKind} {k : Int} : ∀ (l : List MapEntry) (i : Nat), (∀ e ∈ l, (keyI e).isSome = true) →
    Instr.findNow (.int q) (.int .i64 k) l i = some ((l.findIdx? fun e => keyI e == some k).bind fun j => (l[j]?).map fun e => (i + j, e.val))
  | [], i, _ => rfl
  | e :: l, i, hk => by
    have he := hk e (by simp)
    have ih := findNow_int (q := q) (k := k) l (i + 1) (fun x hx => hk x (by simp [hx]))
    unfold keyI at he
    split at he
    · rename_i x hx
      simp only [Instr.findNow, hx, Instr.sameNow, if_true]
      have hkey : keyI e = some x := by simp [keyI, hx]
      by_cases hkx : k = x
      · subst hkx
        simp [List.findIdx?_cons, hkey]
      · have h1 : (k == x) = false := by simpa using hkx
        have h2 : (some x == some k) = false := by simpa using fun e => hkx e.symm
        rw [h1]
        simp only [ih, List.findIdx?_cons, hkey, h2]
        cases hf : List.findIdx? (fun e => keyI e == some k) l with
        | none => simp
        | some j => simp [Nat.add_assoc, Nat.add_comm 1 j]
    · cases he

theorem runD_checkKey_int {em : Bool} {n : Nat} {k : Int} {q : IntKind} (hk : P.underlying kt = some (.int q)) : runD P (Instr.checkKey em (n + 1) kt (.int .i64 k)) h = some () := by
  simp only [Instr.checkKey]
  rw [runD_bind, runD_underlying hk]
  rfl

theorem runD_findKey {q : IntKind} {k : Int} (hk : P.underlying kt = some (.int q)) (hes : ∀ e ∈ es.toList, (keyI e).isSome = true) :
    runD P (Instr.findKey kt (.int .i64 k) es.toList) h = some ((es.toList.findIdx? fun e => keyI e == some k).bind fun j => (es.toList[j]?).map fun e => (j, e.val)) := by
  unfold Instr.findKey
  rw [runD_bind, runD_underlying hk]
  simp only [Option.bind_some, findNow_int es.toList 0 hes]
  simp

theorem findI_idx (l : List MapEntry) (k : Int) : ((l.findIdx? fun e => keyI e == some k).bind fun j => l[j]?) = findI l k := by
  unfold findI
  induction l with
  | nil => rfl
  | cons e l ih =>
    simp only [List.findIdx?_cons, List.find?_cons]
    cases hc : (keyI e == some k) with
    | true => simp
    | false =>
      simp only [Bool.false_eq_true, if_false]
      rw [← ih]
      cases List.findIdx? (fun e => keyI e == some k) l <;> simp

theorem runD_getObj {o : Obj} (hr : h[r]? = some o) (ho : ∀ c e f, o ≠ .cells c e f) : runD P (getObj r) h = some o := by
  simp only [getObj, runD, hr]

def elemT (P : Program) (t : TypeId) : TypeId := match P.underlying t with | some (.map _ e) => e | _ => 0
def intMapB (P : Program) (t : TypeId) : Bool := match P.underlying t with | some (.map k e) => isIntB P k && (tzero P e).isSome | _ => false

theorem runD_lookup_keys {q : IntKind} {z : Value} (hat : h[r]? = some (.map es clock)) (hkeys : ∀ e ∈ es.toList, (keyI e).isSome = true) (ht : P.underlying t = some (.map kt et)) (hk : P.underlying kt = some (.int q)) (hz : tzero P et = some z) (k : Int) (ok : Bool) :
    runD P (iLookup t (.map (some r)) (.int .i64 k) ok) h = some (bif ok then .tuple #[((findI es.toList k).map (·.val)).getD z, .bool (findI es.toList k).isSome] else ((findI es.toList k).map (·.val)).getD z) := by
  unfold iLookup Instr.lookup
  rw [runD_bind, runD_underlying ht]
  simp only [Option.bind_some]
  rw [runD_bind, runD_getObj hat (by simp)]
  simp only [Option.bind_some, pure_bind]
  rw [runD_bind, runD_checkKey_int hk]
  simp only [Option.bind_some]
  have hfi := findI_idx es.toList k
  rw [runD_bind, runD_findKey hk hkeys]
  cases hf : es.toList.findIdx? (fun e => keyI e == some k) with
  | none =>
    rw [hf] at hfi
    simp only [Option.bind_none] at hfi ⊢
    simp only [Option.bind_some]
    rw [runD_bind, runD_zero hz, ← hfi]
    cases ok <;> rfl
  | some j =>
    rw [hf] at hfi
    simp only [Option.bind_some] at hfi ⊢
    obtain ⟨hj, -⟩ := List.findIdx?_eq_some_iff_getElem.1 hf
    rw [List.getElem?_eq_getElem hj] at hfi ⊢
    simp only [Option.map_some, ← hfi]
    cases ok <;> rfl


/-- What a map holds. -/
def mapOf (es : Array MapEntry) (k : Int) : Option Value := (findI es.toList k).map (·.val)

def entI (k : Int) (v : Value) (n : Nat) : MapEntry := { key := .int .i64 k, val := v, born := n }
theorem keyI_ent {k : Int} {v : Value} {n : Nat} : keyI (entI k v n) = some k := rfl
theorem keyI_eq {e : MapEntry} {k : Int} (h : keyI e = some k) : e.key = .int .i64 k := by
  unfold keyI at h
  split at h
  · rename_i x hx; cases h; exact hx
  · cases h

theorem runH_underlying {d : TypeDesc} (hd : P.underlying t = some d) {K : TypeDesc → Heap → Prop} : runH P (underlying t) h K = K d h := runH_of_runD _ (runD_underlying hd) K

theorem find_set {l : List MapEntry} {k : Int} {v : Value} {j : Nat} (hf : l.findIdx? (fun e => keyI e == some k) = some j) (hn : (l.map keyI).Nodup) (n : Nat) (k' : Int) :
    findI (l.set j (entI k v n)) k' = if k' = k then some (entI k v n) else findI l k' := by
  induction l generalizing j with
  | nil => simp at hf
  | cons e l ih =>
    simp only [List.findIdx?_cons] at hf
    cases hc : keyI e == some k with
    | true =>
      rw [hc] at hf
      simp at hf
      subst hf
      have he : keyI e = some k := by simpa using hc
      simp only [findI, List.set_cons_zero, List.find?_cons, keyI_ent, he]
      by_cases hk : k' = k
      · subst hk; simp
      · have : (some k == some k') = false := by simpa using fun e => hk e.symm
        simp [this, hk]
    | false =>
      rw [hc] at hf
      simp at hf
      obtain ⟨i, hi, rfl⟩ := hf
      have hn' : (l.map keyI).Nodup := (List.nodup_cons.1 (by simpa using hn)).2
      have := ih hi hn'
      simp only [findI, List.set_cons_succ, List.find?_cons] at this ⊢
      have he : keyI e ≠ some k := by simpa using hc
      by_cases hk : k' = k
      · subst hk
        simp only [hc]
        simpa using this
      · rw [this]; simp [hk]

theorem MapIs.update {q : IntKind} (hm : MapIs h r es clock) (ht : P.underlying t = some (.map kt et)) (hk : P.underlying kt = some (.int q)) {k : Int} {v : Value} {K : Unit → Heap → Prop}
    (hK : ∀ es' clock', MapIs (h.setIfInBounds r (.map es' clock')) r es' clock' → (∀ j, mapOf es' j = if j = k then some v else mapOf es j) → K () (h.setIfInBounds r (.map es' clock'))) :
    runH P (iMapUpdate t (.map (some r)) (.int .i64 k) v) h K := by
  have hlt := lt_of_get hm.at_
  unfold iMapUpdate Instr.mapUpdate
  rw [runH_bind, runH_underlying ht]
  try simp only
  rw [runH_bind, runH_of_runD _ (runD_getObj hm.at_ (by simp))]
  try simp only
  rw [runH_bind, runH_of_runD _ (runD_checkKey_int hk)]
  rw [runH_bind, runH_of_runD _ (runD_findKey hk hm.keys)]
  have hset : ∀ o, (∀ c e f, o ≠ .cells c e f) → runH P (setObj r o) h K = K () (h.setIfInBounds r o) := fun o _ => by
    simp only [setObj, runH, hm.at_]
  cases hf : es.toList.findIdx? (fun e => keyI e == some k) with
  | none =>
    simp only [Option.bind_none]
    rw [hset _ (by simp)]
    have hno : ∀ e ∈ es.toList, keyI e ≠ some k := by simpa using hf
    refine hK _ _ ⟨by simp [hlt], ?_, ?_, ?_, ?_⟩ ?_
    · simp only [Array.toList_push, List.mem_append, List.mem_singleton]
      rintro e (he | rfl)
      · exact hm.keys e he
      · rfl
    · simp only [Array.toList_push, List.map_append, List.map_cons, List.map_nil]
      refine List.nodup_append.2 ⟨hm.nodup, by simp, ?_⟩
      rintro a ha b hb rfl
      simp only [List.mem_singleton] at hb
      subst hb
      obtain ⟨e, he, he2⟩ := List.mem_map.1 ha
      exact hno e he he2
    · simp only [Array.toList_push, List.map_append, List.map_cons, List.map_nil]
      refine List.nodup_append.2 ⟨hm.stamps, by simp, ?_⟩
      rintro a ha b hb rfl
      simp only [List.mem_singleton] at hb
      subst hb
      obtain ⟨e, he, he2⟩ := List.mem_map.1 ha
      have := hm.old e he
      omega
    · simp only [Array.toList_push, List.mem_append, List.mem_singleton]
      rintro e (he | rfl)
      · have := hm.old e he; omega
      · simp
    · intro j
      simp only [mapOf, findI, Array.toList_push, List.find?_append]
      by_cases hj : j = k
      · subst hj
        have : List.find? (fun e => keyI e == some j) es.toList = none := by simpa using hno
        rw [this]
        simp [keyI]
      · have : (some k == some j) = false := by simpa using fun e => hj e.symm
        simp [hj, keyI, this]
  | some j =>
    obtain ⟨hj, hkj, -⟩ := List.findIdx?_eq_some_iff_getElem.1 hf
    have hkj' : keyI es.toList[j] = some k := by simpa using hkj
    have hj' : j < es.size := by simpa using hj
    simp only [Option.bind_some, List.getElem?_eq_getElem hj, Option.map_some]
    have hkey : ((es[j]?).map (·.key)).getD (.int .i64 k) = .int .i64 k := by
      rw [Array.getElem?_eq_getElem hj']
      exact keyI_eq (by simpa using hkj')
    have hst : runD P (Instr.keyThatStays (((es[j]?).map (·.key)).getD (.int .i64 k)) (.int .i64 k)) h = some (.int .i64 k) := by
      rw [hkey]
      unfold Instr.keyThatStays
      have : Instr.sameBits 10000 (.int .i64 k) (.int .i64 k) = true := by simp [Instr.sameBits]
      rw [if_pos this]; rfl
    rw [runH_bind, runH_of_runD _ hst, hset _ (by simp)]
    have hnew : (es.modify j fun e => { e with key := .int .i64 k, val := v }).toList = es.toList.set j (entI k v es[j].born) := by
      apply List.ext_getElem?
      intro i
      simp only [Array.getElem?_toList, Array.getElem?_modify, List.getElem?_set, Array.length_toList]
      by_cases hij : j = i
      · subst hij; simp [hj', entI]
      · simp [hij]
    have hkeys : (es.toList.set j (entI k v es[j].born)).map keyI = es.toList.map keyI := by
      rw [List.map_set, keyI_ent]
      apply List.ext_getElem?
      intro i
      simp only [List.getElem?_set, List.getElem?_map, List.length_map, Array.length_toList]
      by_cases hij : j = i
      · subst hij; simp [hj']; simpa using hkj'.symm
      · simp [hij]
    have hborn : (es.toList.set j (entI k v es[j].born)).map (·.born) = es.toList.map (·.born) := by
      rw [List.map_set]
      apply List.ext_getElem?
      intro i
      simp only [List.getElem?_set, List.getElem?_map, List.length_map, Array.length_toList]
      by_cases hij : j = i
      · subst hij; simp [hj', entI]
      · simp [hij]
    refine hK _ _ ⟨by simp [hlt], ?_, ?_, ?_, ?_⟩ ?_
    · rw [hnew]
      intro e he
      have : keyI e ∈ (es.toList.set j (entI k v es[j].born)).map keyI := List.mem_map_of_mem he
      rw [hkeys] at this
      obtain ⟨e', he', e2⟩ := List.mem_map.1 this
      rw [← e2]; exact hm.keys e' he'
    · rw [hnew, hkeys]; exact hm.nodup
    · rw [hnew, hborn]; exact hm.stamps
    · rw [hnew]
      intro e he
      have : e.born ∈ (es.toList.set j (entI k v es[j].born)).map (·.born) := List.mem_map_of_mem (f := (·.born)) he
      rw [hborn] at this
      obtain ⟨e', he', e2⟩ := List.mem_map.1 this
      rw [← e2]; exact hm.old e' he'
    · intro i
      simp only [mapOf, hnew, find_set hf hm.nodup]
      split <;> rfl

/-- A look-up, by the map's block. -/
def intKeys (es : Array MapEntry) : Prop := ∀ e ∈ es.toList, (keyI e).isSome = true
def lookO (P : Program) (t : TypeId) (k : Int) (ok : Bool) : Option Obj → Option Value
  | some (.map es _) => some (bif ok then .tuple #[(mapOf es k).getD (tzeroD P (elemT P t)), .bool (mapOf es k).isSome] else (mapOf es k).getD (tzeroD P (elemT P t)))
  | _ => none
/-- Is that block a map keyed by int? -/
def isIntMap : Option Obj → Prop
  | some (.map es _) => intKeys es
  | _ => False
theorem runD_lookup {k : Int} {ok : Bool} (hi : isIntMap h[r]?) (ht : intMapB P t = true) : runD P (iLookup t (.map (some r)) (.int .i64 k) ok) h = lookO P t k ok h[r]? := by
  unfold isIntMap at hi
  split at hi
  · rename_i es clk hr
    unfold intMapB at ht
    split at ht
    · rename_i kt et hm
      simp only [Bool.and_eq_true] at ht
      have hq := isIntB_of ht.1
      obtain ⟨z, hz⟩ := Option.isSome_iff_exists.1 ht.2
      have e1 : elemT P t = et := by simp [elemT, hm]
      have e2 : tzeroD P et = z := by simp [tzeroD, hz]
      rw [runD_lookup_keys hr hi hm hq hz, hr]
      simp [lookO, mapOf, e1, e2]
    · cases ht
  · exact hi.elim
theorem lookO_some {k : Int} {c : Nat} : lookO P t k false (some (.map es c)) = some ((mapOf es k).getD (tzeroD P (elemT P t))) := (rfl)
theorem lookO_ok {k : Int} {c : Nat} : lookO P t k true (some (.map es c)) = some (.tuple #[(mapOf es k).getD (tzeroD P (elemT P t)), .bool (mapOf es k).isSome]) := (rfl)

end
attribute [go_sem ↓] runD_lookup lookO_some lookO_ok
end Go.Eng
/-
  THE ENGINE, PART 8: slices and arrays.
-/
namespace Go.Eng
open Go

def sliceElem (P : Program) (t : TypeId) : TypeId := match P.underlying t with | some (.slice e) => e | _ => 0
/-- A new row of noughts. -/
def zrow (P : Program) (t : TypeId) (n : Nat) : Array Value := (Array.range (n * sliceSz P t)).map fun i => (tzeroD P (sliceElem P t)).cells[i % (tzeroD P (sliceElem P t)).cells.size]!
def zeroOkB (P : Program) (t : TypeId) : Bool := (tzero P t).isSome && decide ((tzeroD P t).cells.size = tszD P t)
def isArrB (P : Program) (t : TypeId) : Bool := match P.underlying t with | some (.array _ e) => (tsz P e).isSome | _ => false
def arrLen (P : Program) (t : TypeId) : Nat := match P.underlying t with | some (.array n _) => n | _ => 0
def arrSz (P : Program) (t : TypeId) : Nat := match P.underlying t with | some (.array _ e) => tszD P e | _ => 0
theorem isArrB_of {P : Program} {t : TypeId} (h : isArrB P t = true) : ∃ e n s, P.underlying t = some (.array n e) ∧ tsz P e = some s ∧ arrSz P t = s ∧ arrLen P t = n := by
  unfold isArrB at h; split at h
  · rename_i n e he
    obtain ⟨s, hs⟩ := Option.isSome_iff_exists.1 h
    exact ⟨e, n, s, he, hs, by simp [arrSz, he, tszD, hs], by simp [arrLen, he]⟩
  · cases h

section
variable {P : Program} {h : Heap} {t : TypeId} {α : Type}

theorem zrow_size {n : Nat} : (zrow P t n).size = n * sliceSz P t := by simp [zrow]
theorem zrow_get {n i : Nat} (hi : i < n * sliceSz P t) : (zrow P t n)[i]? = some ((tzeroD P (sliceElem P t)).cells[i % (tzeroD P (sliceElem P t)).cells.size]!) := by
  simp [zrow, hi]

theorem runH_askRoom {n : Nat} {K : Unit → Heap → Prop} : runH P (askRoom n) h K = K () h := by unfold askRoom; split <;> rfl

theorem runH_makeSlice {n : Nat} {K : Value → Heap → Prop} (hsl : isSliceB P t = true) (hz : (tzero P (sliceElem P t)).isSome = true) (hb' : (tbytes P (sliceElem P t)).getD 0 * n ≤ 281474976710656) (hn : n ≤ 9223372036854775807) :
    runH P (iMakeSlice t (.int .i64 n) (.int .i64 n)) h K = K (.slice (some ⟨h.size, 0, none⟩) n n) (h.push (.cells (zrow P t n) (sliceElem P t))) := by
  obtain ⟨e, s, ht, hs, hsz⟩ := isSliceB_of hsl
  have he : sliceElem P t = e := by simp [sliceElem, ht]
  rw [he] at hz hb'
  obtain ⟨z, hz'⟩ := Option.isSome_iff_exists.1 hz
  cases hi : P.info? e with
  | none => simp [tsz, hi] at hs
  | some i =>
    have hby : (tbytes P e).getD 0 = i.bytes := by simp [tbytes, hi]
    rw [hby] at hb'
    have hb : (i.bytes : Int) * n ≤ 281474976710656 := by rw [← Int.natCast_mul]; omega
    have hw : IntKind.i64.wrap (n : Int) = n := by
      have e1 : (2 : Int) ^ 64 = 18446744073709551616 := by decide
      have e2 : (2 : Int) ^ (64 - 1) = 9223372036854775808 := by decide
      simp only [IntKind.wrap, IntKind.bits, IntKind.signed, e1, e2, Bool.true_and]
      split
      · rename_i hh; simp only [decide_eq_true_eq] at hh; omega
      · omega
    unfold iMakeSlice Instr.makeSlice
    rw [runH_bind, runH_underlying ht]
    simp only [asInt, asIntOf, pure_bind]
    rw [runH_bind, runH_of_runD _ (runD_typeInfo hi)]
    simp only [hw]
    have e2 : (2 : Int) ^ 48 = 281474976710656 := by decide
    have c1 : (decide ((n : Int) < 0) || decide ((i.bytes : Int) * (n : Int) > 2 ^ 48)) = false := by
      rw [e2]; simp only [Bool.or_eq_false_iff, decide_eq_false_iff_not]; omega
    have c2 : ((decide ((n : Int) < 0) || decide ((i.bytes : Int) * (n : Int) > 2 ^ 48)) = true ∨ (n : Int) < 0 ∨ (n : Int) > n) ↔ False := by
      rw [c1]; simp only [Bool.false_eq_true, false_or, iff_false]; omega
    have c3 : ((decide ((n : Int) < 0) || decide ((i.bytes : Int) * (n : Int) > 2 ^ 48) || decide ((n : Int) < 0) || decide ((n : Int) > n))) = false := by
      rw [c1]; simp only [Bool.false_or, Bool.or_eq_false_iff, decide_eq_false_iff_not]; omega
    rw [if_neg (by rw [c3]; decide)]
    rw [Int.toNat_natCast, runH_bind, runH_askRoom, runH_bind, runH_of_runD _ (runD_sizeOf hs)]
    have hzd : tzeroD P e = z := by simp [tzeroD, hz']
    by_cases h0 : n * s = 0
    · rw [if_pos h0]
      have hz0 : zrow P t n = #[] := by apply Array.eq_empty_of_size_eq_zero; rw [zrow_size, hsz, h0]
      have hm : Array.map (fun x => (#[] : Array Value)[x % (#[] : Array Value).size]!) (Array.range 0) = #[] := by simp
      rw [hz0, h0, he, hm]
      rfl
    · rw [if_neg h0]
      rw [runH_bind, runH_of_runD _ (runD_zero hz')]
      unfold zrow
      rw [he, hsz, hzd]
      rfl

/-- A row's cells, written by a list. -/
theorem storeCells_arr {b o : Nat} {e : TypeId} {K : Unit → Heap → Prop} : ∀ (l : List Value) (i : Nat) (h : Heap) (c : Array Value), h[b]? = some (.cells c e (0, 0)) → (∀ v ∈ l, single v = true) → o + i + l.length ≤ c.size →
    (∀ c', c'.size = c.size → (∀ j, c'[j]? = if o + i ≤ j ∧ j < o + i + l.length then l[j - (o + i)]? else c[j]?) → K () (h.setIfInBounds b (.cells c' e (0, 0)))) → runH P (storeCells ⟨b, o, none⟩ l i) h K
  | [], i, h, c, hb, _, _, hK => by
    have hs : h.setIfInBounds b (.cells c e (0, 0)) = h := by
      apply Array.ext_getElem?
      intro j
      rw [Array.getElem?_setIfInBounds]
      split
      · rename_i hj; subst hj
        split
        · exact hb.symm
        · rename_i hlt; exact (hlt (Array.getElem?_eq_some_iff.1 hb).1).elim
      · rfl
    have := hK c rfl (fun j => by rw [if_neg (by simp only [List.length_nil]; omega)])
    rw [hs] at this
    exact this
  | v :: l, i, h, c, hb, hl, hle, hK => by
    have hlt : b < h.size := (Array.getElem?_eq_some_iff.1 hb).1
    simp only [List.length_cons] at hle hK
    simp only [storeCells]
    rw [runH_bind, add_mk]
    refine ⟨hl v (by simp), ?_⟩
    simp only [hb]
    refine ⟨trivial, by omega, by simp, ?_⟩
    show runH P (storeCells ⟨b, o, none⟩ l (i + 1)) _ K
    refine storeCells_arr l (i + 1) _ (c.setIfInBounds (o + i) v) (by rw [Array.getElem?_setIfInBounds, if_pos rfl, if_pos hlt]) (fun u hu => hl u (by simp [hu])) (by simp; omega) ?_
    intro c' hc' hget
    rw [Array.setIfInBounds_setIfInBounds]
    refine hK c' (by simpa using hc') fun j => ?_
    rw [hget j]
    by_cases h1 : o + (i + 1) ≤ j ∧ j < o + (i + 1) + l.length
    · rw [if_pos h1, if_pos (by omega)]
      rw [show j - (o + i) = (j - (o + (i + 1))) + 1 by omega, List.getElem?_cons_succ]
    · rw [if_neg h1]
      by_cases h2 : j = o + i
      · subst h2
        rw [if_pos (by omega), Array.getElem?_setIfInBounds, if_pos rfl, if_pos (by omega)]
        simp
      · rw [if_neg (by omega), Array.getElem?_setIfInBounds, if_neg (fun e => h2 e.symm)]

theorem runD_sliceBound {k : IntKind} {i : Int} {y : Nat} {c : BoundsCode} (h0 : 0 ≤ i) (h1 : i ≤ y) : runD P (Instr.sliceBound (.int k i) y c) h = some i.toNat := by
  unfold Instr.sliceBound
  simp only [asIntOf, pure_bind, h0, h1, and_self, if_true]
  rfl

theorem runD_slice_arr_all {b o : Nat} (ha : isArrB P t = true) : runD P (iSliceAt t (.pointer (some ⟨b, o, none⟩)) none none none) h = some (.slice (some ⟨b, o, none⟩) (arrLen P t) (arrLen P t)) := by
  obtain ⟨e, n, s, ht, hs, hsz, hl⟩ := isArrB_of ha
  unfold iSliceAt Instr.sliceAt
  rw [runD_bind, runD_underlying ht]
  simp only [Option.bind_some, Instr.sureAddr, pure_bind, Instr.sliceBounds]
  rw [runD_bind, runD_sizeOf hs, hl]
  simp only [Option.bind_some, runD_pure, Nat.sub_zero, Nat.zero_mul, add_mk, Nat.add_zero, ite_self]

theorem runD_slice_arr {b o : Nat} {k k' : IntKind} {l u : Int} (ha : isArrB P t = true) (h0 : 0 ≤ l) (h1 : l ≤ u) (h2 : u ≤ arrLen P t) (h3 : l < arrLen P t) : runD P (iSliceAt t (.pointer (some ⟨b, o, none⟩)) (some (.int k l)) (some (.int k' u)) none) h =
    some (.slice (some ⟨b, o + l.toNat * arrSz P t, none⟩) (u.toNat - l.toNat) (arrLen P t - l.toNat)) := by
  obtain ⟨e, n, s, ht, hs, hsz, hl⟩ := isArrB_of ha
  rw [hl] at h2 h3
  unfold iSliceAt Instr.sliceAt
  rw [runD_bind, runD_underlying ht]
  simp only [Option.bind_some, Instr.sureAddr, pure_bind, Instr.sliceBounds]
  rw [runD_bind, runD_bind, runD_sliceBound (by omega) h2]
  simp only [Option.bind_some]
  rw [runD_bind, runD_sliceBound h0 (by omega)]
  simp only [Option.bind_some, runD_pure]
  rw [runD_bind, runD_sizeOf hs, hl, hsz]
  simp only [Option.bind_some, runD_pure, add_mk]
  rw [if_neg (by omega)]

end

attribute [go_sem ↓] runH_makeSlice runD_slice_arr_all runD_slice_arr
attribute [go_sem] hputO_lit
attribute [go_sem low] hcellO_arr hputO_arr
end Go.Eng
/-
  THE ENGINE, PART 9: equality of flat structs.
-/
namespace Go.Eng
open Go

inductive CellK where
  | int (k : IntKind) | bool | str
deriving DecidableEq

def fitV : CellK → Value → Prop
  | .int k, .int k' _ => k' = k
  | .bool, .bool _ => True
  | .str, .string _ => True
  | _, _ => False
def fitL : List CellK → List Value → Prop
  | [], [] => True
  | k :: ks, v :: vs => fitV k v ∧ fitL ks vs
  | _, _ => False
def eqV : Value → Value → Bool
  | .int _ a, .int _ b => decide (a = b)
  | .bool a, .bool b => a == b
  | .string a, .string b => a == b
  | _, _ => false
def eqL : List Value → List Value → Bool
  | [], [] => true
  | a :: as, b :: bs => eqV a b && eqL as bs
  | _, _ => false

theorem fitL_length : ∀ {ks : List CellK} {xs : List Value}, fitL ks xs → xs.length = ks.length
  | [], [], _ => rfl
  | _ :: _, _ :: _, h => by simp [fitL_length h.2]
  | [], _ :: _, h => h.elim
  | _ :: _, [], h => h.elim
theorem fitL_append : ∀ {ks ls : List CellK} {xs : List Value}, fitL (ks ++ ls) xs → fitL ks (xs.take ks.length) ∧ fitL ls (xs.drop ks.length)
  | [], ls, xs, h => ⟨by simp [fitL], by simpa using h⟩
  | k :: ks, ls, [], h => h.elim
  | k :: ks, ls, x :: xs, h => by
    have := fitL_append (ks := ks) (ls := ls) h.2
    exact ⟨⟨h.1, this.1⟩, this.2⟩
theorem eqL_append : ∀ {a b c d : List Value}, a.length = c.length → eqL (a ++ b) (c ++ d) = (eqL a c && eqL b d)
  | [], b, [], d, _ => by simp [eqL]
  | x :: a, b, y :: c, d, h => by
    have := eqL_append (a := a) (b := b) (c := c) (d := d) (by simpa using h)
    simp [eqL, this, Bool.and_assoc]
  | [], _, _ :: _, _, h => by simp at h
  | _ :: _, _, [], _, h => by simp at h

theorem fitL_cons {k : CellK} {ks : List CellK} {v : Value} {vs : List Value} : fitL (k :: ks) (v :: vs) = (fitV k v ∧ fitL ks vs) := (rfl)
theorem fitL_nil : fitL [] [] = True := (rfl)
theorem fitV_int {k : IntKind} {n : Int} : fitV (.int k) (.int k n) = True := by simp [fitV]
theorem fitV_bool {b : Bool} : fitV .bool (.bool b) = True := (rfl)
theorem fitV_str {b : ByteArray} : fitV .str (.string b) = True := (rfl)
theorem eqL_cons {a b : Value} {as bs : List Value} : eqL (a :: as) (b :: bs) = (eqV a b && eqL as bs) := (rfl)
theorem eqL_nil : eqL [] [] = true := (rfl)
theorem eqV_int {k l : IntKind} {a b : Int} : eqV (.int k a) (.int l b) = decide (a = b) := (rfl)
theorem eqV_bool {a b : Bool} : eqV (.bool a) (.bool b) = (a == b) := (rfl)
theorem eqV_str {a b : ByteArray} : eqV (.string a) (.string b) = (a == b) := (rfl)
attribute [go_sem] fitL_cons fitL_nil fitV_int fitV_bool fitV_str eqL_cons eqL_nil eqV_int eqV_bool eqV_str

/-- A flat type's cells. -/
def flatF (P : Program) (rec : TypeId → Option (List CellK)) : List Field → Nat → Option (List CellK)
  | [], _ => some []
  | f :: fs, o => if f.name ≠ "_" ∧ f.offset = o then
      match rec f.type with
      | some ks => if tsz P f.type = some ks.length then (flatF P rec fs (o + ks.length)).map (ks ++ ·) else none
      | none => none
    else none
def flatK (P : Program) : Nat → TypeId → Option (List CellK)
  | 0, _ => none
  | d + 1, t => match P.underlying t with
    | some (.int k) => some [.int k]
    | some .bool => some [.bool]
    | some .string => some [.str]
    | some (.struct fs) => if P.stoodInHeld t = false ∧ fs.toList ≠ [] then flatF P (flatK P d) fs.toList 0 else none
    | some (.array n e) => match flatK P d e with
      | some ks => if tsz P e = some ks.length then some (List.replicate n ks).flatten else none
      | none => none
    | _ => none

def flatOk (P : Program) (t : TypeId) (ks : List CellK) : Bool := decide (flatK P 6 t = some ks) && !(P.eqGuardType P.depth t) && (aggB P t == some true)

section
variable {P : Program} {h : Heap} {t : TypeId} {α : Type}

def packT (P : Program) (t : TypeId) (xs : List Value) (v : Value) : Prop := (aggB P t = some true ∧ v = .agg xs.toArray) ∨ (aggB P t = some false ∧ xs = [v])

theorem runD_equalIn_struct (d : Nat) (xs ys : Array Value) (ht : P.underlying t = some (.struct (P.fieldsOf t))) (hp : P.stoodInHeld t = false) :
    runD P (Op.equalIn (d + 1) t (.agg xs) (.agg ys)) h = runD P (Op.eqFields d xs ys (P.fieldsOf t).toList) h := by
  simp only [Op.equalIn]
  rw [runD_bind, runD_underlying ht]
  simp only [Option.bind_some]
  rw [runD_bind, show runD P program h = some P from rfl]
  simp only [Option.bind_some, hp, Bool.false_eq_true, if_false]
  rw [← Array.forIn_toList, runD_bind]
  generalize (P.fieldsOf t).toList = fs
  clear ht
  induction fs with
  | nil => rfl
  | cons f fs ih =>
    simp only [List.forIn_cons, Op.eqFields]
    by_cases hf : f.name ≠ "_"
    · rw [if_pos hf, if_pos hf]
      simp only [runD_bind]
      cases runD P (part f.type xs f.offset) h with
      | none => rfl
      | some a =>
        simp only [Option.bind_some]
        cases runD P (part f.type ys f.offset) h with
        | none => rfl
        | some b =>
          simp only [Option.bind_some]
          cases runD P (Op.equalIn d f.type a b) h with
          | none => rfl
          | some r =>
            cases r
            · rfl
            · simp only [Option.bind_some, Bool.not_true, Bool.false_eq_true, if_false, Bool.not_false]
              exact ih
    · rw [if_neg hf, if_neg hf]
      simp only [runD_bind]
      exact ih

/-- An array's elements, one by one. -/
def eqArr (d : Nat) (e : TypeId) (n : Nat) (xs ys : Array Value) : List Nat → Sem Bool
  | [] => pure true
  | i :: l => do
    if !(← Op.equalIn d e (← part e xs (i * n)) (← part e ys (i * n))) then return false
    eqArr d e n xs ys l
theorem runD_equalIn_array (d : Nat) (xs ys : Array Value) {len n : Nat} {e : TypeId} (ht : P.underlying t = some (.array len e)) (hs : tsz P e = some n) :
    runD P (Op.equalIn (d + 1) t (.agg xs) (.agg ys)) h = runD P (eqArr d e n xs ys (List.range' 0 len)) h := by
  simp only [Op.equalIn]
  rw [runD_bind, runD_underlying ht]
  simp only [Option.bind_some]
  rw [runD_bind, runD_sizeOf hs]
  simp only [Option.bind_some]
  rw [Std.Legacy.Range.forIn_eq_forIn_range', runD_bind]
  simp only [Std.Legacy.Range.size, Nat.sub_zero, Nat.add_sub_cancel, Nat.div_one]
  generalize List.range' 0 len = l
  clear ht
  induction l with
  | nil => rfl
  | cons f fs ih =>
    simp only [List.forIn_cons, eqArr]
    simp only [runD_bind]
    cases runD P (part e xs (f * n)) h with
    | none => rfl
    | some a =>
      simp only [Option.bind_some]
      cases runD P (part e ys (f * n)) h with
      | none => rfl
      | some b =>
        simp only [Option.bind_some]
        cases runD P (Op.equalIn d e a b) h with
        | none => rfl
        | some r =>
          cases r
          · rfl
          · simp only [Option.bind_some, Bool.not_true, Bool.false_eq_true, if_false]
            exact ih

theorem runD_part_pack {ks : List CellK} {xs : List Value} {o : Nat} (hb : ∃ b, aggB P t = some b) (hs : tsz P t = some ks.length) (h1 : aggB P t = some false → ks.length = 1) (hx : o + ks.length ≤ xs.length) :
    ∃ v, runD P (part t xs.toArray o) h = some v ∧ packT P t ((xs.drop o).take ks.length) v := by
  obtain ⟨b, hb⟩ := hb
  cases b with
  | true =>
    refine ⟨_, runD_part_agg hb (by simp [hs]), .inl ⟨hb, ?_⟩⟩
    rw [show tszD P t = ks.length by simp [tszD, hs]]
    simp [List.extract_eq_take_drop]
  | false =>
    have e := h1 hb
    rw [e] at hx ⊢
    refine ⟨xs[o]'(by omega), ?_, .inr ⟨hb, ?_⟩⟩
    · rw [runD_part hb, nthL_eq, List.getElem?_eq_getElem (by omega)]
    · rw [List.drop_eq_getElem_cons (by omega)]; rfl

theorem flat_agg {d : Nat} {ks : List CellK} (hf : flatK P d t = some ks) : ∃ b, aggB P t = some b ∧ (b = false → ks.length = 1) := by
  cases d with
  | zero => cases hf
  | succ d =>
    unfold flatK at hf
    unfold aggB
    split at hf
    · rename_i e; rw [e]; cases hf; exact ⟨false, rfl, fun _ => rfl⟩
    · rename_i e; rw [e]; cases hf; exact ⟨false, rfl, fun _ => rfl⟩
    · rename_i e; rw [e]; cases hf; exact ⟨false, rfl, fun _ => rfl⟩
    · rename_i e; rw [e]; exact ⟨true, rfl, fun e => by cases e⟩
    · rename_i e; rw [e]; exact ⟨true, rfl, fun e => by cases e⟩
    · cases hf

theorem runD_equal_flat (e : Nat) : ∀ (d : Nat) (t : TypeId) (ks : List CellK), flatK P d t = some ks → ∀ (xs ys : List Value) (x y : Value), fitL ks xs → fitL ks ys → packT P t xs x → packT P t ys y →
    runD P (Op.equalIn (d + e) t x y) h = some (eqL xs ys) := by
  intro d
  induction d with
  | zero => intro t ks hk; cases hk
  | succ d ih =>
    intro t ks hk xs ys x y fx fy px py
    rw [show d + 1 + e = (d + e) + 1 by omega]
    unfold flatK at hk
    split at hk
    · rename_i k hu
      cases hk
      have ha : aggB P t = some false := by simp [aggB, hu, aggD]
      rcases px with ⟨q, -⟩ | ⟨-, rfl⟩
      · rw [ha] at q; cases q
      rcases py with ⟨q, -⟩ | ⟨-, rfl⟩
      · rw [ha] at q; cases q
      cases x <;> try exact (fx.1).elim
      cases y <;> try exact (fy.1).elim
      obtain ⟨rfl, -⟩ := fx
      have e2 := fy.1
      simp only [fitV] at e2
      subst e2
      simp only [Op.equalIn]
      rw [runD_bind, runD_underlying hu]
      simp [eqL, eqV, runD]
      rfl
    · rename_i hu
      cases hk
      have ha : aggB P t = some false := by simp [aggB, hu, aggD]
      rcases px with ⟨q, -⟩ | ⟨-, rfl⟩
      · rw [ha] at q; cases q
      rcases py with ⟨q, -⟩ | ⟨-, rfl⟩
      · rw [ha] at q; cases q
      cases x <;> try exact (fx.1).elim
      cases y <;> try exact (fy.1).elim
      simp only [Op.equalIn]
      rw [runD_bind, runD_underlying hu]
      simp only [eqL, eqV, Bool.and_true]
      rfl
    · rename_i hu
      cases hk
      have ha : aggB P t = some false := by simp [aggB, hu, aggD]
      rcases px with ⟨q, -⟩ | ⟨-, rfl⟩
      · rw [ha] at q; cases q
      rcases py with ⟨q, -⟩ | ⟨-, rfl⟩
      · rw [ha] at q; cases q
      cases x <;> try exact (fx.1).elim
      cases y <;> try exact (fy.1).elim
      simp only [Op.equalIn]
      rw [runD_bind, runD_underlying hu]
      simp only [eqL, eqV, Bool.and_true]
      rfl
    · rename_i fs hu
      split at hk
      · rename_i hc
        have ha : aggB P t = some true := by simp [aggB, hu, aggD]
        rcases px with ⟨-, rfl⟩ | ⟨q, -⟩
        · rcases py with ⟨-, rfl⟩ | ⟨q, -⟩
          · have hfo : P.fieldsOf t = fs := by simp [Program.fieldsOf, hu]
            rw [runD_equalIn_struct _ _ _ (by rw [hfo]; exact hu) hc.1, hfo]
            generalize fs.toList = l at hk
            have main : ∀ (l : List Field) (o : Nat) (ks : List CellK), flatF P (flatK P d) l o = some ks → fitL ks (xs.drop o) → fitL ks (ys.drop o) → o ≤ xs.length → o ≤ ys.length →
                runD P (Op.eqFields (d + e) xs.toArray ys.toArray l) h = some (eqL (xs.drop o) (ys.drop o)) := by
              intro l
              induction l with
              | nil =>
                intro o ks hk f1 f2 _ _
                cases hk
                have l1 := fitL_length f1
                have l2 := fitL_length f2
                rw [List.eq_nil_of_length_eq_zero l1, List.eq_nil_of_length_eq_zero l2]
                rfl
              | cons f l ihl =>
                intro o ks hk f1 f2 o1 o2
                unfold flatF at hk
                split at hk
                · rename_i hn
                  obtain ⟨hn, rfl⟩ := hn
                  split at hk
                  · rename_i k1 hk1
                    split at hk
                    · rename_i hs
                      obtain ⟨k2, hk2, rfl⟩ := Option.map_eq_some_iff.1 hk
                      obtain ⟨b, hb, hb1⟩ := flat_agg hk1
                      have len1 := fitL_length f1
                      have len2 := fitL_length f2
                      simp only [List.length_drop, List.length_append] at len1 len2
                      obtain ⟨g1, g2⟩ := fitL_append f1
                      obtain ⟨g3, g4⟩ := fitL_append f2
                      have one : aggB P f.type = some false → k1.length = 1 := fun q => hb1 (by rw [hb] at q; cases q; rfl)
                      obtain ⟨v, e1, p1⟩ := runD_part_pack (h := h) (xs := xs) (o := f.offset) ⟨b, hb⟩ hs one (by omega)
                      obtain ⟨u, e2, p2⟩ := runD_part_pack (h := h) (xs := ys) (o := f.offset) ⟨b, hb⟩ hs one (by omega)
                      have hh := ih f.type k1 hk1 _ _ v u g1 g3 p1 p2
                      simp only [List.drop_drop] at g2 g4
                      have rest := ihl (f.offset + k1.length) k2 hk2 g2 g4 (by omega) (by omega)
                      unfold Op.eqFields
                      rw [if_pos hn, runD_bind, e1]
                      simp only [Option.bind_some]
                      rw [runD_bind, e2]
                      simp only [Option.bind_some]
                      rw [runD_bind, hh]
                      simp only [Option.bind_some]
                      have split : ∀ zs : List Value, zs.drop f.offset = (zs.drop f.offset).take k1.length ++ zs.drop (f.offset + k1.length) := fun zs => by
                        rw [← List.drop_drop, List.take_append_drop]
                      rw [split xs, split ys, eqL_append (by simp; omega)]
                      rw [← split xs, ← split ys]
                      cases eqL ((xs.drop f.offset).take k1.length) ((ys.drop f.offset).take k1.length)
                      · rfl
                      · simpa using rest
                    · cases hk
                  · cases hk
                · cases hk
            have := main l 0 ks hk (by simpa using fx) (by simpa using fy) (by omega) (by omega)
            simpa using this
          · rw [ha] at q; cases q
        · rw [ha] at q; cases q
      · cases hk
    · rename_i n el hu
      split at hk
      · rename_i k1 hk1
        split at hk
        · rename_i hs
          cases hk
          have ha : aggB P t = some true := by simp [aggB, hu, aggD]
          rcases px with ⟨-, rfl⟩ | ⟨q, -⟩
          · rcases py with ⟨-, rfl⟩ | ⟨q, -⟩
            · rw [runD_equalIn_array _ _ _ hu hs]
              obtain ⟨b, hb, hb1⟩ := flat_agg hk1
              have one : aggB P el = some false → k1.length = 1 := fun q => hb1 (by rw [hb] at q; cases q; rfl)
              have main : ∀ (m o : Nat), fitL (List.replicate m k1).flatten (xs.drop (o * k1.length)) → fitL (List.replicate m k1).flatten (ys.drop (o * k1.length)) →
                  runD P (eqArr (d + e) el k1.length xs.toArray ys.toArray (List.range' o m)) h = some (eqL (xs.drop (o * k1.length)) (ys.drop (o * k1.length))) := by
                intro m
                induction m with
                | zero =>
                  intro o f1 f2
                  have l1 := fitL_length f1
                  have l2 := fitL_length f2
                  have l3 : xs.drop (o * k1.length) = [] := List.eq_nil_of_length_eq_zero (by simpa using l1)
                  have l4 : ys.drop (o * k1.length) = [] := List.eq_nil_of_length_eq_zero (by simpa using l2)
                  rw [l3, l4]
                  rfl
                | succ m ihm =>
                  intro o f1 f2
                  rw [List.replicate_succ, List.flatten_cons] at f1 f2
                  have len1 := fitL_length f1
                  have len2 := fitL_length f2
                  simp only [List.length_drop, List.length_append] at len1 len2
                  obtain ⟨g1, g2⟩ := fitL_append f1
                  obtain ⟨g3, g4⟩ := fitL_append f2
                  by_cases z : k1.length = 0
                  · have hz : k1 = [] := List.eq_nil_of_length_eq_zero z
                    subst hz
                    have z2 : ∀ m : Nat, (List.replicate m ([] : List CellK)).flatten = [] := by intro m; induction m <;> simp_all [List.replicate_succ]
                    obtain ⟨v, e1, p1⟩ := runD_part_pack (h := h) (xs := xs) (o := o * 0) ⟨b, hb⟩ hs one (by simp)
                    obtain ⟨u, e2, p2⟩ := runD_part_pack (h := h) (xs := ys) (o := o * 0) ⟨b, hb⟩ hs one (by simp)
                    have hh := ih el [] hk1 _ _ v u g1 g3 p1 p2
                    have rest := ihm (o + 1) (by simpa using g2) (by simpa using g4)
                    rw [List.range'_succ]
                    unfold eqArr
                    simp only [List.length_nil] at e1 e2 hh rest ⊢
                    rw [runD_bind, e1]
                    simp only [Option.bind_some]
                    rw [runD_bind, e2]
                    simp only [Option.bind_some]
                    rw [runD_bind, hh]
                    simpa [eqL] using rest
                  have lo1 : o * k1.length + k1.length ≤ xs.length := by omega
                  have lo2 : o * k1.length + k1.length ≤ ys.length := by omega
                  obtain ⟨v, e1, p1⟩ := runD_part_pack (h := h) (xs := xs) (o := o * k1.length) ⟨b, hb⟩ hs one lo1
                  obtain ⟨u, e2, p2⟩ := runD_part_pack (h := h) (xs := ys) (o := o * k1.length) ⟨b, hb⟩ hs one lo2
                  have hh := ih el k1 hk1 _ _ v u g1 g3 p1 p2
                  have eo : o * k1.length + k1.length = (o + 1) * k1.length := by rw [Nat.add_mul, Nat.one_mul]
                  simp only [List.drop_drop] at g2 g4
                  rw [eo] at g2 g4
                  have rest := ihm (o + 1) g2 g4
                  rw [List.range'_succ]
                  unfold eqArr
                  rw [runD_bind, e1]
                  simp only [Option.bind_some]
                  rw [runD_bind, e2]
                  simp only [Option.bind_some]
                  rw [runD_bind, hh]
                  simp only [Option.bind_some]
                  have split : ∀ zs : List Value, zs.drop (o * k1.length) = (zs.drop (o * k1.length)).take k1.length ++ zs.drop ((o + 1) * k1.length) := fun zs => by
                    rw [← eo, ← List.drop_drop, List.take_append_drop]
                  rw [split xs, split ys, eqL_append (by simp; omega)]
                  rw [← split xs, ← split ys]
                  cases eqL ((xs.drop (o * k1.length)).take k1.length) ((ys.drop (o * k1.length)).take k1.length)
                  · rfl
                  · simpa using rest
              have := main n 0 (by simpa using fx) (by simpa using fy)
              simpa using this
            · rw [ha] at q; cases q
          · rw [ha] at q; cases q
        · cases hk
      · cases hk
    · cases hk

theorem binD_eql_flat {ks : List CellK} {xs ys : List Value} {x y : Operand} (hf : flatOk P t ks = true) (h1 : fitL ks xs) (h2 : fitL ks ys) :
    binD P h .eql t x y (.agg xs.toArray) (.agg ys.toArray) = some (.bool (eqL xs ys)) := by
  simp only [flatOk, Bool.and_eq_true, decide_eq_true_eq, Bool.not_eq_true', beq_iff_eq] at hf
  obtain ⟨⟨k1, k2⟩, k3⟩ := hf
  have := runD_equal_flat (P := P) (h := h) 9994 6 t ks k1 xs ys (.agg xs.toArray) (.agg ys.toArray) h1 h2 (.inl ⟨k3, rfl⟩) (.inl ⟨k3, rfl⟩)
  unfold binD
  rw [runD_bind]
  have g : runD P (eqGuard .eql t x y (.agg xs.toArray) (.agg ys.toArray)) h = some () := by
    simp only [eqGuard, Bool.not_true, Bool.false_eq_true, if_false]
    rw [runD_bind, show runD P program h = some P from rfl]
    simp only [Option.bind_some]
    rw [runD_bind, show runD P program h = some P from rfl]
    simp only [Option.bind_some, k2, Bool.not_false, if_true]
    rfl
  rw [g]
  simp only [Option.bind_some, binOp]
  rw [runD_bind, show Op.equal t (.agg xs.toArray) (.agg ys.toArray) = Op.equalIn (6 + 9994) t (.agg xs.toArray) (.agg ys.toArray) from rfl, this]
  rfl
theorem binD_neq_flat {ks : List CellK} {xs ys : List Value} {x y : Operand} (hf : flatOk P t ks = true) (h1 : fitL ks xs) (h2 : fitL ks ys) :
    binD P h .neq t x y (.agg xs.toArray) (.agg ys.toArray) = some (.bool (!eqL xs ys)) := by
  simp only [flatOk, Bool.and_eq_true, decide_eq_true_eq, Bool.not_eq_true', beq_iff_eq] at hf
  obtain ⟨⟨k1, k2⟩, k3⟩ := hf
  have := runD_equal_flat (P := P) (h := h) 9994 6 t ks k1 xs ys (.agg xs.toArray) (.agg ys.toArray) h1 h2 (.inl ⟨k3, rfl⟩) (.inl ⟨k3, rfl⟩)
  unfold binD
  rw [runD_bind]
  have g : runD P (eqGuard .neq t x y (.agg xs.toArray) (.agg ys.toArray)) h = some () := by
    simp only [eqGuard, Bool.not_true, Bool.false_eq_true, if_false]
    rw [runD_bind, show runD P program h = some P from rfl]
    simp only [Option.bind_some]
    rw [runD_bind, show runD P program h = some P from rfl]
    simp only [Option.bind_some, k2, Bool.not_false, if_true]
    rfl
  rw [g]
  simp only [Option.bind_some, binOp]
  rw [runD_bind, show Op.equal t (.agg xs.toArray) (.agg ys.toArray) = Op.equalIn (6 + 9994) t (.agg xs.toArray) (.agg ys.toArray) from rfl, this]
  rfl
end
theorem w64_id {a : Int} (h1 : -9223372036854775808 ≤ a) (h2 : a ≤ 9223372036854775807) : IntKind.i64.wrap a = a := by
  have e1 : (2 : Int) ^ 64 = 18446744073709551616 := by decide
  have e2 : (2 : Int) ^ (64 - 1) = 9223372036854775808 := by decide
  simp only [IntKind.wrap, IntKind.bits, IntKind.signed, e1, e2, Bool.true_and]
  split
  · rename_i h; simp only [decide_eq_true_eq] at h; omega
  · rename_i h; simp only [decide_eq_true_eq] at h; omega
end Go.Eng
