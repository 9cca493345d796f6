/-
  THE ENGINE, PART 4: a body; a call.
-/
import Derived.Test.YtfjacnhmmilafaaDoorEng4u
namespace Go.Eng
set_option linter.unusedSimpArgs false
set_option linter.unusedVariables false
set_option maxRecDepth 16000
set_option maxHeartbeats 4000000
open Go

/-! ### A body -/
inductive Ex where
  | normal
  | exit (id : Nat)
  | ret

structure Tab where
  reg : List (Nat × List Nat)
  loops : List (Nat × List Nat)
  sch : List (Nat × Sch)

def schAt : List (Nat × Sch) → Nat → Option Sch
  | [], _ => none
  | (k, s) :: r, i => bif k == i then some s else schAt r i
def regDev (P : Program) (ops : Array Oper) (s : Option Sch) (E : Env) (h : Heap) (K : Env → Heap → Prop) : Prop :=
  match s with
  | none => devOps P ops ops.toList E h K
  | some s => devSched P ops s.l E h K

def tabAt : List (Nat × List Nat) → Nat → List Nat
  | [], _ => []
  | (k, l) :: r, i => bif k == i then l else tabAt r i

def regK (l : List Nat) (Q : Ex → Env → Heap → Prop) (E : Env) (h : Heap) : Prop := Q .normal (E.keep l) h

def seqQ (X : (Ex → Env → Heap → Prop) → Env → Heap → Prop) (Q : Ex → Env → Heap → Prop) : Ex → Env → Heap → Prop
  | .normal => X Q
  | e => Q e

def blockQ (id : Nat) (Q : Ex → Env → Heap → Prop) : Ex → Env → Heap → Prop
  | .exit i => bif i == id then Q .normal else Q (.exit i)
  | e => Q e

def condK (v : Value) (X Y : Prop) : Prop :=
  match v with
  | .bool b => (b = true → X) ∧ (b = false → Y)
  | _ => False

/-- What a test tells of its own slot. -/
def condE (c : Operand) (x : Bool) (E : Env) : Env :=
  match c with
  | .tmp t => .cons t (.bool x) true E
  | _ => E

theorem condE_holds {c : Operand} {x : Bool} {E : Env} {a : Act} (hE : Holds E a.tmps) (hc : a.eval c = .bool x) : Holds (condE c x E) a.tmps := by
  unfold condE
  split
  · rename_i t
    intro s v y h
    simp only [Env.get] at h
    cases hst : t == s with
    | true =>
      have := eq_of_beq hst
      subst this
      simp only [hst, cond_true, Option.some.injEq, Prod.mk.injEq] at h
      obtain ⟨rfl, rfl⟩ := h
      simp only [cond_true]
      simp only [Act.eval, Array.getD_eq_getD_getElem?] at hc
      cases ht : a.tmps[t]? with
      | none => rw [ht] at hc; simp [undef] at hc
      | some u => rw [ht] at hc; simp at hc; rw [hc]
    | false =>
      simp only [hst, cond_false] at h
      exact hE s v y h
  · exact hE

/-- A round: it goes on, or leaves. -/
def roundsQ (I : Env → Heap → Prop) (l : List Nat) (Q : Ex → Env → Heap → Prop) : Ex → Env → Heap → Prop
  | .normal => fun E h => I (E.keep l) h
  | e => Q e

/-- A loop: an invariant with a rank that falls. -/
def loopH (l : List Nat) (X : (Ex → Env → Heap → Prop) → Env → Heap → Prop) (Q : Ex → Env → Heap → Prop) (E : Env) (h : Heap) : Prop :=
  ∃ (I : Nat → Env → Heap → Prop) (n0 : Nat), I n0 (E.keep l) h ∧ ∀ n E h, I n E h → X (roundsQ (fun E' h' => ∃ m, m < n ∧ I m E' h') l Q) E h

/-- The round's end: what holds at the next one's head. -/
def Again {τ : Type} (emb : τ → Env) (I : τ → Heap → Prop) (μ : τ → Heap → Nat) (n : Nat) (E : Env) (h : Heap) : Prop := ∃ t, E = emb t ∧ I t h ∧ μ t h < n

theorem loopH.intro {l : List Nat} {X : (Ex → Env → Heap → Prop) → Env → Heap → Prop} {Q : Ex → Env → Heap → Prop} {E : Env} {h : Heap} {τ : Type} (emb : τ → Env) (I : τ → Heap → Prop) (μ : τ → Heap → Nat) (t0 : τ)
    (hE : E.keep l = emb t0) (h0 : I t0 h) (step : ∀ t h, I t h → X (roundsQ (Again emb I μ (μ t h)) l Q) (emb t) h) : loopH l X Q E h :=
  ⟨fun n E h => ∃ t, E = emb t ∧ I t h ∧ μ t h = n, μ t0 h, ⟨t0, hE, h0, rfl⟩, fun n E h ⟨t, he, hI, hn⟩ => by
    subst he; subst hn
    have e : (fun E' h' => ∃ m, m < μ t h ∧ ∃ t', E' = emb t' ∧ I t' h' ∧ μ t' h' = m) = Again emb I μ (μ t h) := by
      funext E' h'
      apply propext
      constructor
      · rintro ⟨m, hm, t', e1, e2, rfl⟩; exact ⟨t', e1, e2, hm⟩
      · rintro ⟨t', e1, e2, hm⟩; exact ⟨_, hm, t', e1, e2, rfl⟩
    rw [e]
    exact step t h hI⟩

def dev (P : Program) (T : Tab) : Nat → Code → (Ex → Env → Heap → Prop) → Env → Heap → Prop
  | _, .skip, Q, E, h => Q .normal E h
  | _, .region id ops _, Q, E, h => regDev P ops (schAt T.sch id) E h (regK (tabAt T.reg id) Q)
  | b, .seq x y, Q, E, h => dev P T b x (seqQ (dev P T b y) Q) E h
  | b, .cond c x y, Q, E, h => evK E true c fun v => condK v (dev P T b x Q (condE c true E) h) (dev P T b y Q (condE c false E) h)
  | _, .block id c, Q, E, h => dev P T id c (blockQ id Q) E h
  | b, .loop c, Q, E, h => loopH (tabAt T.loops b) (dev P T b c) Q E h
  | _, .exit id, Q, E, h => Q (.exit id) E h
  | b, .scope c, Q, E, h => dev P T b c Q E h
  | _, .label _, Q, E, h => Q .normal E h
  | _, .ret, Q, E, h => Q .ret E h
  | _, _, _, _, _ => False

def codeOk (P : Program) (T : Tab) (n : Nat) : Code → Bool
  | .region id ops draw => ops.toList.all (dstOk n) && match schAt T.sch id with
    | none => !draw || drawOk P ops
    | some s => draw && schOk P ops s
  | .seq x y => codeOk P T n x && codeOk P T n y
  | .cond _ x y => codeOk P T n x && codeOk P T n y
  | .block _ c => codeOk P T n c
  | .loop c => codeOk P T n c
  | .scope c => codeOk P T n c
  | _ => true

def QW (n : Nat) (w0 : World) (Q : Ex → Env → Heap → Prop) : Exit → Act → World → Prop := fun e a w =>
  Same w0 w ∧ a.tmps.size = n ∧ a.defers = [] ∧ ∃ E, Holds E a.tmps ∧ match e with
    | .normal => Q .normal E w.heap
    | .exit i => Q (.exit i) E w.heap
    | .ret => Q .ret E w.heap
    | _ => False

theorem dev_wp {P : Program} {T : Tab} {n : Nat} (hm : P.follows .mixedOrders = true) : ∀ (c : Code), codeOk P T n c = true → ∀ (b : Nat) (Q : Ex → Env → Heap → Prop) (E : Env) (a : Act) (w0 w : World),
    Holds E a.tmps → a.tmps.size = n → a.defers = [] → Same w0 w → dev P T b c Q E w.heap → c.wp P (QW n w0 Q) a w := by
  intro c
  induction c with
  | skip => intro _ b Q E a w0 w hE hn hd hs h; exact wp_skip ⟨hs, hn, hd, E, hE, h⟩
  | region id ops draw =>
    intro hok b Q E a w0 w hE hn hd hs h
    simp only [codeOk, Bool.and_eq_true] at hok
    obtain ⟨hdst, hdraw⟩ := hok
    simp only [dev] at h
    cases hsc : schAt T.sch id with
    | some sc =>
      simp only [hsc, regDev, Bool.and_eq_true] at hdraw h
      obtain ⟨rfl, hdraw⟩ := hdraw
      exact wp_region_plan hm hdraw hdst (fun E a w hE hn hd hs h => ⟨hs, hn, hd, _, hE.keep _, h⟩) hE hn hd hs h
    | none =>
    simp only [hsc, regDev, Bool.or_eq_true, Bool.not_eq_true'] at hdraw h
    have hQ : ∀ E a w, Holds E a.tmps → a.tmps.size = n → a.defers = [] → Same w0 w → regK (tabAt T.reg id) Q E w.heap → QW n w0 Q .normal a w :=
      fun E a w hE hn hd hs h => ⟨hs, hn, hd, _, hE.keep _, h⟩
    cases draw with
    | false => exact wp_region_list (devOps_wp hQ ops.toList hdst E a w hE hn hd hs h)
    | true =>
      have hdraw := hdraw.resolve_left (by simp)
      unfold drawOk at hdraw
      have hs1 : Same w0 { w with drawn := w.drawn + 1 } := ⟨hs.os, hs.tape, hs.output, Nat.le_trans hs.drawn (Nat.le_succ _)⟩
      by_cases hN : headN P ops.toList = ops.size
      · simp only [hN, if_true] at hdraw
        refine wp_region_still hm hdraw ?_
        have hall := headN_all P ops.toList
        rw [hN, ← Array.length_toList, List.take_length] at hall
        exact devOps_still (tail := []) (K := regK (tabAt T.reg id) Q) (fun E a hE hn hd h => hQ E a { w with drawn := w.drawn + 1 } hE hn hd hs1 h) ops.toList hdst hall E a hE hn hd (by rw [List.append_nil]; exact h)
      · simp only [hN, if_false, Bool.or_eq_true] at hdraw
        rcases hdraw with hdraw | hdraw
        case inr =>
          have hz : headN P ops.toList + (ops.size - headN P ops.toList - endN P ops) + endN P ops = ops.size := by
            simp only [lexMidB, Bool.and_eq_true, decide_eq_true_eq] at hdraw
            exact hdraw.1.1.1.2
          refine wp_region_mid (headN P ops.toList) _ _ hm hdraw ?_
          generalize ops.size - headN P ops.toList - endN P ops = g at hz ⊢
          have e := List.take_append_drop (headN P ops.toList) ops.toList
          have e2 := List.take_append_drop g (ops.toList.drop (headN P ops.toList))
          have d1 : (ops.toList.take (headN P ops.toList)).all (dstOk n) = true ∧ (ops.toList.drop (headN P ops.toList)).all (dstOk n) = true := by
            rw [← Bool.and_eq_true, ← List.all_append, e]; exact hdst
          have d2 : ((ops.toList.drop (headN P ops.toList)).take g).all (dstOk n) = true ∧ ((ops.toList.drop (headN P ops.toList)).drop g).all (dstOk n) = true := by
            rw [← Bool.and_eq_true, ← List.all_append, e2]; exact d1.2
          rw [List.drop_drop] at e2 d2
          refine devOps_still (tail := ops.toList.drop (headN P ops.toList)) (K := regK (tabAt T.reg id) Q) (fun E a hE hn hd h => ?_) _ d1.1 (headN_all P ops.toList) E a hE hn hd (by rw [e]; exact h)
          refine devOps_wpK (rest := ops.toList.drop (headN P ops.toList + g)) (K := regK (tabAt T.reg id) Q) (w0 := w0) (fun E a w' hE hn hd hs' h => ?_) _ d2.1 E a { w with drawn := w.drawn + 1 } hE hn hd hs1 (by rw [e2]; exact h)
          exact devOps_still (tail := []) (K := regK (tabAt T.reg id) Q) (fun E a hE hn hd h => hQ E a w' hE hn hd hs' h) _ d2.2 (endN_all P ops hz) E a hE hn hd (by rw [List.append_nil]; exact h)
        refine wp_region_tail (headN P ops.toList) hm hdraw ?_
        have e := List.take_append_drop (headN P ops.toList) ops.toList
        have hd1 : (ops.toList.take (headN P ops.toList)).all (dstOk n) = true ∧ (ops.toList.drop (headN P ops.toList)).all (dstOk n) = true := by
          rw [← Bool.and_eq_true, ← List.all_append, e]; exact hdst
        refine devOps_still (tail := ops.toList.drop (headN P ops.toList)) (K := regK (tabAt T.reg id) Q) (fun E a hE hn hd h => ?_) _ hd1.1 (headN_all P ops.toList) E a hE hn hd (by rw [e]; exact h)
        exact devOps_wp hQ _ hd1.2 E a { w with drawn := w.drawn + 1 } hE hn hd hs1 h
  | seq x y ihx ihy =>
    intro hok b Q E a w0 w hE hn hd hs h
    simp only [codeOk, Bool.and_eq_true] at hok
    refine wp_seq (wp_mono (ihx hok.1 b _ E a w0 w hE hn hd hs h) fun e a' w' hq => ?_)
    obtain ⟨hs', hn', hd', E', hE', hq⟩ := hq
    cases e with
    | normal => exact ihy hok.2 b Q E' a' w0 w' hE' hn' hd' hs' hq
    | exit i => exact ⟨hs', hn', hd', E', hE', hq⟩
    | ret => exact ⟨hs', hn', hd', E', hE', hq⟩
    | goto l => exact hq.elim
    | panic l => exact hq.elim
    | outgrown => exact hq.elim
  | cond c x y ihx ihy =>
    intro hok b Q E a w0 w hE hn hd hs h
    simp only [codeOk, Bool.and_eq_true] at hok
    simp only [dev] at h
    obtain ⟨v, hv, ev⟩ := evK_sound h hE
    unfold condK at hv
    split at hv
    · rename_i t
      exact wp_cond_split (ev rfl) (fun ht => ihx hok.1 b Q _ a w0 w (condE_holds hE (by rw [ev rfl, ht])) hn hd hs (hv.1 ht)) (fun ht => ihy hok.2 b Q _ a w0 w (condE_holds hE (by rw [ev rfl, ht])) hn hd hs (hv.2 ht))
    · exact hv.elim
  | block id c ih =>
    intro hok b Q E a w0 w hE hn hd hs h
    refine wp_block (wp_mono (ih hok id _ E a w0 w hE hn hd hs h) fun e a' w' hq => ?_)
    obtain ⟨hs', hn', hd', E', hE', hq⟩ := hq
    cases e with
    | normal => exact ⟨hs', hn', hd', E', hE', hq⟩
    | exit i =>
      simp only [blockQ] at hq
      simp only [Exit.inBlock]
      cases hi : i == id with
      | true =>
        rw [if_pos (eq_of_beq hi)]
        rw [hi] at hq
        exact ⟨hs', hn', hd', E', hE', hq⟩
      | false =>
        rw [if_neg (fun e => by subst e; simp at hi)]
        rw [hi] at hq
        exact ⟨hs', hn', hd', E', hE', hq⟩
    | ret => exact ⟨hs', hn', hd', E', hE', hq⟩
    | goto l => exact hq.elim
    | panic l => exact hq.elim
    | outgrown => exact hq.elim
  | loop c ih =>
    intro hok b Q E a w0 w hE hn hd hs h
    simp only [dev, loopH] at h
    obtain ⟨I, n0, hI0, hstep⟩ := h
    have key : ∀ m k E a w, k < m → Holds E a.tmps → a.tmps.size = n → a.defers = [] → Same w0 w → I k E w.heap → Code.rounds P c (QW n w0 Q) m a w := by
      intro m
      induction m with
      | zero => intro k E a w hk; omega
      | succ m ihm =>
        intro k E a w hk hE hn hd hs hI
        rw [rounds_succ]
        refine wp_mono (ih hok b _ E a w0 w hE hn hd hs (hstep k E w.heap hI)) fun e a' w' hq => ?_
        obtain ⟨hs', hn', hd', E', hE', hq⟩ := hq
        cases e with
        | normal =>
          obtain ⟨j, hj, hIj⟩ := hq
          exact ihm j _ a' w' (by omega) (hE'.keep _) hn' hd' hs' hIj
        | exit i => exact ⟨hs', hn', hd', E', hE', hq⟩
        | ret => exact ⟨hs', hn', hd', E', hE', hq⟩
        | goto l => exact hq.elim
        | panic l => exact hq.elim
        | outgrown => exact hq.elim
    exact wp_loop_rounds (n0 + 1) (key (n0 + 1) n0 _ a w (by omega) (hE.keep _) hn hd hs hI0)
  | exit id => intro _ b Q E a w0 w hE hn hd hs h; exact wp_exit ⟨hs, hn, hd, E, hE, h⟩
  | scope c ih =>
    intro hok b Q E a w0 w hE hn hd hs h
    refine wp_scope_straight (wp_mono (ih hok b Q E a w0 w hE hn hd hs h) fun e a' w' hq => ?_)
    obtain ⟨hs', hn', hd', E', hE', hq⟩ := hq
    cases e <;> first | exact ⟨hs', hn', hd', E', hE', hq⟩ | exact hq.elim
  | label l => intro _ b Q E a w0 w hE hn hd hs h; exact wp_label ⟨hs, hn, hd, E, hE, h⟩
  | ret => intro _ b Q E a w0 w hE hn hd hs h; exact wp_ret ⟨hs, hn, hd, E, hE, h⟩
  | _ => intro _ b Q E a w0 w hE hn hd hs h; exact h.elim

/-! ### A call -/
def iLoadRes (ty : TypeId) (v : Value) : Sem Value := do loadVar ty (← asAddr v)
def resK (P : Program) (E : Env) (h : Heap) : ResultVar → (Value → Prop) → Prop
  | .tmp t, K => evK E true (.tmp t) K
  | .cell t ty, K => evK E true (.tmp t) fun v => rdK true (runD P (iLoadRes ty v) h) K

def resL (P : Program) (E : Env) (h : Heap) : List ResultVar → (List Value → Prop) → Prop
  | [], K => K []
  | r :: l, K => resK P E h r fun v => resL P E h l fun vs => K (v :: vs)

def resV : List Value → Value
  | [v] => v
  | vs => .tuple vs.toArray

def retQ (P : Program) (rs : List ResultVar) (R : Value → Heap → Prop) : Ex → Env → Heap → Prop
  | .exit _, _, _ => False
  | _, E, h => resL P E h rs fun vs => R (resV vs) h

theorem resL_sound {P : Program} {E : Env} {tmps : Array Value} (hE : Holds E tmps) {h : Heap} : ∀ {rs : List ResultVar} {K : List Value → Prop}, resL P E h rs K → ∃ vs, K vs ∧
    runD P (rs.mapM fun | .tmp t => pure (tmps.getD t undef) | .cell a t => do loadVar t (← asAddr (tmps.getD a undef)) : Sem (List Value)) h = some vs := by
  intro rs
  induction rs with
  | nil => intro K hk; exact ⟨[], hk, rfl⟩
  | cons r l ih =>
    intro K hk
    simp only [resL] at hk
    cases r with
    | tmp t =>
      simp only [resK] at hk
      obtain ⟨v, h1, e1⟩ := evK_sound (a := ⟨tmps, []⟩) hk hE
      obtain ⟨vs, h2, e2⟩ := ih h1
      refine ⟨v :: vs, h2, ?_⟩
      have : tmps.getD t undef = v := e1 rfl
      rw [List.mapM_cons, runD_bind]
      simp only [this, runD_pure, Option.bind_some]
      rw [runD_bind, e2]
      rfl
    | cell t ty =>
      simp only [resK] at hk
      obtain ⟨v, h1, e1⟩ := evK_sound (a := ⟨tmps, []⟩) hk hE
      obtain ⟨u, h1, e3⟩ := rdK_sound h1
      obtain ⟨vs, h2, e2⟩ := ih h1
      refine ⟨u :: vs, h2, ?_⟩
      have : tmps.getD t undef = v := e1 rfl
      have e4 := e3 rfl
      unfold iLoadRes at e4
      rw [List.mapM_cons, runD_bind]
      simp only [this, e4, Option.bind_some]
      rw [runD_bind, e2]
      rfl

theorem results_run {P : Program} {fn : Func} {E : Env} {tmps : Array Value} (hE : Holds E tmps) {w : World} {K : Value → Prop} (h : resL P E w.heap fn.results.toList fun vs => K (resV vs)) :
    ∃ v, K v ∧ (results fn tmps).run P w = .ok v w := by
  obtain ⟨vs, hK, e⟩ := resL_sound hE h
  refine ⟨_, hK, runD_sound _ ?_⟩
  unfold results
  rw [runD_bind]
  have : runD P (fn.results.mapM fun | .tmp t => pure (tmps.getD t undef) | .cell a t => do loadVar t (← asAddr (tmps.getD a undef)) : Sem (Array Value)) w.heap = some vs.toArray := by
    rw [Array.mapM_eq_mapM_toList]
    rw [← bind_pure_comp, runD_bind, e]
    rfl
  refine (congrArg (fun x => Option.bind x _) this).trans ?_
  match vs with
  | [] => rfl
  | [v] => rfl
  | v :: u :: r => simp [resV]

theorem args_get : ∀ (l : List Value) (k s : Nat) (v : Value) (c : Bool), (Env.args k l).get s = some (v, c) → k ≤ s ∧ l[s - k]? = some v ∧ c = true
  | [], _, _, _, _, h => by simp [Env.args, Env.get] at h
  | x :: l, k, s, v, c, h => by
    simp only [Env.args, Env.get] at h
    cases hks : k == s with
    | true =>
      have := eq_of_beq hks
      subst this
      simp only [hks, cond_true, Option.some.injEq, Prod.mk.injEq] at h
      obtain ⟨rfl, rfl⟩ := h
      simp
    | false =>
      simp only [hks, cond_false] at h
      obtain ⟨h1, h2, h3⟩ := args_get l (k + 1) s v c h
      refine ⟨by omega, ?_, h3⟩
      rw [show s - k = (s - (k + 1)) + 1 by omega]
      simpa using h2

theorem HCalls.of_dev {P : Program} {f : FuncId} {fn : Func} {c : Code} {args : List Value} {h0 : Heap} {R : Value → Heap → Prop} (T : Tab)
    (hf : P.funcs[f]? = some fn) (hb : fn.body = some c) (hm : P.follows .mixedOrders = true) (hok : (codeOk P T fn.ntmps c && decide (args.length ≤ fn.ntmps)) = true)
    (h : dev P T 0 c (retQ P fn.results.toList R) (Env.args 0 args) h0) : HCalls P f args.toArray h0 R := by
  simp only [Bool.and_eq_true, decide_eq_true_eq] at hok
  intro w hw
  subst hw
  refine calls_of_wp hf hb ?_
  have hE : Holds (Env.args 0 args) (args.toArray ++ Array.replicate (fn.ntmps - args.toArray.size) undef) := by
    intro s v c hs
    obtain ⟨-, h2, rfl⟩ := args_get args 0 s v c hs
    simp only [Nat.sub_zero] at h2
    obtain ⟨hlt, hv⟩ := List.getElem?_eq_some_iff.1 h2
    rw [Array.getElem?_append_left (by simpa using hlt)]
    simpa using h2
  refine wp_mono (dev_wp (T := T) hm c hok.1 0 _ _ _ w w hE (by simp; omega) rfl (Same.refl w) h) fun e a w' hq => ?_
  obtain ⟨hs, hn, hd, E, hE', hq⟩ := hq
  cases e with
  | normal =>
    have hq' : resL P E w'.heap fn.results.toList (fun vs => R (resV vs) w'.heap) := hq
    obtain ⟨v, hR, hr⟩ := results_run (K := fun v => R v w'.heap) hE' hq'
    exact ⟨hd, v, hr, hs, v, rfl, hR⟩
  | ret =>
    have hq' : resL P E w'.heap fn.results.toList (fun vs => R (resV vs) w'.heap) := hq
    obtain ⟨v, hR, hr⟩ := results_run (K := fun v => R v w'.heap) hE' hq'
    exact ⟨hd, v, hr, hs, v, rfl, hR⟩
  | exit i => exact hq.elim
  | goto l => exact hq.elim
  | panic l => exact hq.elim
  | outgrown => exact hq.elim

end Go.Eng
