/-
  THE ENGINE, PART 4t: a drawn region in whichever order: the rule.
-/
import Derived.Test.YtfjacnhmmilafaaDoorEng4s
namespace Go.Eng
set_option linter.unusedSimpArgs false
set_option linter.unusedVariables false
set_option maxRecDepth 16000
set_option maxHeartbeats 4000000
open Go

/-- A plan: which operations write, or stand at the end; which only read; what each waits for; in which order it is reckoned (true: once more). -/
inductive Plan where
  | done
  | rd (i : Nat) (again : Bool) (p : Plan)
  | wr (i : Nat) (p : Plan) (alt : Plan)
  | no
structure Sch where
  wm : Nat
  rm : Nat
  am : List Nat
  l : Plan

def ancHas (am : List Nat) (j i : Nat) : Bool := (am.getD j 0).testBit i
def sameG (c : Bool) (v' : Value) : Option (Value × Bool) → Prop
  | some (v, c0) => c0 = c ∧ (c = true → v' = v)
  | none => False
def sameV (E : Env) (d : Option Tmp) (c : Bool) (v' : Value) : Prop :=
  match d with
  | none => True
  | some s => sameG c v' (E.get s)
def nthO : List Oper → Nat → Option Oper
  | [], _ => none
  | o :: _, 0 => some o
  | _ :: l, n + 1 => nthO l n
theorem nthO_eq : ∀ (l : List Oper) (n : Nat), nthO l n = l[n]?
  | [], _ => by simp [nthO]
  | x :: l, 0 => by simp [nthO]
  | x :: l, n + 1 => by simp [nthO, nthO_eq l n]
/-- One step of a plan. -/
def schO (P : Program) (ops : Array Oper) (X : Env → Heap → (Env → Heap → Prop) → Prop) (E : Env) (h : Heap) (K : Env → Heap → Prop) (again : Bool) : Option Oper → Prop
  | none => False
  | some o => gdK ops E o.guard fun c => bif again then opH P o.type E c h o.op (fun v _ => sameV E o.dst c v ∧ X E h K) else opH P o.type E c h o.op (opsK X E o.dst c K)
def devSched (P : Program) (ops : Array Oper) : Plan → Env → Heap → (Env → Heap → Prop) → Prop
  | .done, E, h, K => K E h
  | .rd i again l, E, h, K => schO P ops (devSched P ops l) E h K again (nthO ops.toList i)
  | .wr i l alt, E, h, K => schO P ops (devSched P ops l) E h K false (nthO ops.toList i) ∧ devSched P ops alt E h K
  | .no, _, _, _ => True
/-- What may write next. -/
def Plan.alts : Plan → List (Nat × Plan)
  | .wr i p alt => (i, p) :: alt.alts
  | _ => []
/-- Each that may write next is among them. -/
def cover (S : Sch) (N dw : Nat) (l : List (Nat × Plan)) : Bool := (List.range N).all fun j => !S.wm.testBit j || dw.testBit j || l.any (fun x => x.1 == j) || ((S.am.getD j 0 &&& S.wm) &&& dw) != (S.am.getD j 0 &&& S.wm)

def complete (S : Sch) (N dw bl du : Nat) : Bool := (List.range N).all fun r => S.wm.testBit r || bl.testBit r || du.testBit r || ((S.am.getD r 0 &&& S.wm) &&& dw) != (S.am.getD r 0 &&& S.wm)
def depsKnown (S : Sch) (i kn : Nat) : Bool := ((S.am.getD i 0 &&& S.rm) &&& kn) == (S.am.getD i 0 &&& S.rm)
def chk (S : Sch) (N : Nat) : Plan → Bool → Nat → Nat → Nat → Nat → Bool
  | .done, b, dw, _, bl, du => !b && complete S N dw bl du && (List.range N).all fun w => !S.wm.testBit w || dw.testBit w
  | .rd i ag l, b, dw, kn, bl, du => !b && decide (i < N) && !S.wm.testBit i && (kn.testBit i == ag) && depsKnown S i kn && chk S N l false dw (kn ||| 2 ^ i) (bl ||| 2 ^ i) du
  | .wr i l alt, b, dw, kn, bl, du => (b || (complete S N dw bl du && cover S N dw (Plan.wr i l alt).alts)) && decide (i < N) && S.wm.testBit i && !dw.testBit i && chk S N l false (dw ||| 2 ^ i) kn 0 (du ||| S.am.getD i 0) && chk S N alt true dw kn bl du
  | .no, b, _, _, _, _ => b

def foldAnc (am : List Nat) : List Edge → Nat → Nat
  | [], m => m
  | e :: r, m => foldAnc am r (bif Region.binds .any e then m ||| 2 ^ e.on ||| am.getD e.on 0 else m)
def eachO (ops : Array Oper) (f : Oper → Nat → Bool) : Bool := (List.range ops.size).all fun j => match ops[j]? with
  | some o => f o j
  | none => false
def schOk (P : Program) (ops : Array Oper) (S : Sch) : Bool :=
  Region.noSelect ops &&
  (eachO ops fun o j => o.after.toList.all fun e => !Region.binds .any e || decide (e.on < j)) &&
  (eachO ops fun o j => S.am.getD j 0 == foldAnc S.am o.after.toList 0) &&
  (eachO ops fun o j => (S.wm.testBit j || !isW P o.op) && (S.rm.testBit j == !S.wm.testBit j)) &&
  (eachO ops fun oj j => S.wm.testBit j || match oj.dst with
    | none => true
    | some d => eachO ops fun oi i => (!(looks ops oi).contains d || (ancHas S.am i j && i != j)) && (i == j || oi.dst != some d)) &&
  chk S ops.size S.l false 0 0 0 0

theorem eachO_spec {ops : Array Oper} {f : Oper → Nat → Bool} (h : eachO ops f = true) {j : Nat} {o : Oper} (ho : ops[j]? = some o) : f o j = true := by
  have := List.all_eq_true.1 h j (List.mem_range.2 (Array.getElem?_eq_some_iff.1 ho).1)
  simpa [ho] using this

structure RF (P : Program) (ops : Array Oper) (S : Sch) : Prop where
  nosel : Region.noSelect ops = true
  edge : ∀ (j : Nat) o, ops[j]? = some o → ∀ e ∈ o.after, Region.binds .any e = true → e.on < j
  anc : ∀ (j : Nat) o, ops[j]? = some o → ∀ i, ancHas S.am j i = true → ∃ e ∈ o.after, Region.binds .any e = true ∧ (e.on = i ∨ ancHas S.am e.on i = true)
  rd : ∀ (j : Nat) o, ops[j]? = some o → S.wm.testBit j = false → isW P o.op = false
  rm : ∀ (j : Nat) o, ops[j]? = some o → S.rm.testBit j = !S.wm.testBit j
  look : ∀ (j : Nat) oj d, ops[j]? = some oj → S.wm.testBit j = false → oj.dst = some d → ∀ (i : Nat) oi, ops[i]? = some oi → d ∈ looks ops oi → ancHas S.am i j = true ∧ i ≠ j
  dst : ∀ (j : Nat) oj d, ops[j]? = some oj → S.wm.testBit j = false → oj.dst = some d → ∀ (i : Nat) oi, ops[i]? = some oi → i ≠ j → oi.dst ≠ some d

theorem foldAnc_spec {am : List Nat} : ∀ (es : List Edge) (m i : Nat), (foldAnc am es m).testBit i = true → m.testBit i = true ∨ ∃ e ∈ es, Region.binds .any e = true ∧ (e.on = i ∨ ancHas am e.on i = true)
  | [], m, i, h => .inl h
  | e :: r, m, i, h => by
    simp only [foldAnc] at h
    rcases foldAnc_spec r _ i h with h | ⟨e', h1, h2⟩
    · cases hb : Region.binds .any e with
      | false => rw [hb] at h; exact .inl h
      | true =>
        rw [hb] at h
        simp only [cond_true, Nat.testBit_or, Bool.or_eq_true, Nat.testBit_two_pow, decide_eq_true_eq] at h
        rcases h with (h | h) | h
        · exact .inl h
        · exact .inr ⟨e, by simp, hb, .inl h⟩
        · exact .inr ⟨e, by simp, hb, .inr h⟩
    · exact .inr ⟨e', by simp [h1], h2⟩

theorem rf_of {P : Program} {ops : Array Oper} {S : Sch} (h : schOk P ops S = true) : RF P ops S ∧ chk S ops.size S.l false 0 0 0 0 = true := by
  simp only [schOk, Bool.and_eq_true] at h
  obtain ⟨⟨⟨⟨⟨h1, h2⟩, h3⟩, h4⟩, h5⟩, h7⟩ := h
  refine ⟨⟨h1, fun j o ho e he hb => ?_, fun j o ho i hi => ?_, fun j o ho hw => ?_, fun j o ho => ?_, fun j oj d hj hw hd i oi hi hl => ?_, fun j oj d hj hw hd i oi hi hne => ?_⟩, h7⟩
  · have := List.all_eq_true.1 (eachO_spec h2 ho) e (by simpa using he)
    simpa [hb] using this
  · have := eachO_spec h3 ho
    simp only [beq_iff_eq] at this
    unfold ancHas at hi
    rw [this] at hi
    rcases foldAnc_spec _ _ _ hi with hz | ⟨e, he, q⟩
    · simp at hz
    · exact ⟨e, by simpa using he, q⟩
  · have := eachO_spec h4 ho
    simp only [Bool.and_eq_true, Bool.or_eq_true, hw, Bool.false_eq_true, false_or, Bool.not_eq_true'] at this
    exact this.1
  · have := eachO_spec h4 ho
    simp only [Bool.and_eq_true, beq_iff_eq] at this
    exact this.2
  · have := eachO_spec h5 hj
    simp only [hw, Bool.false_or, hd] at this
    have := eachO_spec this hi
    simp only [Bool.and_eq_true, Bool.or_eq_true, Bool.not_eq_true', bne_iff_ne] at this
    rcases this.1 with q | q
    · have : (looks ops oi).contains d = true := by simpa using hl
      rw [q] at this; cases this
    · exact q
  · have := eachO_spec h5 hj
    simp only [hw, Bool.false_or, hd] at this
    have := eachO_spec this hi
    simp only [Bool.and_eq_true, Bool.or_eq_true, beq_iff_eq, bne_iff_ne] at this
    exact this.2.resolve_left hne

/-! ### a read that may float -/
def Stable (P : Program) (ops : Array Oper) (o : Oper) (E : Env) (h : Heap) : Prop := gdK ops E o.guard fun c => ∃ v', sameV E o.dst c v' ∧ ∀ K', K' v' → opR P o.type E c h o.op K'
theorem Stable.cg {P : Program} {ops : Array Oper} {o : Oper} {E E' : Env} {h : Heap} (s : Stable P ops o E h) (ha : AgreeE (looks ops o) E E') (hd : ∀ d, o.dst = some d → E.get d = E'.get d) : Stable P ops o E' h := by
  unfold Stable at *
  rw [gdK_cg ha.left] at s
  obtain ⟨c, ⟨v', h1, h2⟩, h3⟩ := gdK_det _ s
  refine h3 _ ⟨v', ?_, fun K' hk => by rw [← opR_cg ha.right]; exact h2 K' hk⟩
  unfold sameV at *
  split at h1
  · trivial
  · rename_i d hdd
    rw [← hd d hdd]; exact h1

theorem keep_mem {E : Env} : ∀ (l : List Nat) (s : Nat) (r : Value × Bool), (E.keep l).get s = some r → s ∈ l
  | [], _, _, h => by simp [Env.keep, Env.get] at h
  | t :: l, s, r, h => by
    simp only [Env.keep] at h
    split at h
    · simp only [Env.get] at h
      cases hst : t == s with
      | true => have := eq_of_beq hst; subst this; simp
      | false => simp only [hst, cond_false] at h; exact List.mem_cons_of_mem _ (keep_mem l s r h)
    · exact List.mem_cons_of_mem _ (keep_mem l s r h)
theorem keep_same {E : Env} : ∀ (l : List Nat) (s : Nat), s ∈ l → (E.keep l).get s = E.get s
  | t :: l, s, h => by
    simp only [Env.keep]
    by_cases e : t = s
    · subst e
      cases hg : E.get t with
      | some x => simp [Env.get]
      | none =>
        simp only
        cases hk : (E.keep l).get t with
        | none => rfl
        | some r => rw [keep_get l t r hk] at hg; cases hg
    · have hs : s ∈ l := by
        rcases List.mem_cons.1 h with q | q
        · exact (e q.symm).elim
        · exact q
      have ih := keep_same (E := E) l s hs
      cases hg : E.get t with
      | some x =>
        simp only [Env.get]
        have : (t == s) = false := by simpa using e
        rw [this]; simpa using ih
      | none => simpa using ih
theorem keep_agree {E : Env} {l : List Nat} : AgreeE l E (E.keep l) := fun t ht => (keep_same l t ht).symm

theorem or_bit {m i j : Nat} : (m ||| 2 ^ i).testBit j = (m.testBit j || decide (i = j)) := by rw [Nat.testBit_or, Nat.testBit_two_pow]
theorem and_eq_bit {a b c : Nat} (h : (a &&& b) &&& c = (a &&& b)) {i : Nat} (ha : a.testBit i = true) (hb : b.testBit i = true) : c.testBit i = true := by
  have := congrArg (fun x => x.testBit i) h
  simpa [Nat.testBit_and, ha, hb] using this
theorem and_ne_bit {a b c : Nat} (h : (a &&& b) &&& c ≠ (a &&& b)) : ∃ i, a.testBit i = true ∧ b.testBit i = true ∧ c.testBit i = false := by
  refine Classical.byContradiction fun q => h ?_
  apply Nat.eq_of_testBit_eq
  intro i
  rw [Nat.testBit_and, Nat.testBit_and]
  cases ha : a.testBit i with
  | false => rfl
  | true =>
    cases hb : b.testBit i with
    | false => rfl
    | true =>
      cases hc : c.testBit i with
      | true => rfl
      | false => exact (q ⟨i, ha, hb, hc⟩).elim

section
variable {P : Program} {ops : Array Oper} {S : Sch}

def NextW (l : Plan) : Prop := l = .done ∨ ∃ i p alt, l = .wr i p alt

theorem put_get_ne {E : Env} {d : Option Tmp} {v : Value} {c : Bool} {s : Nat} (h : d ≠ some s) : (E.put d v c).get s = E.get s := by
  cases d with
  | none => rfl
  | some t =>
    have : (t == s) = false := by simpa using fun e => h (by rw [e])
    simp [Env.put, Env.get, this]
theorem put_get_eq {E : Env} {v : Value} {c : Bool} {s : Nat} : (E.put (some s) v c).get s = some (v, c) := by simp [Env.put, Env.get]

theorem chk_alt {N dw kn bl du i : Nat} {p : Plan} : ∀ {l : Plan} {b : Bool}, chk S N l b dw kn bl du = true → (i, p) ∈ l.alts → i < N ∧ S.wm.testBit i = true ∧ dw.testBit i = false ∧ chk S N p false (dw ||| 2 ^ i) kn 0 (du ||| S.am.getD i 0) = true
  | .done, _, _, h => by simp [Plan.alts] at h
  | .rd .., _, _, h => by simp [Plan.alts] at h
  | .no, _, _, h => by simp [Plan.alts] at h
  | .wr j q alt, b, hc, h => by
    simp only [chk, Bool.and_eq_true, decide_eq_true_eq, Bool.not_eq_true'] at hc
    rcases List.mem_cons.1 h with e | h
    · cases e
      exact ⟨hc.1.1.1.1.2, hc.1.1.1.2, hc.1.1.2, hc.1.2⟩
    · exact chk_alt hc.2 h
theorem dev_alt {E : Env} {h : Heap} {K : Env → Heap → Prop} {i : Nat} {p : Plan} : ∀ {l : Plan}, devSched P ops l E h K → (i, p) ∈ l.alts → schO P ops (devSched P ops p) E h K false (nthO ops.toList i)
  | .done, _, h => by simp [Plan.alts] at h
  | .rd .., _, h => by simp [Plan.alts] at h
  | .no, _, h => by simp [Plan.alts] at h
  | .wr j q alt, hd, h => by
    rcases List.mem_cons.1 h with e | h
    · cases e; exact hd.1
    · exact dev_alt hd.2 h

theorem block_run (rf : RF P ops S) : ∀ (l : Plan) (E : Env) (h : Heap) (K : Env → Heap → Prop) (dw kn bl du : Nat), chk S ops.size l false dw kn bl du = true → devSched P ops l E h K →
    (∀ (r : Nat) o, ops[r]? = some o → bl.testBit r = true → Stable P ops o E h) → (∀ r, bl.testBit r = true → S.wm.testBit r = false ∧ ∀ j, ancHas S.am r j = true → S.rm.testBit j = true → kn.testBit j = true) → (∀ r, bl.testBit r = true → kn.testBit r = true) →
    ∃ l2 E2 kn2 bl2, chk S ops.size l2 false dw kn2 bl2 du = true ∧ NextW l2 ∧ devSched P ops l2 E2 h K ∧ (∀ (r : Nat) o, ops[r]? = some o → bl2.testBit r = true → Stable P ops o E2 h) ∧ (∀ r, bl2.testBit r = true → S.wm.testBit r = false) ∧ (∀ r, bl2.testBit r = true → kn2.testBit r = true) ∧
      (∀ r, kn.testBit r = true → kn2.testBit r = true) ∧ (∀ s, (∀ (r : Nat) o, ops[r]? = some o → S.wm.testBit r = false → kn.testBit r = false → kn2.testBit r = true → o.dst ≠ some s) → E2.get s = E.get s) := by
  intro l
  induction l with
  | done => intro E h K dw kn bl du hc hd hs hb hbk; exact ⟨.done, E, kn, bl, hc, .inl rfl, hd, hs, fun r hr => (hb r hr).1, hbk, fun _ q => q, fun _ _ => rfl⟩
  | no => intro E h K dw kn bl du hc; simp [chk] at hc
  | wr i p alt _ _ => intro E h K dw kn bl du hc hd hs hb hbk; exact ⟨_, E, kn, bl, hc, .inr ⟨i, p, alt, rfl⟩, hd, hs, fun r hr => (hb r hr).1, hbk, fun _ q => q, fun _ _ => rfl⟩
  | rd i ag l ih =>
    intro E h K dw kn bl du hc hd hs hb hbk
    simp only [chk, Bool.not_false, Bool.true_and, Bool.and_eq_true, decide_eq_true_eq, beq_iff_eq, Bool.not_eq_true'] at hc
    obtain ⟨⟨⟨⟨hi, hw⟩, hk⟩, hdk⟩, hc⟩ := hc
    cases hw0 : S.wm.testBit i with
    | true => rw [hw] at hw0; cases hw0
    | false =>
      have hoi : ops[i]? = some ops[i] := Array.getElem?_eq_getElem hi
      have hdk' : ∀ j, ancHas S.am i j = true → S.rm.testBit j = true → kn.testBit j = true := fun j h1 h2 => by
        simp only [depsKnown, beq_iff_eq] at hdk
        exact and_eq_bit hdk h1 h2
      simp only [devSched, nthO_eq, Array.getElem?_toList, hoi, schO] at hd
      generalize ops[i] = o at hoi hd
      have hr := rf.rd i o hoi hw
      have hb' : ∀ r, (bl ||| 2 ^ i).testBit r = true → S.wm.testBit r = false ∧ ∀ j, ancHas S.am r j = true → S.rm.testBit j = true → (kn ||| 2 ^ i).testBit j = true := by
        intro r q
        rw [or_bit, Bool.or_eq_true, decide_eq_true_eq] at q
        rcases q with q | rfl
        · exact ⟨(hb r q).1, fun j h1 h2 => by rw [or_bit, (hb r q).2 j h1 h2]; rfl⟩
        · exact ⟨hw, fun j h1 h2 => by rw [or_bit, hdk' j h1 h2]; rfl⟩
      have hbk' : ∀ r, (bl ||| 2 ^ i).testBit r = true → (kn ||| 2 ^ i).testBit r = true := by
        intro r q
        rw [or_bit, Bool.or_eq_true] at q ⊢
        exact q.imp (hbk r) id
      cases ag with
      | true =>
        simp only [cond_true] at hd
        obtain ⟨c, hX, hg⟩ := gdK_det _ hd
        unfold opH at hX
        rw [hr] at hX
        simp only [cond_false] at hX
        obtain ⟨v', ⟨h1, h2⟩, h3⟩ := opR_det _ hX
        have st : Stable P ops o E h := hg _ ⟨v', h1, h3⟩
        have hkn : ∀ r, (kn ||| 2 ^ i).testBit r = kn.testBit r := fun r => by
          rw [or_bit]
          by_cases q : i = r
          · subst q; rw [hk]; rfl
          · simp [q]
        obtain ⟨l2, E2, kn2, bl2, r1, r2, r3, r4, r5, r5b, r6, r7⟩ := ih E h K dw _ _ du hc h2 (fun r o' ho' q => by
          rw [or_bit, Bool.or_eq_true, decide_eq_true_eq] at q
          rcases q with q | rfl
          · exact hs r o' ho' q
          · rw [hoi] at ho'; cases ho'; exact st) hb' hbk'
        exact ⟨l2, E2, kn2, bl2, r1, r2, r3, r4, r5, r5b, fun r q => r6 r (by rw [hkn]; exact q), fun s q => r7 s fun r o' ho' hw' hk' => q r o' ho' hw' (by rw [← hkn]; exact hk')⟩
      | false =>
        simp only [cond_false] at hd
        have hX0 : gdK ops E o.guard fun c => opR P o.type E c h o.op fun v => devSched P ops l (E.put o.dst v c) h K := by
          obtain ⟨c, hX, hg⟩ := gdK_det _ hd
          refine hg _ ?_
          unfold opH at hX
          rw [hr] at hX
          exact hX
        obtain ⟨c, hX, hg⟩ := gdK_det _ hX0
        obtain ⟨v, h2, h3⟩ := opR_det _ hX
        have hne : ∀ d, o.dst = some d → d ∉ looks ops o := fun d hd' hl => (rf.look i o d hoi hw hd' i o hoi hl).2 rfl
        have ag1 : AgreeE (looks ops o) E (E.put o.dst v c) := fun t ht => (put_get_ne fun e => hne t e ht).symm
        have st : Stable P ops o (E.put o.dst v c) h := by
          have g1 : gdK ops (E.put o.dst v c) o.guard = gdK ops E o.guard := (gdK_cg ag1.left).symm
          unfold Stable
          rw [g1]
          refine hg _ ⟨v, ?_, fun K' hk' => by rw [← opR_cg ag1.right]; exact h3 K' hk'⟩
          unfold sameV
          split
          · trivial
          · rename_i d hdd
            rw [hdd, put_get_eq]; exact ⟨rfl, fun _ => rfl⟩
        obtain ⟨l2, E2, kn2, bl2, r1, r2, r3, r4, r5, r5b, r6, r7⟩ := ih (E.put o.dst v c) h K dw _ _ du hc h2 (fun r o' ho' q => by
          rw [or_bit, Bool.or_eq_true, decide_eq_true_eq] at q
          by_cases e : i = r
          · subst e; rw [hoi] at ho'; cases ho'; exact st
          · have q := q.resolve_right e
            have hwr := (hb r q).1
            refine (hs r o' ho' q).cg (fun t ht => (put_get_ne fun e' => ?_).symm) fun d hd' => (put_get_ne fun e' => ?_).symm
            · have hanc := (rf.look i o t hoi hw e' r o' ho' ht).1
              have := (hb r q).2 i hanc (by rw [rf.rm i o hoi, hw]; rfl)
              rw [hk] at this; cases this
            · exact rf.dst i o d hoi hw e' r o' ho' (fun z => e z.symm) hd') hb' hbk'
        refine ⟨l2, E2, kn2, bl2, r1, r2, r3, r4, r5, r5b, fun r q => r6 r (by rw [or_bit, q]; rfl), fun s q => ?_⟩
        have e1 := r7 s fun r o' ho' hw' hk' hk2 => q r o' ho' hw' (by rw [or_bit] at hk'; simp at hk'; exact hk'.1) hk2
        rw [e1]
        exact put_get_ne (q i o hoi hw hk (r6 i (by rw [or_bit]; simp)))
end
end Go.Eng
