/-
  THE ENGINE, PART 3: one operation: what it says of memory holds of the machine.
-/
import Derived.Test.YtfjacnhmmilafaaDoorEng2
namespace Go.Eng
set_option linter.unusedSimpArgs false
set_option linter.unusedVariables false
set_option maxRecDepth 16000
set_option maxHeartbeats 4000000
open Go

theorem some_bind_value {P : Program} {s : Sem Value} {h : Heap} {v : Value} (hs : runD P s h = some v) : runD P (do pure (Next.value (← s)) : Sem Next) h = some (.value v) := by
  rw [runD_bind, hs]; rfl

theorem opR_run {P : Program} {o : Oper} {E : Env} {c : Bool} {h : Heap} {K : Value → Prop} {a : Act} (hE : Holds E a.tmps) (hop : opR P o.type E c h o.op K) :
    ∃ v, K v ∧ (c = true → runD P (execOp a.eval o) h = some (.value v)) := by
  obtain ⟨dst, op, type, pos, after, guard⟩ := o
  simp only at hop ⊢
  cases op <;> simp only [opR] at hop
  case move x => obtain ⟨v, hK, e⟩ := evK_sound hop hE; exact ⟨v, hK, fun hc => by simp [execOp, e hc]⟩
  case assign x => obtain ⟨v, hK, e⟩ := evK_sound hop hE; exact ⟨v, hK, fun hc => by simp [execOp, e hc]⟩
  case pick cn x y =>
    obtain ⟨vc, h1, e1⟩ := evK_sound hop hE
    unfold pickK at h1
    split at h1
    · rename_i b
      obtain ⟨vx, h2, e2⟩ := evK_sound h1 hE
      obtain ⟨vy, h3, e3⟩ := evK_sound h2 hE
      refine ⟨_, h3, fun hc => ?_⟩
      subst hc
      simp only [execOp, e1 rfl]
      cases b
      · simp [e3 (by rfl), asBool]
      · simp [e2 (by rfl), asBool]
    · exact ⟨undef, h1.2, fun hc => by rw [h1.1] at hc; cases hc⟩
  case load t x =>
    obtain ⟨v, h1, e1⟩ := evK_sound hop hE
    obtain ⟨u, hK, e2⟩ := rdK_sound h1
    exact ⟨u, hK, fun hc => by simp only [execOp, e1 hc]; exact some_bind_value (e2 hc)⟩
  case nilCheck x =>
    obtain ⟨v, h1, e1⟩ := evK_sound hop hE
    obtain ⟨u, hK, e2⟩ := rdK_sound h1
    refine ⟨u, hK, fun hc => ?_⟩
    have := e2 hc
    simp only [execOp, e1 hc]
    unfold nilV at this
    split at this
    · cases this
    · cases this
    · cases this
    · cases this
    · rename_i n1 n2 n3 n4
      cases this
      split
      · exact (n1 rfl).elim
      · exact (n2 rfl).elim
      · exact (n3 rfl).elim
      · exact (n4 _ _ _ rfl).elim
      · rfl
  case binOp o xt x y yt =>
    obtain ⟨v, h1, e1⟩ := evK_sound hop hE
    obtain ⟨u, h2, e2⟩ := evK_sound h1 hE
    obtain ⟨r, hK, e3⟩ := rdK_sound h2
    exact ⟨r, hK, fun hc => by simp only [execOp, e1 hc, e2 hc]; exact some_bind_value (e3 hc)⟩
  case unOp o t x =>
    obtain ⟨v, h1, e1⟩ := evK_sound hop hE
    obtain ⟨u, hK, e2⟩ := rdK_sound h1
    exact ⟨u, hK, fun hc => by simp only [execOp, e1 hc]; exact some_bind_value (e2 hc)⟩
  case convert s d x =>
    obtain ⟨v, h1, e1⟩ := evK_sound hop hE
    obtain ⟨u, hK, e2⟩ := rdK_sound h1
    exact ⟨u, hK, fun hc => by simp only [execOp, e1 hc]; exact some_bind_value (e2 hc)⟩
  case slice t x lo hi mx =>
    obtain ⟨v, h1, e1⟩ := evK_sound hop hE
    obtain ⟨l, h2, e2⟩ := evO_sound hE h1
    obtain ⟨u, h3, e3⟩ := evO_sound hE h2
    obtain ⟨m, h4, e4⟩ := evO_sound hE h3
    obtain ⟨r, hK, e5⟩ := rdK_sound h4
    exact ⟨r, hK, fun hc => by simp only [execOp, e1 hc, e2 hc, e3 hc, e4 hc]; exact some_bind_value (e5 hc)⟩
  case fieldAddr s x f =>
    obtain ⟨v, h1, e1⟩ := evK_sound hop hE
    obtain ⟨u, hK, e2⟩ := rdK_sound h1
    exact ⟨u, hK, fun hc => by simp only [execOp, e1 hc]; exact some_bind_value (e2 hc)⟩
  case field s x f =>
    obtain ⟨v, h1, e1⟩ := evK_sound hop hE
    obtain ⟨u, hK, e2⟩ := rdK_sound h1
    exact ⟨u, hK, fun hc => by simp only [execOp, e1 hc]; exact some_bind_value (e2 hc)⟩
  case indexAddr t x i =>
    obtain ⟨v, h1, e1⟩ := evK_sound hop hE
    obtain ⟨u, h2, e2⟩ := evK_sound h1 hE
    obtain ⟨r, hK, e3⟩ := rdK_sound h2
    exact ⟨r, hK, fun hc => by simp only [execOp, e1 hc, e2 hc]; exact some_bind_value (e3 hc)⟩
  case index t x i =>
    obtain ⟨v, h1, e1⟩ := evK_sound hop hE
    obtain ⟨u, h2, e2⟩ := evK_sound h1 hE
    obtain ⟨r, hK, e3⟩ := rdK_sound h2
    exact ⟨r, hK, fun hc => by simp only [execOp, e1 hc, e2 hc]; exact some_bind_value (e3 hc)⟩
  case lookup t x i ok =>
    obtain ⟨v, h1, e1⟩ := evK_sound hop hE
    obtain ⟨u, h2, e2⟩ := evK_sound h1 hE
    obtain ⟨r, hK, e3⟩ := rdK_sound h2
    exact ⟨r, hK, fun hc => by simp only [execOp, e1 hc, e2 hc]; exact some_bind_value (e3 hc)⟩
  case extract x i =>
    obtain ⟨v, h1, e1⟩ := evK_sound hop hE
    obtain ⟨u, hK, e2⟩ := rdK_sound h1
    exact ⟨u, hK, fun hc => by simp only [execOp, e1 hc]; exact some_bind_value (e2 hc)⟩
  case build t ps =>
    obtain ⟨vs, h1, e1⟩ := evP_sound hE hop
    obtain ⟨u, hK, e2⟩ := rdK_sound h1
    refine ⟨u, hK, fun hc => ?_⟩
    have e : ps.map (fun (i, x) => (i, a.eval x)) = vs.toArray := by
      apply Array.toList_inj.1
      rw [Array.toList_map]
      exact e1 hc
    simp only [execOp, e]
    exact some_bind_value (e2 hc)
  case makeFunc fn f g =>
    obtain ⟨vf, h1, e1⟩ := evL_sound hE hop
    obtain ⟨vg, hK, e2⟩ := evL_sound hE h1
    refine ⟨_, hK, fun hc => ?_⟩
    have ef : f.map a.eval = vf.toArray := by apply Array.toList_inj.1; rw [Array.toList_map]; exact e1 hc
    have eg : g.map a.eval = vg.toArray := by apply Array.toList_inj.1; rw [Array.toList_map]; exact e2 hc
    simp only [execOp, ef, eg, Instr.makeFunc]
    rfl
  case makeInterface t x =>
    obtain ⟨v, h1, e1⟩ := evK_sound hop hE
    obtain ⟨u, hK, e2⟩ := rdK_sound h1
    exact ⟨u, hK, fun hc => by simp only [execOp, e1 hc]; exact some_bind_value (e2 hc)⟩
  case entry x =>
    obtain ⟨v, h1, e1⟩ := evK_sound hop hE
    obtain ⟨u, hK, e2⟩ := rdK_sound h1
    exact ⟨u, hK, fun hc => by simp only [execOp, e1 hc]; exact some_bind_value (e2 hc)⟩
  case call cl =>
    obtain ⟨callee, args, tys⟩ := cl
    cases callee <;> simp only at hop
    case builtin b =>
      obtain ⟨hq, hop⟩ := hop
      obtain ⟨vs, h1, e1⟩ := evL_sound hE hop
      obtain ⟨u, hK, e2⟩ := rdK_sound h1
      refine ⟨u, hK, fun hc => ?_⟩
      have ef : args.map a.eval = vs.toArray := by apply Array.toList_inj.1; rw [Array.toList_map]; exact e1 hc
      have e3 := e2 hc
      cases b <;> simp [quietB] at hq <;> simp only [execOp, resolve, invoke, pure_bind, builtin, ef] <;> exact some_bind_value e3
  all_goals exact hop.elim

theorem opR_wp {P : Program} {o : Oper} {E : Env} {c : Bool} {w : World} {K : Value → Prop} {a : Act} (hE : Holds E a.tmps) (hop : opR P o.type E c w.heap o.op K) :
    ∃ v, K v ∧ (c = true → ∀ next Q, next (a.put o.dst v) w → o.wp P a w next Q) := by
  obtain ⟨v, hK, e⟩ := opR_run hE hop
  refine ⟨v, hK, fun hc next Q hn => ?_⟩
  have := runD_sound _ (e hc)
  simp only [Oper.wp, this, Oper.upon]
  exact hn

theorem opR_still {P : Program} {o : Oper} {E : Env} {c : Bool} {w : World} {K : Value → Prop} {a : Act} (hE : Holds E a.tmps) (hop : opR P o.type E c w.heap o.op K) :
    ∃ v, K v ∧ (c = true → ∀ next, next (a.put o.dst v) → o.still P a w next) := by
  obtain ⟨v, hK, e⟩ := opR_run hE hop
  refine ⟨v, hK, fun hc next hn => ?_⟩
  have := runD_sound _ (e hc)
  simp only [Oper.still, this, Oper.stillUpon]
  exact ⟨trivial, hn⟩

/-- What an operation that is no call leaves. -/
def NextOk (K : Value → Heap → Prop) (n : Next) (h : Heap) : Prop :=
  match n with
  | .value v => K v h
  | .skip => K undef h
  | _ => False

theorem wp_of_runH {P : Program} {o : Oper} {a : Act} {w : World} {K : Value → Heap → Prop} (h : runH P (execOp a.eval o) w.heap (NextOk K))
    {next : Act → World → Prop} {Q : Exit → Act → World → Prop} (hn : ∀ v w', Same w w' → K v w'.heap → next (a.put o.dst v) w') : o.wp P a w next Q := by
  obtain ⟨n, w', hr, hs, hk⟩ := runH_sound _ h
  simp only [Oper.wp, hr]
  cases n <;> simp only [NextOk] at hk <;> first | exact hk.elim | exact hn _ _ hs hk

theorem wp_of_enter {P : Program} {o : Oper} {a : Act} {w : World} {f : FuncId} {args : Array Value} {K : Value → Heap → Prop} (h : runD P (execOp a.eval o) w.heap = some (.enter f args)) (hc : HCalls P f args w.heap K)
    {next : Act → World → Prop} {Q : Exit → Act → World → Prop} (hn : ∀ v w', Same w w' → K v w'.heap → next (a.put o.dst v) w') : o.wp P a w next Q := by
  have := runD_sound _ h
  simp only [Oper.wp, this, Oper.upon]
  refine (hc w rfl).mono ?_
  rintro e w' ⟨hs, v, rfl, hk⟩
  exact hn _ _ hs hk

theorem runD_callFunc {P : Program} {f : FuncId} {args : Array Value} {h : Heap} (hf : okFn P f = true) : runD P (callFunc f args) h = some (.enter f args) := by
  unfold okFn at hf
  split at hf
  · rename_i fn hfn
    simp only [Bool.and_eq_true, Bool.not_eq_true'] at hf
    obtain ⟨h1, h2⟩ := hf
    unfold callFunc
    rw [runD_bind]
    have : runD P (program) h = some P := rfl
    rw [this]
    simp only [Option.bind_some, hfn, h1, Bool.false_eq_true, if_false]
    have h3 : fn.body.isNone = false := by cases hb : fn.body <;> simp [hb] at h2 ⊢
    simp [h3]
  · cases hf

theorem wrK_of {c : Bool} {h : Heap} {X : Prop} {K : Value → Heap → Prop} (hw : wrK c h X K) : (c = true → X) ∧ (c = false → K undef h) := hw

theorem runH_value {P : Program} {s : Sem Value} {h : Heap} {K : Value → Heap → Prop} (hs : runH P s h K) : runH P (do pure (Next.value (← s)) : Sem Next) h (NextOk K) := by
  rw [runH_bind]; exact hs

theorem runH_unit {P : Program} {s : Sem Unit} {h : Heap} {K : Value → Heap → Prop} (hs : runH P s h fun _ h' => K undef h') : runH P (do s; pure Next.skip : Sem Next) h (NextOk K) := by
  rw [runH_bind]; exact hs

theorem opW_wp {P : Program} {o : Oper} {E : Env} {c : Bool} {w : World} {K : Value → Heap → Prop} {a : Act} (hE : Holds E a.tmps) (hop : opW P o.type E c w.heap o.op K) :
    (c = true → ∀ next Q, (∀ v w', Same w w' → K v w'.heap → next (a.put o.dst v) w') → o.wp P a w next Q) ∧ (c = false → K undef w.heap) := by
  obtain ⟨dst, op, type, pos, after, guard⟩ := o
  simp only at hop ⊢
  cases op <;> simp only [opW] at hop
  case alloc t => exact ⟨fun hc next Q hn => wp_of_runH (K := K) (runH_value (hop.1 hc)) hn, hop.2⟩
  case box t x =>
    obtain ⟨v, h1, e1⟩ := evK_sound hop hE
    exact ⟨fun hc next Q hn => wp_of_runH (K := K) (by simp only [execOp, e1 hc]; exact runH_value (h1.1 hc)) hn, h1.2⟩
  case buildSlice t n ps =>
    obtain ⟨vs, h1, e1⟩ := evP_sound hE hop
    refine ⟨fun hc next Q hn => wp_of_runH (K := K) ?_ hn, h1.2⟩
    have e : ps.map (fun (i, x) => (i, a.eval x)) = vs.toArray := by
      apply Array.toList_inj.1
      rw [Array.toList_map]
      exact e1 hc
    simp only [execOp, e]
    exact runH_value (h1.1 hc)
  case store t x y =>
    obtain ⟨v, h1, e1⟩ := evK_sound hop hE
    obtain ⟨u, h2, e2⟩ := evK_sound h1 hE
    exact ⟨fun hc next Q hn => wp_of_runH (K := K) (by simp only [execOp, e1 hc, e2 hc]; exact runH_unit (h2.1 hc)) hn, h2.2⟩
  case mapUpdate t m k x =>
    obtain ⟨v, h1, e1⟩ := evK_sound hop hE
    obtain ⟨u, h2, e2⟩ := evK_sound h1 hE
    obtain ⟨r, h3, e3⟩ := evK_sound h2 hE
    exact ⟨fun hc next Q hn => wp_of_runH (K := K) (by simp only [execOp, e1 hc, e2 hc, e3 hc]; exact runH_unit (h3.1 hc)) hn, h3.2⟩
  case insert t m k x =>
    obtain ⟨v, h1, e1⟩ := evK_sound hop hE
    obtain ⟨u, h2, e2⟩ := evK_sound h1 hE
    obtain ⟨r, h3, e3⟩ := evK_sound h2 hE
    exact ⟨fun hc next Q hn => wp_of_runH (K := K) (by simp only [execOp, e1 hc, e2 hc, e3 hc]; exact runH_unit (h3.1 hc)) hn, h3.2⟩
  case makeMap t r =>
    obtain ⟨v, h1, e1⟩ := evO_sound hE hop
    exact ⟨fun hc next Q hn => wp_of_runH (K := K) (by simp only [execOp, e1 hc]; exact runH_value (h1.1 hc)) hn, h1.2⟩
  case makeSlice t x y =>
    obtain ⟨v, h1, e1⟩ := evK_sound hop hE
    obtain ⟨u, h2, e2⟩ := evK_sound h1 hE
    exact ⟨fun hc next Q hn => wp_of_runH (K := K) (by simp only [execOp, e1 hc, e2 hc]; exact runH_value (h2.1 hc)) hn, h2.2⟩
  case convert s d x =>
    obtain ⟨v, h1, e1⟩ := evK_sound hop hE
    exact ⟨fun hc next Q hn => wp_of_runH (K := K) (by simp only [execOp, e1 hc]; exact runH_value (h1.1 hc)) hn, h1.2⟩
  case range t x =>
    obtain ⟨v, h1, e1⟩ := evK_sound hop hE
    exact ⟨fun hc next Q hn => wp_of_runH (K := K) (by simp only [execOp, e1 hc]; exact runH_value (h1.1 hc)) hn, h1.2⟩
  case next x st =>
    obtain ⟨v, h1, e1⟩ := evK_sound hop hE
    exact ⟨fun hc next Q hn => wp_of_runH (K := K) (by simp only [execOp, e1 hc]; exact runH_value (h1.1 hc)) hn, h1.2⟩
  case mapEntry t m k =>
    obtain ⟨v, h1, e1⟩ := evK_sound hop hE
    obtain ⟨u, h2, e2⟩ := evK_sound h1 hE
    exact ⟨fun hc next Q hn => wp_of_runH (K := K) (by simp only [execOp, e1 hc, e2 hc]; exact runH_value (h2.1 hc)) hn, h2.2⟩
  case entryStore t m s x =>
    obtain ⟨v, h1, e1⟩ := evK_sound hop hE
    obtain ⟨u, h2, e2⟩ := evK_sound h1 hE
    obtain ⟨r, h3, e3⟩ := evK_sound h2 hE
    exact ⟨fun hc next Q hn => wp_of_runH (K := K) (by simp only [execOp, e1 hc, e2 hc, e3 hc]; exact runH_unit (h3.1 hc)) hn, h3.2⟩
  case call cl =>
    obtain ⟨callee, args, tys⟩ := cl
    cases callee
    case builtin b =>
      obtain ⟨vs, h1, e1⟩ := evL_sound hE hop
      refine ⟨fun hc next Q hn => wp_of_runH (K := K) ?_ hn, h1.2⟩
      have ef : args.map a.eval = vs.toArray := by apply Array.toList_inj.1; rw [Array.toList_map]; exact e1 hc
      have e3 := h1.1 hc
      cases b <;> first
        | exact False.elim e3
        | (simp only [execOp, resolve, invoke, pure_bind, builtin, ef]; exact runH_value e3)
    case value x =>
      cases x
      case func f =>
        obtain ⟨hf, hop⟩ := hop
        obtain ⟨vs, h1, e1⟩ := evL_sound hE hop
        refine ⟨fun hc next Q hn => wp_of_enter (K := K) (f := f) (args := vs.toArray) ?_ (h1.1 hc) hn, h1.2⟩
        have ef : args.map a.eval = vs.toArray := by apply Array.toList_inj.1; rw [Array.toList_map]; exact e1 hc
        simp only [execOp, resolve, Act.eval, Deferred.ofValue, pure_bind, invoke, ef]
        simpa using runD_callFunc hf
      all_goals
        obtain ⟨v, h1, e1⟩ := evK_sound hop hE
        obtain ⟨vs, h2, e2⟩ := evL_sound hE h1
        refine ⟨fun hc next Q hn => ?_, h2.2⟩
        have h3 := h2.1 hc
        have ef : args.map a.eval = vs.toArray := by apply Array.toList_inj.1; rw [Array.toList_map]; exact e2 hc
        unfold callV at h3
        split at h3
        · obtain ⟨hf, hcall⟩ := h3
          refine wp_of_enter (K := K) ?_ hcall hn
          simp only [execOp, resolve, e1 hc, Deferred.ofValue, pure_bind, invoke, ef]
          exact runD_callFunc hf
        · exact h3.elim
    case invoke => exact hop.elim
  all_goals exact hop.elim

end Go.Eng
