/-
  THE ENGINE, PART 4u: a drawn region by its plan.
-/
import Derived.Test.YtfjacnhmmilafaaDoorEng4t
namespace Go.Eng
set_option linter.unusedSimpArgs false
set_option linter.unusedVariables false
set_option maxRecDepth 16000
set_option maxHeartbeats 4000000
open Go

def cntF : List Bool → Nat
  | [] => 0
  | true :: l => cntF l
  | false :: l => cntF l + 1
theorem cntF_set : ∀ (l : List Bool) (i : Nat), l[i]? = some false → cntF (l.set i true) + 1 = cntF l
  | b :: l, 0, h => by simp at h; subst h; rfl
  | b :: l, i + 1, h => by
    have := cntF_set l i (by simpa using h)
    cases b <;> simp only [List.set_cons_succ, cntF] <;> omega
theorem cntF_zero : ∀ (l : List Bool), cntF l = 0 → ∀ (i : Nat) b, l[i]? = some b → b = true
  | b :: l, h, 0, c, hc => by simp at hc; subst hc; cases b <;> simp [cntF] at h ⊢
  | b :: l, h, i + 1, c, hc => by cases b <;> simp [cntF] at h; exact cntF_zero l h i c (by simpa using hc)

/-- Is it listed? -/
def Lst (listed : Array Bool) (i : Nat) : Prop := listed.getD i false = true
structure LI (ops : Array Oper) (listed : Array Bool) : Prop where
  size : listed.size = ops.size
  closed : ∀ (j : Nat) oj, ops[j]? = some oj → Lst listed j → ∀ e ∈ oj.after, Region.binds .any e = true → Lst listed e.on

theorem lst_set {listed : Array Bool} {i j : Nat} (hi : i < listed.size) : Lst (listed.setIfInBounds i true) j ↔ (i = j ∨ Lst listed j) := by
  unfold Lst
  simp only [Array.getD_eq_getD_getElem?, Array.getElem?_setIfInBounds]
  by_cases e : i = j
  · subst e; simp [hi]
  · simp [e]
theorem lst_lt {listed : Array Bool} {i : Nat} (h : Lst listed i) : i < listed.size := by
  unfold Lst at h
  refine Nat.lt_of_not_le fun q => ?_
  simp [q] at h
theorem not_lst {listed : Array Bool} {i : Nat} (h : listed.getD i true = false) : ¬ Lst listed i ∧ i < listed.size ∧ listed.toList[i]? = some false := by
  have hlt : i < listed.size := Nat.lt_of_not_le fun q => by simp [q] at h
  simp only [Array.getD_eq_getD_getElem?, Array.getElem?_eq_getElem hlt, Option.getD_some] at h
  refine ⟨?_, hlt, by rw [Array.getElem?_toList, Array.getElem?_eq_getElem hlt, h]⟩
  unfold Lst
  simp [hlt, h]

section
variable {P : Program} {ops : Array Oper} {S : Sch}

theorem anc_lst (rf : RF P ops S) {listed : Array Bool} (li : LI ops listed) : ∀ (m j : Nat), j ≤ m → ∀ i, ancHas S.am j i = true → Lst listed j → Lst listed i := by
  intro m
  induction m with
  | zero =>
    intro j hj i ha hl
    have hlt := lst_lt hl
    rw [li.size] at hlt
    obtain ⟨e, he, hb, q⟩ := rf.anc j ops[j] (Array.getElem?_eq_getElem hlt) i ha
    have := rf.edge j _ (Array.getElem?_eq_getElem hlt) e he hb
    omega
  | succ m ih =>
    intro j hj i ha hl
    have hlt := lst_lt hl
    rw [li.size] at hlt
    have ho := Array.getElem?_eq_getElem hlt
    obtain ⟨e, he, hb, q⟩ := rf.anc j ops[j] ho i ha
    have h1 := rf.edge j _ ho e he hb
    have h2 := li.closed j _ ho hl e he hb
    rcases q with rfl | q
    · exact h2
    · exact ih e.on (by omega) i q h2
theorem ready_anc (rf : RF P ops S) {listed : Array Bool} (li : LI ops listed) {j i : Nat} (hr : j ∈ Region.ready .any ops listed) (ha : ancHas S.am j i = true) : Lst listed i := by
  obtain ⟨h1, o, ho, hall⟩ := mem_ready.1 hr
  obtain ⟨e, he, hb, q⟩ := rf.anc j o ho i ha
  have h2 : Lst listed e.on := hall e he hb
  rcases q with rfl | q
  · exact h2
  · exact anc_lst rf li _ e.on (Nat.le_refl _) i q h2
theorem LI.set {listed : Array Bool} (li : LI ops listed) {i : Nat} (hr : i ∈ Region.ready .any ops listed) : LI ops (listed.setIfInBounds i true) := by
  obtain ⟨h1, o, ho, hall⟩ := mem_ready.1 hr
  have hlt := (not_lst h1).2.1
  refine ⟨by simpa using li.size, fun j oj hj hl e he hb => ?_⟩
  rw [lst_set hlt] at hl ⊢
  rcases hl with rfl | hl
  · rw [ho] at hj; cases hj
    exact .inr (hall e he hb)
  · exact .inr (li.closed j oj hj hl e he hb)
/-- The least that is open may be listed. -/
theorem least_ready (rf : RF P ops S) {listed : Array Bool} (li : LI ops listed) (h : Region.ready .any ops listed = []) : ∀ i, i < ops.size → Lst listed i := by
  intro i
  induction i using Nat.strongRecOn with
  | _ i ih =>
    intro hi
    refine Classical.byContradiction fun q => ?_
    have hf : listed.getD i true = false := by
      have hlt : i < listed.size := by rw [li.size]; exact hi
      unfold Lst at q
      simp only [Array.getD_eq_getD_getElem?, Array.getElem?_eq_getElem hlt, Option.getD_some] at q ⊢
      simpa using q
    have : i ∈ Region.ready .any ops listed := mem_ready.2 ⟨hf, ops[i], Array.getElem?_eq_getElem hi, fun e he hb => ih e.on (rf.edge i _ (Array.getElem?_eq_getElem hi) e he hb) (by have := rf.edge i _ (Array.getElem?_eq_getElem hi) e he hb; omega)⟩
    rw [h] at this; cases this

/-- What a frame's slots hold: those of reads that are still open are left out. -/
def Ag (ops : Array Oper) (S : Sch) (listed : Array Bool) (E : Env) (tmps : Array Value) : Prop :=
  ∀ s v c, E.get s = some (v, c) → (∀ (j : Nat) oj, ops[j]? = some oj → S.wm.testBit j = false → oj.dst = some s → Lst listed j) → tmps[s]? = some (bif c then v else undef)
theorem Ag.keep (rf : RF P ops S) {listed : Array Bool} (li : LI ops listed) {E : Env} {tmps : Array Value} (ag : Ag ops S listed E tmps) {i : Nat} {o : Oper} (ho : ops[i]? = some o) (hr : i ∈ Region.ready .any ops listed) : Holds (E.keep (looks ops o)) tmps := by
  intro s v c hg
  refine ag s v c (keep_get _ _ _ hg) fun j oj hj hw hd => ?_
  exact ready_anc rf li hr (rf.look j oj s hj hw hd i o ho (keep_mem _ _ _ hg)).1

structure Rel (ops : Array Oper) (S : Sch) (listed : Array Bool) (dw kn bl du : Nat) : Prop where
  w : ∀ i, i < ops.size → S.wm.testBit i = true → (Lst listed i ↔ dw.testBit i = true)
  r : ∀ i, i < ops.size → S.wm.testBit i = false → Lst listed i → kn.testBit i = true
  u : ∀ r, du.testBit r = true → ∃ w, Lst listed w ∧ ancHas S.am w r = true
  b : ∀ r, bl.testBit r = true → S.wm.testBit r = false ∧ kn.testBit r = true

theorem act_put_get {a : Act} {d : Option Tmp} {v : Value} {s : Nat} (hd : ∀ s, d = some s → s < a.tmps.size) : (a.put d v).tmps[s]? = if d = some s then some v else a.tmps[s]? := by
  cases d with
  | none => simp [Act.put]
  | some t =>
    have := hd t rfl
    simp only [Act.put, Array.getElem?_setIfInBounds, Option.some.injEq]
    by_cases e : t = s
    · subst e; simp [this]
    · simp [e]

theorem any_main (rf : RF P ops S) {n : Nat} {K : Env → Heap → Prop} {Q : Exit → Act → World → Prop} {w0 : World} (hdst : ops.toList.all (dstOk n) = true)
    (hQ : ∀ E a w, Holds E a.tmps → a.tmps.size = n → a.defers = [] → Same w0 w → K E w.heap → Q .normal a w) :
    ∀ (fuel : Nat) (listed : Array Bool) (a : Act) (w : World) (l : Plan) (E : Env) (dw kn bl du : Nat), LI ops listed → cntF listed.toList ≤ fuel → Rel ops S listed dw kn bl du → NextW l → chk S ops.size l false dw kn bl du = true →
    devSched P ops l E w.heap K → (∀ (r : Nat) o, ops[r]? = some o → bl.testBit r = true → Stable P ops o E w.heap) → Ag ops S listed E a.tmps → a.tmps.size = n → a.defers = [] → Same w0 w → wpAny P .any ops Q fuel listed a w := by
  -- the end
  have fin : ∀ (listed : Array Bool) (a : Act) (w : World) (l : Plan) (E : Env) (dw kn bl du : Nat), (∀ i, i < ops.size → Lst listed i) → Rel ops S listed dw kn bl du → NextW l → chk S ops.size l false dw kn bl du = true →
      devSched P ops l E w.heap K → Ag ops S listed E a.tmps → a.tmps.size = n → a.defers = [] → Same w0 w → Q .normal a w := by
    intro listed a w l E dw kn bl du hall rel nx hc hd ag hn hdf hs
    rcases nx with rfl | ⟨i, p, alt, rfl⟩
    · exact hQ E a w (fun s v c hg => ag s v c hg fun j oj hj _ _ => hall j (Array.getElem?_eq_some_iff.1 hj).1) hn hdf hs hd
    · exfalso
      obtain ⟨h1, h2, h3, -⟩ := chk_alt (i := i) (p := p) hc (by simp [Plan.alts])
      have := (rel.w i h1 h2).1 (hall i h1)
      rw [h3] at this
      cases this
  intro fuel
  induction fuel with
  | zero =>
    intro listed a w l E dw kn bl du li hcnt rel nx hc hd hst ag hn hdf hs
    have hall : ∀ i, i < ops.size → Lst listed i := fun i hi => by
      have hlt : i < listed.size := by rw [li.size]; exact hi
      have := cntF_zero listed.toList (by omega) i listed[i] (by rw [Array.getElem?_toList, Array.getElem?_eq_getElem hlt])
      unfold Lst
      simp [hlt, this]
    refine ⟨?_, fin listed a w l E dw kn bl du hall rel nx hc hd ag hn hdf hs⟩
    refine List.eq_nil_iff_forall_not_mem.2 fun i hi => ?_
    obtain ⟨h1, o, ho, -⟩ := mem_ready.1 hi
    exact (not_lst h1).1 (hall i (Array.getElem?_eq_some_iff.1 ho).1)
  | succ fuel ih =>
    intro listed a w l E dw kn bl du li hcnt rel nx hc hd hst ag hn hdf hs
    refine ⟨fun hr => fin listed a w l E dw kn bl du (least_ready rf li hr) rel nx hc hd ag hn hdf hs, fun i hi => ?_⟩
    obtain ⟨h1, o, ho, hdeps⟩ := mem_ready.1 hi
    obtain ⟨hnl, hlt, hf⟩ := not_lst h1
    have hiN : i < ops.size := by rw [← li.size]; exact hlt
    have li' := li.set hi
    have hcnt' : cntF (listed.setIfInBounds i true).toList ≤ fuel := by
      have := cntF_set listed.toList i hf
      rw [Array.toList_setIfInBounds]
      omega
    have hdo : ∀ s, o.dst = some s → s < a.tmps.size := fun s hs' => by
      have := List.all_eq_true.1 hdst o (by rw [List.mem_iff_getElem?]; exact ⟨i, by rw [Array.getElem?_toList]; exact ho⟩)
      unfold dstOk at this; rw [hs'] at this; rw [hn]; exact of_decide_eq_true this
    unfold wpOp
    simp only [ho]
    have hE := ag.keep rf li ho hi
    have agE : AgreeE (looks ops o) E (E.keep (looks ops o)) := keep_agree
    cases hw : S.wm.testBit i with
    | false =>
      -- a read
      have hcomp : bl.testBit i = true := by
        have hcp : complete S ops.size dw bl du = true := by
          rcases nx with rfl | ⟨i', p, alt, rfl⟩
          · simp only [chk, Bool.not_false, Bool.true_and, Bool.and_eq_true] at hc; exact hc.1
          · simp only [chk, Bool.false_or, Bool.and_eq_true] at hc; exact hc.1.1.1.1.1.1
        have := List.all_eq_true.1 hcp i (List.mem_range.2 hiN)
        simp only [hw, Bool.false_or, Bool.or_eq_true, bne_iff_ne] at this
        rcases this with (q | q) | q
        · exact q
        · obtain ⟨w', hw1, hw2⟩ := rel.u i q
          exact (hnl (anc_lst rf li _ w' (Nat.le_refl _) i hw2 hw1)).elim
        · obtain ⟨j, q1, q2, q3⟩ := and_ne_bit q
          have hl := ready_anc rf li hi (show ancHas S.am i j = true from q1)
          have hjN : j < ops.size := by rw [← li.size]; exact lst_lt hl
          rw [(rel.w j hjN q2).1 hl] at q3
          cases q3
      have st := hst i o ho hcomp
      have st' : gdK ops (E.keep (looks ops o)) o.guard fun c => ∃ v', sameV E o.dst c v' ∧ ∀ K', K' v' → opR P o.type (E.keep (looks ops o)) c w.heap o.op K' := by
        rw [← gdK_cg agE.left]
        obtain ⟨c, ⟨v', q1, q2⟩, q3⟩ := gdK_det _ st
        exact q3 _ ⟨v', q1, fun K' hk => by rw [← opR_cg agE.right]; exact q2 K' hk⟩
      obtain ⟨c, ⟨v', hv, hop⟩, hwt⟩ := gdK_sound st' hE
      rw [hwt]
      -- what is put
      have key : ∀ u, u = (bif c then v' else undef) → wpAny P .any ops Q fuel (listed.setIfInBounds i true) (a.put o.dst u) w := by
        intro u hu
        refine ih _ _ w l E dw kn bl du li' hcnt' ⟨fun j hj hwj => ?_, fun j hj hwj hl => ?_, fun r hr => ?_, rel.b⟩ nx hc hd hst ?_ ((put_size _ _ _).trans hn) ((put_defers _ _ _).trans hdf) hs
        · rw [lst_set hlt, ← rel.w j hj hwj]
          exact ⟨fun q => q.resolve_left fun e => (by rw [e, hwj] at hw; cases hw), Or.inr⟩
        · rw [lst_set hlt] at hl
          rcases hl with rfl | hl
          · exact (rel.b _ hcomp).2
          · exact rel.r j hj hwj hl
        · obtain ⟨w', q1, q2⟩ := rel.u r hr
          exact ⟨w', (lst_set hlt).2 (.inr q1), q2⟩
        · intro s v c' hg hcond
          rw [act_put_get hdo]
          by_cases e : o.dst = some s
          · rw [if_pos e, hu]
            unfold sameV at hv
            rw [e] at hv
            simp only [hg, sameG] at hv
            obtain ⟨rfl, hv⟩ := hv
            cases c' with
            | true => rw [hv rfl]
            | false => rfl
          · rw [if_neg e]
            refine ag s v c' hg fun j oj hj hwj hd' => ?_
            have := hcond j oj hj hwj hd'
            rw [lst_set hlt] at this
            refine this.resolve_left fun q => ?_
            subst q
            rw [ho] at hj; cases hj
            exact e hd'
      cases c with
      | true =>
        simp only [if_true]
        obtain ⟨u, rfl, q⟩ := opR_wp (K := fun u => u = v') hE (hop _ rfl)
        exact .inl (q rfl _ _ (key _ rfl))
      | false =>
        simp only [Bool.false_eq_true, if_false]
        exact key _ rfl
    | true =>
      obtain ⟨l', hmem⟩ : ∃ l', (i, l') ∈ l.alts := by
        rcases nx with rfl | ⟨i', p, alt, rfl⟩
        · exfalso
          simp only [chk, Bool.not_false, Bool.true_and, Bool.and_eq_true] at hc
          have := List.all_eq_true.1 hc.2 i (List.mem_range.2 hiN)
          simp only [hw, Bool.not_true, Bool.false_or] at this
          exact hnl ((rel.w i hiN hw).2 this)
        · simp only [chk, Bool.false_or, Bool.and_eq_true] at hc
          have := List.all_eq_true.1 hc.1.1.1.1.1.2 i (List.mem_range.2 hiN)
          simp only [hw, Bool.not_true, Bool.false_or, Bool.or_eq_true, bne_iff_ne] at this
          rcases this with (q | q) | q
          · exact (hnl ((rel.w i hiN hw).2 q)).elim
          · obtain ⟨⟨j, p'⟩, q1, q2⟩ := List.any_eq_true.1 q
            have e : j = i := by simpa using q2
            rw [e] at q1
            exact ⟨p', q1⟩
          · obtain ⟨j, q1, q2, q3⟩ := and_ne_bit q
            have hl := ready_anc rf li hi (show ancHas S.am i j = true from q1)
            have hjN : j < ops.size := by rw [← li.size]; exact lst_lt hl
            rw [(rel.w j hjN q2).1 hl] at q3
            cases q3
      obtain ⟨-, -, -, hc⟩ := chk_alt hc hmem
      have hd := dev_alt hd hmem
      simp only [nthO_eq, Array.getElem?_toList, ho, schO, cond_false] at hd
      have hd' : gdK ops (E.keep (looks ops o)) o.guard fun c => opH P o.type (E.keep (looks ops o)) c w.heap o.op (opsK (devSched P ops l') E o.dst c K) := by
        rw [← gdK_cg agE.left]
        obtain ⟨c, q1, q2⟩ := gdK_det _ hd
        exact q2 _ (by rw [← opH_cg agE.right]; exact q1)
      obtain ⟨c, hop, hwt⟩ := gdK_sound hd' hE
      obtain ⟨p1, p2⟩ := opH_wp hE hop
      rw [hwt]
      have key : ∀ u v w', Same w w' → u = (bif c then v else undef) → devSched P ops l' (E.put o.dst v c) w'.heap K → wpAny P .any ops Q fuel (listed.setIfInBounds i true) (a.put o.dst u) w' := by
        intro u v w' hsame hu hdd
        obtain ⟨l2, E2, kn2, bl2, r1, r2, r3, r4, r5, r5b, r6, r7⟩ := block_run rf l' _ _ K _ kn 0 _ hc hdd (by simp) (by simp) (by simp)
        refine ih _ _ w' l2 E2 _ kn2 bl2 _ li' hcnt' ⟨fun j hj hwj => ?_, fun j hj hwj hl => ?_, fun r hr => ?_, fun r hr => ⟨r5 r hr, r5b r hr⟩⟩ r2 r1 r3 r4 ?_ ((put_size _ _ _).trans hn) ((put_defers _ _ _).trans hdf) (hs.trans hsame)
        · rw [lst_set hlt, or_bit, rel.w j hj hwj, Bool.or_eq_true, decide_eq_true_eq]
          exact Or.comm
        · rw [lst_set hlt] at hl
          rcases hl with rfl | hl
          · rw [hw] at hwj; cases hwj
          · exact r6 j (rel.r j hj hwj hl)
        · rw [Nat.testBit_or, Bool.or_eq_true] at hr
          rcases hr with hr | hr
          · obtain ⟨w', q1, q2⟩ := rel.u r hr
            exact ⟨w', (lst_set hlt).2 (.inr q1), q2⟩
          · exact ⟨i, (lst_set hlt).2 (.inl rfl), hr⟩
        · intro s v' c' hg hcond
          have e2 : E2.get s = (E.put o.dst v c).get s := r7 s fun r o' ho' hwr hkr hk2 hds => by
            have := hcond r o' ho' hwr hds
            rw [lst_set hlt] at this
            rcases this with rfl | this
            · rw [hw] at hwr; cases hwr
            · rw [rel.r r (Array.getElem?_eq_some_iff.1 ho').1 hwr this] at hkr; cases hkr
          rw [e2] at hg
          rw [act_put_get hdo]
          by_cases e : o.dst = some s
          · rw [if_pos e]
            rw [e, put_get_eq] at hg
            cases hg
            rw [hu]
          · rw [if_neg e]
            rw [put_get_ne e] at hg
            refine ag s v' c' hg fun j oj hj hwj hds => ?_
            have := hcond j oj hj hwj hds
            rw [lst_set hlt] at this
            exact this.resolve_left fun q => (by subst q; rw [hw] at hwj; cases hwj)
      cases c with
      | true =>
        simp only [if_true]
        exact .inl (p1 rfl _ _ fun v w' hsame hk => key v v w' hsame rfl hk)
      | false =>
        simp only [Bool.false_eq_true, if_false]
        obtain ⟨v, hk⟩ := p2 rfl
        exact key undef v w (Same.refl w) rfl hk

theorem wp_region_plan {id : Nat} {n : Nat} {K : Env → Heap → Prop} {Q : Exit → Act → World → Prop} {w0 w : World} {E : Env} {a : Act} (hm : P.follows .mixedOrders = true) (hok : schOk P ops S = true) (hdst : ops.toList.all (dstOk n) = true)
    (hQ : ∀ E a w, Holds E a.tmps → a.tmps.size = n → a.defers = [] → Same w0 w → K E w.heap → Q .normal a w) (hE : Holds E a.tmps) (hn : a.tmps.size = n) (hd : a.defers = []) (hs : Same w0 w) (h : devSched P ops S.l E w.heap K) :
    (Code.region id ops true).wp P Q a w := by
  obtain ⟨rf, hc⟩ := rf_of hok
  obtain ⟨l2, E2, kn2, bl2, r1, r2, r3, r4, r5, r5b, r6, r7⟩ := block_run rf S.l E w.heap K 0 0 0 0 hc h (by simp) (by simp) (by simp)
  refine wp_region_any hm ?_
  have hno : ∀ i, ¬ Lst (Array.replicate ops.size false) i := fun i q => by
    have hlt := lst_lt q
    unfold Lst at q
    simp at hlt
    simp [hlt] at q
  have hcnt : ∀ m, cntF (List.replicate m false) = m := by
    intro m
    induction m with
    | zero => rfl
    | succ m ih => simp [List.replicate_succ, cntF, ih]
  refine any_main rf hdst hQ ops.size (Array.replicate ops.size false) a { w with drawn := w.drawn + 1 } l2 E2 0 kn2 bl2 0 ⟨by simp, fun j oj hj hl => (hno j hl).elim⟩ (by simp [hcnt]) ⟨fun j hj hw => ⟨fun q => (hno j q).elim, fun q => by simp at q⟩, fun j hj hw hl => (hno j hl).elim, fun r hr => by simp at hr, fun r hr => ⟨r5 r hr, r5b r hr⟩⟩ r2 r1 r3 r4 ?_ hn hd ⟨hs.os, hs.tape, hs.output, Nat.le_trans hs.drawn (Nat.le_succ _)⟩
  intro s v c hg hcond
  refine hE s v c ?_
  rw [← r7 s fun r o ho hw _ _ hds => (hno r (hcond r o ho hw hds))]
  exact hg
end
end Go.Eng
