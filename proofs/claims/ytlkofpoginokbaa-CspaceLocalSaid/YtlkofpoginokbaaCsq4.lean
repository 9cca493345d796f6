/-
  Layer 12: the plain laws: guards, more bits, other slots.
-/
import Derived.Test.YtlkofpoginokbaaCsq1
namespace Go.Eng
set_option linter.unusedSimpArgs false
set_option linter.unusedVariables false
set_option maxRecDepth 16000
set_option maxHeartbeats 4000000
open Go Go.Proofs
theorem resM_succ {L : List Nd} {w : Int} {f : Nat} {c : Cap} {left : Int} : resM L w (f + 1) c left = 
    if left < c.W then (0, 0, 0, 122)
    else if takeV w left c.W ≠ c.G then (0, 0, 0, 122)
    else if left - c.W < c.X then (0, 0, 0, 123)
    else if radixN L c.O ≠ c.X then (0, 0, 0, 120)
    else if left - c.W - c.X = 0 ∨ (getN L c.O (takeV w (left - c.W) c.X)).1.K ≠ 2 then (c.O, takeV w (left - c.W) c.X, left - c.W - c.X, 0)
    else resM L w f (getN L c.O (takeV w (left - c.W) c.X)).1 (left - c.W - c.X) := rfl
/-- N3: the guard. -/
theorem guards_plain {L : List Nd} {root : Cap} {w depth g : Int} (h : (resolveN L root w depth).2.2.2 = 0) (hr : RightP { root with G := g }) (hg : g ≠ root.G) : (resolveN L { root with G := g } w depth).2.2.2 = 122 := by
  unfold resolveN at h ⊢
  split at h
  · cases h
  rename_i q1
  split at h
  · cases h
  rename_i q2
  rw [if_neg (by simp only; intro q; rcases q with q | q; exact q1 (.inl q); exact q hr), if_neg q2]
  rw [show (16 : Nat) = 15 + 1 from rfl, resM_succ] at h ⊢
  split at h
  · cases h
  rename_i q3
  split at h
  · cases h
  rename_i q4
  simp only [ne_eq, Classical.not_not] at q4
  simp only
  rw [if_neg q3, if_pos (by rw [q4]; exact fun e => hg e.symm)]
theorem right_node {c : Cap} (hk : c.K = 2) (hr : RightP c) : 1 ≤ c.X ∧ c.X ≤ 4 ∧ 0 ≤ c.W ∧ c.W ≤ 16 := by
  have := hr.2.2.2.2.2.2.2
  rw [if_pos hk] at this
  exact ⟨this.1, this.2.1, this.2.2.1, this.2.2.2.1⟩
theorem radix_find {L : List Nd} {id X : Int} (hX : 1 ≤ X) (h : radixN L id = X) : ∃ n, findN L id = some n ∧ (n.X : Int) = X := by
  unfold radixN at h
  cases hn : findN L id with
  | none => rw [hn] at h; simp only at h; omega
  | some n => rw [hn] at h; exact ⟨n, rfl, h⟩
theorem getN_in {L : List Nd} (hw : wfL L) {id X : Int} (hX : 1 ≤ X) (h : radixN L id = X) {i : Int} (hi : 0 ≤ i ∧ i < 2 ^ X.toNat) : (getN L id i).2 = 0 := by
  obtain ⟨n, hn, hnX⟩ := radix_find hX h
  have wn := hw.1 n (List.mem_of_find?_eq_some hn)
  have hlen : (n.S.length : Int) = 2 ^ X.toNat := by rw [wn.2.2.2.2.1, ← hnX]; simp
  unfold getN
  rw [hn]
  simp only [if_pos hi.1, List.getElem?_eq_getElem (show i.toNat < n.S.length by omega)]
/-- N3: more bits. -/
theorem resM_deeper {L : List Nd} (hw : wfL L) {w w' more D a b n : Int} (hm : 1 ≤ more) (hww : ∀ l n, 0 ≤ n → n ≤ l → l ≤ D → takeV w' (l + more) n = takeV w l n) :
    ∀ (f f' : Nat) (c : Cap) (left : Int), c.K = 2 → RightP c → 1 ≤ left → left ≤ f → left + more ≤ f' → left ≤ D → resM L w f c left = (a, b, n, 0) →
      (getN L a b).2 = 0 ∧ (if (getN L a b).1.K = 2 then n = 0 else resM L w' f' c (left + more) = (a, b, n + more, 0))
  | 0, _, _, left, _, _, h1, h2, _, _, _ => by omega
  | f + 1, 0, _, left, _, _, h1, _, h3, _, _ => by omega
  | f + 1, f' + 1, c, left, hk, hr, h1, h2, h3, h4, h => by
    obtain ⟨x1, x2, x3, x4⟩ := right_node hk hr
    rw [resM_succ] at h
    split at h
    · cases h
    rename_i q1
    split at h
    · cases h
    rename_i q2
    split at h
    · cases h
    rename_i q3
    split at h
    · cases h
    rename_i q4
    simp only [ne_eq, Classical.not_not] at q2 q4
    have e1 : takeV w' (left + more) c.W = takeV w left c.W := hww _ _ x3 (by omega) h4
    have e2 : takeV w' (left + more - c.W) c.X = takeV w (left - c.W) c.X := by
      rw [show left + more - c.W = left - c.W + more by omega]
      exact hww _ _ (by omega) (by omega) (by omega)
    have e3 : left + more - c.W - c.X = left - c.W - c.X + more := by omega
    have st : resM L w' (f' + 1) c (left + more) = if (getN L c.O (takeV w (left - c.W) c.X)).1.K ≠ 2 then (c.O, takeV w (left - c.W) c.X, left - c.W - c.X + more, 0) else resM L w' f' (getN L c.O (takeV w (left - c.W) c.X)).1 (left - c.W - c.X + more) := by
      rw [resM_succ, if_neg (by omega), e1, if_neg (by simpa using q2), if_neg (by omega), if_neg (by simpa using q4), e2, e3]
      by_cases z : (getN L c.O (takeV w (left - c.W) c.X)).1.K ≠ 2
      · rw [if_pos (.inr z), if_pos z]
      · rw [if_neg (by rintro (q | q); omega; exact z q), if_neg z]
    rw [st]
    split at h
    · rename_i q5
      simp only [Prod.mk.injEq] at h
      obtain ⟨rfl, rfl, rfl, -⟩ := h
      refine ⟨getN_in hw x1 q4 (takeV_lt ..), ?_⟩
      by_cases z : (getN L c.O (takeV w (left - c.W) c.X)).1.K = 2
      · rw [if_pos z]
        rcases q5 with q5 | q5
        · exact q5
        · exact (q5 z).elim
      · rw [if_neg z, if_pos z]
    · rename_i q5
      have z : (getN L c.O (takeV w (left - c.W) c.X)).1.K = 2 := Classical.not_not.1 fun q => q5 (.inr q)
      have z0 : left - c.W - c.X ≠ 0 := fun q => q5 (.inl q)
      have gok := getN_ok hw c.O (takeV w (left - c.W) c.X)
      rw [if_neg (c := (getN L c.O (takeV w (left - c.W) c.X)).1.K ≠ 2) (by simpa using z)]
      exact resM_deeper hw hm hww f f' _ _ z gok.1 (by omega) (by omega) (by omega) (by omega) h
theorem deeper_plain {L : List Nd} (hw : wfL L) {root : Cap} {w w' more depth a b n : Int} (hm : 1 ≤ more) (hd : depth + more ≤ 16) (hww : ∀ l n, 0 ≤ n → n ≤ l → l ≤ depth → takeV w' (l + more) n = takeV w l n)
    (h : resolveN L root w depth = (a, b, n, 0)) : (getN L a b).2 = 0 ∧ (if (getN L a b).1.K = 2 then n = 0 else resolveN L root w' (depth + more) = (a, b, n + more, 0)) := by
  unfold resolveN at h ⊢
  split at h
  · cases h
  rename_i q1
  split at h
  · cases h
  rename_i q2
  have q1' : root.K = 2 ∧ RightP root := ⟨Classical.not_not.1 fun q => q1 (.inl q), Classical.not_not.1 fun q => q1 (.inr q)⟩
  have q3 : ¬ (depth + more < 1 ∨ 16 < depth + more) := by omega
  rw [if_neg q1, if_neg q3]
  exact resM_deeper hw hm hww 16 16 root depth q1'.1 q1'.2 (by omega) (by omega) (by omega) (by omega) h
/-- The bits of a word that was put farther up. -/
theorem takeV_up {w t m : Nat} (hm : m ≤ 15) (ht : t < 2 ^ m) {l n : Nat} (hn : n ≤ l) (hl : l + m ≤ 16) : (((w * 2 ^ m) % 2 ^ 32 + t) / 2 ^ (l + m - n)) % 2 ^ n = w / 2 ^ (l - n) % 2 ^ n := by
  have e : (w * 2 ^ m) % 2 ^ 32 = (w % 2 ^ (32 - m)) * 2 ^ m := by
    rw [show (2 : Nat) ^ 32 = 2 ^ (32 - m) * 2 ^ m by rw [← Nat.pow_add]; congr 1; omega]
    exact Nat.mul_mod_mul_right ..
  rw [e, show l + m - n = m + (l - n) by omega, Nat.pow_add, ← Nat.div_div_eq_div_mul]
  have : (w % 2 ^ (32 - m) * 2 ^ m + t) / 2 ^ m = w % 2 ^ (32 - m) := by
    rw [Nat.add_comm, Nat.add_mul_div_right _ _ (Nat.pow_pos (by decide)), Nat.div_eq_of_lt ht, Nat.zero_add]
  rw [this]
  apply Nat.eq_of_testBit_eq
  intro j
  simp only [Nat.testBit_mod_two_pow, Nat.testBit_div_two_pow]
  by_cases hj : j < n
  · simp only [hj, decide_true, Bool.true_and, show l - n + j < 32 - m by omega]
    simp only [show j + (l - n) < 32 - m by omega, decide_true, Bool.true_and]
  · simp [hj]
/-! N5: other slots. -/
def visM (L : List Nd) (w : Int) : Nat → Cap → Int → List (Int × Int)
  | 0, _, _ => []
  | f + 1, c, left =>
    if left < c.W then [] else if takeV w left c.W ≠ c.G then [] else if left - c.W < c.X then [] else if radixN L c.O ≠ c.X then []
    else (c.O, takeV w (left - c.W) c.X) :: (if left - c.W - c.X = 0 ∨ (getN L c.O (takeV w (left - c.W) c.X)).1.K ≠ 2 then [] else visM L w f (getN L c.O (takeV w (left - c.W) c.X)).1 (left - c.W - c.X))
theorem findN_setS {id : Int} {S : List Cap} (k : Int) : ∀ {L : List Nd}, findN (setS L id S) k = (findN L k).map fun n => if k = id then { n with S := S } else n
  | [] => rfl
  | n :: L => by
    have ih := findN_setS (id := id) (S := S) k (L := L)
    unfold findN at ih ⊢
    unfold setS
    split
    · rename_i q
      rw [List.find?_cons, List.find?_cons]
      by_cases e : n.I = k
      · rw [show (n.I == k) = true by simpa using e]
        simp only [Option.map_some]
        rw [if_pos (by omega)]
      · rw [show (n.I == k) = false by simpa using e]
        have hk : ¬ k = id := by omega
        simp only [if_neg hk]
        cases List.find? (fun n => n.I == k) L <;> rfl
    · rename_i q
      rw [List.find?_cons, List.find?_cons]
      by_cases e : n.I = k
      · rw [show (n.I == k) = true by simpa using e]
        simp only [Option.map_some]
        rw [if_neg (by omega)]
      · rw [show (n.I == k) = false by simpa using e]
        exact ih
theorem putN_radix (L : List Nd) (node index : Int) (c : Cap) (k : Int) : radixN (putN L node index c).1 k = radixN L k := by
  unfold putN
  cases hn : findN L node with
  | none => rfl
  | some n =>
    simp only
    split
    · split
      · unfold radixN
        rw [findN_setS]
        cases findN L k with
        | none => rfl
        | some m => simp only [Option.map_some]; split <;> rfl
      · rfl
    · rfl
theorem putN_get (L : List Nd) (node index : Int) (c : Cap) (k i : Int) (h : ¬ (k = node ∧ i = index)) : getN (putN L node index c).1 k i = getN L k i := by
  unfold putN
  cases hn : findN L node with
  | none => rfl
  | some n =>
    simp only
    split
    · rename_i g
      split
      · unfold getN
        simp only
        rw [findN_setS]
        by_cases e : k = node
        · subst e
          rw [hn]
          simp only [Option.map_some, if_true]
          by_cases g0 : 0 ≤ i
          · simp only [if_pos g0]
            rw [List.getElem?_set_ne (by omega)]
          · simp only [if_neg g0]
        · simp only [if_neg e]
          cases findN L k <;> rfl
      · rfl
    · rfl
theorem local_resM {L : List Nd} {w node index : Int} {x : Cap} : ∀ (f : Nat) (c : Cap) (left : Int), (node, index) ∉ visM L w f c left → resM (putN L node index x).1 w f c left = resM L w f c left
  | 0, _, _, _ => rfl
  | f + 1, c, left, h => by
    rw [resM_succ, resM_succ, putN_radix]
    unfold visM at h
    split
    · rfl
    rename_i q1
    rw [if_neg q1] at h
    split
    · rfl
    rename_i q2
    rw [if_neg q2] at h
    split
    · rfl
    rename_i q3
    rw [if_neg q3] at h
    split
    · rfl
    rename_i q4
    rw [if_neg q4] at h
    simp only [List.mem_cons, not_or, Prod.mk.injEq] at h
    obtain ⟨h1, h2⟩ := h
    rw [putN_get _ _ _ _ _ _ (by rintro ⟨e1, e2⟩; exact h1 ⟨e1.symm, e2.symm⟩)]
    split
    · rfl
    rename_i q5
    rw [if_neg q5] at h2
    exact local_resM f _ _ h2
theorem takeV_shift {w left n : Int} {l : Nat} (hw : 0 ≤ w) (h : 0 ≤ left - l - n) : takeV (w / 2 ^ l) (left - l) n = takeV w left n := by
  unfold takeV
  congr 1
  rw [Int.ediv_ediv_of_nonneg (Int.pow_nonneg (by decide)), ← Int.pow_add]
  congr 2
  omega
theorem vis_way {L : List Nd} (hw : wfL L) {w : Int} (hw0 : 0 ≤ w) {p : Int × Int} : ∀ (f : Nat) (c : Cap) (left : Int), c.K = 2 → RightP c → 1 ≤ left → left ≤ f → p ∈ visM L w f c left →
    (∃ n, resM L w f c left = (p.1, p.2, n, 0)) ∨ ∃ l : Nat, 0 < l ∧ (l : Int) < left ∧ ∀ f' : Nat, left - l ≤ f' → resM L (w / 2 ^ l) f' c (left - l) = (p.1, p.2, 0, 0)
  | 0, _, _, _, _, _, _, h => by cases h
  | f + 1, c, left, hk, hr, h1, h2, h => by
    obtain ⟨x1, x2, x3, x4⟩ := right_node hk hr
    unfold visM at h
    rw [resM_succ]
    split at h
    · cases h
    rename_i q1
    rw [if_neg q1]
    split at h
    · cases h
    rename_i q2
    rw [if_neg q2]
    split at h
    · cases h
    rename_i q3
    rw [if_neg q3]
    split at h
    · cases h
    rename_i q4
    rw [if_neg q4]
    simp only [ne_eq, Classical.not_not] at q2 q4
    have pre : ∀ l : Nat, (l : Int) ≤ left - c.W - c.X → ∀ g : Nat, resM L (w / 2 ^ l) (g + 1) c (left - l) =
        if left - l - c.W - c.X = 0 ∨ (getN L c.O (takeV w (left - c.W) c.X)).1.K ≠ 2 then (c.O, takeV w (left - c.W) c.X, left - l - c.W - c.X, 0) else resM L (w / 2 ^ l) g (getN L c.O (takeV w (left - c.W) c.X)).1 (left - l - c.W - c.X) := by
      intro l hl g
      have e1 : takeV (w / 2 ^ l) (left - l) c.W = takeV w left c.W := takeV_shift hw0 (by omega)
      have e2 : takeV (w / 2 ^ l) (left - l - c.W) c.X = takeV w (left - c.W) c.X := by
        rw [show left - l - c.W = left - c.W - l by omega]
        exact takeV_shift hw0 (by omega)
      rw [resM_succ, if_neg (by omega), e1, if_neg (by simpa using q2), if_neg (by omega), if_neg (by simpa using q4), e2]
    rcases List.mem_cons.1 h with rfl | h
    · by_cases z : left - c.W - c.X = 0 ∨ (getN L c.O (takeV w (left - c.W) c.X)).1.K ≠ 2
      · rw [if_pos z]
        exact .inl ⟨_, rfl⟩
      · right
        obtain ⟨l, hl⟩ := Int.eq_ofNat_of_zero_le (show 0 ≤ left - c.W - c.X by omega)
        refine ⟨l, by omega, by omega, fun f' hf' => ?_⟩
        obtain ⟨g, rfl⟩ : ∃ g, f' = g + 1 := ⟨f' - 1, by omega⟩
        rw [pre l (by omega) g, if_pos (.inl (by omega))]
        simp only [Prod.mk.injEq, true_and, and_true]
        omega
    · split at h
      · cases h
      rename_i z
      rw [if_neg z]
      have z2 : (getN L c.O (takeV w (left - c.W) c.X)).1.K = 2 := Classical.not_not.1 fun q => z (.inr q)
      have z0 : left - c.W - c.X ≠ 0 := fun q => z (.inl q)
      have gok := getN_ok hw c.O (takeV w (left - c.W) c.X)
      rcases vis_way hw hw0 f _ _ z2 gok.1 (by omega) (by omega) h with q | ⟨l, l0, l1, l2⟩
      · exact .inl q
      · right
        refine ⟨l, l0, by omega, fun f' hf' => ?_⟩
        obtain ⟨g, rfl⟩ : ∃ g, f' = g + 1 := ⟨f' - 1, by omega⟩
        rw [pre l (by omega) g, if_neg (by rintro (q | q); omega; exact q z2)]
        have := l2 g (by omega)
        rw [show left - l - c.W - c.X = left - c.W - c.X - l by omega]
        exact this
theorem wayT_mem {L : List Nd} {root : Cap} {w depth : Int} {p : Int × Int} : ∀ (k d : Nat), d < k → p ∈ resOk (resolveN L root (shrV w (depth - (d + 1 : Nat))) (d + 1 : Nat)) true → p ∈ wayT L root w depth k
  | 0, _, h, _ => by omega
  | k + 1, d, h, hp => by
    unfold wayT
    by_cases e : d = k
    · subst e; exact List.mem_append_right _ hp
    · exact List.mem_append_left _ (wayT_mem k d (by omega) hp)
theorem local_plain {L : List Nd} (hw : wfL L) {root : Cap} {w depth node index : Int} {x : Cap} (hb : 0 ≤ w) (h : (node, index) ∉ wayN L root w depth) : resolveN (putN L node index x).1 root w depth = resolveN L root w depth := by
  have hex : resolveN L root w depth = if root.K ≠ 2 ∨ ¬ RightP root then (0, 0, 0, 121) else if depth < 1 ∨ 16 < depth then (0, 0, 0, 123) else resM L w 16 root depth := rfl
  by_cases q1 : root.K ≠ 2 ∨ ¬ RightP root
  · unfold resolveN; rw [if_pos q1, if_pos q1]
  by_cases q2 : depth < 1 ∨ 16 < depth
  · unfold resolveN; rw [if_neg q1, if_neg q1, if_pos q2, if_pos q2]
  rw [if_neg q1, if_neg q2] at hex
  rw [hex]
  unfold resolveN
  rw [if_neg q1, if_neg q2]
  refine local_resM 16 root depth fun hv => h ?_
  have q1' : root.K = 2 ∧ RightP root := ⟨Classical.not_not.1 fun q => q1 (.inl q), Classical.not_not.1 fun q => q1 (.inr q)⟩
  unfold wayN
  rcases vis_way hw hb 16 root depth q1'.1 q1'.2 (by omega) (by omega) hv with ⟨n, e⟩ | ⟨l, l0, l1, l2⟩
  · refine List.mem_append_right _ ?_
    rw [hex, e]
    simp [resOk]
  · refine List.mem_append_left _ (wayT_mem _ (depth - l - 1).toNat (by omega) ?_)
    have e1 : (((depth - l - 1).toNat + 1 : Nat) : Int) = depth - l := by omega
    rw [e1, show depth - (depth - l) = l by omega]
    have e2 : shrV w l = w / 2 ^ l := by
      unfold shrV
      rw [Int.toNat_natCast, Nat.min_eq_left (by omega), Int.fdiv_eq_ediv_of_nonneg _ (Int.pow_nonneg (by decide))]
    rw [e2]
    have e3 : resolveN L root (w / 2 ^ l) (depth - l) = resM L (w / 2 ^ l) 16 root (depth - l) := by
      unfold resolveN; rw [if_neg q1, if_neg (by omega)]
    rw [e3, l2 16 (by omega)]
    simp [resOk]
end Go.Eng
