/-
  THE ENGINE: what was made beside what was there; sorted lists; rounds over a map.
-/
import Derived.Test.YtadabopmgphelaaSrt
namespace Go.Eng
set_option linter.unusedSimpArgs false
set_option linter.unusedVariables false
set_option maxRecDepth 16000
set_option maxHeartbeats 4000000
open Go
/-- What was made beside what was there. -/
theorem Sat.over {h h' : Heap} {A : SP} {F : List SP} (hF : Sat h F) (hs : Sat h' [A, oldS h]) : Sat h' (A :: F) := by
  have he : Ext h h' := (hs.front 1).ext
  obtain ⟨a, b, h1, h2, h3, h4, c, d, k1, k2, k3, k4, -⟩ := hs
  refine ⟨a, hp h, fun i => ?_, h2, fun i o q => he.some q, h4, hF⟩
  by_cases hi : i < h.size
  · left
    have e : c i = h[i]? := k4 i hi
    rw [Array.getElem?_eq_getElem hi] at e
    rcases h1 i with q | q
    · exact q
    · rw [k2 i _ e] at q; cases q
  · right
    simp only [hp]
    exact Array.getElem?_eq_none (by omega)
/-- Two lists of the same, one rising, the other one nowhere falling: one list. -/
theorem sorted_uniq {α : Type} {lt : α → α → Prop} : ∀ {l m : List α}, l.Perm m → m.Pairwise lt → l.Pairwise (fun x y => ¬ lt y x) → l = m
  | [], m, p, _, _ => by rw [p.nil_eq]
  | x :: l, [], p, _, _ => by have := p.length_eq; simp at this
  | x :: l, y :: m, p, hm, hl => by
    obtain ⟨m1, m2⟩ := List.pairwise_cons.1 hm
    obtain ⟨l1, l2⟩ := List.pairwise_cons.1 hl
    have e : x = y := by
      have hx : x ∈ y :: m := p.subset (by simp)
      have hy : y ∈ x :: l := p.symm.subset (by simp)
      rcases List.mem_cons.1 hx with q | q
      · exact q
      · rcases List.mem_cons.1 hy with r | r
        · exact r.symm
        · exact absurd (m1 x q) (l1 y r)
    subst e
    rw [sorted_uniq (List.perm_cons x |>.1 p) m2 l2]
theorem iter_left {es done rest : List MapEntry} (hp : (done ++ rest).Perm es) (hn : (es.map (·.born)).Nodup) {e : MapEntry} (he : e ∈ es) (hb : e.born ∉ done.map (·.born)) : ∃ rest', ((done ++ [e]) ++ rest').Perm es := by
  have h1 : e ∈ done ++ rest := hp.symm.subset he
  rcases List.mem_append.1 h1 with h | h
  · exact (hb (List.mem_map.2 ⟨e, h, rfl⟩)).elim
  · obtain ⟨A, B, rfl⟩ := List.append_of_mem h
    refine ⟨A ++ B, List.Perm.trans ?_ hp⟩
    rw [List.append_assoc]
    refine List.Perm.append_left _ ?_
    simpa using (List.perm_middle (a := e) (l₁ := A) (l₂ := B)).symm
theorem iter_done {es done rest : List MapEntry} (hp : (done ++ rest).Perm es) (hn : (es.map (·.born)).Nodup) (h : ∀ e ∈ es, e.born ∈ done.map (·.born)) : rest = [] := by
  cases rest with
  | nil => rfl
  | cons e rest =>
    exfalso
    have h1 : e ∈ es := hp.subset (by simp)
    have h2 := h e h1
    have h3 : ((done ++ e :: rest).map (·.born)).Nodup := (hp.map _).nodup_iff.2 hn
    rw [List.map_append, List.map_cons] at h3
    have := (List.nodup_append.1 h3).2.2 _ h2 e.born (by simp)
    exact this rfl
theorem mapOf_mem {es : Array MapEntry} (hn : (es.toList.map keyI).Nodup) {e : MapEntry} {k : Int} (he : e ∈ es.toList) (hk : keyI e = some k) : mapOf es k = some e.val := by
  unfold mapOf findI
  generalize es.toList = l at *
  have : l.find? (fun e => keyI e == some k) = some e := by
    induction l with
    | nil => cases he
    | cons x l ih =>
      rw [List.find?_cons]
      simp only [List.map_cons, List.nodup_cons] at hn
      rcases List.mem_cons.1 he with rfl | he
      · rw [hk]; simp
      · have : (keyI x == some k) = false := by
          simp only [beq_eq_false_iff_ne, ne_eq]
          intro q
          exact hn.1 (List.mem_map.2 ⟨e, he, by rw [hk, q]⟩)
        rw [this]
        exact ih hn.2 he
  rw [this]; rfl
end Go.Eng
