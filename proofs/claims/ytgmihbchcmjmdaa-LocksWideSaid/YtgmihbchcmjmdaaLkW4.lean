/- LocksWide: who is granted when one goes, step by step, beside the queue gone through. No heap. -/
import Derived.Test.YtgmihbchcmjmdaaLkJ2
namespace Go.Proofs.Ytgmihbchcmjmdaa
open Go Go.Tr
set_option linter.unusedVariables false
/-- The asks, i of them gone through. -/
def cur (Ls : List AK) (i : Nat) (T : List Int) : List AK := (Ls.take i).map (mkd T) ++ Ls.drop i
structure WJ (H0 Q0 : List C) (Ls : List AK) (i : Nat) (T : List Int) (has left : List C) : Prop where
  h : ∀ c, c ∈ has ↔ c ∈ held (cur Ls i T)
  l : left = wait ((Ls.take i).map (mkd T))
  e : thr H0 [] Q0 = ((thr has left (wait (Ls.drop i))).1, (thr has left (wait (Ls.drop i))).2.1, T ++ (thr has left (wait (Ls.drop i))).2.2)
  t : ∀ t ∈ T, t ∈ (Ls.take i).map (·.t)
theorem held_app (a b : List AK) : held (a ++ b) = held a ++ held b := by unfold held; rw [List.filter_append, List.map_append]
theorem wait_app (a b : List AK) : wait (a ++ b) = wait a ++ wait b := by unfold wait; rw [List.filter_append, List.map_append]
theorem held_cons (a : AK) (l : List AK) : held (a :: l) = (if a.g then [a.c] else []) ++ held l := by
  unfold held
  cases hg : a.g
  · rw [List.filter_cons_of_neg (by rw [hg]; decide)]; rfl
  · rw [List.filter_cons_of_pos hg, List.map_cons]; rfl
theorem wait_cons (a : AK) (l : List AK) : wait (a :: l) = (if a.g then [] else [a.c]) ++ wait l := by
  unfold wait
  cases hg : a.g
  · rw [List.filter_cons_of_pos (by rw [hg]; rfl), List.map_cons]; rfl
  · rw [List.filter_cons_of_neg (by rw [hg]; decide)]; rfl
theorem mkd_nil : ∀ (l : List AK), l.map (mkd []) = l := fun l => by
  conv => rhs; rw [← List.map_id l]
  congr 1
section
variable {H0 Q0 has left : List C} {Ls : List AK} {i : Nat} {T : List Int}
theorem WJ.start (h1 : (held Ls).Perm H0) (h2 : wait Ls = Q0) : WJ H0 Q0 Ls 0 [] H0 [] := by
  refine ⟨fun c => ?_, by simp [wait], ?_, by simp⟩
  · unfold cur; rw [List.take_zero, List.drop_zero]; exact h1.mem_iff.symm
  · rw [List.drop_zero, h2]; simp
theorem cur_len (hi : i ≤ Ls.length) : (cur Ls i T).length = Ls.length := by unfold cur; simp; omega
theorem cur_at (hi : i < Ls.length) : (cur Ls i T)[i]? = some Ls[i] := by
  unfold cur
  rw [List.getElem?_append_right (by simp; omega)]
  simp [Nat.min_eq_left (Nat.le_of_lt hi), hi]
theorem cur_front {j : Nat} (hj : j < i) (hi : i ≤ Ls.length) : (cur Ls i T)[j]? = ((Ls.take i).map (mkd T))[j]? := by
  unfold cur
  rw [List.getElem?_append_left (by simp; omega)]
/-- Is the ask at place i stopped? -/
theorem WJ.stop (w : WJ H0 Q0 Ls i T has left) (hi : i < Ls.length) (hg : Ls[i].g = false) :
    (∃ j b, (cur Ls i T)[j]? = some b ∧ j ≠ i ∧ (b.g = true ∨ j < i) ∧ conf b.l Ls[i].l = true) ↔ (hit has Ls[i].c.2 || hit left Ls[i].c.2) = true := by
  rw [Bool.or_eq_true]
  unfold hit
  rw [List.any_eq_true, List.any_eq_true]
  constructor
  · rintro ⟨j, b, hb, hne, hw, hc⟩
    rw [conf_comm] at hc
    by_cases gb : b.g = true
    · refine .inl ⟨b.c, (w.h _).2 ?_, hc⟩
      unfold held
      exact List.mem_map_of_mem (List.mem_filter.2 ⟨List.mem_of_getElem? hb, gb⟩)
    · have hj : j < i := hw.resolve_left gb
      refine .inr ⟨b.c, ?_, hc⟩
      rw [w.l]
      unfold wait
      refine List.mem_map_of_mem (List.mem_filter.2 ⟨?_, by simpa using gb⟩)
      rw [cur_front hj (by omega)] at hb
      exact List.mem_of_getElem? hb
  · rintro (⟨c, hc, p⟩ | ⟨c, hc, p⟩)
    · have hc := (w.h c).1 hc
      unfold held at hc
      obtain ⟨b, hb, rfl⟩ := List.mem_map.1 hc
      obtain ⟨hb, gb⟩ := List.mem_filter.1 hb
      obtain ⟨j, hj⟩ := List.getElem?_of_mem hb
      refine ⟨j, b, hj, ?_, .inl gb, by rw [conf_comm]; exact p⟩
      rintro rfl
      rw [cur_at hi] at hj
      cases hj
      rw [hg] at gb; cases gb
    · rw [w.l] at hc
      unfold wait at hc
      obtain ⟨b, hb, rfl⟩ := List.mem_map.1 hc
      obtain ⟨hb, gb⟩ := List.mem_filter.1 hb
      obtain ⟨j, hj⟩ := List.getElem?_of_mem hb
      have hji : j < i := by
        have := (List.getElem?_eq_some_iff.1 hj).1
        simp at this; omega
      exact ⟨j, b, by rw [cur_front hji (by omega)]; exact hj, by omega, .inr hji, by rw [conf_comm]; exact p⟩
theorem take_map_snoc (hi : i < Ls.length) (f : AK → AK) : (Ls.take (i + 1)).map f = (Ls.take i).map f ++ [f Ls[i]] := by
  rw [List.take_add_one, List.getElem?_eq_getElem hi, Option.toList_some, List.map_append]; rfl
theorem not_told (hn : (Ls.map (·.t)).Nodup) (hi : i < Ls.length) : Ls[i].t ∉ (Ls.take i).map (·.t) := by
  intro h
  obtain ⟨a, ha, e⟩ := List.mem_map.1 h
  obtain ⟨j, hj, rfl⟩ := List.mem_take_iff_getElem.1 ha
  rw [List.nodup_iff_pairwise_ne, List.pairwise_map, List.pairwise_iff_getElem] at hn
  exact hn j i (by omega) hi (by omega) e
theorem WJ.same (w : WJ H0 Q0 Ls i T has left) (hn : (Ls.map (·.t)).Nodup) (hi : i < Ls.length) : cur Ls (i + 1) T = cur Ls i T := by
  unfold cur
  have hT : Ls[i].t ∉ T := fun h => not_told hn hi (w.t _ h)
  rw [take_map_snoc hi, List.drop_eq_getElem_cons hi, List.append_assoc]
  have : mkd T Ls[i] = Ls[i] := by unfold mkd; rw [if_neg hT]
  rw [this]; rfl
theorem WJ.mt (w : WJ H0 Q0 Ls i T has left) : ∀ t ∈ T, t ∈ (Ls.take (i + 1)).map (·.t) := fun t ht =>
  (List.take_subset_take_left Ls (Nat.le_succ i)) |> fun s => List.map_subset _ s (w.t t ht)
/-- It has its set already. -/
theorem WJ.had (w : WJ H0 Q0 Ls i T has left) (hn : (Ls.map (·.t)).Nodup) (hi : i < Ls.length) (hg : Ls[i].g = true) : WJ H0 Q0 Ls (i + 1) T has left := by
  have hT : Ls[i].t ∉ T := fun h => not_told hn hi (w.t _ h)
  have hm : mkd T Ls[i] = Ls[i] := by unfold mkd; rw [if_neg hT]
  have e := w.e
  rw [List.drop_eq_getElem_cons hi, wait_cons, hg] at e
  refine ⟨by rw [w.same hn hi]; exact w.h, ?_, e, w.mt⟩
  rw [take_map_snoc hi, wait_app, hm, wait_cons, hg, ← w.l]; simp [wait]
/-- It waits on. -/
theorem WJ.hit (w : WJ H0 Q0 Ls i T has left) (hn : (Ls.map (·.t)).Nodup) (hi : i < Ls.length) (hg : Ls[i].g = false) (hh : (hit has Ls[i].c.2 || hit left Ls[i].c.2) = true) : WJ H0 Q0 Ls (i + 1) T has (left ++ [Ls[i].c]) := by
  have hT : Ls[i].t ∉ T := fun h => not_told hn hi (w.t _ h)
  have hm : mkd T Ls[i] = Ls[i] := by unfold mkd; rw [if_neg hT]
  have e := w.e
  rw [List.drop_eq_getElem_cons hi, wait_cons, hg] at e
  have e : thr H0 [] Q0 = ((thr has left (Ls[i].c :: wait (Ls.drop (i + 1)))).1, (thr has left (Ls[i].c :: wait (Ls.drop (i + 1)))).2.1, T ++ (thr has left (Ls[i].c :: wait (Ls.drop (i + 1)))).2.2) := e
  rw [thr_hit hh] at e
  refine ⟨by rw [w.same hn hi]; exact w.h, ?_, e, w.mt⟩
  rw [take_map_snoc hi, wait_app, hm, wait_cons, hg, ← w.l]; simp [wait]
theorem cur_go (w : WJ H0 Q0 Ls i T has left) (hn : (Ls.map (·.t)).Nodup) (hi : i < Ls.length) : cur Ls (i + 1) (T ++ [Ls[i].t]) = (cur Ls i T).set i { Ls[i] with g := true } := by
  have h1 : (Ls.take i).map (mkd (T ++ [Ls[i].t])) = (Ls.take i).map (mkd T) := by
    apply List.map_congr_left
    intro a ha
    have : a.t ≠ Ls[i].t := fun e => not_told hn hi (by rw [← e]; exact List.mem_map_of_mem ha)
    unfold mkd
    have e : (a.t ∈ T ++ [Ls[i].t]) = (a.t ∈ T) := by
      apply propext
      rw [List.mem_append, List.mem_singleton]
      exact ⟨fun h => h.resolve_right this, .inl⟩
    simp only [e]
  have h2 : mkd (T ++ [Ls[i].t]) Ls[i] = { Ls[i] with g := true } := by unfold mkd; rw [if_pos (by simp)]
  unfold cur
  rw [take_map_snoc hi, h1, h2, List.append_assoc, List.set_append, if_neg (by simp; omega)]
  congr 1
  have : i - ((Ls.take i).map (mkd T)).length = 0 := by simp; omega
  rw [this, List.drop_eq_getElem_cons hi]; rfl
/-- It is granted. -/
theorem WJ.go (w : WJ H0 Q0 Ls i T has left) (hn : (Ls.map (·.t)).Nodup) (hi : i < Ls.length) (hg : Ls[i].g = false) (hh : (Go.Proofs.Ytgmihbchcmjmdaa.hit has Ls[i].c.2 || Go.Proofs.Ytgmihbchcmjmdaa.hit left Ls[i].c.2) = false) : WJ H0 Q0 Ls (i + 1) (T ++ [Ls[i].t]) (has ++ [Ls[i].c]) left := by
  have e := w.e
  rw [List.drop_eq_getElem_cons hi, wait_cons, hg] at e
  have e : thr H0 [] Q0 = ((thr has left (Ls[i].c :: wait (Ls.drop (i + 1)))).1, (thr has left (Ls[i].c :: wait (Ls.drop (i + 1)))).2.1, T ++ (thr has left (Ls[i].c :: wait (Ls.drop (i + 1)))).2.2) := e
  rw [thr_go hh] at e
  have h1 : (Ls.take i).map (mkd (T ++ [Ls[i].t])) = (Ls.take i).map (mkd T) := by
    apply List.map_congr_left
    intro a ha
    have : a.t ≠ Ls[i].t := fun e => not_told hn hi (by rw [← e]; exact List.mem_map_of_mem ha)
    unfold mkd
    have e : (a.t ∈ T ++ [Ls[i].t]) = (a.t ∈ T) := by
      apply propext
      rw [List.mem_append, List.mem_singleton]
      exact ⟨fun h => h.resolve_right this, .inl⟩
    simp only [e]
  have h2 : mkd (T ++ [Ls[i].t]) Ls[i] = { Ls[i] with g := true } := by unfold mkd; rw [if_pos (by simp)]
  refine ⟨fun c => ?_, ?_, ?_, fun t ht => ?_⟩
  · have h0 := w.h c
    unfold cur at h0 ⊢
    rw [take_map_snoc hi, h1, h2, held_app, held_app, held_cons, List.mem_append, h0, List.drop_eq_getElem_cons hi, held_app, held_cons, hg]
    have : ({ Ls[i] with g := true } : AK).c = Ls[i].c := rfl
    simp only [this, if_true, List.mem_append, List.mem_singleton, Bool.false_eq_true, if_false, List.not_mem_nil, false_or]
    have hn2 : held ([] : List AK) = [] := rfl
    rw [hn2]
    simp only [List.not_mem_nil, or_false]
    rw [or_assoc, or_assoc, or_comm (a := c ∈ held _) (b := c = Ls[i].c)]
  · rw [take_map_snoc hi, h1, h2, wait_app, wait_cons, ← w.l]; simp [wait]
  · rw [e, List.append_assoc]; rfl
  · rcases List.mem_append.1 ht with ht | ht
    · exact w.mt t ht
    · obtain rfl := List.mem_singleton.1 ht
      refine List.mem_map_of_mem (List.mem_take_iff_getElem.2 ⟨i, by omega, rfl⟩)
end
end Go.Proofs.Ytgmihbchcmjmdaa
