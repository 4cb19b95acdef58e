/- Sets put in order; the same sets, whatever their order. No heap. -/
import Derived.Test.YtgmihbchcmjmdaaLkA
namespace Go.Proofs.Ytgmihbchcmjmdaa
open Go Go.Tr
set_option linter.unusedVariables false
theorem conf_comm (a b : List Lk) : conf a b = conf b a := by
  unfold conf
  apply Bool.eq_iff_iff.2
  simp only [List.any_eq_true, Bool.and_eq_true, beq_iff_eq]
  constructor
  · rintro ⟨x, hx, y, hy, e, c⟩
    exact ⟨y, hy, x, hx, e.symm, by rw [Bool.and_comm]; exact c⟩
  · rintro ⟨x, hx, y, hy, e, c⟩
    exact ⟨y, hy, x, hx, e.symm, by rw [Bool.and_comm]; exact c⟩
theorem conf_mem {a b a' b' : List Lk} (ha : ∀ x, x ∈ a ↔ x ∈ a') (hb : ∀ x, x ∈ b ↔ x ∈ b') : conf a b = conf a' b' := by
  unfold conf
  apply Bool.eq_iff_iff.2
  simp only [List.any_eq_true]
  constructor
  · rintro ⟨x, hx, y, hy, e⟩
    exact ⟨x, (ha x).1 hx, y, (hb y).1 hy, e⟩
  · rintro ⟨x, hx, y, hy, e⟩
    exact ⟨x, (ha x).2 hx, y, (hb y).2 hy, e⟩
theorem filter_or {α : Type _} {p q r : α → Bool} : ∀ (l : List α), (∀ x ∈ l, r x = (p x || q x)) → (∀ x ∈ l, ¬ (p x = true ∧ q x = true)) → (l.filter p ++ l.filter q).Perm (l.filter r)
  | [], _, _ => by simp
  | x :: l, h1, h2 => by
    have ih := filter_or (p := p) (q := q) (r := r) l (fun y hy => h1 y (List.mem_cons_of_mem _ hy)) (fun y hy => h2 y (List.mem_cons_of_mem _ hy))
    have e := h1 x List.mem_cons_self
    have d := h2 x List.mem_cons_self
    cases hp : p x with
    | true =>
      have hq : q x = false := by
        cases hq : q x with
        | false => rfl
        | true => exact absurd ⟨hp, hq⟩ d
      rw [hp, Bool.true_or] at e
      rw [List.filter_cons_of_pos hp, List.filter_cons_of_neg (by simp [hq]), List.filter_cons_of_pos e]
      exact ih.cons x
    | false =>
      rw [hp, Bool.false_or] at e
      rw [List.filter_cons_of_neg (by simp [hp])]
      cases hq : q x with
      | true =>
        rw [hq] at e
        rw [List.filter_cons_of_pos hq, List.filter_cons_of_pos e]
        exact List.perm_middle.trans (ih.cons x)
      | false =>
        rw [hq] at e
        rw [List.filter_cons_of_neg (by simp [hq]), List.filter_cons_of_neg (by simp [e])]
        exact ih
abbrev inR (m : Nat) (x : Lk) : Bool := decide (0 ≤ x.f0) && decide (x.f0 < (m : Int))
theorem sortL_succ (m : Nat) (l : List Lk) : AM.sortL (m + 1) l = AM.sortL m l ++ l.filter fun x => x.f0 == (m : Int) := by
  unfold AM.sortL
  rw [List.range_succ, List.flatMap_append, List.flatMap_singleton]
theorem sortL_perm (l : List Lk) : ∀ (m : Nat), (AM.sortL m l).Perm (l.filter (inR m))
  | 0 => by
    have : l.filter (inR 0) = [] := by
      rw [List.filter_eq_nil_iff]
      intro x _ h
      simp [inR] at h
      omega
    rw [this]; exact List.Perm.refl _
  | m + 1 => by
    rw [sortL_succ]
    refine (List.Perm.append_right _ (sortL_perm l m)).trans (filter_or l (fun x _ => ?_) fun x _ => ?_)
    · apply Bool.eq_iff_iff.2
      simp [inR]
      omega
    · simp [inR]
      omega
theorem sortL_mem {m : Nat} {l : List Lk} {x : Lk} : x ∈ AM.sortL m l ↔ x ∈ l ∧ inR m x = true := by
  rw [(sortL_perm l m).mem_iff, List.mem_filter]
theorem sortL_pw (l : List Lk) : ∀ (m : Nat), (AM.sortL m l).Pairwise fun x y => x.f0 ≤ y.f0
  | 0 => by unfold AM.sortL; simp
  | m + 1 => by
    rw [sortL_succ, List.pairwise_append]
    refine ⟨sortL_pw l m, ?_, fun x hx y hy => ?_⟩
    · refine List.pairwise_of_forall_mem_list fun x hx y hy => ?_
      have h1 := (List.mem_filter.1 hx).2
      have h2 := (List.mem_filter.1 hy).2
      simp at h1 h2; omega
    · have h1 := (sortL_mem.1 hx).2
      have h2 := (List.mem_filter.1 hy).2
      simp [inR] at h1 h2; omega
/-- No two beside each other alike: by what the loop asks. -/
def adj (l : List Lk) : Prop := ∀ (i : Nat) (hi : i + 1 < l.length), l[i + 1].f0 ≠ l[i].f0
theorem adj_nod {l : List Lk} (hp : l.Pairwise fun x y => x.f0 ≤ y.f0) (ha : adj l) : nod l := by
  have key : l.Pairwise fun x y => x.f0 < y.f0 := by
    rw [List.pairwise_iff_getElem] at hp ⊢
    intro i j hi hj hij
    have h1 := hp i (i + 1) hi (by omega) (by omega)
    have h2 := ha i (by omega)
    rcases Nat.lt_or_ge (i + 1) j with h | h
    · have h3 := hp (i + 1) j (by omega) hj h
      omega
    · obtain rfl : j = i + 1 := by omega
      omega
  unfold nod
  rw [List.nodup_iff_pairwise_ne, List.pairwise_map]
  exact key.imp fun h => by omega
theorem nod_adj {l : List Lk} (h : nod l) : adj l := by
  intro i hi e
  unfold nod at h
  rw [List.nodup_iff_pairwise_ne, List.pairwise_map, List.pairwise_iff_getElem] at h
  exact h i (i + 1) (by omega) hi (by omega) e.symm
theorem all_filter {l : List Lk} {m : Nat} : (l.filter (inR m)).length = l.length ↔ (l.all (inR m)) = true := by
  rw [List.length_filter_eq_length_iff, List.all_eq_true]
theorem nod_perm {a b : List Lk} (p : a.Perm b) : nod a ↔ nod b := (p.map _).nodup_iff
theorem okSet_iff {m : Nat} {l : List Lk} : okSet m l = true ↔ l ≠ [] ∧ l.all (inR m) = true ∧ nod l := by
  unfold okSet
  simp only [Bool.and_eq_true, decide_eq_true_eq, Bool.not_eq_true', List.isEmpty_eq_false_iff]
  exact ⟨fun h => ⟨h.1.1, h.1.2, h.2⟩, fun h => ⟨⟨h.1, h.2.1⟩, h.2.2⟩⟩
theorem okSet_sort {m : Nat} {l : List Lk} (h : okSet m l = true) : (AM.sortL m l).Perm l := by
  have h := (okSet_iff.1 h).2.1
  have e : l.filter (inR m) = l := by rw [List.filter_eq_self]; exact List.all_eq_true.1 h
  have := sortL_perm l m
  rw [e] at this
  exact this
theorem sort_ok {m : Nat} {l : List Lk} (ha : adj (AM.sortL m l)) (hl : (AM.sortL m l).length = l.length) (h0 : 0 < l.length) : okSet m l = true := by
  have h1 : l.all (inR m) = true := by rw [← all_filter, ← (sortL_perm l m).length_eq]; exact hl
  have e : l.filter (inR m) = l := by rw [List.filter_eq_self]; exact List.all_eq_true.1 h1
  have p := sortL_perm l m
  rw [e] at p
  refine okSet_iff.2 ⟨by intro h; rw [h] at h0; simp at h0, h1, (nod_perm p).1 (adj_nod (sortL_pw l m) ha)⟩
theorem ok_sort {m : Nat} {l : List Lk} (h : okSet m l = true) : adj (AM.sortL m l) ∧ (AM.sortL m l).length = l.length ∧ 0 < l.length := by
  have p := okSet_sort h
  have h := okSet_iff.1 h
  exact ⟨nod_adj ((nod_perm p).2 h.2.2), p.length_eq, List.length_pos_iff.2 h.1⟩
theorem conf_sort {m : Nat} {a b : List Lk} (ha : okSet m a = true) (hb : okSet m b = true) : conf (AM.sortL m a) (AM.sortL m b) = conf a b :=
  conf_mem (fun x => (okSet_sort ha).mem_iff) (fun x => (okSet_sort hb).mem_iff)
end Go.Proofs.Ytgmihbchcmjmdaa
