/- The asks that are not over, in the order of asking, beside the manager: who is granted, who waits, and why. No heap. -/
import Derived.Test.YtgmihbchcmjmdaaLkS
import Derived.Test.YtgmihbchcmjmdaaLkM2
namespace Go.Proofs.Ytgmihbchcmjmdaa
open Go Go.Tr
set_option linter.unusedVariables false
structure AK where
  t : Int
  s : Sl
  l : List Lk
  g : Bool
def AK.c (a : AK) : C := (a.t, a.l)
def wait (Ls : List AK) : List C := (Ls.filter fun a => !a.g).map AK.c
def held (Ls : List AK) : List C := (Ls.filter fun a => a.g).map AK.c
/-- Each that waits is stopped: by one that has its set, or by one ahead. -/
def Fq (has q : List C) : Prop := ∀ (i : Nat) (hi : i < q.length), (hit has q[i].2 || hit (q.take i) q[i].2) = true
abbrev Nc (has : List C) : Prop := has.Pairwise fun a b => conf a.2 b.2 = false
structure Rel (A : AM) (Ls : List AK) : Prop where
  q : wait Ls = A.queue
  h : (held Ls).Perm A.has
  nd : (Ls.map (·.t)).Nodup
  pw : Nc A.has
  fq : Fq A.has A.queue
theorem hit_mono {a b : List C} (h : ∀ c ∈ a, c ∈ b) {l : List Lk} (x : hit a l = true) : hit b l = true := by
  unfold hit at x ⊢
  rw [List.any_eq_true] at x ⊢
  obtain ⟨c, hc, p⟩ := x
  exact ⟨c, h c hc, p⟩
theorem nc_append {has : List C} (h : Nc has) {c : C} (hc : hit has c.2 = false) : Nc (has ++ [c]) := by
  unfold Nc
  rw [List.pairwise_append]
  refine ⟨h, by simp, fun a ha b hb => ?_⟩
  obtain rfl := List.mem_singleton.1 hb
  unfold hit at hc
  rw [List.any_eq_false] at hc
  rw [conf_comm]
  simpa using hc a ha
theorem fq_append {has q : List C} (h : Fq has q) {c : C} (hc : (hit has c.2 || hit q c.2) = true) : Fq has (q ++ [c]) := by
  intro i hi
  by_cases e : i < q.length
  · rw [List.getElem_append_left e, List.take_append_of_le_length (by omega)]; exact h i e
  · have : i = q.length := by simp at hi; omega
    subst this
    rw [List.getElem_concat_length rfl, List.take_left' rfl]; exact hc
theorem fq_mono {has has' q : List C} (h : Fq has q) (hs : ∀ c ∈ has, c ∈ has') : Fq has' q := by
  intro i hi
  have := h i hi
  rw [Bool.or_eq_true] at this ⊢
  exact this.imp (hit_mono hs) id
theorem thr_fair : ∀ (q has left : List C), Nc has → Fq has left → Nc (thr has left q).1 ∧ Fq (thr has left q).1 (thr has left q).2.1
  | [], has, left, h1, h2 => by simpa [thr] using ⟨h1, h2⟩
  | c :: q, has, left, h1, h2 => by
    cases hc : (hit has c.2 || hit left c.2) with
    | true => rw [thr_hit hc]; exact thr_fair q has _ h1 (fq_append h2 hc)
    | false =>
      rw [thr_go hc]
      rw [Bool.or_eq_false_iff] at hc
      exact thr_fair q _ left (nc_append h1 hc.1) (fq_mono h2 fun d hd => List.mem_append_left _ hd)
theorem thr_sub : ∀ (q has left : List C), (thr has left q).2.2.Sublist (q.map (·.1))
  | [], has, left => by simp [thr]
  | c :: q, has, left => by
    cases hc : (hit has c.2 || hit left c.2) with
    | true => rw [thr_hit hc, List.map_cons]; exact (thr_sub q has _).cons _
    | false => rw [thr_go hc, List.map_cons]; exact (thr_sub q _ left).cons_cons _
theorem thr_split : ∀ (q has left : List C), (q.map (·.1)).Nodup → (thr has left q).1 = has ++ q.filter (fun c => decide (c.1 ∈ (thr has left q).2.2)) ∧ (thr has left q).2.1 = left ++ q.filter (fun c => !decide (c.1 ∈ (thr has left q).2.2))
  | [], has, left, _ => by simp [thr]
  | c :: q, has, left, hn => by
    have hn' := List.nodup_cons.1 (by simpa using hn : (c.1 :: q.map (·.1)).Nodup)
    cases hc : (hit has c.2 || hit left c.2) with
    | true =>
      rw [thr_hit hc]
      have ih := thr_split q has (left ++ [c]) hn'.2
      have hT : c.1 ∉ (thr has (left ++ [c]) q).2.2 := fun h => hn'.1 ((thr_sub q has _).subset h)
      rw [List.filter_cons_of_neg (by simpa using hT), List.filter_cons_of_pos (by simpa using hT)]
      refine ⟨ih.1, ?_⟩
      rw [ih.2.trans (List.append_assoc _ _ _)]; rfl
    | false =>
      rw [thr_go hc]
      have ih := thr_split q (has ++ [c]) left hn'.2
      have hf : ∀ d ∈ q, decide (d.1 ∈ c.1 :: (thr (has ++ [c]) left q).2.2) = decide (d.1 ∈ (thr (has ++ [c]) left q).2.2) := by
        intro d hd
        apply Bool.eq_iff_iff.2
        rw [decide_eq_true_eq, decide_eq_true_eq, List.mem_cons]
        refine ⟨fun h => h.resolve_left fun e => hn'.1 (by rw [← e]; exact List.mem_map_of_mem hd), .inr⟩
      rw [List.filter_cons_of_pos (by simp), List.filter_cons_of_neg (by simp)]
      simp only
      have g1 : q.filter (fun d => decide (d.1 ∈ c.1 :: (thr (has ++ [c]) left q).2.2)) = q.filter (fun d => decide (d.1 ∈ (thr (has ++ [c]) left q).2.2)) := List.filter_congr hf
      have g2 : q.filter (fun d => !decide (d.1 ∈ c.1 :: (thr (has ++ [c]) left q).2.2)) = q.filter (fun d => !decide (d.1 ∈ (thr (has ++ [c]) left q).2.2)) := List.filter_congr fun d hd => by rw [hf d hd]
      rw [g1, g2]
      refine ⟨?_, ih.2⟩
      rw [ih.1.trans (List.append_assoc _ _ _)]; rfl
section
variable {A : AM} {Ls : List AK} {B : Nat}
theorem mem_c {c : C} : c ∈ Ls.map AK.c ↔ c ∈ held Ls ∨ c ∈ wait Ls := by
  unfold held wait
  simp only [List.mem_map, List.mem_filter, Bool.not_eq_true']
  constructor
  · rintro ⟨a, ha, rfl⟩
    cases hg : a.g
    · exact .inr ⟨a, ⟨ha, hg⟩, rfl⟩
    · exact .inl ⟨a, ⟨ha, hg⟩, rfl⟩
  · rintro (⟨a, ⟨ha, _⟩, rfl⟩ | ⟨a, ⟨ha, _⟩, rfl⟩)
    · exact ⟨a, ha, rfl⟩
    · exact ⟨a, ha, rfl⟩
theorem Rel.mem (R : Rel A Ls) {c : C} : c ∈ Ls.map AK.c ↔ c ∈ A.has ∨ c ∈ A.queue := by
  rw [mem_c, R.h.mem_iff, R.q]
/-- Is one stopped who asks now? -/
theorem Rel.stopped (R : Rel A Ls) (l : List Lk) : (Ls.any fun a => conf a.l l) = (hit A.has l || hit A.queue l) := by
  apply Bool.eq_iff_iff.2
  unfold hit
  simp only [List.any_eq_true, Bool.or_eq_true]
  constructor
  · rintro ⟨a, ha, p⟩
    rw [conf_comm] at p
    rcases R.mem.1 (List.mem_map_of_mem (f := AK.c) ha) with h | h
    · exact .inl ⟨_, h, p⟩
    · exact .inr ⟨_, h, p⟩
  · rintro (⟨c, hc, p⟩ | ⟨c, hc, p⟩)
    · obtain ⟨a, ha, rfl⟩ := List.mem_map.1 (R.mem.2 (.inl hc))
      exact ⟨a, ha, by rw [conf_comm]; exact p⟩
    · obtain ⟨a, ha, rfl⟩ := List.mem_map.1 (R.mem.2 (.inr hc))
      exact ⟨a, ha, by rw [conf_comm]; exact p⟩
theorem Rel.find (R : Rel A Ls) (t : Int) : (Ls.any fun a => a.t == t) = ((findC A.has t).isSome || (findC A.queue t).isSome) := by
  rw [findC_isSome, findC_isSome]
  apply Bool.eq_iff_iff.2
  simp only [List.any_eq_true, Bool.or_eq_true, beq_iff_eq]
  constructor
  · rintro ⟨a, ha, p⟩
    rcases R.mem.1 (List.mem_map_of_mem (f := AK.c) ha) with h | h
    · exact .inl ⟨_, h, p⟩
    · exact .inr ⟨_, h, p⟩
  · rintro (⟨c, hc, p⟩ | ⟨c, hc, p⟩)
    · obtain ⟨a, ha, rfl⟩ := List.mem_map.1 (R.mem.2 (.inl hc))
      exact ⟨a, ha, p⟩
    · obtain ⟨a, ha, rfl⟩ := List.mem_map.1 (R.mem.2 (.inr hc))
      exact ⟨a, ha, p⟩
theorem Rel.new (n : Nat) : Rel (AM.new n) [] := ⟨rfl, List.Perm.refl _, by simp, by simp [AM.new, Nc], fun i hi => by simp [AM.new] at hi⟩
theorem Rel.ask (R : Rel A Ls) {t : Int} {l : List Lk} (s : Sl) (h0 : (A.ask t l).1.2 = 0) : (Ls.any fun a => a.t == t) = false ∧ (A.ask t l).1.1 = !(Ls.any fun a => conf a.l l) ∧ Rel (A.ask t l).2 (Ls ++ [⟨t, s, l, (A.ask t l).1.1⟩]) := by
  have c1 : ¬ (t < 0 ∨ okSet A.locks l = false) := fun h => by
    unfold AM.ask at h0
    rw [if_pos h] at h0
    exact absurd (show (1 : Int) = 0 from h0) (by decide)
  have c2 : ((findC A.has t).isSome || (findC A.queue t).isSome) = false := by
    cases h : ((findC A.has t).isSome || (findC A.queue t).isSome) with
    | false => rfl
    | true =>
      exfalso
      unfold AM.ask at h0
      rw [if_neg c1, if_pos h] at h0
      exact absurd (show (41 : Int) = 0 from h0) (by decide)
  have hf := R.find t
  rw [c2] at hf
  have hnd : ((Ls ++ [(⟨t, s, l, (A.ask t l).1.1⟩ : AK)]).map (·.t)).Nodup := by
    rw [List.map_append, List.nodup_append]
    refine ⟨R.nd, by simp, fun a ha b hb => ?_⟩
    simp at hb; subst hb
    obtain ⟨x, hx, rfl⟩ := List.mem_map.1 ha
    intro e
    rw [List.any_eq_false] at hf
    exact hf x hx (by simpa using e)
  have hst := R.stopped l
  cases h : (hit A.has l || hit A.queue l) with
  | true =>
    have e : A.ask t l = ((false, 0), { A with queue := A.queue ++ [(t, l)] }) := by unfold AM.ask; rw [if_neg c1, if_neg (by rw [c2]; simp), if_pos h]
    rw [e] at hnd ⊢
    rw [hst, h]
    refine ⟨hf, rfl, ⟨?_, ?_, hnd, R.pw, fq_append R.fq h⟩⟩
    · show wait _ = A.queue ++ _
      unfold wait at *
      rw [List.filter_append, List.map_append, ← R.q]; rfl
    · show (held _).Perm A.has
      unfold held
      rw [List.filter_append, List.map_append]
      have := R.h
      unfold held at this
      simpa using this
  | false =>
    have e : A.ask t l = ((true, 0), { A with has := A.has ++ [(t, l)] }) := by unfold AM.ask; rw [if_neg c1, if_neg (by rw [c2]; simp), if_neg (by rw [h]; simp)]
    rw [e] at hnd ⊢
    rw [hst, h]
    rw [Bool.or_eq_false_iff] at h
    refine ⟨hf, rfl, ⟨?_, ?_, hnd, nc_append R.pw h.1, fq_mono R.fq fun d hd => List.mem_append_left _ hd⟩⟩
    · show wait _ = A.queue
      unfold wait at *
      rw [List.filter_append, List.map_append, ← R.q]; simp [wait]
    · show (held _).Perm (A.has ++ _)
      unfold held
      rw [List.filter_append, List.map_append]
      exact R.h.append (List.Perm.refl _)
/-- Those told are marked. -/
def mkd (T : List Int) (a : AK) : AK := if a.t ∈ T then { a with g := true } else a
theorem mk_c (T : List Int) (a : AK) : (mkd T a).c = a.c := by unfold mkd; split <;> rfl
theorem mk_t (T : List Int) (a : AK) : (mkd T a).t = a.t := by unfold mkd; split <;> rfl
theorem mk_g (T : List Int) (a : AK) : (mkd T a).g = (a.g || decide (a.t ∈ T)) := by
  unfold mkd; split
  · rename_i h; simp [h]
  · rename_i h; simp [h]
theorem Rel.through (hq : wait Ls = A.queue) (hh : (held Ls).Perm A.has) (hn : (Ls.map (·.t)).Nodup) (pw : Nc A.has) : Rel A.through.2 (Ls.map (mkd A.through.1)) ∧ A.through.1.Sublist ((Ls.filter fun a => !a.g).map (·.t)) := by
  have hsub := thr_sub A.queue A.has []
  have e1 : A.queue.map (·.1) = (Ls.filter fun a => !a.g).map (·.t) := by rw [← hq]; unfold wait; rw [List.map_map]; rfl
  have hnq : (A.queue.map (·.1)).Nodup := by
    rw [e1]
    exact hn.sublist (List.Sublist.map _ List.filter_sublist)
  obtain ⟨s1, s2⟩ := thr_split A.queue A.has [] hnq
  obtain ⟨f1, f2⟩ := thr_fair A.queue A.has [] pw (fun i hi => by simp at hi)
  refine ⟨⟨?_, ?_, ?_, f1, f2⟩, by rw [e1] at hsub; exact hsub⟩
  · show wait (Ls.map (mkd (thr A.has [] A.queue).2.2)) = (thr A.has [] A.queue).2.1
    rw [s2, List.nil_append, ← hq]
    unfold wait
    rw [List.filter_map, List.map_map, List.filter_map, List.filter_filter]
    have : (AK.c ∘ mkd (thr A.has [] ((Ls.filter fun a => !a.g).map AK.c)).2.2) = AK.c := by funext a; exact mk_c _ a
    rw [this]
    congr 1
    apply List.filter_congr
    intro a _
    simp only [Function.comp, mk_g, AK.c]
    cases a.g
    · simp only [Bool.false_or, Bool.not_false, Bool.and_true, Bool.true_and]
      exact congrArg _ (decide_eq_decide.2 Iff.rfl)
    · simp
  · show (held (Ls.map (mkd (thr A.has [] A.queue).2.2))).Perm (thr A.has [] A.queue).1
    rw [s1]
    have : held (Ls.map (mkd (thr A.has [] A.queue).2.2)) = (Ls.filter fun a => a.g || decide (a.t ∈ (thr A.has [] A.queue).2.2)).map AK.c := by
      unfold held
      rw [List.filter_map, List.map_map]
      have : (AK.c ∘ mkd (thr A.has [] A.queue).2.2) = AK.c := by funext a; exact mk_c _ a
      rw [this]
      congr 1
      apply List.filter_congr
      intro a _
      simp only [Function.comp, mk_g]
    rw [this]
    have p := filter_or (p := fun a : AK => a.g) (q := fun a : AK => !a.g && decide (a.t ∈ (thr A.has [] A.queue).2.2)) (r := fun a : AK => a.g || decide (a.t ∈ (thr A.has [] A.queue).2.2)) Ls (fun a _ => by cases a.g <;> simp) (fun a _ => by cases a.g <;> simp)
    refine (p.symm.map AK.c).trans ?_
    rw [List.map_append]
    refine hh.append ?_
    have e2 : A.queue.filter (fun c => decide (c.1 ∈ (thr A.has [] A.queue).2.2)) = (Ls.filter fun a => !a.g && decide (a.t ∈ (thr A.has [] A.queue).2.2)).map AK.c := by
      conv => lhs; arg 2; rw [← hq]
      unfold wait
      rw [List.filter_map, List.filter_filter]
      congr 1
      apply List.filter_congr
      intro a _
      simp only [Function.comp, AK.c]
      rw [Bool.and_comm]
      exact congrArg _ (decide_eq_decide.2 Iff.rfl)
    rw [e2]
  · have : (Ls.map (mkd A.through.1)).map (·.t) = Ls.map (·.t) := by
      rw [List.map_map]; congr 1; funext a; exact mk_t _ a
    rw [this]; exact hn
end
end Go.Proofs.Ytgmihbchcmjmdaa
