/- One ask less: what the manager's Free and Quit leave, beside the asks. No heap. -/
import Derived.Test.YtgmihbchcmjmdaaLkK3
namespace Go.Proofs.Ytgmihbchcmjmdaa
open Go Go.Tr
set_option linter.unusedVariables false
section
variable {A : AM} {Ls : List AK} {B : Nat}
theorem wait_split {k : Nat} (hk : k < Ls.length) : wait Ls = wait (Ls.take k) ++ ((if Ls[k].g then [] else [Ls[k].c]) ++ wait (Ls.drop (k + 1))) := by
  unfold wait
  conv => lhs; rw [← List.take_append_drop k Ls, List.drop_eq_getElem_cons hk]
  rw [List.filter_append, List.map_append]
  congr 1
  cases hg : Ls[k].g
  · rw [List.filter_cons_of_pos (by rw [hg]; rfl), List.map_cons]; rfl
  · rw [List.filter_cons_of_neg (by rw [hg]; decide)]; rfl
theorem held_split {k : Nat} (hk : k < Ls.length) : held Ls = held (Ls.take k) ++ ((if Ls[k].g then [Ls[k].c] else []) ++ held (Ls.drop (k + 1))) := by
  unfold held
  conv => lhs; rw [← List.take_append_drop k Ls, List.drop_eq_getElem_cons hk]
  rw [List.filter_append, List.map_append]
  congr 1
  cases hg : Ls[k].g
  · rw [List.filter_cons_of_neg (by rw [hg]; decide)]; rfl
  · rw [List.filter_cons_of_pos hg, List.map_cons]; rfl
theorem wait_erase {k : Nat} (hk : k < Ls.length) : wait (Ls.eraseIdx k) = wait (Ls.take k) ++ wait (Ls.drop (k + 1)) := by
  unfold wait
  rw [List.eraseIdx_eq_take_drop_succ, List.filter_append, List.map_append]
theorem held_erase {k : Nat} (hk : k < Ls.length) : held (Ls.eraseIdx k) = held (Ls.take k) ++ held (Ls.drop (k + 1)) := by
  unfold held
  rw [List.eraseIdx_eq_take_drop_succ, List.filter_append, List.map_append]
theorem nd_erase (hn : (Ls.map (·.t)).Nodup) (k : Nat) : ((Ls.eraseIdx k).map (·.t)).Nodup := hn.sublist (List.Sublist.map _ (List.eraseIdx_sublist _ _))
theorem Rel.dropH (R : Rel A Ls) {k : Nat} (hk : k < Ls.length) (hg : Ls[k].g = true) : ∃ i, findC A.has Ls[k].t = some i ∧ wait (Ls.eraseIdx k) = A.queue ∧ (held (Ls.eraseIdx k)).Perm (A.has.eraseIdx i) ∧ Nc (A.has.eraseIdx i) := by
  obtain ⟨i, h1, h2⟩ := R.hasC (List.getElem_mem hk) hg
  refine ⟨i, h1, ?_, ?_, R.pw.sublist (List.eraseIdx_sublist _ _)⟩
  · have := wait_split hk
    rw [hg] at this
    rw [wait_erase hk, ← R.q, this]; rfl
  · have p1 := R.h
    rw [held_split hk, hg] at p1
    have p2 := perm_eraseIdx A.has i _ h2
    rw [held_erase hk]
    have p3 : (Ls[k].c :: (held (Ls.take k) ++ held (Ls.drop (k + 1)))).Perm (held (Ls.take k) ++ ([Ls[k].c] ++ held (Ls.drop (k + 1)))) := List.perm_middle.symm
    exact List.Perm.cons_inv (p3.trans (p1.trans p2.symm))
theorem Rel.dropQ (R : Rel A Ls) {k : Nat} (hk : k < Ls.length) (hg : Ls[k].g = false) : ∃ i, findC A.has Ls[k].t = none ∧ findC A.queue Ls[k].t = some i ∧ wait (Ls.eraseIdx k) = A.queue.eraseIdx i ∧ (held (Ls.eraseIdx k)).Perm A.has := by
  have hn : (A.queue.map (·.1)).Nodup := by
    have : A.queue.map (·.1) = (Ls.filter fun a => !a.g).map (·.t) := by rw [← R.q]; unfold wait; rw [List.map_map]; rfl
    rw [this]
    exact R.nd.sublist (List.Sublist.map _ List.filter_sublist)
  have hs := wait_split hk
  rw [hg] at hs
  have hq : A.queue = wait (Ls.take k) ++ Ls[k].c :: wait (Ls.drop (k + 1)) := by rw [← R.q, hs]; rfl
  have hi : (wait (Ls.take k)).length < A.queue.length := by rw [hq]; simp
  have hel : A.queue[(wait (Ls.take k)).length] = Ls[k].c := by
    simp only [hq]
    rw [List.getElem_append_right (Nat.le_refl _)]; simp
  obtain ⟨i, h1, h2⟩ := findC_mem hn (c := Ls[k].c) (by rw [← hel]; exact List.getElem_mem hi)
  have hi2 : i = (wait (Ls.take k)).length := by
    obtain ⟨hlt, he⟩ := List.getElem?_eq_some_iff.1 h2
    rw [List.nodup_iff_pairwise_ne, List.pairwise_map, List.pairwise_iff_getElem] at hn
    rcases Nat.lt_trichotomy i (wait (Ls.take k)).length with h | h | h
    · exact absurd (by rw [he, hel]) (hn i _ hlt hi h)
    · exact h
    · exact absurd (by rw [he, hel]) (hn _ i hi hlt h)
  refine ⟨i, R.noHas (List.getElem_mem hk) hg, h1, ?_, ?_⟩
  · rw [wait_erase hk, hi2, hq, List.eraseIdx_append_of_length_le (Nat.le_refl _)]; simp
  · have := held_split hk
    rw [hg] at this
    rw [held_erase hk, ← List.nil_append (held (Ls.drop (k + 1)))]
    have p := R.h
    rw [this] at p
    exact p
/-- Free, by the asks. -/
theorem Rel.free (R : Rel A Ls) {k : Nat} (hk : k < Ls.length) (hg : Ls[k].g = true) : (A.free Ls[k].t).1.2 = 0 ∧ Rel (A.free Ls[k].t).2 ((Ls.eraseIdx k).map (mkd (A.free Ls[k].t).1.1)) ∧ (A.free Ls[k].t).1.1.Sublist (((Ls.eraseIdx k).filter fun a => !a.g).map (·.t)) := by
  obtain ⟨i, h1, h2, h3, h4⟩ := R.dropH hk hg
  have e : A.free Ls[k].t = (({ A with has := A.has.eraseIdx i }.through.1, 0), { A with has := A.has.eraseIdx i }.through.2) := by unfold AM.free; rw [h1]
  rw [e]
  exact ⟨rfl, Rel.through (A := { A with has := A.has.eraseIdx i }) h2 h3 (nd_erase R.nd k) h4⟩
theorem Rel.quit (R : Rel A Ls) {k : Nat} (hk : k < Ls.length) : Rel (A.quit Ls[k].t).2 ((Ls.eraseIdx k).map (mkd (A.quit Ls[k].t).1)) ∧ (A.quit Ls[k].t).1.Sublist (((Ls.eraseIdx k).filter fun a => !a.g).map (·.t)) := by
  cases hg : Ls[k].g with
  | true =>
    obtain ⟨i, h1, h2, h3, h4⟩ := R.dropH hk hg
    have e : A.quit Ls[k].t = { A with has := A.has.eraseIdx i }.through := by unfold AM.quit; rw [h1]
    rw [e]
    exact Rel.through (A := { A with has := A.has.eraseIdx i }) h2 h3 (nd_erase R.nd k) h4
  | false =>
    obtain ⟨i, h0, h1, h2, h3⟩ := R.dropQ hk hg
    have e : A.quit Ls[k].t = { A with queue := A.queue.eraseIdx i }.through := by unfold AM.quit; rw [h0]; simp only [h1]
    rw [e]
    exact Rel.through (A := { A with queue := A.queue.eraseIdx i }) h2 h3 (nd_erase R.nd k) R.pw
/-- Whether a task has its set, by its place. -/
theorem Rel.pos (R : Rel A Ls) (t : Int) : match posT Ls t with
    | none => findC A.has t = none ∧ findC A.queue t = none
    | some k => ∃ hk : k < Ls.length, Ls[k].t = t ∧ (findC A.has t).isSome = Ls[k].g := by
  cases h : posT Ls t with
  | none =>
    have hf := R.find t
    have : (Ls.any fun a => a.t == t) = false := by
      have h2 : (posT Ls t).isSome = false := by rw [h]; rfl
      unfold posT at h2
      rw [List.findIdx?_isSome] at h2; exact h2
    rw [this] at hf
    have hf := Bool.or_eq_false_iff.1 hf.symm
    simp only [Option.isSome_eq_false_iff, Option.isNone_iff_eq_none] at hf
    exact hf
  | some k =>
    unfold posT at h
    obtain ⟨hk, e, _⟩ := List.findIdx?_eq_some_iff_getElem.1 h
    have e : Ls[k].t = t := by simpa using e
    refine ⟨hk, e, ?_⟩
    cases hg : Ls[k].g with
    | true => obtain ⟨i, hi, _⟩ := R.hasC (List.getElem_mem hk) hg; rw [← e, hi]; rfl
    | false => rw [← e, R.noHas (List.getElem_mem hk) hg]; rfl
end
end Go.Proofs.Ytgmihbchcmjmdaa
