/- Rising sets: told as they were asked for. -/
import Derived.Test.YtgmihbchcmjmdaaLkW
namespace Go.Proofs.Ytgmihbchcmjmdaa
open Go Go.Tr
set_option linter.unusedVariables false
theorem ris_eq : ∀ {a b : List Lk}, Ris a → Ris b → a.Perm b → a = b
  | [], b, _, _, p => (List.nil_perm.1 p).symm
  | x :: a, [], _, _, p => absurd p.length_eq (by simp)
  | x :: a, y :: b, ra, rb, p => by
    have ha := List.pairwise_cons.1 ra
    have hb := List.pairwise_cons.1 rb
    have e : x = y := by
      have h1 : x ∈ y :: b := p.mem_iff.1 List.mem_cons_self
      have h2 : y ∈ x :: a := p.mem_iff.2 List.mem_cons_self
      rcases List.mem_cons.1 h1 with h1 | h1
      · exact h1
      · rcases List.mem_cons.1 h2 with h2 | h2
        · exact h2.symm
        · have := hb.1 x h1; have := ha.1 y h2; omega
    subst e
    rw [ris_eq ha.2 hb.2 (List.Perm.cons_inv p)]
theorem ris_nod {l : List Lk} (r : Ris l) : nod l := by
  unfold nod
  rw [List.nodup_iff_pairwise_ne, List.pairwise_map]
  exact r.imp fun h => by omega
theorem sort_ris {m : Nat} {l : List Lk} (r : Ris l) (hok : okSet m l = true) : AM.sortL m l = l := by
  refine ris_eq ?_ r (okSet_sort hok)
  have h1 := sortL_pw l m
  have h2 := (ok_sort hok).1
  have h3 := adj_nod h1 h2
  unfold nod at h3
  rw [List.nodup_iff_pairwise_ne, List.pairwise_map] at h3
  exact List.Pairwise.imp₂ (fun h g => by omega) h1 h3
end Go.Proofs.Ytgmihbchcmjmdaa
