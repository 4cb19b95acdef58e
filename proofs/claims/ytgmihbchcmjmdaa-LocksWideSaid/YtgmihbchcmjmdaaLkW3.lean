/- LocksWide's sets, made. -/
import Derived.Test.YtgmihbchcmjmdaaLkW2
import Derived.Test.YtgmihbchcmjmdaaLawNamed
import Derived.Test.YtgmihbchcmjmdaaG2
namespace Go.Proofs.Ytgmihbchcmjmdaa
open Go Go.Tr
set_option linter.unusedVariables false
section
variable {h0 h : H} {Ps : List HP}
theorem rem_ix {i n : Nat} (hn : 0 < n) : remI (i : Int) (n : Int) = some ((i % n : Nat) : Int) := by
  unfold remI
  rw [if_neg (by omega)]
  congr 1
theorem wide_set {n : Nat} (hn2 : n ≤ 1024) (S : SS h0 h Ps) {p1 p2 p3 p11 : Sl} {p9 : Option Addr} {ss : List Int} (Rs : Rds (kI .i64) h0 p3 ss) (hs : 0 < ss.length) {i : Nat} {k0 st : Int} (hk0 : 0 ≤ k0) (hk1 : k0 < n) (hst : 1 ≤ st) (hst2 : st ≤ 40) {Q : Sl → H → Prop}
    (kq : ∀ s' l h', SS h0 h' (ownP kLk s' l :: Ps) → Ris l → (∀ x ∈ l, inR n x = true) → l ≠ [] → l.length ≤ 1024 → Q s' h') : loopE (spatelaw11_LocksWide.b7 (n : Int) p1 p2 p3 p9 p11 (i : Int) st) (Sl.nil, k0) h Q := by
  have hlen := Rs.len
  refine loopE_rule (fun μ (t : Sl × Int) h' => ∃ (l : List Lk), 0 ≤ t.2 ∧ μ = ((n : Int) - t.2).toNat ∧ SS h0 h' (ownP kLk t.1 l :: Ps) ∧ Ris l ∧ (∀ x ∈ l, inR n x = true ∧ x.f0 < t.2) ∧ (l.length : Int) ≤ t.2 ∧ l.length ≤ 1024 ∧ (l = [] → t.2 < n)) _ ⟨[], hk0, rfl, S.made (Ext.refl h) (Own.nil kLk h _), List.Pairwise.nil, by simp, by simpa using hk0, by simp, fun _ => hk1⟩ ?_
  rintro μ ⟨s', k⟩ h1 K ⟨l, hk, rfl, S1, hr, hx, hl, hl2, he⟩ next done
  have hk : 0 ≤ k := hk
  have hl : (l.length : Int) ≤ k := hl
  unfold spatelaw11_LocksWide.b7
  refine ite_b (fun c => ?_) (fun c => ?_)
  · have c : k < n := by
      have c : decide (k < (n : Int)) = true := c
      rw [decide_eq_true_eq] at c; exact c
    have hrem : remI (i : Int) (p3.len : Int) = some ((i % ss.length : Nat) : Int) := by rw [hlen]; exact rem_ix hs
    refine rd_some hrem ((Rs.ext (SS.e S1)).elt0 (i := i % ss.length) (Nat.mod_lt _ hs) rfl ?_)
    refine within_go (by decide) (by decide) fun r hr0 hr1 => ?_
    refine ownP.push (K := kLk) (by decide) S1 0 rfl ⟨k, r == 1⟩ (by omega) (by omega) fun s2 h2 S2 => ?_
    have hw : IntKind.i64.wrap (k + st) = k + st := wrap64_id (by omega) (by omega)
    refine next _ _ _ (by show ((n : Int) - IntKind.i64.wrap (k + st)).toNat < ((n : Int) - k).toNat; rw [hw]; omega) ⟨l ++ [(⟨k, r == 1⟩ : Lk)], by show 0 ≤ IntKind.i64.wrap (k + st); rw [hw]; omega, rfl, S2, ?_, fun x hx' => ?_, ?_, ?_, fun e => by simp at e⟩
    · unfold Ris
      rw [List.pairwise_append]
      refine ⟨hr, by simp, fun a ha b hb => ?_⟩
      obtain rfl := List.mem_singleton.1 hb
      exact (hx a ha).2
    · show _ ∧ x.f0 < IntKind.i64.wrap (k + st)
      rw [hw]
      rcases List.mem_append.1 hx' with h | h
      · have h2 := (hx x h).2
        have h2 : x.f0 < k := h2
        exact ⟨(hx x h).1, by omega⟩
      · obtain rfl := List.mem_singleton.1 h
        refine ⟨by simp [inR]; omega, ?_⟩
        show k < k + st
        omega
    · show ((l ++ [(⟨k, r == 1⟩ : Lk)]).length : Int) ≤ IntKind.i64.wrap (k + st)
      rw [hw]; simp; omega
    · simp; omega
  · have c : ¬ k < n := by
      have c : decide (k < (n : Int)) = false := c
      rw [decide_eq_false_iff_not] at c; exact c
    exact done _ _ (kq s' l h1 S1 hr (fun x h => (hx x h).1) (fun e => c (he e)) hl2)
end
end Go.Proofs.Ytgmihbchcmjmdaa
