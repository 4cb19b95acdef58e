/- LocksPlays, over the heap. -/
import Derived.Test.YtgmihbchcmjmdaaLkL2
import Derived.Test.YtgmihbchcmjmdaaRead
import Derived.Test.YtgmihbchcmjmdaaG3
namespace Go.Proofs.Ytgmihbchcmjmdaa
open Go Go.Tr
set_option linter.unusedVariables false
/-- What a step that the caller hands holds. -/
def wStep (h : H) (x : S52) : Prop := ∃ ys : List Lk, Rds kLk h x.f2 ys ∧ ys.length ≤ 140737488351232
theorem plays_true (n : Int) (l : Sl) (xs : List S52) (h : H) (hl : Rds kStep h l xs) (hw : ∀ y ∈ xs, wStep h y) (hm : xs.length * 40 ≤ reachBytes) : spatelaw11_LocksPlays n l h fun r h' => r = true ∧ Ext h h' := by
  unfold spatelaw11_LocksPlays
  have hlen := hl.len
  refine known_spec fun h1 e1 => ite_f rfl ?_
  have S0 : SS h h1 [] := SS.nil e1
  refine new_spec S0 (fun hb => rnew_spec S0 (fun _ => ?_) fun a b => by omega) fun g1 g2 m h2 S2 => rnew_spec S2 (fun hb => by omega) fun _ _ r h3 S3 => ?_
  · exact jn_i (ite_f rfl (ite_f rfl (ite_t rfl ⟨rfl, e1⟩)))
  refine jn_i (ite_f rfl (ite_f rfl (ite_f rfl (jn_i ?_))))
  have S3 : SS h h3 [mgrP m (AM.new n.toNat), refP r (AM.new n.toNat)] := S3.swap
  have ok0 : (AM.new n.toNat).Ok 0 := AM.Ok.new (by omega) (by omega)
  have fin : ∀ (A : AM) (h4 : H), A.Ok 1500 → SS h h4 [mgrP m A, refP r A] → jn (fun (k3 : Unit → H → Prop) =>
          loopE (spatelaw11_LocksPlays.b1 l (some ⟨m, 0, none⟩) (some ⟨r, 0, none⟩)) 0 h4 (sumK (fun r5 hh => k3 r5 hh) (fun (r6 : Bool) hh => r6 = true ∧ Ext h hh))) fun s3 h6 => true = true ∧ Ext h h6 := fun A h4 ok S4 => by
    refine jn_i (for0 (mk := fun (_ : Unit) i => i) (s := ()) (n := min xs.length 60) (by omega) (fun j _ h' => SS h h' [mgrP m A, refP r A]) S4 (fun j _ h' K hj S5 next done => ?_) (fun _ h' K S5 done => ?_))
    · unfold spatelaw11_LocksPlays.b1
      have hjx : j < xs.length := by omega
      refine jn_c true h' (fun K6 hK => ite_t (by rw [hlen]; exact clt_t hjx) ?_) (ite_t rfl ?_)
      · rw [show decide ((j : Int) < 60) = true by rw [decide_eq_true_eq]; omega]; exact hK
      refine (hl.ext (SS.e S5)).elt ft_task hjx rfl (looks_spec ok (by decide) S5 _ fun h6 S6 => ite_f rfl (next () _ S6))
    · unfold spatelaw11_LocksPlays.b1
      refine jn_c false h' (fun K6 hK => ite_b (fun c => ?_) (fun c => hK)) (ite_f rfl (done _ _ ⟨rfl, SS.e S5⟩))
      rw [decide_eq_true_eq] at c
      rw [show decide (((min xs.length 60 : Nat) : Int) < 60) = false by rw [decide_eq_false_iff_not]; omega]; exact hK
  refine for0 (mk := fun (_ : Unit) i => i) (s := ()) (n := min xs.length 1500) (by omega) (fun j _ h' => ∃ A : AM, A.Ok j ∧ SS h h' [mgrP m A, refP r A]) ⟨_, ok0, S3⟩ (fun j _ h' K hj hI next done => ?_) (fun _ h' K hI done => ?_)
  · obtain ⟨A, ok, S4⟩ := hI
    unfold spatelaw11_LocksPlays.b2
    have hjx : j < xs.length := by omega
    refine jn_c true h' (fun K6 hK => ite_t (by rw [hlen]; exact clt_t hjx) ?_) (ite_t rfl ?_)
    · rw [show decide ((j : Int) < 1500) = true by rw [decide_eq_true_eq]; omega]; exact hK
    obtain ⟨ys, Ry, hy⟩ := hw _ (List.getElem_mem hjx)
    refine (hl.ext (SS.e S4)).elt0 hjx rfl (step_spec ok (by omega) S4 xs[j] Ry (by omega) fun h6 S6 => ite_f rfl (next () _ ⟨_, ok.step _ _, S6⟩))
  · obtain ⟨A, ok, S4⟩ := hI
    unfold spatelaw11_LocksPlays.b2
    refine jn_c false h' (fun K6 hK => ite_b (fun c => ?_) (fun c => hK)) (ite_f rfl (done _ _ (fin A h' (ok.mono (by omega)) S4)))
    rw [decide_eq_true_eq] at c
    rw [show decide (((min xs.length 1500 : Nat) : Int) < 1500) = false by rw [decide_eq_false_iff_not]; omega]; exact hK
end Go.Proofs.Ytgmihbchcmjmdaa
