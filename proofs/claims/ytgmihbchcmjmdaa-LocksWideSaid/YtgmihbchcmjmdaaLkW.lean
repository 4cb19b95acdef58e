/- Rising sets: whether they meet. -/
import Derived.Test.YtgmihbchcmjmdaaLkK
namespace Go.Proofs.Ytgmihbchcmjmdaa
open Go Go.Tr
set_option linter.unusedVariables false
abbrev Ris (l : List Lk) : Prop := l.Pairwise fun x y => x.f0 < y.f0
theorem conf_l (a : Lk) (la lb : List Lk) : conf (a :: la) lb = (lb.any (tst a) || conf la lb) := rfl
theorem conf_r (b : Lk) (la lb : List Lk) : conf la (b :: lb) = (la.any (fun x => tst x b) || conf la lb) := by
  rw [conf_comm, conf_l, conf_comm lb la]
  congr 1
  apply Bool.eq_iff_iff.2
  simp only [List.any_eq_true, tst, Bool.and_eq_true, beq_iff_eq]
  constructor
  · rintro ⟨x, hx, e, c⟩
    exact ⟨x, hx, e.symm, by rw [Bool.and_comm]; exact c⟩
  · rintro ⟨x, hx, e, c⟩
    exact ⟨x, hx, e.symm, by rw [Bool.and_comm]; exact c⟩
theorem any_none {l : List Lk} {p : Lk → Bool} (h : ∀ x ∈ l, p x = false) : l.any p = false := by
  rw [List.any_eq_false]
  intro x hx; rw [h x hx]; simp
theorem tst_ne {x y : Lk} (h : x.f0 ≠ y.f0) : tst x y = false := by
  unfold tst
  have : (x.f0 == y.f0) = false := by rw [beq_eq_false_iff_ne]; exact h
  rw [this]; rfl
theorem meets_spec {h : H} {a b : Sl} {la lb : List Lk} (Ra : Rds kLk h a la) (Rb : Rds kLk h b lb) (ra : Ris la) (rb : Ris lb) (h1 : la.length < 1000000000) (h2 : lb.length < 1000000000) {Q : Bool → H → Prop} (kq : Q (conf la lb) h) : spatelaw11_meets a b h Q := by
  unfold spatelaw11_meets
  have za := Ra.len
  have zb := Rb.len
  refine jn_i (loopE_rule (fun μ (t : Int × Int) h' => ∃ i j : Nat, t.1 = i ∧ t.2 = j ∧ i ≤ la.length ∧ j ≤ lb.length ∧ μ = la.length - i + (lb.length - j) ∧ h' = h ∧ conf (la.drop i) (lb.drop j) = conf la lb) (la.length + lb.length) ⟨0, 0, rfl, rfl, Nat.zero_le _, Nat.zero_le _, rfl, rfl, rfl⟩ ?_)
  rintro μ ⟨t1, t2⟩ h' K ⟨i, j, e1, e2, hi, hj, rfl, rfl, hc⟩ next done
  have e1 : t1 = i := e1
  have e2 : t2 = j := e2
  subst e1 e2
  unfold spatelaw11_meets.b1
  by_cases hh : i < la.length ∧ j < lb.length
  · obtain ⟨hi', hj'⟩ := hh
    refine jn_c true h' (fun K2 hK => ite_t (by rw [za]; exact clt_t hi') (by rw [show decide (((i : Int), (j : Int)).2 < (b.len : Int)) = true by rw [zb]; exact clt_t hj']; exact hK)) (ite_t rfl ?_)
    have da : la.drop i = la[i] :: la.drop (i + 1) := List.drop_eq_getElem_cons hi'
    have db : lb.drop j = lb[j] :: lb.drop (j + 1) := List.drop_eq_getElem_cons hj'
    have pa : ∀ x ∈ la.drop (i + 1), la[i].f0 < x.f0 := by
      have := ra.sublist (List.drop_sublist i la)
      rw [da] at this
      exact (List.pairwise_cons.1 this).1
    have pb : ∀ x ∈ lb.drop (j + 1), lb[j].f0 < x.f0 := by
      have := rb.sublist (List.drop_sublist j lb)
      rw [db] at this
      exact (List.pairwise_cons.1 this).1
    refine Ra.elt fk_n hi' rfl (Rb.elt fk_n hj' rfl ?_)
    refine ite_b (fun c => ?_) (fun c => Rb.elt fk_n hj' rfl (Ra.elt fk_n hi' rfl (ite_b (fun c2 => ?_) (fun c2 => ?_))))
    · have c : la[i].f0 < lb[j].f0 := by
        have c : decide (la[i].f0 < lb[j].f0) = true := c
        rw [decide_eq_true_eq] at c; exact c
      refine next _ _ _ (by omega) ⟨i + 1, j, by show IntKind.i64.wrap ((i : Int) + 1) = _; rw [wrap64_id (by omega) (by omega)]; rfl, rfl, by omega, hj, rfl, rfl, ?_⟩
      rw [← hc, da, conf_l, any_none, Bool.false_or]
      intro x hx
      rw [db] at hx
      refine tst_ne ?_
      rcases List.mem_cons.1 hx with rfl | hx
      · omega
      · have := pb x hx; omega
    · have c2 : lb[j].f0 < la[i].f0 := by
        have c2 : decide (lb[j].f0 < la[i].f0) = true := c2
        rw [decide_eq_true_eq] at c2; exact c2
      refine next _ _ _ (by omega) ⟨i, j + 1, rfl, by show IntKind.i64.wrap ((j : Int) + 1) = _; rw [wrap64_id (by omega) (by omega)]; rfl, hi, by omega, rfl, rfl, ?_⟩
      rw [← hc, db, conf_r, any_none, Bool.false_or]
      intro x hx
      rw [da] at hx
      refine tst_ne ?_
      rcases List.mem_cons.1 hx with rfl | hx
      · omega
      · have := pa x hx; omega
    · have c : ¬ la[i].f0 < lb[j].f0 := by
        have c : decide (la[i].f0 < lb[j].f0) = false := c
        rw [decide_eq_false_iff_not] at c; exact c
      have c2 : ¬ lb[j].f0 < la[i].f0 := by
        have c2 : decide (lb[j].f0 < la[i].f0) = false := c2
        rw [decide_eq_false_iff_not] at c2; exact c2
      have ce : la[i].f0 = lb[j].f0 := by omega
      refine jn_c (!(la[i].f1 && lb[j].f1)) h' (fun K3 hK => Ra.elt fk_s hi' rfl (ite_b (fun d => ?_) (fun d => ?_))) (ite_b (fun d => ?_) (fun d => ?_))
      · have d : la[i].f1 = true := d
        rw [d, Bool.true_and] at hK
        exact Rb.elt fk_s hj' rfl hK
      · have d : la[i].f1 = false := d
        rw [d, Bool.false_and] at hK; exact hK
      · refine done _ _ ?_
        have : conf la lb = true := by
          rw [← hc, da, db]
          refine List.any_eq_true.2 ⟨_, List.mem_cons_self, List.any_eq_true.2 ⟨_, List.mem_cons_self, ?_⟩⟩
          rw [ce, d]; simp
        rw [this] at kq; exact kq
      · refine next _ _ _ (by omega) ⟨i + 1, j + 1, by show IntKind.i64.wrap ((i : Int) + 1) = _; rw [wrap64_id (by omega) (by omega)]; rfl, by show IntKind.i64.wrap ((j : Int) + 1) = _; rw [wrap64_id (by omega) (by omega)]; rfl, by omega, by omega, rfl, rfl, ?_⟩
        rw [← hc, da, conf_l, any_none, Bool.false_or, db, conf_r, any_none, Bool.false_or]
        · intro x hx
          refine tst_ne ?_
          have := pa x hx; omega
        · intro x hx
          rw [db] at hx
          rcases List.mem_cons.1 hx with rfl | hx
          · unfold tst; rw [d, Bool.and_false]
          · refine tst_ne ?_
            have := pb x hx; omega
  · refine jn_c false h' (fun K2 hK => ite_b (fun c => ?_) (fun c => hK)) (ite_f rfl (done _ _ ?_))
    · have c : decide ((i : Int) < (a.len : Int)) = true := c
      rw [decide_eq_true_eq] at c
      rw [show decide (((i : Int), (j : Int)).2 < (b.len : Int)) = false by show decide ((j : Int) < (b.len : Int)) = false; rw [decide_eq_false_iff_not]; omega]; exact hK
    · have : conf la lb = false := by
        rw [← hc]
        rcases Nat.lt_or_ge i la.length with g | g
        · rw [List.drop_of_length_le (l := lb) (by omega)]
          unfold conf
          exact any_none fun x _ => rfl
        · rw [List.drop_of_length_le (l := la) (by omega)]; rfl
      rw [this] at kq; exact kq
end Go.Proofs.Ytgmihbchcmjmdaa
