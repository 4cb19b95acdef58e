/- inOrder, over the heap. -/
import Derived.Test.YtanpaamamfabkaaFlowO
import Derived.Test.YtanpaamamfabkaaG5
namespace Go.Proofs.Ytanpaamamfabkaa
open Go Go.Tr
set_option linter.unusedVariables false
theorem ft_from : Fld k51 (kI .i64) 0 (·.f0) (fun x v => { x with f0 := v }) := ⟨by decide, fun _ => rfl, fun _ _ => rfl⟩
theorem ft_item : Fld k51 k32 1 (·.f1) (fun x v => { x with f1 := v }) := ⟨by decide, fun _ => rfl, fun _ _ => rfl⟩
theorem eq33_self (x : S32) : eq33 x x = true := by
  simp [eq33]
  show (x.f1.data == x.f1.data) = true; simp
theorem srcT_cons (i : Nat) (l : List Tk) (x : Tk) : srcT i (x :: l) = (if x.f0 == (i : Int) then [x.f1] else []) ++ srcT i l := by
  simp only [srcT, List.filter_cons]; split <;> rfl
theorem get_off {α β : Type} {K : Kd α} {Fk : Kd β} {off : Nat} {g : α → β} {p : α → β → α} (f : Fld K Fk off g p) {h : H} {F : Nat → Prop} {s : Sl} {xs : List α} (o : Own K h F s xs) {i : Nat} (hi : i < xs.length) {n : Nat} (hn : n = K.n) :
    ∃ a, ixA n s (i : Int) = some a ∧ ld Fk (a.add off) h = some (g xs[i]) := by subst hn; exact o.get f hi
theorem get_all {α : Type} {K : Kd α} {h : H} {F : Nat → Prop} {s : Sl} {xs : List α} (o : Own K h F s xs) {i : Nat} (hi : i < xs.length) {n : Nat} (hn : n = K.n) :
    ∃ a, ixA n s (i : Int) = some a ∧ ld K a h = some xs[i] := by subst hn; exact o.get0 hi

theorem inOrder_spec {h : H} {p : Addr} {A : AF} {F G1 G2 : Nat → Prop} (R : FRep h p A F) {s1 s2 : Sl} {xs : List Item} {ys : List Tk} (o1 : Own k32 h G1 s1 xs) (o2 : Own k51 h G2 s2 ys) (hk : ∀ x ∈ xs, x.f1.size ≤ 32)
    (i j : Nat) (hf : xs.filter (mine A.bs.length j) = srcT i ys) (hx : xs.length < 1000000) (hy : ys.length < 1000000) {Q : Bool → H → Prop} (k : ∀ h', Ext h h' → Q true h') : spatelaw15_inOrder s1 s2 (i : Int) (j : Int) (some p) h Q := by
  unfold spatelaw15_inOrder
  have l1 := o1.len
  have l2 := o2.len
  refine jn_i (loopE_rule (fun μ s h' => ∃ at' kk : Nat, s = ((at' : Int), (kk : Int)) ∧ at' ≤ xs.length ∧ kk ≤ ys.length ∧ μ = ys.length - kk ∧ Ext h h' ∧ (xs.drop at').filter (mine A.bs.length j) = srcT i (ys.drop kk)) ys.length ⟨0, 0, rfl, Nat.zero_le _, Nat.zero_le _, rfl, Ext.refl _, by simpa using hf⟩ ?_)
  rintro μ s h1 K ⟨at', kk, rfl, hat, hkk, rfl, e1, hfe⟩ kl kr
  unfold spatelaw15_inOrder.b2
  simp only
  refine ite_b (fun c => ?_) (fun c => ?_)
  · have hkl : kk < ys.length := by simp at c; omega
    have hyd : ys.drop kk = ys[kk] :: ys.drop (kk + 1) := List.drop_eq_getElem_cons hkl
    rw [hyd, srcT_cons] at hfe
    obtain ⟨a3, ha3, hl3⟩ := get_off ft_from (o2.ext e1) hkl (n := 5) rfl
    refine jn_i (rd_some ha3 (rd_some hl3 ?_))
    have hw : IntKind.i64.wrap ((kk : Int) + 1) = ((kk + 1 : Nat) : Int) := (wrap64_id (by omega) (by omega)).trans (by omega)
    refine ite_b (fun c3 => ?_) (fun c3 => ?_)
    · have : ¬ (ys[kk].f0 = (i : Int)) := by simpa using c3
      rw [hw]
      refine kl _ _ _ ?_ ⟨at', kk + 1, rfl, hat, by omega, rfl, e1, by simpa [this] using hfe⟩
      omega
    · have hsrc : ys[kk].f0 = (i : Int) := by simpa using c3
      have hfe' : (xs.drop at').filter (mine A.bs.length j) = ys[kk].f1 :: srcT i (ys.drop (kk + 1)) := by simpa [hsrc] using hfe
      clear hfe
      refine jn_i (jn_i (loopE_rule (fun μ s h' => ∃ a : Nat, s = (a : Int) ∧ a ≤ xs.length ∧ μ = xs.length - a ∧ Ext h h' ∧ (xs.drop a).filter (mine A.bs.length j) = ys[kk].f1 :: srcT i (ys.drop (kk + 1))) (xs.length - at') ⟨at', rfl, hat, rfl, e1, hfe'⟩ ?_))
      rintro μ s h7 K7 ⟨a, rfl, ha, rfl, e7, hfa⟩ kl7 kr7
      have hal : a < xs.length := by
        rcases Nat.lt_or_ge a xs.length with h | h
        · exact h
        · rw [List.drop_eq_nil_of_le h] at hfa; cases hfa
      have hxd : xs.drop a = xs[a] :: xs.drop (a + 1) := List.drop_eq_getElem_cons hal
      rw [hxd, List.filter_cons] at hfa
      unfold spatelaw15_inOrder.b3
      have hwa : IntKind.i64.wrap ((a : Int) + 1) = ((a + 1 : Nat) : Int) := (wrap64_id (by omega) (by omega)).trans (by omega)
      -- it is the one that was taken
      have stop : ∀ h9, Ext h h9 → mine A.bs.length j xs[a] = true → K7 (.inr (a : Int)) h9 := by
        intro h9 e9 hm
        refine kr7 _ _ ?_
        rw [hm, if_pos rfl] at hfa
        have hxy : xs[a] = ys[kk].f1 := (List.cons.inj hfa).1
        obtain ⟨a4, ha4, hl4⟩ := get_all (o1.ext e9) hal (n := 4) rfl
        obtain ⟨a5, ha5, hl5⟩ := get_off ft_item (o2.ext e9) hkl (n := 5) rfl
        refine jn_i (ite_f (by rw [l1]; simp; omega) (rd_some ha4 (rd_some hl4 (rd_some ha5 (rd_some hl5 ?_)))))
        rw [hxy, eq33_self]
        refine ite_f rfl ?_
        rw [hwa, hw]
        exact kl (ys.length - (kk + 1)) _ _ (by omega) ⟨a + 1, kk + 1, rfl, by omega, by omega, rfl, e9, (List.cons.inj hfa).2⟩
      have goon : ∀ h9, Ext h h9 → mine A.bs.length j xs[a] = false → K7 (.inl (IntKind.i64.wrap ((a : Int) + 1))) h9 := by
        intro h9 e9 hm
        rw [hm, if_neg (by simp)] at hfa
        rw [hwa]
        exact kl7 (xs.length - (a + 1)) _ _ (by omega) ⟨a + 1, rfl, by omega, rfl, e9, hfa⟩
      obtain ⟨a6, ha6, hl6⟩ := get_off fi_mark (o1.ext e7) hal (n := 4) rfl
      refine jn_i (ite_t (by rw [l1]; simp; omega) (rd_some ha6 (rd_some hl6 ?_)))
      refine ite_b (fun c6 => ?_) (fun c6 => ?_)
      · have hmk : xs[a].f0 = false := by simpa using c6
        obtain ⟨a7, ha7, hl7⟩ := get_off fi_key (o1.ext e7) hal (n := 4) rfl
        refine rd_some ha7 (rd_some hl7 (route_spec (R.ext e7) _ (by have := hk _ (List.getElem_mem hal); omega) fun h10 e10 => ?_))
        refine ite_b (fun c => goon h10 (e7.trans e10) ?_) (fun c => stop h10 (e7.trans e10) ?_)
        · simp only [mine, hmk, Bool.false_or]; simpa using c
        · simp only [mine, hmk, Bool.false_or]; simpa using c
      · have hmk : xs[a].f0 = true := by simpa using c6
        exact ite_f rfl (stop h7 e7 (by simp [mine, hmk]))
  · -- nothing of its own is left
    have : kk = ys.length := by simp at c; omega
    subst this
    rw [List.drop_eq_nil_of_le (Nat.le_refl _)] at hfe
    refine kr _ _ ?_
    refine jn_i (loopE_rule (fun μ s h' => ∃ a : Nat, s = (a : Int) ∧ a ≤ xs.length ∧ μ = xs.length - a ∧ Ext h h' ∧ (xs.drop a).filter (mine A.bs.length j) = []) (xs.length - at') ⟨at', rfl, hat, rfl, e1, hfe⟩ ?_)
    rintro μ s h7 K7 ⟨a, rfl, ha, rfl, e7, hfa⟩ kl7 kr7
    unfold spatelaw15_inOrder.b1
    refine ite_b (fun c => ?_) (fun c => kr7 _ _ (k h7 e7))
    have hal : a < xs.length := by simp at c; omega
    have hxd : xs.drop a = xs[a] :: xs.drop (a + 1) := List.drop_eq_getElem_cons hal
    rw [hxd, List.filter_cons] at hfa
    have hm : mine A.bs.length j xs[a] = false := by
      cases hm : mine A.bs.length j xs[a] with
      | false => rfl
      | true => rw [hm, if_pos rfl] at hfa; cases hfa
    rw [hm, if_neg (by simp)] at hfa
    simp only [mine, Bool.or_eq_false_iff] at hm
    have hwa : IntKind.i64.wrap ((a : Int) + 1) = ((a + 1 : Nat) : Int) := (wrap64_id (by omega) (by omega)).trans (by omega)
    obtain ⟨a6, ha6, hl6⟩ := get_off fi_mark (o1.ext e7) hal (n := 4) rfl
    obtain ⟨a7, ha7, hl7⟩ := get_off fi_key (o1.ext e7) hal (n := 4) rfl
    refine jn_i (rd_some ha6 (rd_some hl6 (ite_f hm.1 (rd_some ha7 (rd_some hl7 (route_spec (R.ext e7) _ (by have := hk _ (List.getElem_mem hal); omega) fun h10 e10 => ite_f hm.2 ?_))))))
    rw [hwa]
    exact kl7 (xs.length - (a + 1)) _ _ (by omega) ⟨a + 1, rfl, by omega, rfl, e7.trans e10, hfa⟩
end Go.Proofs.Ytanpaamamfabkaa
