/- NetPlays, over the heap. -/
import Derived.Test.YtbdopnhfbjdegaaNetT
import Derived.Test.YtbdopnhfbjdegaaRead
import Derived.Test.YtbdopnhfbjdegaaG7
namespace Go.Proofs.Ytbdopnhfbjdegaa
open Go Go.Tr
set_option linter.unusedVariables false
set_option maxRecDepth 100000
/-- What a step that the caller hands holds: its bytes, read in the heap h. -/
def wStep (h : H) (x : S48) : Prop := ∃ ys : List Int, Rds u8 h x.f2 ys ∧ ys.length ≤ 140737488351232
theorem plays_loop {h0 h : H} {b r : Nat} {l : Sl} {xs : List S48} {A0 : AN} (hl : Rds k48 h0 l xs) (hw : ∀ y ∈ xs, wStep h0 y) (hm : xs.length * 48 ≤ reachBytes) (ok : A0.Ok 0) (S : SS h0 h [netP b A0, refP r A0]) {Q : Unit ⊕ Bool → H → Prop}
    (k : ∀ A B h', A.Ok B → B ≤ 200 * 131072 → SS h0 h' [netP b A, refP r A] → Q (.inl ()) h') : loopE (spatelaw16_NetPlays.b2 l (some ⟨b, 0, none⟩) (some ⟨r, 0, none⟩)) 0 h Q := by
  refine loopE_rule (fun μ s h' => ∃ (i : Nat) (A : AN), s = (i : Int) ∧ i ≤ 200 ∧ i ≤ xs.length ∧ μ = 200 - i ∧ A.Ok (i * 131072) ∧ SS h0 h' [netP b A, refP r A]) 200 ⟨0, A0, rfl, by omega, by omega, by omega, by simpa using ok, S⟩ ?_
  rintro μ s h' K ⟨i, A, rfl, hi, hix, rfl, ok, S⟩ kl kr
  unfold spatelaw16_NetPlays.b2
  have hlen := hl.len
  by_cases hc : i < xs.length ∧ i < 200
  · have c1 : decide ((i : Int) < (l.len : Int)) = true := by rw [decide_eq_true_eq]; omega
    have c2 : decide ((i : Int) < 200) = true := by rw [decide_eq_true_eq]; omega
    refine jn_c true h' (fun K6 hK => ?_) (ite_t rfl ?_)
    · refine ite_t c1 ?_
      refine ite_t c2 ?_
      exact hK
    obtain ⟨a, ha, hx⟩ := hl.ix hc.1 (n := 4) rfl
    obtain ⟨ys, hys, hyl⟩ := hw _ (List.getElem_mem hc.1)
    refine jn_i (rd_some ha (rd_some (ld_ext (SS.e S) hx) (asked_spec ok (by omega) xs[i] hys hyl S fun h1 S1 => ite_f rfl ?_)))
    have ok1 := ok.stepA xs[i] ys
    have hx1 : ld (kI .i64) (a.add 1) h1 = some (xs[i]).f1 := ld_ext (SS.e S1) (ld_fld fs_c hx)
    refine rd_some ha (rd_some hx1 (told_spec ok1 (by omega) _ S1 fun h2 S2 => ite_f rfl ?_))
    exact kl (200 - (i + 1)) _ _ (by omega) ⟨i + 1, _, (wrap64_id (by omega) (by omega)).trans (by omega), by omega, by omega, rfl, ok1.mono (by omega), S2⟩
  · refine jn_c false h' (fun K6 hK => ite_b (fun c1 => ite_b (fun c2 => ?_) (fun c2 => hK)) (fun c1 => hK)) (ite_f rfl (kr _ _ (k A _ h' ok (by omega) S)))
    rw [decide_eq_true_eq] at c1 c2; omega
theorem plays_true (a0 a1 : Int) (l : Sl) (xs : List S48) (h : H) (hl : Rds k48 h l xs) (hw : ∀ y ∈ xs, wStep h y) (hm : xs.length * 48 ≤ reachBytes) : spatelaw16_NetPlays a0 a1 l h fun r h' => r = true ∧ Ext h h' := by
  unfold spatelaw16_NetPlays
  have S0 : SS h h [] := SS.nil (Ext.refl h)
  by_cases hb : a0 < 1 ∨ 131072 < a0 ∨ a1 < 1 ∨ 131072 < a1
  · refine new_bad hb (ref_new_bad hb (jn_i (ite_f rfl (ite_f rfl (jn_i ?_)))))
    refine loopE_rule (fun μ s h' => h' = h) 0 rfl ?_
    rintro μ s h' K rfl kl kr
    unfold spatelaw16_NetPlays.b2
    refine jn_c false h' (fun K6 hK => ite_b (fun c1 => ite_b (fun c2 => hK) (fun c2 => hK)) (fun c1 => hK)) (ite_f rfl (kr _ _ (jn_i ?_)))
    refine loopE_rule (fun μ s h'' => h'' = h') 0 rfl ?_
    rintro μ s h'' K rfl kl kr
    unfold spatelaw16_NetPlays.b1
    refine jn_c false h'' (fun K6 hK => ite_b (fun c1 => hK) (fun c1 => hK)) (ite_f rfl (kr _ _ ?_))
    exact head_spec S0 fun h3 S3 => ⟨rfl, SS.e S3⟩
  · obtain ⟨i, rfl⟩ := Int.eq_ofNat_of_zero_le (show 0 ≤ a0 by omega)
    obtain ⟨o, rfl⟩ := Int.eq_ofNat_of_zero_le (show 0 ≤ a1 by omega)
    refine new_good S0 (i := i) (o := o) (by omega) (by omega) (by omega) (by omega) fun b h1 e1 S1 => ?_
    refine ref_new_good S1 (i := i) (o := o) (by omega) (by omega) (by omega) (by omega) fun r h2 S2 => ?_
    refine jn_i (ite_f rfl (ite_f rfl (jn_i ?_)))
    refine plays_loop hl hw hm (AN.Ok.new (by omega) (by omega) (by omega) (by omega)) (SG.swap S2) fun A B h3 ok hB S3 => jn_i ?_
    refine loopE_rule (fun μ s h' => ∃ i : Nat, s = (i : Int) - 1 ∧ i ≤ 68 ∧ μ = 68 - i ∧ SS h h' [netP b A, refP r A]) 68 ⟨0, by omega, by omega, by omega, S3⟩ ?_
    rintro μ s h' K ⟨i, rfl, hi, rfl, S4⟩ kl kr
    unfold spatelaw16_NetPlays.b1
    by_cases hc : i < 68
    · refine jn_c true h' (fun K6 hK => ite_t (by rw [decide_eq_true_eq]; omega) hK) (ite_t rfl (told_spec ok (by omega) _ S4 fun h5 S5 => ite_f rfl ?_))
      exact kl (68 - (i + 1)) _ _ (by omega) ⟨i + 1, (wrap64_id (by omega) (by omega)).trans (by omega), by omega, rfl, S5⟩
    · refine jn_c false h' (fun K6 hK => ite_f (by rw [decide_eq_false_iff_not]; omega) hK) (ite_f rfl (kr _ _ ?_))
      exact head_spec S4 fun h5 S5 => ⟨rfl, SS.e S5⟩
end Go.Proofs.Ytbdopnhfbjdegaa
