/- What the laws' helpers do. -/
import Derived.Test.YtbdopnhfbjdegaaNetM2
import Derived.Test.YtbdopnhfbjdegaaNetR4
import Derived.Test.YtbdopnhfbjdegaaG0
import Derived.Test.YtbdopnhfbjdegaaG3
import Derived.Test.YtbdopnhfbjdegaaG6
import Derived.Test.YtbdopnhfbjdegaaG7
namespace Go.Proofs.Ytbdopnhfbjdegaa
open Go Go.Tr
set_option linter.unusedVariables false
section
variable {F0 : Nat → Prop} {h0 h : H} {b r : Nat} {A : AN} {B : Nat} {Rs Ps : List HP}
theorem small_spec (a n : Int) (hn : 0 < n) (hn2 : n < 4611686018427387904) {Q : Int → H → Prop} (k : ∀ m : Int, 0 ≤ m → m < n → Q m h) : spatelaw16_within a n h Q := by
  unfold spatelaw16_within
  have hr : remI a n = some (a.tmod n) := by unfold remI; rw [if_neg (by omega)]
  have := within_spec (h := h) hn hn2 hr
  refine rd_some hr (jn_i (ite_b (fun c => ?_) (fun c => ?_)))
  · rw [if_pos (by simpa using c)] at this; exact k _ this.1 this.2
  · rw [if_neg (by simpa using c)] at this; exact k _ this.1 this.2
def full (ys : List Int) : List Int := ys ++ List.replicate 9 169
theorem lend_spec (S : SG F0 h0 h Rs) {s : Sl} {ys : List Int} (R : Rds u8 h s ys) (hy : ys.length ≤ 140737488351232) {Q : Sl → H → Prop}
    (k : ∀ L h', L.len = ys.length + 9 → L.len ≤ L.cap → SG F0 h0 h' (ownP u8 L (full ys) :: Rs) → Q ⟨L.a, ys.length, L.cap⟩ h') : spatelaw16_Lend s h Q := by
  unfold spatelaw16_Lend
  have hl := R.len
  rw [wrap64_id (by omega) (by omega)]
  have e : (s.len : Int) + 9 = ((ys.length + 9 : Nat) : Int) := by omega
  rw [e]
  refine mk_own (K := u8) (by decide) (by omega) (by omega) fun L h1 eL o A e1 z1 => ?_
  have S1 : SG F0 h0 h1 (ownP u8 L (List.replicate (ys.length + 9) 0) :: Rs) := S.made e1 (o.mono fun b hb => by omega)
  have hL : L.len = ys.length + 9 := by rw [eL]
  have hLc : L.len ≤ L.cap := by rw [eL]; exact Nat.le_refl _
  obtain ⟨h2, hc, S2⟩ := ownP.cpy S1 0 rfl (R.ext e1) (by simp) (n := 1) rfl
  refine rd_some hc ?_
  have S2' : SG F0 h0 h2 (ownP u8 L (ys ++ List.replicate 0 169 ++ List.replicate 9 0) :: Rs) := by
    have e5 : ys ++ List.replicate 0 169 ++ List.replicate 9 0 = ys ++ (List.replicate (ys.length + 9) (0 : Int)).drop ys.length := by simp
    rw [e5]; exact S2
  refine jn_i ?_
  refine loopE_rule (fun μ t h' => ∃ i, i ≤ 9 ∧ t = ((ys.length + i : Nat) : Int) ∧ μ = 9 - i ∧ SG F0 h0 h' (ownP u8 L (ys ++ List.replicate i 169 ++ List.replicate (9 - i) 0) :: Rs)) 9 ⟨0, by omega, by simp [hl], rfl, S2'⟩ ?_
  rintro μ t h' K ⟨i, hi, rfl, rfl, S3⟩ kl kr
  unfold spatelaw16_Lend.b1
  by_cases hlt : i < 9
  · refine ite_t (by simp; omega) ?_
    obtain ⟨a, h4, ha, hs, S4⟩ := ownP.set (K := u8) S3 0 rfl (j := ys.length + i) (by simp; omega) 169 (n := 1) rfl
    refine rd_some ha (rd_some hs (kl (9 - (i + 1)) _ _ (by omega) ⟨i + 1, by omega, (wrap64_id (by omega) (by omega)).trans (by omega), rfl, ?_⟩))
    have e6 : (ys ++ List.replicate i 169 ++ List.replicate (9 - i) 0).set (ys.length + i) (169 : Int) = ys ++ List.replicate (i + 1) 169 ++ List.replicate (9 - (i + 1)) 0 := by
      obtain ⟨m, hm⟩ : ∃ m, 9 - i = m + 1 := ⟨8 - i, by omega⟩
      rw [hm, show 9 - (i + 1) = m by omega]
      have hz : ys.length + i - (ys ++ List.replicate i (169 : Int)).length = 0 := by simp
      rw [List.set_append_right _ _ (by simp), hz, List.replicate_succ, List.set_cons_zero, List.replicate_succ']
      simp only [List.append_assoc, List.cons_append, List.nil_append]
    have S5 : SG F0 h0 h4 (ownP u8 L ((ys ++ List.replicate i 169 ++ List.replicate (9 - i) 0).set (ys.length + i) 169) :: Rs) := S4
    rw [e6] at S5; exact S5
  · obtain rfl : i = 9 := by omega
    refine ite_f (by simp; omega) (kr _ _ ?_)
    rw [hl]
    refine rd_some (slx_num (by omega)) (k L h' hL hLc ?_)
    have e7 : ys ++ List.replicate 9 169 ++ List.replicate (9 - 9) 0 = full ys := by simp [full]
    rw [e7] at S3; exact S3
theorem back_spec {L : Sl} {ys : List Int} (hL : L.len = ys.length + 9) (hLc : L.len ≤ L.cap) (S : SG F0 h0 h (ownP u8 L (full ys) :: Rs)) {s : Sl} (R : Rds u8 h s ys) (hy : ys.length ≤ 140737488351232) {Q : Bool → H → Prop}
    (k : ∀ h', SG F0 h0 h' Rs → Q true h') : spatelaw16_Back ⟨L.a, ys.length, L.cap⟩ s h Q := by
  unfold spatelaw16_Back
  have R0 := ownP.rds S 0 rfl
  have hf : (full ys).length = ys.length + 9 := by simp [full]
  have R1 := R0.pre (n := ys.length) (by omega)
  have e1 : (full ys).take ys.length = ys := by simp [full]
  rw [e1] at R1
  refine rd_some R1.b2s (rd_some R.b2s ?_)
  rw [wrap64_id (by simp; omega) (by simp; omega)]
  have e2 : ((ys.length : Nat) : Int) + 9 = ((ys.length + 9 : Nat) : Int) := by omega
  have e3 : (⟨L.a, ys.length + 9, L.cap⟩ : Sl) = L := by rw [← hL]
  show rd (slx 1 ⟨L.a, ys.length, L.cap⟩ none (some (((ys.length : Nat) : Int) + 9)) none) _
  rw [e2]
  refine rd_some (slx_num (w := 1) (s := ⟨L.a, ys.length, L.cap⟩) (n := ys.length + 9) (by show ys.length + 9 ≤ L.cap; omega)) ?_
  show jn _ _
  rw [e3]
  refine jn_i ?_
  refine loopE_rule (fun μ t h' => t.1 = true ∧ ∃ i, i ≤ 9 ∧ t.2 = ((ys.length + i : Nat) : Int) ∧ μ = 9 - i ∧ h' = h) 9 ⟨by simp, 0, by omega, by simp, rfl, rfl⟩ ?_
  rintro μ ⟨t1, t2⟩ h' K ⟨ht, i, hi, ht2, rfl, rfl⟩ kl kr
  simp only at ht ht2
  subst ht ht2
  unfold spatelaw16_Back.b2
  by_cases hlt : i < 9
  · refine ite_t (by simp; omega) ?_
    obtain ⟨a, ha, hl⟩ := ownP.get (K := u8) S 0 rfl (j := ys.length + i) (by omega) (n := 1) rfl
    have ex : (full ys)[ys.length + i]'(by omega) = 169 := by
      simp only [full]
      rw [List.getElem_append_right (by omega), List.getElem_replicate]
    rw [ex] at hl
    refine jn_c true h' (fun K2 hK => ite_t rfl (rd_some ha (rd_some hl hK))) (kl (9 - (i + 1)) _ _ (by omega) ⟨rfl, i + 1, by omega, (wrap64_id (by omega) (by omega)).trans (by omega), rfl, rfl⟩)
  · obtain rfl : i = 9 := by omega
    refine ite_f (by simp; omega) (kr _ _ ?_)
    refine jn_i ?_
    refine loopE_rule (fun μ t h'' => ∃ (i : Nat) (zs : List Int), i ≤ L.len ∧ t = (i : Int) ∧ μ = L.len - i ∧ zs.length = L.len ∧ SG F0 h0 h'' (ownP u8 L zs :: Rs)) L.len ⟨0, full ys, by omega, rfl, rfl, by omega, S⟩ ?_
    rintro μ t h'' K ⟨i, zs, hi, rfl, rfl, hz, S2⟩ kl kr
    unfold spatelaw16_Back.b1
    by_cases hlt : i < L.len
    · obtain ⟨a, h4, ha, hs, S4⟩ := ownP.set (K := u8) S2 0 rfl (j := i) (by omega) 94 (n := 1) rfl
      exact ite_t (by simp; omega) (rd_some ha (rd_some hs (kl (L.len - (i + 1)) _ _ (by omega) ⟨i + 1, _, by omega, (wrap64_id (by omega) (by omega)).trans (by omega), rfl, by simpa using hz, S4⟩)))
    · exact ite_f (by simp; omega) (kr _ _ (k h'' S2.tail))
theorem head_spec (S : SG F0 h0 h Rs) {Q : Bool → H → Prop} (k : ∀ h', SG F0 h0 h' Rs → Q true h') : spatelaw16_head h Q := by
  unfold spatelaw16_head
  refine new_good S (i := 4) (o := 3) (by decide) (by decide) (by decide) (by decide) fun b h1 e1 S1 => ?_
  have o0 : (AN.new 4 3).Ok 0 := AN.Ok.new (by decide) (by decide) (by decide) (by decide)
  have o1 := o0.open' 1
  refine jn_i (ite_f rfl (ite_f rfl ?_))
  refine S1.go1 0 rfl (open_spec o0 1) fun _ h2 S2 => ?_
  have S2 : SG F0 h0 h2 (netP b ((AN.new 4 3).open' 1).2 :: Rs) := S2
  refine ite_f (by rw [show ((AN.new 4 3).open' 1).1 = 0 from rfl]; rfl) ?_
  refine bs_own (K := u8) [1, 2, 3, 4, 5, 6] rfl rfl fun x1 h3 ox hlx e3 z3 => ?_
  have S3 := S2.ext e3
  have o2 := o1.send 1 [1, 2, 3, 4, 5, 6]
  refine S3.go1 0 rfl (send_spec o1 (c := 1) ox.rds (by decide)) fun _ h4 S4 => ?_
  generalize hA2 : ((AN.new 4 3).open' 1).2.send 1 [1, 2, 3, 4, 5, 6] = p2 at *
  have S4 : SG F0 h0 h4 (netP b p2.2 :: Rs) := S4
  have ep2 : p2.1 = 0 := by rw [← hA2]; rfl
  rw [ep2]
  refine ite_f rfl ?_
  refine S4.go1 0 rfl (bring_spec o2 1 3) fun _ h5 S5 => ?_
  have o3 := o2.bring 1 3
  generalize hA3 : p2.2.bring 1 3 = p3 at *
  have S5 : SG F0 h0 h5 (netP b p3.2 :: Rs) := S5
  refine S5.go1 0 rfl (bring_spec o3 1 9) fun _ h6 S6 => ?_
  have o4 := o3.bring 1 9
  generalize hA4 : p3.2.bring 1 9 = p4 at *
  have S6 : SG F0 h0 h6 (netP b p4.2 :: Rs) := S6
  refine S6.go1 0 rfl (take_spec o4 1) fun s h7 S7 => ?_
  generalize hA5 : p4.2.take 1 = p5 at *
  have S7 : SG F0 h0 h7 (ownP u8 s p5.1.1 :: netP b p5.2 :: Rs) := S7
  have e3' : p3.1 = (3, 0) := by rw [← hA3, ← hA2]; rfl
  have e4' : p4.1 = (1, 0) := by rw [← hA4, ← hA3, ← hA2]; rfl
  have e5' : p5.1 = ([1, 2, 3, 4], 0) := by rw [← hA5, ← hA4, ← hA3, ← hA2]; rfl
  have e6' : p5.2.moved = 4 := by rw [← hA5, ← hA4, ← hA3, ← hA2]; rfl
  rw [e3', e4', e5']
  rw [e5'] at S7
  refine jn_i (ite_t rfl (ite_t rfl (ite_t rfl (ite_t rfl (ite_t rfl ?_)))))
  refine rd_some (ownP.rds S7 0 rfl).b2s ?_
  refine bs_own (K := u8) [1, 2, 3, 4] rfl rfl fun x2 h8 ox2 hlx2 e8 z8 => ?_
  refine rd_some ox2.rds.b2s (ite_t (by simp) ?_)
  refine (S7.ext e8).go1 1 rfl moved_spec fun _ h9 S9 => ?_
  rw [e6']
  exact k h9 S9.tail.tail
end
end Go.Proofs.Ytbdopnhfbjdegaa
