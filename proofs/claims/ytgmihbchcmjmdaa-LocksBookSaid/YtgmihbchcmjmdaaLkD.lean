/- One taken out of a slice, in place. -/
import Derived.Test.YtgmihbchcmjmdaaLkP
namespace Go.Proofs.Ytgmihbchcmjmdaa
open Go Go.Tr
set_option linter.unusedVariables false
theorem Arr.wr {α : Type} {K : Kd α} {h : H} {b : Nat} {l1 l2 l3 ys : List α} (A : Arr K h b (l1 ++ l2 ++ l3)) (hl : ys.length = l2.length) {o : Nat} (ho : o = l1.length * K.n) :
    ∃ h', wrCells h ⟨b, o, none⟩ (encs K ys) = some h' ∧ Arr K h' b (l1 ++ ys ++ l3) ∧ Only b h h' := by
  subst ho
  have e0 : (l1 ++ l2 ++ l3).length * K.n = l1.length * K.n + l2.length * K.n + l3.length * K.n := by simp only [List.length_append, Nat.add_mul]
  obtain ⟨h', hw, B, O⟩ := Blk.wr (o := l1.length * K.n) (vs := encs K ys) A (by rw [encs_len, encs_len, e0, hl]; omega) (encs_one K ys)
  refine ⟨h', hw, ?_, O⟩
  have e3 : l1.length * K.n = (encs K l1).length + 0 := by rw [encs_len]; rfl
  rw [encs_append, encs_append, e3, splice_mid _ _ _ _ _ (by rw [encs_len, encs_len, hl]; omega)] at B
  have e4 : splice (encs K l2) 0 (encs K ys) = encs K ys := by
    unfold splice
    rw [List.take_zero, List.nil_append, encs_len, hl, Nat.zero_add, List.drop_of_length_le (by rw [encs_len]; omega), List.append_nil]
  rw [e4] at B
  unfold Arr
  rw [encs_append, encs_append]; exact B
theorem delete_own {h : H} {F : Nat → Prop} {s : Sl} {xs : List Claim} (o : Own kClaim h F s xs) {i : Nat} (hi : i < xs.length) {Q : Sl → H → Prop}
    (k : ∀ s' h', Own kClaim h' F s' (xs.eraseIdx i) → Fr F h h' → h'.size = h.size → Q s' h') : slices_Delete___locks_claim_locks_claim_ s (i : Int) (((i + 1 : Nat) : Int)) h Q := by
  have hlen := o.len
  have hcap := o.le_cap
  have R := o.rds
  obtain ⟨_, ⟨hc0, rfl⟩ | ⟨b, pre, post, rest, ha, hF, hc, A⟩⟩ := id o
  · simp at hi
  unfold slices_Delete___locks_claim_locks_claim_
  have b1 : bndI (s.len : Int) s.cap = some s.len := by unfold bndI; rw [if_pos (by omega)]; simp
  have b2 : bndI ((i + 1 : Nat) : Int) s.len = some (i + 1) := by unfold bndI; rw [if_pos (by omega)]; simp
  have b3 : bndI (i : Int) (i + 1) = some i := by unfold bndI; rw [if_pos (by omega)]; simp
  have h1 : ∃ y, slx 2 s (some (i : Int)) (some ((i + 1 : Nat) : Int)) (some (s.len : Int)) = some y := by
    unfold slx
    simp only [b1, b2, b3, Option.bind_some, Option.map_some]
    exact ⟨_, rfl⟩
  obtain ⟨y, hy⟩ := h1
  refine rd_some hy (ite_f (by rw [beq_eq_false_iff_ne]; omega) ?_)
  have h2 := (slx_hi o (n := i) (by omega)).1
  refine rd_some h2 ?_
  obtain ⟨x3, h3, R3, hl3⟩ := R.slx_lo (n := i + 1) (by omega) (w := 2) rfl
  refine rd_some h3 ⟨_, R3.rdAll, ?_⟩
  rw [if_pos (by show i + x3.len ≤ s.cap; omega)]
  show ∃ h', wrSl kClaim.n ⟨s.a, i, s.cap⟩ i _ h = some h' ∧ _
  have eA : pre ++ (xs ++ (post ++ rest)) = (pre ++ xs.take i) ++ (xs.drop i).take (xs.length - 1 - i) ++ (xs.drop (xs.length - 1) ++ (post ++ rest)) := by
    have : xs.drop (xs.length - 1) = (xs.drop i).drop (xs.length - 1 - i) := by rw [List.drop_drop]; congr 1; omega
    rw [this]
    simp only [List.append_assoc]
    rw [← List.append_assoc ((xs.drop i).take _), List.take_append_drop, ← List.append_assoc (xs.take i), List.take_append_drop]
  rw [eA] at A
  obtain ⟨h4, w4, A4, O4⟩ := Arr.wr (ys := xs.drop (i + 1)) A (by simp; omega) (o := pre.length * 2 + i * 2) (by rw [List.length_append, List.length_take, Nat.min_eq_left (by omega)]; show _ = (pre.length + i) * 2; omega)
  refine ⟨h4, by unfold wrSl; rw [ha]; simp only [add_mk]; exact w4, ?_⟩
  have hx4 : (⟨s.a, i + x3.len, s.cap⟩ : Sl) = ⟨some ⟨b, pre.length * 2, none⟩, xs.length - 1, s.cap⟩ := by rw [ha, show i + x3.len = xs.length - 1 by omega]; rfl
  show rd (slx 2 ⟨s.a, i + x3.len, s.cap⟩ _ _ _) _
  rw [hx4]
  have b4 : bndI (s.len : Int) s.cap = some xs.length := by rw [b1, hlen]
  have b5 : bndI ((xs.length - 1 : Nat) : Int) xs.length = some (xs.length - 1) := by unfold bndI; rw [if_pos (by omega)]; simp
  have h5 : slx 2 ⟨some ⟨b, pre.length * 2, none⟩, xs.length - 1, s.cap⟩ (some ((xs.length - 1 : Nat) : Int)) (some (s.len : Int)) none = some ⟨some ⟨b, pre.length * 2 + (xs.length - 1) * 2, none⟩, 1, s.cap - (xs.length - 1)⟩ := by
    unfold slx
    simp only [b4, b5, Option.bind_some, Option.map_some]
    rw [if_neg (by omega), show xs.length - (xs.length - 1) = 1 by omega]
    simp only [add_mk]
  refine rd_some h5 ?_
  have eB : (pre ++ xs.take i) ++ xs.drop (i + 1) ++ (xs.drop (xs.length - 1) ++ (post ++ rest)) = (pre ++ xs.eraseIdx i) ++ xs.drop (xs.length - 1) ++ (post ++ rest) := by
    rw [List.eraseIdx_eq_take_drop_succ]
    simp only [List.append_assoc]
  rw [eB] at A4
  have hel : (xs.eraseIdx i).length = xs.length - 1 := by rw [List.length_eraseIdx, if_pos hi]
  obtain ⟨h6, w6, A6, O6⟩ := Arr.wr (ys := List.replicate 1 zClaim) A4 (by simp; omega) (o := pre.length * 2 + (xs.length - 1) * 2) (by rw [List.length_append, hel]; show _ = (pre.length + (xs.length - 1)) * 2; omega)
  have h6' : clr (kClaim.enc zClaim) ⟨some ⟨b, pre.length * 2 + (xs.length - 1) * 2, none⟩, 1, s.cap - (xs.length - 1)⟩ h4 = some h6 := by
    unfold clr
    show (if (1 : Nat) = 0 then some h4 else wrCells _ _ (zCells (kClaim.enc zClaim) 1)) = _
    rw [if_neg (by decide)]
    show wrCells _ _ (zCells (kClaim.enc zClaim) 1) = _
    rw [zCells_encs kClaim zClaim 1 (by decide)]
    exact w6
  refine rd_some h6' (k _ h6 ⟨by rw [hel], .inr ⟨b, pre, zClaim :: post, rest, rfl, hF, ?_, ?_⟩⟩ ((Fr.only O4 hF).trans (Fr.only O6 hF) fun _ _ h => h) (by rw [O6.1, O4.1]))
  · show s.cap = _
    rw [hc, hel]; simp; omega
  · have : pre ++ (xs.eraseIdx i ++ (zClaim :: post ++ rest)) = pre ++ xs.eraseIdx i ++ List.replicate 1 zClaim ++ (post ++ rest) := by simp
    rw [this]; exact A6
theorem ownP.delete {F0 : Nat → Prop} {h0 h : H} {Ps : List HP} (S : SG F0 h0 h Ps) (j : Nat) {s : Sl} {xs : List Claim} (hj : Ps[j]? = some (ownP kClaim s xs)) {i : Nat} (hi : i < xs.length) {n : Int} (hn : n = ((i + 1 : Nat) : Int)) {Q : Sl → H → Prop}
    (k : ∀ s' h', SG F0 h0 h' (Ps.set j (ownP kClaim s' (xs.eraseIdx i))) → Q s' h') : slices_Delete___locks_claim_locks_claim_ s (i : Int) n h Q := by
  subst hn
  obtain ⟨F1, ⟨o, l⟩, back⟩ := S.at j hj
  exact delete_own o hi fun s' h' o' f z => k s' h' (back _ h' F1 ⟨o', fun b hb => by rw [z]; exact l b hb⟩ ⟨f.1, f.2, fun _ h => .inl h⟩)
end Go.Proofs.Ytgmihbchcmjmdaa
