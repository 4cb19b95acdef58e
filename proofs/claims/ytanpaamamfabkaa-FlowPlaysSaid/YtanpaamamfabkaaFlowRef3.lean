/- The document's flow, over the heap: Empty, New. -/
import Derived.Test.YtanpaamamfabkaaFlowRef2
namespace Go.Proofs.Ytanpaamamfabkaa
open Go Go.Tr
set_option linter.unusedVariables false
section
variable {F0 : Nat → Prop} {h0 h : H} {b : Nat} {sq sb st : Sl} {A : AF}
theorem ref_empty (ok : A.Ok) (S : SG F0 h0 h (refL b sq sb st A)) {Q : Bool → H → Prop} (k : Q A.empty h) : spateref15_Flow_Empty (some ⟨b, 0, none⟩) h Q := by
  unfold spateref15_Flow_Empty
  obtain ⟨l1, l2⟩ := refL.lens S
  have hQ : ld kL (Addr.add ⟨b, 0, none⟩ 1) h = some sq := varP.ld S fr_queues 0 rfl
  have hB : ld kL (Addr.add ⟨b, 0, none⟩ 2) h = some sb := varP.ld S fr_boxes 0 rfl
  have hq8 := ok.q8
  have hb8 := ok.b8
  refine jn_i (loopE_rule (fun μ s h' => ∃ i : Nat, s = (i : Int) ∧ i ≤ A.qs.length ∧ μ = A.qs.length - i ∧ h' = h ∧ ∀ i' q, i' < i → A.qs[i']? = some q → q.1 = []) A.qs.length ⟨0, rfl, Nat.zero_le _, rfl, rfl, fun i' q h => absurd h (Nat.not_lt_zero _)⟩ ?_)
  rintro μ s h' K ⟨i, rfl, hi, rfl, rfl, hall⟩ kl kr
  unfold spateref15_Flow_Empty.b2
  refine rd_some rfl (rd_some hQ (ite_b (fun c => ?_) (fun c => kr _ _ ?_)))
  · have hi' : i < A.qs.length := by simp at c; omega
    obtain ⟨q, c1, hq1, hc1, _, o⟩ := gridP.get (K := k32) S 1 rfl (j := i) (by simpa using hi')
    have ol := o.len
    simp only [List.getElem_map] at ol
    refine rd_some rfl (rd_some hQ (rd_some hq1 (rd_some hc1 (ite_b (fun c2 => kr _ _ ?_) (fun c2 => ?_)))))
    · have : A.empty = false := by
        cases he : A.empty with
        | false => rfl
        | true =>
          have := (is_empty he).1 i _ (List.getElem?_eq_getElem hi')
          rw [this] at ol; simp at c2 ol; omega
      rw [this] at k; exact k
    · refine kl (A.qs.length - (i + 1)) _ _ (by omega) ⟨i + 1, (wrap64_id (by omega) (by omega)).trans (by omega), by omega, rfl, rfl, fun i' q' hlt hq' => ?_⟩
      rcases Nat.lt_or_ge i' i with h1 | h1
      · exact hall i' q' h1 hq'
      · have : i' = i := by omega
        subst this
        rw [List.getElem?_eq_getElem hi'] at hq'
        cases hq'
        have : (A.qs[i']).1.length = 0 := by simp at c2; omega
        exact List.length_eq_zero_iff.1 this
  · have hie : i = A.qs.length := by simp at c; omega
    subst hie
    refine jn_i (loopE_rule (fun μ s h'' => ∃ j : Nat, s = (j : Int) ∧ j ≤ A.bs.length ∧ μ = A.bs.length - j ∧ h'' = h' ∧ ∀ j' l, j' < j → A.bs[j']? = some l → l = []) A.bs.length ⟨0, rfl, Nat.zero_le _, rfl, rfl, fun i' q h => absurd h (Nat.not_lt_zero _)⟩ ?_)
    rintro μ s h'' K2 ⟨j, rfl, hj, rfl, rfl, hall2⟩ kl2 kr2
    unfold spateref15_Flow_Empty.b1
    refine rd_some rfl (rd_some hB (ite_b (fun c => ?_) (fun c => kr2 _ _ ?_)))
    · have hj' : j < A.bs.length := by simp at c; omega
      obtain ⟨q, c1, hq1, hc1, _, o⟩ := gridP.get (K := k51) S 2 rfl (j := j) (by simpa using hj')
      have ol := o.len
      simp only [List.getElem_map] at ol
      have ol' : c1.len = (A.bs[j]).length := by rw [ol]; simp [conv]
      refine rd_some rfl (rd_some hB (rd_some hq1 (rd_some hc1 (ite_b (fun c2 => kr2 _ _ ?_) (fun c2 => ?_)))))
      · have : A.empty = false := by
          cases he : A.empty with
          | false => rfl
          | true =>
            have := (is_empty he).2 j _ (List.getElem?_eq_getElem hj')
            rw [this] at ol'; simp at c2 ol'; omega
        rw [this] at k; exact k
      · refine kl2 (A.bs.length - (j + 1)) _ _ (by omega) ⟨j + 1, (wrap64_id (by omega) (by omega)).trans (by omega), by omega, rfl, rfl, fun i' q' hlt hq' => ?_⟩
        rcases Nat.lt_or_ge i' j with h1 | h1
        · exact hall2 i' q' h1 hq'
        · have : i' = j := by omega
          subst this
          rw [List.getElem?_eq_getElem hj'] at hq'
          cases hq'
          have : (A.bs[i']).length = 0 := by simp at c2; omega
          exact List.length_eq_zero_iff.1 this
    · have hje : j = A.bs.length := by simp at c; omega
      subst hje
      have : A.empty = true := by
        cases he : A.empty with
        | true => rfl
        | false =>
          rcases not_empty he with ⟨j, l, h1, h2⟩ | ⟨i, q, h1, h2⟩
          · exact absurd (hall2 j l (List.getElem?_eq_some_iff.1 h1).1 h1) h2
          · exact absurd (hall i q (List.getElem?_eq_some_iff.1 h1).1 h1) h2
      rw [this] at k; exact k
end
theorem ref_new (h : H) (a0 a1 a2 : Int) {Q : (Option Addr × Int) → H → Prop} (bad : (a0 < 1 ∨ a0 > 8 ∨ a1 < 1 ∨ a1 > 8 ∨ a2 < 1 ∨ a2 > 64) → Q (none, 1) h)
    (good : ∀ n m k : Nat, a0 = n → a1 = m → a2 = k → 1 ≤ n → n ≤ 8 → 1 ≤ m → m ≤ 8 → 1 ≤ k → k ≤ 64 → ∀ b sq sb st h', SS h h' (refL b sq sb st (AF.new n m k)) → Q (some ⟨b, 0, none⟩, 0) h') : spateref15_New a0 a1 a2 h Q := by
  unfold spateref15_New
  refine jn_c (decide (a0 < 1 ∨ a0 > 8 ∨ a1 < 1 ∨ a1 > 8 ∨ a2 < 1 ∨ a2 > 64)) h (fun K hK => ?_) ?_
  · have tr : (a0 < 1 ∨ a0 > 8 ∨ a1 < 1 ∨ a1 > 8 ∨ a2 < 1 ∨ a2 > 64) → K true h := fun x => by
      have : decide (a0 < 1 ∨ a0 > 8 ∨ a1 < 1 ∨ a1 > 8 ∨ a2 < 1 ∨ a2 > 64) = true := by simpa using x
      rw [this] at hK; exact hK
    refine ite_b (fun c => tr (by simp at c; omega)) fun c1 => ite_b (fun c => tr (by simp at c; omega)) fun c2 => ite_b (fun c => tr (by simp at c; omega)) fun c3 => ite_b (fun c => tr (by simp at c; omega)) fun c4 => ite_b (fun c => tr (by simp at c; omega)) fun c5 => ?_
    have : decide (a0 < 1 ∨ a0 > 8 ∨ a1 < 1 ∨ a1 > 8 ∨ a2 < 1 ∨ a2 > 64) = decide (a2 > 64) := by
      rw [decide_eq_decide]
      simp only [decide_eq_false_iff_not] at c1 c2 c3 c4 c5
      omega
    rw [this] at hK; exact hK
  refine ite_b (fun c => bad (by simpa using c)) fun c => ?_
  have c' : ¬ (a0 < 1 ∨ a0 > 8 ∨ a1 < 1 ∨ a1 > 8 ∨ a2 < 1 ∨ a2 > 64) := by simpa using c
  obtain ⟨n, rfl⟩ : ∃ n : Nat, a0 = n := ⟨a0.toNat, by omega⟩
  obtain ⟨m, rfl⟩ : ∃ n : Nat, a1 = n := ⟨a1.toNat, by omega⟩
  obtain ⟨k, rfl⟩ : ∃ n : Nat, a2 = n := ⟨a2.toNat, by omega⟩
  have g := good n m k rfl rfl rfl (by omega) (by omega) (by omega) (by omega) (by omega) (by omega)
  have e : ∀ b sq sb st, refL b sq sb st (AF.new n m k) = [varP k65 b ⟨(k : Int), sq, sb, st⟩, gridP k32 sq (List.replicate n []), gridP k51 sb (List.replicate m []), ownP (kI .i64) st (List.replicate n 0)] := by
    intro b sq sb st
    simp [refL, AF.new, conv, toI]
  have S0 : SS h h [] := SS.nil (Ext.refl h)
  have fin : ∀ sq sb st h5, SS h h5 [gridP k32 sq (List.replicate n []), gridP k51 sb (List.replicate m []), ownP (kI .i64) st (List.replicate n 0)] →
      al 66 (k65.enc (S65.mk (k : Int) sq sb st)) h5 fun q h6 => Q (some q, 0) h6 := fun sq sb st h5 S5 =>
    S5.var (K := k65) fun b h6 S6 _ => g b sq sb st h6 (by rw [e]; exact S6)
  have pr : ∀ x y z : HP, [z, y, x].Perm [x, y, z] := fun x y z => List.reverse_perm [x, y, z]
  have pz : ∀ x y z : HP, [x, z, y].Perm [x, y, z] := fun x y z => List.Perm.cons _ (List.Perm.swap _ _ _)
  have px : ∀ x y z : HP, [y, x, z].Perm [x, y, z] := fun x y z => List.Perm.swap _ _ _
  refine jn_i ⟨?_, ?_, ?_⟩
  · refine S0.grid k32 (by omega) (by omega) fun sq h3 S3 _ => ⟨?_, ?_⟩
    · exact S3.grid k51 (by omega) (by omega) fun sb h4 S4 _ => SG.own (K := kI .i64) (by decide) S4 (by omega) (by omega) fun st h5 S5 => fin sq sb st h5 (S5.perm (pr _ _ _))
    · exact SG.own (K := kI .i64) (by decide) S3 (by omega) (by omega) fun st h5 S5 => S5.grid k51 (by omega) (by omega) fun sb h4 S4 _ => fin sq sb st h4 (S4.perm ((pz _ _ _).trans (px _ _ _)))
  · refine S0.grid k51 (by omega) (by omega) fun sb h3 S3 _ => ⟨?_, ?_⟩
    · exact S3.grid k32 (by omega) (by omega) fun sq h4 S4 _ => SG.own (K := kI .i64) (by decide) S4 (by omega) (by omega) fun st h5 S5 => fin sq sb st h5 (S5.perm ((pr _ _ _).trans (px _ _ _)))
    · exact SG.own (K := kI .i64) (by decide) S3 (by omega) (by omega) fun st h5 S5 => S5.grid k32 (by omega) (by omega) fun sq h4 S4 _ => fin sq sb st h4 (S4.perm (pz _ _ _))
  · refine SG.own (K := kI .i64) (by decide) S0 (by omega) (by omega) fun st h3 S3 => ⟨?_, ?_⟩
    · exact S3.grid k32 (by omega) (by omega) fun sq h4 S4 _ => S4.grid k51 (by omega) (by omega) fun sb h5 S5 _ => fin sq sb st h5 (S5.perm (px _ _ _))
    · exact S3.grid k51 (by omega) (by omega) fun sb h4 S4 _ => S4.grid k32 (by omega) (by omega) fun sq h5 S5 _ => fin sq sb st h5 S5
end Go.Proofs.Ytanpaamamfabkaa
