/- FlowRoom, over the heap. -/
import Derived.Test.YtanpaamamfabkaaFlowR
import Derived.Test.YtanpaamamfabkaaF6
namespace Go.Proofs.Ytanpaamamfabkaa
open Go Go.Tr
set_option linter.unusedVariables false
theorem k34_whole : Fld k34 k34 0 id (fun _ v => v) := Fld.whole k34
theorem fs_kind : Fld k34 (kI .i64) 0 (·.f0) (fun x v => { x with f0 := v }) := ⟨by decide, fun _ => rfl, fun _ _ => rfl⟩
theorem fs_a : Fld k34 (kI .i64) 1 (·.f1) (fun x v => { x with f1 := v }) := ⟨by decide, fun _ => rfl, fun _ _ => rfl⟩
theorem fs_item : Fld k34 k32 2 (·.f2) (fun x v => { x with f2 := v }) := ⟨by decide, fun _ => rfl, fun _ _ => rfl⟩

/-- No box holds more than its room. -/
theorem room_tail {h : H} {p : Addr} {A : AF} {F : Nat → Prop} (R : FRep h p A F) {m : Nat} (hm : m < 9) {k : Int} (hk : (A.most : Int) = k) (s3 : Sl) (i2 : Int) {Q : Unit ⊕ Bool → H → Prop} (k0 : Q (.inl ()) h) :
    loopE (spatelaw15_FlowRoom.b2 (m : Int) k s3 (some p) i2) 0 h Q := by
  refine loopE_rule (fun μ s h' => ∃ i : Nat, s = (i : Int) ∧ i ≤ m ∧ μ = m - i ∧ h' = h) m ⟨0, rfl, Nat.zero_le _, rfl, rfl⟩ ?_
  rintro μ s h' K ⟨i, rfl, hi, rfl, rfl⟩ kl kr
  unfold spatelaw15_FlowRoom.b2
  refine ite_b (fun e => ?_) (fun e => kr _ _ k0)
  have hi' : i < m := by simp at e; omega
  refine boxed_spec R i ?_
  have := AF.boxed_le R.ok (i : Int)
  refine ite_f (by simp; omega) (kl (m - (i + 1)) _ _ (by omega) ⟨i + 1, (wrap64_id (by omega) (by omega)).trans (by omega), by omega, rfl, rfl⟩)

theorem room_true (a0 a1 a2 : Int) (sc : Sl) (xs : List S34) (h : H) (hsc : Rds k34 h sc xs) (hw : ∀ y ∈ xs, w34 y) (hlen : xs.length ≤ maxLen) : spatelaw15_FlowRoom a0 a1 a2 sc h fun r h' => r = true ∧ Ext h h' := by
  unfold spatelaw15_FlowRoom
  refine known_spec h fun h1 e1 => ite_f rfl ?_
  refine ite_b (fun _ => ⟨rfl, e1⟩) fun hbig => ?_
  have hbig' : xs.length ≤ 5000 := by have := hsc.len; simp at hbig; omega
  refine small_spec h1 a0 8 (by decide) (by decide) fun n n1 n8 => ?_
  refine small_spec h1 a1 8 (by decide) (by decide) fun m m1 m8 => ?_
  refine small_spec h1 a2 4 (by decide) (by decide) fun k k1 k4 => ?_
  refine new_spec n m k (fun hb => by omega) fun n' m' k' p h3 F3 q1 q2 q3 _ _ _ _ _ _ R3 n3 x3 => ?_
  obtain rfl : n = n' := by omega
  obtain rfl : m = m' := by omega
  obtain rfl : k = k' := by omega
  refine jn_i (ite_f rfl (ite_f rfl (jn_i ?_)))
  have r3 : RS h h3 p (AF.new n m k) F3 := ⟨R3, e1.trans x3, fun b hb => Nat.le_trans e1.1 (n3 b hb)⟩
  refine loopE_rule (fun μ s h' => ∃ (i : Nat) (A : AF) (F : Nat → Prop), s = (i : Int) ∧ i ≤ xs.length ∧ μ = xs.length - i ∧ RS h h' p A F ∧ A.most = k) xs.length ⟨0, _, F3, rfl, Nat.zero_le _, rfl, r3, rfl⟩ ?_
  rintro μ s h4 K ⟨i, A, F, rfl, hi, rfl, r, hk⟩ kl kr
  unfold spatelaw15_FlowRoom.b1
  refine ite_b (fun e => ?_) (fun e => kr _ _ ⟨rfl, r.e⟩)
  have hi' : i < xs.length := by have := hsc.len; simp at e; omega
  obtain ⟨a, ha, hl⟩ := hsc.ix hi' (n := 6) rfl
  have next : ∀ h' A' F', RS h h' p A' F' → A'.most = k → K (.inl (IntKind.i64.wrap ((i : Int) + 1))) h' := fun h' A' F' r' hk' =>
    kl (xs.length - (i + 1)) _ _ (by omega) ⟨i + 1, A', F', (wrap64_id (by omega) (by omega)).trans (by omega), by omega, rfl, r', hk'⟩
  refine jn_i (rd_some ha (rd_some (ld_ext r.e hl) (r.cell k34_whole (x := xs[i]) fun b h10 r10 f10 L10 z10 => ?_)))
  generalize hx : xs[i] = x at *
  refine rd_some (L10.V.ld fs_a) (queued_spec r10.R _ ?_)
  refine rd_some (L10.V.ld fs_a) (toward_spec r10.R _ fun h12 e12 => ?_)
  have r12 := r10.ext e12
  have L12 := L10.ext e12
  refine boxed_spec r12.R _ ?_
  refine rd_some (L12.V.ld fs_a) (boxed_spec r12.R _ ?_)
  -- what follows each call: the boxes are looked at
  have tail : ∀ h' A' F', RS h h' p A' F' → A'.most = k → loopE (spatelaw15_FlowRoom.b2 (m : Int) (k : Int) sc (some p) (i : Int)) 0 h' (sumK (fun r11 hh => K (.inl (IntKind.i64.wrap ((i : Int) + 1))) hh) (fun r12 hh => K (.inr (.inr r12)) hh)) := fun h' A' F' r' hk' =>
    room_tail r'.R (by omega) (by rw [hk']) sc i (next h' A' F' r' hk')
  refine jn_i (rd_some (L12.V.ld fs_kind) ?_)
  refine ite_b (fun c1 => ?_) fun c1 => ite_b (fun c2 => ?_) fun c2 => ite_b (fun c3 => ?_) fun c3 => ?_
  · -- put
    refine rd_some (L12.V.ld fs_a) (rd_some (L12.V.ld fs_item) (put_spec r12.R _ _ fun h18 F18 R18 f18 => ?_))
    have r18 := r12.step R18 f18
    have L18 := L12.step f18
    have hq := AF.put_queued A x.f1 x.f2
    have hm := AF.put_most A x.f1 x.f2
    have hrange : 0 ≤ A.queued x.f1 ∧ A.queued x.f1 ≤ 65536 := by
      unfold AF.queued
      split
      · omega
      · split
        · omega
        · rename_i q hq
          have := (r12.R.ok.ql _ _ hq).1
          omega
    generalize A.put x.f1 x.f2 = pr at *
    have hw : IntKind.i64.wrap (A.queued x.f1 + 1) = A.queued x.f1 + 1 := wrap64_id (by omega) (by omega)
    refine jn_c false h18 (fun K6 hK => ?_) (ite_f rfl (tail _ _ _ r18 (by omega)))
    refine rd_some (L18.V.ld fs_a) (queued_spec r18.R _ ?_)
    rw [hq, hw]
    by_cases h0 : pr.1 = 0
    · rw [if_pos h0]
      refine ite_t (by rw [bne_iff_ne]; omega) (ite_f (by simp [h0]) (ite_t (by simp [h0]) (rd_some (L18.V.ld fs_a) (queued_spec r18.R _ ?_))))
      rw [hq, if_pos h0]; simpa using hK
    · rw [if_neg h0]
      exact ite_f (by simp) (ite_f (by simp [h0]) hK)
  · -- pass
    refine rd_some (L12.V.ld fs_a) (pass_spec r12.R _ fun h23 F23 R23 f23 => ?_)
    have r23 := r12.step R23 f23
    have hm := AF.pass_most A x.f1
    have hle := AF.boxed_le r12.R.ok (A.toward x.f1).1
    by_cases hg : (A.toward x.f1).2 = 0
    · refine ite_f (by simp [hg]) ?_
      rcases AF.pass_room r12.R.ok hg with ⟨hp, hb⟩ | ⟨hp, hb, hb2⟩
      · rw [hp] at r23 ⊢
        refine jn_c false h23 (fun K7 hK => ?_) (ite_f rfl (tail _ _ _ r23 hk))
        have c : decide (A.boxed (A.toward x.f1).1 ≥ (k : Int)) = true := by simp; omega
        refine ite_f (by rw [c]; rfl) (ite_t c (ite_f rfl (ite_f (by rw [c]; rfl) (boxed_spec r23.R _ ?_))))
        simpa using hK
      · have c : decide (A.boxed (A.toward x.f1).1 ≥ (k : Int)) = false := by simp; omega
        have h0 : 0 ≤ A.boxed (A.toward x.f1).1 := by
          unfold AF.boxed
          split
          · omega
          · split <;> omega
        have hw : IntKind.i64.wrap (A.boxed (A.toward x.f1).1 + 1) = A.boxed (A.toward x.f1).1 + 1 := wrap64_id (by omega) (by omega)
        refine jn_c false h23 (fun K7 hK => ?_) (ite_f rfl (tail _ _ _ r23 (by omega)))
        rw [hp]
        refine ite_f (by rw [c]; rfl) (ite_f c (ite_t (by rw [c]; rfl) (ite_f (by simp) (boxed_spec r23.R _ ?_))))
        refine ite_f ?_ hK
        show (AF.boxed _ (A.toward x.f1).1 != _) = false
        rw [hb2, hw]; simp
    · refine ite_t (by simpa using hg) (ite_f (by rw [AF.pass_err hg]; simp) ?_)
      exact next _ _ _ r23 (by omega)
  · -- take
    refine rd_some (L12.V.ld fs_a) (take_spec r12.R _ fun h29 F29 R29 f29 => ?_)
    have r29 := r12.step R29 f29
    have L29 := L12.step f29
    have hm := AF.take_most A x.f1
    have hle := AF.boxed_le r12.R.ok x.f1
    have hr := AF.take_room (A := A) x.f1
    refine r29.cell (Fld.whole k32) (x := (A.take x.f1).1.2.1) fun b31 h31 r31 f31 L31 z31 => ?_
    have L31' := L29.step f31
    refine jn_c false h31 (fun K8 hK => ?_) (ite_f rfl (tail _ _ _ r31 (by omega)))
    rcases hr with ⟨g1, g2, g3⟩ | ⟨g1, g2⟩
    · refine ite_f (by simp [g1]; omega) (ite_t (by simp; omega) (rd_some (L31'.V.ld fs_a) (boxed_spec r31.R _ ?_)))
      have hw : IntKind.i64.wrap (A.boxed x.f1 - 1) = A.boxed x.f1 - 1 := wrap64_id (by omega) (by omega)
      rw [g3, hw]
      simpa using hK
    · refine ite_f (by simp [g1, g2]) (ite_f (by simp [g2]) hK)
  · exact tail _ _ _ r12 hk
end Go.Proofs.Ytanpaamamfabkaa
