/- The program's flow: Take, the looks, New. -/
import Derived.Test.YtanpaamamfabkaaFlowP3
namespace Go.Proofs.Ytanpaamamfabkaa
open Go Go.Tr
set_option linter.unusedVariables false

theorem box_cases (A : AF) (s : Int) : (s < 0 ∨ (A.bs.length : Int) ≤ s) ∨ ∃ j : Nat, s = (j : Int) ∧ j < A.bs.length := by
  by_cases h0 : s < 0
  · exact .inl (.inl h0)
  · by_cases h1 : (A.bs.length : Int) ≤ s
    · exact .inl (.inr h1)
    · exact .inr ⟨s.toNat, by omega, by omega⟩

section
variable {h : H} {p : Addr} {A : AF} {own : Nat → Option Tag} {bF bq bb : Nat} {cq : List S78} {cb : List S61}
/-- Is there such a box? -/
theorem box_guard (R : FOwn h p A own bF bq bb cq cb) (s : Int) (K : Bool → H → Prop) (hK : K (decide (s < 0 ∨ (A.bs.length : Int) ≤ s)) h) :
    if (decide (s < 0)) = true then K true h else rd (some p) fun q => rd (ld kL (q.add 1) h) fun x => K (decide (s ≥ (x.len : Int))) h := by
  refine ite_b (fun e => ?_) (fun e => rd_some rfl (rd_some R.ldb ?_))
  · have : decide (s < 0 ∨ (A.bs.length : Int) ≤ s) = true := by simp at e ⊢; omega
    rw [this] at hK; exact hK
  · have : decide (s < 0 ∨ (A.bs.length : Int) ≤ s) = decide (s ≥ (A.bs.length : Int)) := by
      simp at e
      by_cases h1 : (A.bs.length : Int) ≤ s
      · simp [h1]
      · simp [h1]; omega
    rw [this] at hK; exact hK
end

theorem boxed_spec {h : H} {p : Addr} {A : AF} {F : Nat → Prop} (R : FRep h p A F) (s : Int) {Q : Int → H → Prop} (k : Q (A.boxed s) h) : flow_Flow_Boxed (some p) s h Q := by
  obtain ⟨ok, own, bF, bq, bb, cq, cb, R, rfl⟩ := R
  unfold flow_Flow_Boxed
  refine jn_c (decide (s < 0 ∨ (A.bs.length : Int) ≤ s)) h (fun K hK => box_guard R s K hK) ?_
  unfold AF.boxed at k
  rcases box_cases A s with hs | ⟨j, rfl, hj⟩
  · refine ite_t (by simpa using hs) ?_
    split at k
    · exact k
    · rw [List.getElem?_eq_none (by omega)] at k; exact k
  · refine ite_f (by simp; omega) ?_
    rw [if_neg (by omega), Int.toNat_natCast, List.getElem?_eq_getElem hj] at k
    have hj' : j < cb.length := by rw [R.bl]; exact hj
    have B := R.br j _ _ (List.getElem?_eq_getElem hj') (List.getElem?_eq_getElem hj)
    obtain ⟨br, ms, fst, hc, hown, hA, hml, hf, hll, hms⟩ := B.h
    have l2 := Arr.ld fb_many R.b hj' (o := j * 3 + 2) rfl
    rw [hc] at l2
    exact rd_some rfl (rd_some R.ldb (rd_some (ixA_arr hj) (rd_some l2 k)))
theorem queued_spec {h : H} {p : Addr} {A : AF} {F : Nat → Prop} (R : FRep h p A F) (s : Int) {Q : Int → H → Prop} (k : Q (A.queued s) h) : flow_Flow_Queued (some p) s h Q := by
  obtain ⟨ok, own, bF, bq, bb, cq, cb, R, rfl⟩ := R
  unfold flow_Flow_Queued
  unfold AF.queued at k
  rcases source_cases A s with hs | ⟨i, rfl, hi⟩
  · refine of_bad R hs (ite_t rfl ?_)
    split at k
    · exact k
    · rw [List.getElem?_eq_none (by omega)] at k; exact k
  · rw [if_neg (by omega), Int.toNat_natCast, List.getElem?_eq_getElem hi] at k
    have hi' : i < cq.length := by rw [R.ql]; exact hi
    have hlq := Arr.ld fq_items R.q hi' (o := i * 2 + 0) rfl
    obtain ⟨oq, eq⟩ := R.qr i _ _ (List.getElem?_eq_getElem hi') (List.getElem?_eq_getElem hi)
    refine of_good R hi (ite_f rfl (rd_some rfl (rd_some hlq ?_)))
    rw [oq.len]; exact k

theorem take_spec {h : H} {p : Addr} {A : AF} {F : Nat → Prop} (R : FRep h p A F) (s : Int) {Q : (Int × S32 × Int) → H → Prop} (k : ∀ h' F', FRep h' p (A.take s).2 F' → Frm F F' h h' → Q (A.take s).1 h') : flow_Flow_Take (some p) s h Q := by
  have okT := R.ok.take s
  have okA := R.ok
  unfold flow_Flow_Take
  refine al_var fun b1 h1 hb1 V1 e1 hs1 => ?_
  have R1 := R.ext e1
  have R1' := R1
  have ltF := R.lt
  obtain ⟨ok, own, bF, bq, bb, cq, cb, R1, rfl⟩ := R1
  obtain ⟨h3, s3, V3, O3⟩ := V1.st (Fld.whole k32) (S32.mk false ⟨#[]⟩ 0 0)
  have F3 : FRep h3 p A (fun b => own b ≠ none) := R1'.frame (by rw [O3.1]; exact Nat.le_refl _) fun b hb _ => O3.2 b (fun e => by have := ltF b hb; omega)
  have m3 : Frm (fun b => own b ≠ none) (fun b => own b ≠ none) h h3 := ⟨by rw [O3.1]; exact e1.1, fun b hb _ => by rw [O3.2 b (by omega), e1.2 b hb], fun _ h => .inl h⟩
  refine jn_c (decide (s < 0 ∨ (A.bs.length : Int) ≤ s)) h1 (fun K hK => box_guard R1 s K hK) ?_
  rcases box_cases A s with hs | ⟨j, rfl, hj⟩
  · have ht : A.take s = ((0, z32, 1), A) := by
      unfold AF.take
      split
      · rfl
      · unfold AF.takeQ
        rw [List.getElem?_eq_none (by omega)]
    rw [ht] at k
    exact ite_t (by simpa using hs) (rd_some s3 (rd_some (V3.ld (Fld.whole k32)) (k h3 _ F3 m3)))
  · have hbj : A.bs[j]? = some A.bs[j] := List.getElem?_eq_getElem hj
    have ht : A.take (j : Int) = match A.bs[j] with
        | [] => ((0, z32, 44), A)
        | m :: r => ((m.f0, m.f1, 0), { A with bs := A.bs.set j r }) := by
      unfold AF.take
      rw [if_neg (by omega), Int.toNat_natCast]
      unfold AF.takeQ
      rw [hbj]
      cases A.bs[j] <;> rfl
    rw [ht] at k okT
    refine ite_f (by simp; omega) ?_
    have hj' : j < cb.length := by rw [R1.bl]; exact hj
    have B := R1.br j _ _ (List.getElem?_eq_getElem hj') hbj
    obtain ⟨br, ms, fst, hc, hown, hA, hml, hf, hll, hms⟩ := B.h
    have l2 := Arr.ld fb_many R1.b hj' (o := j * 3 + 2) rfl
    rw [hc] at l2
    simp only at l2
    refine rd_some rfl (rd_some R1.ldb (rd_some (ixA_arr hj) (rd_some l2 ?_)))
    cases hbe : A.bs[j] with
    | nil =>
      rw [hbe] at k
      exact ite_t rfl (rd_some s3 (rd_some (V3.ld (Fld.whole k32)) (k h3 _ F3 m3)))
    | cons m r =>
      rw [hbe] at k okT
      simp only at k okT
      refine ite_f (by rw [beq_eq_false_iff_ne, List.length_cons]; omega) (rd_some rfl (rd_some R1.ldb (rd_some (ixA_arr hj) (boxtake_spec R1 okA hj hbe fun h5 cb' R5 f5 => al_var fun b6 h6 hb6 V6 e6 hs6 => ?_))))
      obtain ⟨h7, s7, V7, O7⟩ := V6.st (Fld.whole k82) m
      have l6 := V7.ld fm_source
      have l7 := V7.ld fm_item
      have hb1lt : b1 < h1.size := Blk.lt V1
      have hb1n : ¬ own b1 ≠ none := fun e => by have := ltF b1 e; omega
      have V1' : Var k32 h7 b1 z32 := V1.same (by
        rw [O7.2 b1 (by have := f5.1; omega), e6.2 b1 (by have := f5.1; omega), f5.2 b1 hb1lt hb1n])
      obtain ⟨h8, s8, V8, O8⟩ := V1'.st (Fld.whole k32) m.f1
      refine rd_some s7 (rd_some l6 (rd_some l7 (rd_some s8 (rd_some (V8.ld (Fld.whole k32)) ?_))))
      have keep : ∀ b, own b ≠ none → h8[b]? = h5[b]? := fun b hb => by
        have := ltF b hb
        have := R1.lt b hb
        have := f5.1
        rw [O8.2 b (by omega), O7.2 b (by omega), e6.2 b (by omega)]
      have hs8 : h5.size ≤ h8.size := by rw [O8.1, O7.1]; exact e6.1
      refine k h8 _ ⟨okT, own, bF, bq, bb, cq, cb', R5.frame hs8 keep, rfl⟩ ⟨by have := f5.1; have := e1.1; omega, fun b hb hn => ?_, fun _ h => .inl h⟩
      have := f5.1
      have := e1.1
      rw [O8.2 b (by omega), O7.2 b (by omega), e6.2 b (by omega), f5.2 b (by omega) hn, e1.2 b hb]

def sumTo (f : Nat → Nat) : Nat → Nat
  | 0 => 0
  | n + 1 => sumTo f n + f n
theorem sumTo_zero (f : Nat → Nat) : ∀ n, sumTo f n = 0 ↔ ∀ i, i < n → f i = 0
  | 0 => by simp [sumTo]
  | n + 1 => by
    simp only [sumTo]
    have := sumTo_zero f n
    constructor
    · intro h i hi
      by_cases e : i = n
      · subst e; omega
      · exact this.1 (by omega) i (by omega)
    · intro h
      have h1 := this.2 fun i hi => h i (by omega)
      have h2 := h n (by omega)
      omega
theorem sumTo_le (f : Nat → Nat) (B : Nat) : ∀ n, (∀ i, i < n → f i ≤ B) → sumTo f n ≤ n * B
  | 0, _ => by simp [sumTo]
  | n + 1, h => by
    have := sumTo_le f B n fun i hi => h i (by omega)
    have := h n (by omega)
    simp only [sumTo, Nat.add_mul]; omega
def qlen (A : AF) (i : Nat) : Nat := match A.qs[i]? with | some q => q.1.length | none => 0
def blen (A : AF) (j : Nat) : Nat := match A.bs[j]? with | some b => b.length | none => 0
theorem empty_sum (A : AF) : A.empty = decide (sumTo (qlen A) A.qs.length + sumTo (blen A) A.bs.length = 0) := by
  unfold AF.empty
  rw [Bool.eq_iff_iff]
  simp only [Bool.and_eq_true, List.all_eq_true, decide_eq_true_eq, Nat.add_eq_zero_iff, sumTo_zero]
  constructor
  · rintro ⟨h1, h2⟩
    constructor
    · intro i hi
      have := h1 _ (List.getElem_mem hi)
      simp [qlen, List.getElem?_eq_getElem hi]
      simpa using this
    · intro i hi
      have := h2 _ (List.getElem_mem hi)
      simp [blen, List.getElem?_eq_getElem hi]
      simpa using this
  · rintro ⟨h1, h2⟩
    constructor
    · intro q hq
      obtain ⟨i, hi, rfl⟩ := List.mem_iff_getElem.1 hq
      have := h1 i hi
      simp [qlen, List.getElem?_eq_getElem hi] at this
      simp [this]
    · intro q hq
      obtain ⟨i, hi, rfl⟩ := List.mem_iff_getElem.1 hq
      have := h2 i hi
      simp [blen, List.getElem?_eq_getElem hi] at this
      simp [this]

theorem empty_spec {h : H} {p : Addr} {A : AF} {F : Nat → Prop} (R : FRep h p A F) {Q : Bool → H → Prop} (k : ∀ h', Ext h h' → Q A.empty h') : flow_Flow_Empty (some p) h Q := by
  have ok := R.ok
  have q8 := ok.q8
  have b8 := ok.b8
  have m64 := ok.m64
  have hq : ∀ n, n ≤ A.qs.length → sumTo (qlen A) n ≤ 524288 := fun n hn => by
    have := sumTo_le (qlen A) 65536 n fun i hi => by
      unfold qlen; rw [List.getElem?_eq_getElem (by omega : i < A.qs.length)]
      exact (ok.ql i _ (List.getElem?_eq_getElem (by omega))).1
    have : n * 65536 ≤ 8 * 65536 := Nat.mul_le_mul_right _ (by omega)
    omega
  have hb : ∀ n, n ≤ A.bs.length → sumTo (blen A) n ≤ 512 := fun n hn => by
    have := sumTo_le (blen A) 64 n fun i hi => by
      unfold blen; rw [List.getElem?_eq_getElem (by omega : i < A.bs.length)]
      have := ok.bl i _ (List.getElem?_eq_getElem (by omega))
      simp only; omega
    have : n * 64 ≤ 8 * 64 := Nat.mul_le_mul_right _ (by omega)
    omega
  unfold flow_Flow_Empty
  -- the queues
  have ldq : ∀ h', Ext h h' → ∃ own bF bq bb cq cb, FOwn h' p A own bF bq bb cq cb := fun h' e => by
    obtain ⟨_, own, bF, bq, bb, cq, cb, R', _⟩ := R.ext e
    exact ⟨own, bF, bq, bb, cq, cb, R'⟩
  obtain ⟨own, bF, bq, bb, cq, cb, R0⟩ := ldq h (Ext.refl h)
  refine jn_i (rd_some rfl (rd_some R0.ldq ?_))
  refine loopE_rule (fun n s h' => Ext h h' ∧ ∃ i : Nat, s.2 = (i : Int) ∧ i ≤ A.qs.length ∧ n = A.qs.length - i ∧ s.1 = (sumTo (qlen A) i : Nat)) A.qs.length ⟨Ext.refl h, 0, rfl, by omega, by omega, rfl⟩ ?_
  rintro n ⟨a, i⟩ h1 K ⟨e1, i, rfl, hi, rfl, ha⟩ kl kr
  simp only at ha
  subst ha
  unfold flow_Flow_Empty.b2
  by_cases hlt : i < A.qs.length
  · have R1 := R0.frame e1.1 fun b hb => e1.2 b (R0.lt b hb)
    have hi' : i < cq.length := by rw [R1.ql]; exact hlt
    have lq := R1.q.ld (Fld.whole k78) hi' (o := i * 2) rfl
    refine ite_t (by simp; omega) (rd_some (ixA_arr hlt) (rd_some lq (al_var fun b3 h3 hb3 V3 e3 hs3 => ?_)))
    obtain ⟨h4, s4, V4, O4⟩ := V3.st (Fld.whole k78) cq[i]
    have l4 := V4.ld fq_items
    obtain ⟨oq, eq⟩ := R1.qr i _ _ (List.getElem?_eq_getElem hi') (List.getElem?_eq_getElem hlt)
    refine rd_some s4 (rd_some l4 (kl (A.qs.length - (i + 1)) _ _ (by omega) ⟨e1.trans ⟨by rw [O4.1]; exact e3.1, fun b hb => by rw [O4.2 b (by omega), e3.2 b hb]⟩, i + 1, ?_, by omega, by omega, ?_⟩))
    · simp only
      exact (wrap64_id (by omega) (by omega)).trans (by omega)
    · simp only
      have hs := hq (i + 1) (by omega)
      have hq1 : qlen A i = (A.qs[i]).1.length := by unfold qlen; rw [List.getElem?_eq_getElem hlt]
      simp only [sumTo] at hs ⊢
      rw [oq.len]
      exact (wrap64_id (by omega) (by omega)).trans (by omega)
  · refine ite_f (by simp; omega) (kr _ _ ?_)
    have hie : i = A.qs.length := by omega
    subst hie
    -- the boxes
    have R1 := R0.frame e1.1 fun b hb => e1.2 b (R0.lt b hb)
    refine jn_i (rd_some rfl (rd_some R1.ldb ?_))
    have hq0 := hq A.qs.length (Nat.le_refl _)
    refine loopE_rule (fun n s h' => Ext h1 h' ∧ ∃ i : Nat, s.2 = (i : Int) ∧ i ≤ A.bs.length ∧ n = A.bs.length - i ∧ s.1 = (sumTo (qlen A) A.qs.length + sumTo (blen A) i : Nat)) A.bs.length ⟨Ext.refl h1, 0, rfl, by omega, by omega, rfl⟩ ?_
    rintro n ⟨a, i⟩ h2 K2 ⟨e2, i, rfl, hi, rfl, ha⟩ kl kr
    simp only at ha
    subst ha
    unfold flow_Flow_Empty.b1
    by_cases hlt : i < A.bs.length
    · have R2 := R1.frame e2.1 fun b hb => e2.2 b (R1.lt b hb)
      have hi' : i < cb.length := by rw [R2.bl]; exact hlt
      have lq := R2.b.ld (Fld.whole k61) hi' (o := i * 3) rfl
      refine ite_t (by simp; omega) (rd_some (ixA_arr hlt) (rd_some lq (al_var fun b3 h3 hb3 V3 e3 hs3 => ?_)))
      obtain ⟨h4, s4, V4, O4⟩ := V3.st (Fld.whole k61) cb[i]
      have l4 := V4.ld fb_many
      have B := R2.br i _ _ (List.getElem?_eq_getElem hi') (List.getElem?_eq_getElem hlt)
      obtain ⟨br, ms, fst, hc, hown, hA, hml, hf, hll, hms⟩ := B.h
      rw [hc] at l4
      simp only at l4
      refine rd_some (by rw [hc] at s4 ⊢; exact s4) (rd_some l4 (kl (A.bs.length - (i + 1)) _ _ (by omega) ⟨e2.trans ⟨by rw [O4.1]; exact e3.1, fun b hb => by rw [O4.2 b (by omega), e3.2 b hb]⟩, i + 1, ?_, by omega, by omega, ?_⟩))
      · simp only
        exact (wrap64_id (by omega) (by omega)).trans (by omega)
      · simp only
        have hs := hb (i + 1) (by omega)
        have hq1 : blen A i = (A.bs[i]).length := by unfold blen; rw [List.getElem?_eq_getElem hlt]
        simp only [sumTo] at hs ⊢
        exact (wrap64_id (by omega) (by omega)).trans (by omega)
    · have hie : i = A.bs.length := by omega
      subst hie
      refine ite_f (by simp) (kr _ _ ?_)
      have := k h2 (e1.trans e2)
      rw [empty_sum] at this
      have hx : (((sumTo (qlen A) A.qs.length + sumTo (blen A) A.bs.length : Nat) : Int) == 0) = decide (sumTo (qlen A) A.qs.length + sumTo (blen A) A.bs.length = 0) := by
        rw [Bool.eq_iff_iff]; simp; omega
      show Q (((sumTo (qlen A) A.qs.length + sumTo (blen A) A.bs.length : Nat) : Int) == 0) h2
      rw [hx]; exact this
end Go.Proofs.Ytanpaamamfabkaa
