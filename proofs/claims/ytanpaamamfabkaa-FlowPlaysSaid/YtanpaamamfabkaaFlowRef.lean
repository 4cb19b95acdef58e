/- The document's flow, over the heap, against the same lists. -/
import Derived.Test.YtanpaamamfabkaaFlowI
import Derived.Test.YtanpaamamfabkaaSep2
import Derived.Test.YtanpaamamfabkaaLawRoutes
import Derived.Test.YtanpaamamfabkaaG5
namespace Go.Proofs.Ytanpaamamfabkaa
open Go Go.Tr
set_option linter.unusedVariables false
theorem fr_box : Fld k65 (kI .i64) 0 (·.f0) (fun x v => { x with f0 := v }) := ⟨by decide, fun _ => rfl, fun _ _ => rfl⟩
theorem fr_queues : Fld k65 kL 1 (·.f1) (fun x v => { x with f1 := v }) := ⟨by decide, fun _ => rfl, fun _ _ => rfl⟩
theorem fr_boxes : Fld k65 kL 2 (·.f2) (fun x v => { x with f2 := v }) := ⟨by decide, fun _ => rfl, fun _ _ => rfl⟩
theorem fr_brought : Fld k65 kL 3 (·.f3) (fun x v => { x with f3 := v }) := ⟨by decide, fun _ => rfl, fun _ _ => rfl⟩
def conv (l : List Msg) : List Tk := l.map fun m => ⟨m.f0, m.f1⟩
def toI (q : List Item × Nat) : Int := (q.2 : Int)
def refL (b : Nat) (sq sb st : Sl) (A : AF) : List HP :=
  [varP k65 b ⟨(A.most : Int), sq, sb, st⟩, gridP k32 sq (A.qs.map (·.1)), gridP k51 sb (A.bs.map conv), ownP (kI .i64) st (A.qs.map toI)]
section
variable {F0 : Nat → Prop} {h0 h : H} {b : Nat} {sq sb st : Sl} {A : AF}
theorem ref_guard {p : Addr} {off n : Nat} {sl : Sl} (hl : ld kL (p.add off) h = some sl) (hn : sl.len = n) (s : Int) (K : Bool → H → Prop) (hK : K (decide (s < 0 ∨ (n : Int) ≤ s)) h) :
    (if (decide (s < 0)) = true then K true h else rd (some p) fun q => rd (ld kL (q.add off) h) fun x => K (decide (s ≥ (x.len : Int))) h) := by
  by_cases hs : s < 0
  · rw [if_pos (by simpa using hs)]
    have : decide (s < 0 ∨ (n : Int) ≤ s) = true := by simp [hs]
    rw [this] at hK; exact hK
  · rw [if_neg (by simpa using hs)]
    refine rd_some rfl (rd_some hl ?_)
    rw [hn]
    have : decide (s < 0 ∨ (n : Int) ≤ s) = decide (s ≥ (n : Int)) := by simp [hs]
    rw [this] at hK; exact hK
theorem refL.lens (S : SG F0 h0 h (refL b sq sb st A)) : sq.len = A.qs.length ∧ sb.len = A.bs.length := by
  have h1 := gridP.len (K := k32) S 1 rfl
  have h2 := gridP.len (K := k51) S 2 rfl
  simp at h1 h2
  exact ⟨h1, h2⟩
theorem ref_queued (S : SG F0 h0 h (refL b sq sb st A)) (s : Int) {Q : Int → H → Prop} (k : Q (A.queued s) h) : spateref15_Flow_Queued (some ⟨b, 0, none⟩) s h Q := by
  unfold spateref15_Flow_Queued
  obtain ⟨l1, l2⟩ := refL.lens S
  have hq : ld kL (Addr.add ⟨b, 0, none⟩ 1) h = some sq := varP.ld S fr_queues 0 rfl
  refine jn_c (decide (s < 0 ∨ (A.qs.length : Int) ≤ s)) h (fun K hK => ref_guard hq l1 s K hK) ?_
  rcases source_cases A s with hs | ⟨i, rfl, hi⟩
  · refine ite_t (by simpa using hs) ?_
    have : A.queued s = 0 := by
      unfold AF.queued
      rcases hs with hs | hs
      · rw [if_pos hs]
      · rw [if_neg (by omega), List.getElem?_eq_none (by omega)]
    rw [this] at k; exact k
  · obtain ⟨q, c, hq1, hc1, _, o⟩ := gridP.get (K := k32) S 1 rfl (j := i) (by simpa using hi)
    refine ite_f (by simp; omega) (rd_some rfl (rd_some hq (rd_some hq1 (rd_some hc1 ?_))))
    have : A.queued (i : Int) = (c.len : Int) := by
      unfold AF.queued
      rw [if_neg (by omega), Int.toNat_natCast, List.getElem?_eq_getElem hi, o.len]
      simp
    rw [this] at k; exact k
theorem ref_boxed (S : SG F0 h0 h (refL b sq sb st A)) (s : Int) {Q : Int → H → Prop} (k : Q (A.boxed s) h) : spateref15_Flow_Boxed (some ⟨b, 0, none⟩) s h Q := by
  unfold spateref15_Flow_Boxed
  obtain ⟨l1, l2⟩ := refL.lens S
  have hq : ld kL (Addr.add ⟨b, 0, none⟩ 2) h = some sb := varP.ld S fr_boxes 0 rfl
  refine jn_c (decide (s < 0 ∨ (A.bs.length : Int) ≤ s)) h (fun K hK => ref_guard hq l2 s K hK) ?_
  rcases box_cases A s with hs | ⟨i, rfl, hi⟩
  · refine ite_t (by simpa using hs) ?_
    have : A.boxed s = 0 := by
      unfold AF.boxed
      rcases hs with hs | hs
      · rw [if_pos hs]
      · rw [if_neg (by omega), List.getElem?_eq_none (by omega)]
    rw [this] at k; exact k
  · obtain ⟨q, c, hq1, hc1, _, o⟩ := gridP.get (K := k51) S 2 rfl (j := i) (by simpa using hi)
    refine ite_f (by simp; omega) (rd_some rfl (rd_some hq (rd_some hq1 (rd_some hc1 ?_))))
    have : A.boxed (i : Int) = (c.len : Int) := by
      unfold AF.boxed
      rw [if_neg (by omega), Int.toNat_natCast, List.getElem?_eq_getElem hi, o.len]
      simp [conv]
    rw [this] at k; exact k
theorem ref_toward (ok : A.Ok) (S : SG F0 h0 h (refL b sq sb st A)) (s : Int) {Q : (Int × Int) → H → Prop} (k : ∀ h', SG F0 h0 h' (refL b sq sb st A) → Q (A.toward s) h') : spateref15_Flow_Toward (some ⟨b, 0, none⟩) s h Q := by
  unfold spateref15_Flow_Toward
  obtain ⟨l1, l2⟩ := refL.lens S
  have hq : ld kL (Addr.add ⟨b, 0, none⟩ 1) h = some sq := varP.ld S fr_queues 0 rfl
  refine jn_c (decide (s < 0 ∨ (A.qs.length : Int) ≤ s)) h (fun K hK => ref_guard hq l1 s K hK) ?_
  rcases source_cases A s with hs | ⟨i, rfl, hi⟩
  · refine ite_t (by simpa using hs) ?_
    have := k h S
    rw [toward_bad hs] at this; exact this
  · obtain ⟨q, c, hq1, hc1, _, o⟩ := gridP.get (K := k32) S 1 rfl (j := i) (by simpa using hi)
    have ht := toward_good (A := A) hi
    refine ite_f (by simp; omega) (rd_some rfl (rd_some hq (rd_some hq1 (rd_some hc1 ?_))))
    simp only [List.getElem_map] at o
    obtain ⟨to, hqi⟩ : ∃ to, A.qs[i] = ((A.qs[i]).1, to) := ⟨_, rfl⟩
    have hol := o.len
    cases hl : (A.qs[i]).1 with
    | nil =>
      rw [hl] at hqi hol
      rw [hqi] at ht
      refine ite_t (by simp [hol]) ?_
      have := k h S
      rw [ht] at this; exact this
    | cons x r =>
      rw [hl] at hqi hol o
      rw [hqi] at ht
      obtain ⟨a5, ha5, hl5⟩ := get_all o (i := 0) (by simp) (n := 4) rfl
      refine ite_f (by simp [hol]; omega) (rd_some rfl (rd_some hq (rd_some hq1 (rd_some hc1 (rd_some ha5 (rd_some hl5 (S.cell (K := k32) (x := x) fun b6 h3 S3 e3 => ?_)))))))
      refine rd_some (varP.ld S3 fi_mark 0 rfl) (ite_b (fun c6 => ?_) (fun c6 => ?_))
      · obtain ⟨a8, ha8, hl8⟩ := ownP.get (K := kI .i64) S3 4 rfl (j := i) (by simpa using hi) (n := 1) rfl
        refine rd_some rfl (rd_some (varP.ld S3 fr_brought 1 rfl) (rd_some ha8 (rd_some hl8 ?_)))
        have := k h3 S3.tail
        rw [ht] at this
        simp only [c6, if_true] at this
        simpa [toI, hqi] using this
      · refine rd_some (varP.ld S3 fi_key 0 rfl) ?_
        unfold spateref15_Flow_Route
        refine rd_some rfl (rd_some (varP.ld S3 fr_boxes 1 rfl) ?_)
        rw [l2]
        have hsz := ok.qx _ _ (List.getElem?_eq_getElem hi) x (by rw [hl]; simp)
        refine operator_spec x.f1 A.bs.length ok.b1 (by have := ok.b8; omega) h3 (by omega) ?_
        have := k h3 S3.tail
        rw [ht] at this
        simp only [c6] at this
        exact this
theorem isKey_spec (s : ByteArray) (h : H) {Q : Bool → H → Prop} (k : Q (decide (1 ≤ s.size) && decide (s.size ≤ 32)) h) : spateref15_IsKey s h Q := by
  unfold spateref15_IsKey
  refine jn_c (decide (1 ≤ s.size) && decide (s.size ≤ 32)) h (fun K hK => ?_) k
  refine ite_b (fun c => ?_) (fun c => ?_)
  · have : decide (1 ≤ s.size) = true := by
      rw [decide_eq_true_eq] at c ⊢; omega
    rw [this, Bool.true_and] at hK
    have e : decide ((s.size : Int) ≤ 32) = decide (s.size ≤ 32) := by simp; omega
    rw [e]; exact hK
  · have : decide (1 ≤ s.size) = false := by
      rw [decide_eq_false_iff_not] at c ⊢; omega
    rw [this, Bool.false_and] at hK; exact hK
theorem isTime_spec (n : Int) (h : H) {Q : Bool → H → Prop} (k : Q (decide (-1152921504606846976 ≤ n) && decide (n ≤ 1152921504606846976)) h) : spateref15_IsTime n h Q := by
  unfold spateref15_IsTime
  refine jn_c (decide (-1152921504606846976 ≤ n) && decide (n ≤ 1152921504606846976)) h (fun K hK => ?_) k
  refine ite_b (fun c => ?_) (fun c => ?_)
  · have : decide (-1152921504606846976 ≤ n) = true := by simpa using c
    rw [this, Bool.true_and] at hK; exact hK
  · have : decide (-1152921504606846976 ≤ n) = false := by simpa using c
    rw [this, Bool.false_and] at hK; exact hK
theorem isEmp_iff (k : ByteArray) : isEmp k = decide (k.size = 0) := by
  rw [isEmp_eq]
  have : k.size = k.data.toList.length := by simp
  rw [this]
  cases k.data.toList <;> simp
theorem ref_may (x : Item) {Ps : List HP} (S : SG F0 h0 h Ps) {Q : Int → H → Prop} (k : ∀ h', SG F0 h0 h' Ps → Q (mayA x) h') : spateref15_May x h Q := by
  unfold spateref15_May
  refine S.var (K := k32) fun b1 h1 S1 _ => ?_
  have k' := k h1 S1.tail
  have m := varP.ld S1 fi_mark 0 rfl
  have ky := varP.ld S1 fi_key 0 rfl
  have tm := varP.ld S1 fi_time 0 rfl
  have vl := varP.ld S1 fi_value 0 rfl
  have e1 : (!(decide (1 ≤ x.f1.size) && decide (x.f1.size ≤ 32))) = (isEmp x.f1 || decide ((x.f1.size : Int) > 32)) := by
    rw [isEmp_iff]
    by_cases h1 : x.f1.size = 0
    · simp [h1]
    · have : 1 ≤ x.f1.size := by omega
      by_cases h2 : x.f1.size ≤ 32
      · have : ¬ ((x.f1.size : Int) > 32) := by omega
        simp [*]
      · have : (x.f1.size : Int) > 32 := by omega
        simp [*]
  refine jn_c (!x.f0 && (isEmp x.f1 || decide ((x.f1.size : Int) > 32))) h1 (fun K hK => ?_) ?_
  · refine rd_some m (ite_b (fun c => ?_) (fun c => ?_))
    · rw [c, Bool.true_and] at hK
      refine rd_some ky (isKey_spec _ _ ?_)
      rw [e1]; exact hK
    · rw [c, Bool.false_and] at hK; exact hK
  refine ite_b (fun c => ?_) (fun c => ?_)
  · have : mayA x = 21 := by unfold mayA; rw [if_pos c]
    rw [this] at k'; exact k'
  refine rd_some tm (isTime_spec _ _ ?_)
  refine ite_b (fun c2 => ?_) (fun c2 => ?_)
  · have : mayA x = 22 := by
      unfold mayA; rw [if_neg (by rw [c]; simp), if_pos]
      simp at c2 ⊢; omega
    rw [this] at k'; exact k'
  have c2' : ¬ ((decide (x.f2 < -1152921504606846976) || decide (x.f2 > 1152921504606846976)) = true) := by simp at c2 ⊢; omega
  refine jn_c (x.f0 && (!isEmp x.f1 || x.f3 != 0)) h1 (fun K hK => ?_) ?_
  · refine rd_some m (ite_b (fun c => ?_) (fun c => ?_))
    · rw [c, Bool.true_and] at hK
      refine rd_some ky (ite_b (fun e2 => ?_) (fun e2 => rd_some vl ?_))
      · have : (!isEmp x.f1) = true := e2
        rw [this, Bool.true_or] at hK; exact hK
      · have : (!isEmp x.f1) = false := e2
        rw [this, Bool.false_or] at hK; exact hK
    · rw [c, Bool.false_and] at hK; exact hK
  refine ite_b (fun c3 => ?_) (fun c3 => ?_)
  · have : mayA x = 16 := by unfold mayA; rw [if_neg (by rw [c]; simp), if_neg c2', if_pos c3]
    rw [this] at k'; exact k'
  · have : mayA x = 0 := by unfold mayA; rw [if_neg (by rw [c]; simp), if_neg c2', if_neg (by rw [c3]; simp)]
    rw [this] at k'; exact k'
theorem ref_put (ok : A.Ok) (S : SG F0 h0 h (refL b sq sb st A)) (s : Int) (x : Item) {Q : Int → H → Prop} (k : ∀ h', SG F0 h0 h' (refL b sq sb st (A.put s x).2) → Q (A.put s x).1 h') : spateref15_Flow_Put (some ⟨b, 0, none⟩) s x h Q := by
  unfold spateref15_Flow_Put
  obtain ⟨l1, l2⟩ := refL.lens S
  refine S.var (K := k32) fun b1 h1 S1 _ => ?_
  have hq : ld kL (Addr.add ⟨b, 0, none⟩ 1) h1 = some sq := varP.ld S1 fr_queues 1 rfl
  refine jn_c (decide (s < 0 ∨ (A.qs.length : Int) ≤ s)) h1 (fun K hK => ref_guard hq l1 s K hK) ?_
  rcases source_cases A s with hs | ⟨i, rfl, hi⟩
  · refine ite_t (by simpa using hs) ?_
    have := k h1 (by rw [put_bad x hs]; exact S1.tail)
    rw [put_bad x hs] at this; exact this
  · refine ite_f (by simp; omega) (rd_some (varP.ld S1 (Fld.whole k32) 0 rfl) (ref_may x S1 fun h3 S3 => ?_))
    have hp := put_good x hi
    by_cases hm : mayA x = 0
    · rw [hm] at hp ⊢
      refine ite_f rfl ?_
      have hq3 : ld kL (Addr.add ⟨b, 0, none⟩ 1) h3 = some sq := varP.ld S3 fr_queues 1 rfl
      obtain ⟨q, c, hq1, hc1, _, o⟩ := gridP.get (K := k32) S3 2 rfl (j := i) (by simpa using hi)
      have hcl := o.len
      simp only [List.getElem_map] at hcl
      have hql := (ok.ql _ _ (List.getElem?_eq_getElem hi)).1
      refine rd_some rfl (rd_some hq3 (rd_some hq1 (rd_some hc1 ?_)))
      rw [hcl]
      by_cases h6 : (A.qs[i]).1.length = 65536
      · refine ite_t (by simp [h6]) ?_
        have hp' : A.put (i : Int) x = (2, A) := by rw [hp]; simp [h6]
        have := k h3 (by rw [hp']; exact S3.tail)
        rw [hp'] at this; exact this
      · have hp' : A.put (i : Int) x = (0, { A with qs := A.qs.set i ((A.qs[i]).1 ++ [x], (A.qs[i]).2) }) := by rw [hp]; simp [h6]
        refine ite_f (by simp; omega) (rd_some rfl (rd_some hq3 (rd_some rfl (rd_some hq3 (rd_some hq1 (rd_some hc1 (rd_some (varP.ld S3 (Fld.whole k32) 0 rfl) ?_)))))))
        refine gridP.app (K := k32) (by decide) S3 2 rfl (by simpa using hi) x hq1 hc1 (by simp; omega) (by simp; omega) fun c' h5 S5 => ?_
        have S5' : SG F0 h0 h5 [varP k32 b1 x, varP k65 b ⟨(A.most : Int), sq, sb, st⟩, gridM k32 sq i c' ((A.qs.map (·.1)).set i ((A.qs.map (·.1))[i]'(by simpa using hi) ++ [x])), gridP k51 sb (A.bs.map conv), ownP (kI .i64) st (A.qs.map toI)] := S5
        obtain ⟨q9, h6', hq9, hs9, S6⟩ := gridM.st S5' 2 rfl (by simpa using hi)
        refine ⟨varP.ld S5' fr_queues 1 rfl, rd_some hq9 (rd_some hs9 ?_)⟩
        have S6' := SG.tail S6
        have := k h6' (by
          rw [hp']
          unfold refL
          simp only [List.map_set]
          have e : A.qs.map toI = (A.qs.map toI).set i (toI ((A.qs[i]).1 ++ [x], (A.qs[i]).2)) := by
            apply List.ext_getElem?
            intro j
            by_cases e : i = j
            · subst e
              rw [List.getElem?_set_self (by simpa using hi), List.getElem?_map, List.getElem?_eq_getElem hi]; rfl
            · rw [List.getElem?_set_ne e]
          rw [← e]
          simpa using S6')
        rw [hp'] at this; exact this
    · have : (mayA x != 0) = true := by simpa using hm
      refine ite_t this ?_
      have hp' : A.put (i : Int) x = (mayA x, A) := by rw [hp, if_pos this]
      have := k h3 (by rw [hp']; exact S3.tail)
      rw [hp'] at this; exact this
theorem ref_take (ok : A.Ok) (S : SG F0 h0 h (refL b sq sb st A)) (s : Int) {Q : (Int × S32 × Int) → H → Prop} (k : ∀ h', SG F0 h0 h' (refL b sq sb st (A.take s).2) → Q (A.take s).1 h') : spateref15_Flow_Take (some ⟨b, 0, none⟩) s h Q := by
  unfold spateref15_Flow_Take
  obtain ⟨l1, l2⟩ := refL.lens S
  refine S.var (K := k32) (x := z32) fun b1 h1 S1 _ => ?_
  have hq : ld kL (Addr.add ⟨b, 0, none⟩ 2) h1 = some sb := varP.ld S1 fr_boxes 1 rfl
  refine jn_c (decide (s < 0 ∨ (A.bs.length : Int) ≤ s)) h1 (fun K hK => ref_guard hq l2 s K hK) ?_
  have stz : ∀ v : Item, ∃ h', Tr.st k32 ⟨b1, 0, none⟩ v h1 = some h' ∧ SG F0 h0 h' (refL b sq sb st A) ∧ ld k32 ⟨b1, 0, none⟩ h' = some v := by
    intro v
    obtain ⟨h', hs, S', _⟩ := varP.st S1 (Fld.whole k32) 0 rfl v
    exact ⟨h', hs, SG.tail S', varP.ld S' (Fld.whole k32) 0 rfl⟩
  rcases box_cases A s with hs | ⟨j, rfl, hj⟩
  · refine ite_t (by simpa using hs) ?_
    obtain ⟨h', hst, S', hl⟩ := stz z32
    have ht : A.take s = ((0, z32, 1), A) := by
      unfold AF.take
      rcases hs with hs | hs
      · rw [if_pos hs]
      · rw [if_neg (by omega)]; unfold AF.takeQ; rw [List.getElem?_eq_none (by omega)]
    refine rd_some hst (rd_some hl ?_)
    have := k h' (by rw [ht]; exact S')
    rw [ht] at this; exact this
  · obtain ⟨q, c, hq1, hc1, _, o⟩ := gridP.get (K := k51) S1 3 rfl (j := j) (by simpa using hj)
    have ht : A.take (j : Int) = A.takeQ j := by unfold AF.take; rw [if_neg (by omega), Int.toNat_natCast]
    simp only [List.getElem_map] at o
    refine ite_f (by simp; omega) (rd_some rfl (rd_some hq (rd_some hq1 (rd_some hc1 ?_))))
    have hol := o.len
    have hb : A.bs[j]? = some A.bs[j] := List.getElem?_eq_getElem hj
    cases hl : A.bs[j] with
    | nil =>
      rw [hl] at hol hb
      refine ite_t (by simp [hol, conv]) ?_
      obtain ⟨h', hst, S', hld⟩ := stz z32
      have ht' : A.take (j : Int) = ((0, z32, 44), A) := by rw [ht]; unfold AF.takeQ; rw [hb]
      refine rd_some hst (rd_some hld ?_)
      have := k h' (by rw [ht']; exact S')
      rw [ht'] at this; exact this
    | cons m r =>
      rw [hl] at hol hb o
      have ht' : A.take (j : Int) = ((m.f0, m.f1, 0), { A with bs := A.bs.set j r }) := by rw [ht]; unfold AF.takeQ; rw [hb]
      have o' : Own k51 h1 _ c (⟨m.f0, m.f1⟩ :: conv r) := o
      obtain ⟨a6, ha6, hl6⟩ := get_all o' (i := 0) (by simp) (n := 5) rfl
      refine ite_f (by simp [hol, conv]; omega) (rd_some rfl (rd_some hq (rd_some hq1 (rd_some hc1 (rd_some ha6 (rd_some hl6 (S1.cell (K := k51) (x := ⟨m.f0, m.f1⟩) fun b7 h6 S6 e6 => ?_)))))))
      have hq6 : ld kL (Addr.add ⟨b, 0, none⟩ 2) h6 = some sb := varP.ld S6 fr_boxes 2 rfl
      obtain ⟨q10, c10, hq10, hc10, _, _⟩ := gridP.get (K := k51) S6 4 rfl (j := j) (by simpa using hj)
      refine rd_some rfl (rd_some hq6 (rd_some rfl (rd_some hq6 (rd_some hq10 (rd_some hc10 ?_)))))
      have hbl := ok.bl _ _ hb
      have hm64 := ok.m64
      simp at hbl
      refine gridP.cut (K := k51) (by decide) S6 4 rfl (by simpa using hj) (x := ⟨m.f0, m.f1⟩) (r := conv r) (by simp [hl, conv]) rfl hq10 hc10 (by simp [conv]; omega) (by simp [conv]; omega) fun c' h8 S8 _ => ?_
      have S8' : SG F0 h0 h8 [varP k51 b7 ⟨m.f0, m.f1⟩, varP k32 b1 z32, varP k65 b ⟨(A.most : Int), sq, sb, st⟩, gridP k32 sq (A.qs.map (·.1)), gridM k51 sb j c' ((A.bs.map conv).set j (conv r)), ownP (kI .i64) st (A.qs.map toI)] := S8
      obtain ⟨q11, h9, hq11, hs11, S9⟩ := gridM.st S8' 4 rfl (by simpa using hj)
      refine ⟨varP.ld S8' fr_boxes 2 rfl, rd_some hq11 (rd_some hs11 ?_)⟩
      have S9' : SG F0 h0 h9 [varP k51 b7 ⟨m.f0, m.f1⟩, varP k32 b1 z32, varP k65 b ⟨(A.most : Int), sq, sb, st⟩, gridP k32 sq (A.qs.map (·.1)), gridP k51 sb ((A.bs.map conv).set j (conv r)), ownP (kI .i64) st (A.qs.map toI)] := S9
      obtain ⟨h10, hs10, S10, _⟩ := varP.st S9' (Fld.whole k32) 1 rfl m.f1
      have S10' : SG F0 h0 h10 [varP k51 b7 ⟨m.f0, m.f1⟩, varP k32 b1 m.f1, varP k65 b ⟨(A.most : Int), sq, sb, st⟩, gridP k32 sq (A.qs.map (·.1)), gridP k51 sb ((A.bs.map conv).set j (conv r)), ownP (kI .i64) st (A.qs.map toI)] := S10
      refine rd_some (varP.ld S9' ft_from 0 rfl) (rd_some (varP.ld S9' ft_item 0 rfl) (rd_some hs10 (rd_some (varP.ld S10' (Fld.whole k32) 1 rfl) ?_)))
      have := k h10 (by
        rw [ht']
        unfold refL
        simp only [List.map_set]
        exact S10'.tail.tail)
      rw [ht'] at this; exact this
end
end Go.Proofs.Ytanpaamamfabkaa
