/- FlowMany, over the heap. -/
import Derived.Test.YtanpaamamfabkaaFlowK
import Derived.Test.YtanpaamamfabkaaF7
namespace Go.Proofs.Ytanpaamamfabkaa
open Go Go.Tr
set_option linter.unusedVariables false

def mst (l l1 : List Item) (b : List Msg) : AF := ⟨1, [(l, 0), (l1, 0)], [b]⟩
theorem mput0 {l l1 : List Item} {b : List Msg} {x : Item} (hm : mayA x = 0) (hl : l.length < 65536) : (mst l l1 b).put 0 x = (0, mst (l ++ [x]) l1 b) := by
  have : l.length ≠ 65536 := by omega
  simp [AF.put, AF.putQ, mst, hm, this]
theorem mput0f {l l1 : List Item} {b : List Msg} {x : Item} (hm : mayA x = 0) (hl : l.length = 65536) : (mst l l1 b).put 0 x = (2, mst l l1 b) := by
  simp [AF.put, AF.putQ, mst, hm, hl]
theorem mput1 {l l1 : List Item} {b : List Msg} {x : Item} (hm : mayA x = 0) (hl : l1.length < 65536) : (mst l l1 b).put 1 x = (0, mst l (l1 ++ [x]) b) := by
  have : l1.length ≠ 65536 := by omega
  simp [AF.put, AF.putQ, mst, hm, this]
theorem mpass {x : Item} {l l1 : List Item} (hx : x.f0 = false) : (mst (x :: l) l1 []).pass 0 = ((0, 0), mst l l1 [⟨0, x⟩]) := by
  have h := routeA_range x.f1 (m := 1) (by decide)
  have h0 : routeA x.f1 1 = 0 := by omega
  simp [AF.pass, AF.passQ, AF.towardQ, mst, hx, h0, AF.onward]
theorem mtake {m : Msg} {l l1 : List Item} : (mst l l1 [m]).take 0 = ((m.f0, m.f1, 0), mst l l1 []) := by
  simp [AF.take, AF.takeQ, mst]
def itm (key : ByteArray) (j : Nat) : Item := ⟨false, key, 0, (j : Int)⟩
theorem itm_may {key : ByteArray} (h1 : 1 ≤ key.size) (h2 : key.size ≤ 32) (j : Nat) : mayA (itm key j) = 0 := by
  have e : isEmp key = false := by
    cases h : isEmp key with
    | false => rfl
    | true => have := isEmp_size h; omega
  have e2 : decide ((key.size : Int) > 32) = false := by simp; omega
  simp [mayA, itm, e]
  omega
theorem mark_may : mayA (S32.mk true ⟨#[]⟩ 0 0) = 0 := by
  unfold mayA; rw [isEmp_eq]; decide
def itms (key : ByteArray) (i : Nat) : List Item := (List.range i).map (itm key)
def itmsFrom (key : ByteArray) (t : Nat) : List Item := (List.range' t (65536 - t)).map (itm key) ++ List.replicate t (itm key 0)
theorem itmsFrom_zero (key : ByteArray) : itmsFrom key 0 = itms key 65536 := by
  unfold itmsFrom itms
  rw [List.range_eq_range', List.replicate_zero, List.append_nil]
theorem itmsFrom_len (key : ByteArray) {t : Nat} (ht : t ≤ 65536) : (itmsFrom key t).length = 65536 := by
  unfold itmsFrom
  rw [List.length_append, List.length_map, List.length_range', List.length_replicate]; omega
theorem itmsFrom_cons (key : ByteArray) {t : Nat} (ht : t < 65536) : ∃ l, itmsFrom key t = itm key t :: l ∧ l ++ [itm key 0] = itmsFrom key (t + 1) := by
  refine ⟨(List.range' (t + 1) (65536 - (t + 1))).map (itm key) ++ List.replicate t (itm key 0), ?_, ?_⟩
  · unfold itmsFrom
    have : 65536 - t = (65536 - (t + 1)) + 1 := by omega
    rw [this, List.range'_succ]; rfl
  · unfold itmsFrom
    rw [List.append_assoc, List.replicate_succ']

theorem many_true (key : ByteArray) (more : Int) (h : H) : spatelaw15_FlowMany key more h fun r h' => r = true ∧ Ext h h' := by
  unfold spatelaw15_FlowMany
  refine known_spec h fun h1 e1 => ite_f rfl ?_
  refine jn_c (decide ((key.size : Int) < 1) || decide ((key.size : Int) > 32)) h1 (fun K hK => ?_) ?_
  · refine ite_b (fun e => by rw [e] at hK; exact hK) fun e => ?_
    rw [e, Bool.false_or] at hK; exact hK
  refine ite_b (fun _ => ⟨rfl, e1⟩) fun hk => ?_
  have hk1 : 1 ≤ key.size ∧ key.size ≤ 32 := by simp at hk; omega
  have hm := itm_may hk1.1 hk1.2
  refine new_spec 2 1 1 (fun hb => by omega) fun n m kk p h3 F3 q1 q2 q3 _ _ _ _ _ _ R3 n3 x3 => ?_
  obtain rfl : n = 2 := by omega
  obtain rfl : m = 1 := by omega
  obtain rfl : kk = 1 := by omega
  refine jn_i (ite_f rfl (ite_f rfl ?_))
  have base : ∀ h2 F2, Frm F3 F2 h3 h2 → Ext h h2 := fun h2 F2 f => e1.trans ⟨Nat.le_trans x3.1 f.size, fun b hb => by
    rw [f.keep b (by have := x3.1; omega) (fun e => by have := n3 b e; omega), x3.2 b hb]⟩
  -- the queue is filled
  obtain ⟨N, hN⟩ : ∃ N : Nat, N = 65536 := ⟨_, rfl⟩
  have R3' : FRep h3 p (mst (itms key 0) [] []) F3 := R3
  refine jn_i ?_
  refine loopE_rule (fun μ s h' => ∃ (i : Nat) (F : Nat → Prop), s = (i : Int) ∧ i ≤ N ∧ μ = N - i ∧ FRep h' p (mst (itms key i) [] []) F ∧ Frm F3 F h3 h') N ?_ ?_
  · exact ⟨0, F3, rfl, Nat.zero_le _, rfl, R3', Frm.refl _ _⟩
  rintro μ s h4 K ⟨i, F, rfl, hi, rfl, R, f⟩ kl kr
  unfold spatelaw15_FlowMany.b2
  generalize hD : decide ((i : Int) < 65536) = dd
  cases dd with
  | true =>
    rw [decide_eq_true_eq] at hD
    refine ite_t rfl (put_spec R 0 (itm key i) fun h5 F5 R5 f5 => ?_)
    rw [mput0 (hm i) (by unfold itms; rw [List.length_map, List.length_range]; omega)] at R5 ⊢
    refine ite_f rfl (kl (N - (i + 1)) _ _ (by omega) ⟨i + 1, F5, ?_, by omega, by omega, ?_, f.trans f5⟩)
    · exact (wrap64_id (by omega) (by omega)).trans (by omega)
    · have : itms key (i + 1) = itms key i ++ [itm key i] := by unfold itms; rw [List.range_succ, List.map_append]; rfl
      rw [this]; exact R5
  | false =>
    rw [decide_eq_false_iff_not] at hD
    have hie : i = N := by omega
    subst hie
    refine ite_f rfl (kr _ _ ?_)
    dsimp only [sumK]
    rw [hN, ← itmsFrom_zero] at R
    have hl0 := itmsFrom_len key (t := 0) (by omega)
    obtain ⟨L, hL⟩ : ∃ L, L = itmsFrom key 0 := ⟨_, rfl⟩
    rw [← hL] at R hl0
    -- it is full
    refine jn_i ?_
    refine put_spec R 0 (itm key 0) (fun h17 F17 R17 f17 => ?_)
    rw [mput0f (hm 0) hl0] at R17 ⊢
    refine ite_f rfl (put_spec R17 0 (S32.mk true ⟨#[]⟩ 0 0) fun h18 F18 R18 f18 => ?_)
    rw [mput0f mark_may hl0] at R18 ⊢
    refine ite_f rfl (put_spec R18 1 (S32.mk true ⟨#[]⟩ 0 0) fun h19 F19 R19 f19 => ?_)
    rw [mput1 mark_may (by decide)] at R19 ⊢
    refine ite_f rfl (queued_spec R19 0 ?_)
    have hqd : (mst L ([] ++ [S32.mk true ⟨#[]⟩ 0 0]) []).queued 0 = 65536 := by
      simp only [AF.queued, mst]
      simp [hl0]
    rw [hqd]
    refine ite_f rfl ?_
    -- one out, one in
    have f19' := ((f.trans f17).trans f18).trans f19
    refine jn_i (loopE_rule (fun μ s h' => ∃ (t : Nat) (F : Nat → Prop), s = (t : Int) ∧ t ≤ 10 ∧ μ = 10 - t ∧ FRep h' p (mst (itmsFrom key t) ([] ++ [S32.mk true ⟨#[]⟩ 0 0]) []) F ∧ Frm F3 F h3 h') 10 ⟨0, F19, rfl, by omega, by omega, by rw [← hL]; exact R19, f19'⟩ ?_)
    rintro μ s h5 K5 ⟨t, Ft, rfl, ht, rfl, Rt, ft⟩ kl5 kr5
    unfold spatelaw15_FlowMany.b1
    refine small_spec h5 more 9 (by decide) (by decide) fun n9 a1 a2 => ?_
    have hw : IntKind.i64.wrap (1 + (n9 : Int)) = 1 + n9 := wrap64_id (by omega) (by omega)
    rw [hw]
    refine ite_b (fun e => ?_) (fun e => kr5 _ _ ⟨rfl, base _ _ ft⟩)
    have ht9 : t < 10 := by simp at e; omega
    obtain ⟨l, hl1, hl2⟩ := itmsFrom_cons key (t := t) (by omega)
    rw [hl1] at Rt
    refine pass_spec Rt 0 fun h9 F9 R9 f9 => ?_
    rw [mpass rfl] at R9
    refine take_spec R9 0 fun h10 F10 R10 f10 => ?_
    rw [mtake] at R10 ⊢
    refine al_var fun b11 h11 eb11 V11 e11 z11 => ?_
    obtain ⟨h12, s12, V12, O12⟩ := V11.st (Fld.whole k32) (itm key t)
    have R12 : FRep h12 p (mst l ([] ++ [S32.mk true ⟨#[]⟩ 0 0]) []) F10 := (R10.ext e11).frame (by rw [O12.1]; exact Nat.le_refl _) fun b hb _ => O12.2 b (fun e => by have := R10.lt b hb; omega)
    have f12 : Frm F10 F10 h10 h12 := ⟨by rw [O12.1]; exact e11.1, fun b hb _ => by rw [O12.2 b (by omega), e11.2 b hb], fun _ h => .inl h⟩
    have hll : l.length < 65536 := by
      have := itmsFrom_len key (t := t) (by omega)
      rw [hl1] at this
      simp at this; omega
    refine rd_some s12 (jn_i (ite_f rfl (rd_some (V12.ld fi_value) (ite_f ?_ (put_spec R12 0 (itm key 0) fun h14 F14 R14 f14 => ?_)))))
    · simp [itm]
    rw [mput0 (hm 0) hll] at R14 ⊢
    refine ite_f rfl (put_spec R14 0 (itm key 0) fun h15 F15 R15 f15 => ?_)
    rw [mput0f (hm 0) (by rw [hl2]; exact itmsFrom_len key (by omega))] at R15 ⊢
    refine ite_f rfl (kl5 (10 - (t + 1)) _ _ (by omega) ⟨t + 1, F15, (wrap64_id (by omega) (by omega)).trans (by omega), by omega, by omega, ?_, ((((ft.trans f9).trans f10).trans f12).trans f14).trans f15⟩)
    rw [← hl2]; exact R15
end Go.Proofs.Ytanpaamamfabkaa
