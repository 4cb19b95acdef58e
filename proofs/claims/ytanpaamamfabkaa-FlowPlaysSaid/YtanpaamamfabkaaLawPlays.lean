/- FlowPlays, over the heap: the flow and the document's flow, step by step. -/
import Derived.Test.YtanpaamamfabkaaFlowRef3
import Derived.Test.YtanpaamamfabkaaLawOrder
namespace Go.Proofs.Ytanpaamamfabkaa
open Go Go.Tr
set_option linter.unusedVariables false
structure PS (h0 h : H) (p : Addr) (b : Nat) (sq sb st : Sl) (A : AF) : Prop where
  S : SS h0 h [HP.all (refL b sq sb st A), flowP p A]
  ok : A.Ok
  z : A.Z
section
variable {h0 h : H} {p : Addr} {b : Nat} {sq sb st : Sl} {A : AF}
theorem queuedP {Ps : List HP} (S : SS h0 h Ps) (i : Nat) (hi : Ps[i]? = some (flowP p A)) (s : Int) {Q : Int → H → Prop} (k : Q (A.queued s) h) : flow_Flow_Queued (some p) s h Q := by
  obtain ⟨F, R, _⟩ := S.at i hi
  exact queued_spec R s k
theorem boxedP {Ps : List HP} (S : SS h0 h Ps) (i : Nat) (hi : Ps[i]? = some (flowP p A)) (s : Int) {Q : Int → H → Prop} (k : Q (A.boxed s) h) : flow_Flow_Boxed (some p) s h Q := by
  obtain ⟨F, R, _⟩ := S.at i hi
  exact boxed_spec R s k
theorem towardP {Ps : List HP} (S : SS h0 h Ps) (i : Nat) (hi : Ps[i]? = some (flowP p A)) (s : Int) {Q : (Int × Int) → H → Prop} (k : ∀ h', SS h0 h' Ps → Q (A.toward s) h') : flow_Flow_Toward (some p) s h Q := by
  obtain ⟨F, R, back⟩ := S.at i hi
  exact toward_spec R s fun h' e => k h' (S.ext e)
theorem sizes_spec (P : PS h0 h p b sq sb st A) {Q : Bool → H → Prop} (k : ∀ h', PS h0 h' p b sq sb st A → Q true h') : spatelaw15_sizes (some p) (some ⟨b, 0, none⟩) h Q := by
  unfold spatelaw15_sizes
  obtain ⟨F, T, _⟩ := P.S.into 0 rfl
  refine jn_i (loopE_rule (fun μ s h' => ∃ i : Nat, s = (i : Int) - 1 ∧ i ≤ 11 ∧ μ = 11 - i ∧ h' = h) 11 ⟨0, rfl, by omega, rfl, rfl⟩ ?_)
  rintro μ s h' K ⟨i, rfl, hi, rfl, rfl⟩ kl kr
  unfold spatelaw15_sizes.b1
  refine ite_b (fun c => ?_) (fun c => kr _ _ ?_)
  · have hi' : i < 11 := by
      rw [decide_eq_true_eq] at c; omega
    refine jn_c false h' (fun K2 hK => ?_) (ite_f rfl (kl (11 - (i + 1)) _ _ (by omega) ⟨i + 1, (wrap64_id (by omega) (by omega)).trans (by omega), by omega, rfl, rfl⟩))
    refine queuedP P.S 1 rfl _ (ref_queued T _ (ite_f (by simp) (boxedP P.S 1 rfl _ (ref_boxed T _ ?_))))
    simpa using hK
  · dsimp only [sumK]
    refine emptyP P.S 1 rfl fun h2 S2 => ?_
    obtain ⟨F, T2, _⟩ := SG.into S2 0 rfl
    refine ref_empty P.ok T2 ?_
    rw [beq_self_eq_true]
    exact k h2 ⟨S2, P.ok, P.z⟩
theorem told_spec (P : PS h0 h p b sq sb st A) (x : S34) {Q : Bool → H → Prop} (k : ∀ h' A', PS h0 h' p b sq sb st A' → Q true h') : spatelaw15_told (some p) (some ⟨b, 0, none⟩) x h Q := by
  unfold spatelaw15_told
  refine P.S.var (K := k34) fun b1 h1 S1 _ => ?_
  have f1 := varP.ld S1 gs_a 0 rfl
  have f2 := varP.ld S1 gs_item 0 rfl
  refine rd_some (varP.ld S1 gs_kind 0 rfl) ?_
  refine ite_b (fun c1 => ?_) fun c1 => ite_b (fun c2 => ?_) fun c2 => ite_b (fun c3 => ?_) fun c3 => ite_b (fun c4 => ?_) fun c4 => ?_
  · refine rd_some f1 (rd_some f2 (rd_some f1 (rd_some f2 (putP S1 2 rfl x.f1 x.f2 fun h2 S2 => ⟨varP.ld S2 gs_item 0 rfl, varP.ld S2 gs_a 0 rfl, ?_⟩))))
    obtain ⟨F, T, back⟩ := SG.into S2 1 rfl
    refine ref_put P.ok T x.f1 x.f2 fun h3 T3 => ?_
    have S3 := back h3 _ T3
    rw [beq_self_eq_true]
    exact k h3 _ ⟨SG.tail S3, P.ok.put _ _, P.z.put _ _⟩
  · refine rd_some f1 (passP S1 2 rfl x.f1 fun h2 S2 => rd_some (varP.ld S2 gs_a 0 rfl) ?_)
    obtain ⟨F, T, back⟩ := SG.into S2 1 rfl
    refine ref_pass P.ok P.z T x.f1 fun h3 T3 => ?_
    have S3 := back h3 _ T3
    refine jn_i (ite_t (by simp) ?_)
    rw [beq_self_eq_true]
    exact k h3 _ ⟨SG.tail S3, P.ok.pass _, P.z.pass P.ok _⟩
  · refine rd_some f1 (takeP S1 2 rfl x.f1 fun h2 S2 => SG.cell (K := k32) (x := (A.take x.f1).1.2.1) S2 fun b2 h3 S3 _ => rd_some (varP.ld S3 gs_a 1 rfl) ?_)
    obtain ⟨F, T, back⟩ := SG.into S3 2 rfl
    refine ref_take P.ok T x.f1 fun h4 T4 => ?_
    have S4 := back h4 _ T4
    refine SG.cell (K := k32) (x := (A.take x.f1).1.2.1) S4 fun b3 h5 S5 _ => ?_
    refine jn_i (ite_t (by simp) (rd_some (varP.ld S5 (Fld.whole k32) 1 rfl) (rd_some (varP.ld S5 (Fld.whole k32) 0 rfl) (ite_t (eq33_self _) ?_))))
    rw [beq_self_eq_true]
    exact k h5 _ ⟨SG.tail (SG.tail (SG.tail S5)), P.ok.take _, P.z.take _⟩
  · refine rd_some f1 (towardP S1 2 rfl x.f1 fun h2 S2 => rd_some (varP.ld S2 gs_a 0 rfl) ?_)
    obtain ⟨F, T, back⟩ := SG.into S2 1 rfl
    refine ref_toward P.ok T x.f1 fun h3 T3 => ?_
    have S3 := back h3 _ T3
    refine jn_i (ite_t (by simp) ?_)
    rw [beq_self_eq_true]
    exact k h3 _ ⟨SG.tail S3, P.ok, P.z⟩
  · exact k h1 _ ⟨S1.tail, P.ok, P.z⟩
end
theorem plays_true (a0 a1 a2 : Int) (sc : Sl) (xs : List S34) (h : H) (hsc : Rds k34 h sc xs) (hw : ∀ y ∈ xs, w34 y) (hlen : xs.length ≤ maxLen) : spatelaw15_FlowPlays a0 a1 a2 sc h fun r h' => r = true ∧ Ext h h' := by
  unfold spatelaw15_FlowPlays
  have hl := hsc.len
  refine known_spec h fun h1 e1 => ite_f rfl ?_
  refine ite_b (fun _ => ⟨rfl, e1⟩) fun hbig => ?_
  have hbig' : xs.length ≤ 5000 := by rw [decide_eq_false_iff_not] at hbig; omega
  refine new_spec a0 a1 a2 (fun hb => ?_) fun n m kk p h3 F3 q1 q2 q3 n1 n8 m1 m8 k1 k64 R3 n3 x3 => ?_
  · refine ref_new h1 a0 a1 a2 (fun _ => ?_) (fun n m k e1 e2 e3 _ _ _ _ _ _ => by omega)
    exact jn_i (ite_f rfl (ite_f rfl (ite_t rfl ⟨rfl, e1⟩)))
  · refine ref_new h3 a0 a1 a2 (fun hb => by omega) (fun n' m' k' e1' e2' e3' _ _ _ _ _ _ b sq sb st h4 S4 => ?_)
    obtain rfl : n = n' := by omega
    obtain rfl : m = m' := by omega
    obtain rfl : kk = k' := by omega
    refine jn_i (ite_f rfl (ite_f rfl (ite_f rfl (jn_i ?_))))
    have S3 : SS h h3 [flowP p (AF.new n m kk)] := (SS.nil e1).add (P := flowP p _) R3 x3 n3
    have P4 : PS h h4 p b sq sb st (AF.new n m kk) := ⟨S3.take_in S4, AF.Ok.new (by omega) (by omega) (by omega) (by omega) (by omega) (by omega), AF.Z.new _ _ _⟩
    refine loopE_rule (fun μ s h' => ∃ (i : Nat) (A : AF), s = (i : Int) ∧ i ≤ xs.length ∧ μ = xs.length - i ∧ PS h h' p b sq sb st A) xs.length ⟨0, _, rfl, Nat.zero_le _, rfl, P4⟩ ?_
    rintro μ s h5 K ⟨i, A, rfl, hi, rfl, P⟩ kl kr
    unfold spatelaw15_FlowPlays.b1
    refine ite_b (fun c => ?_) (fun c => kr _ _ ⟨rfl, P.S.e⟩)
    have hi' : i < xs.length := by rw [decide_eq_true_eq] at c; omega
    obtain ⟨a, ha, hla⟩ := hsc.ix hi' (n := 6) rfl
    refine jn_i (rd_some ha (rd_some (ld_ext P.S.e hla) (told_spec P _ fun h6 A6 P6 => ite_f rfl (sizes_spec P6 fun h7 P7 => ite_f rfl ?_))))
    exact kl (xs.length - (i + 1)) _ _ (by omega) ⟨i + 1, A6, (wrap64_id (by omega) (by omega)).trans (by omega), by omega, rfl, P7⟩
end Go.Proofs.Ytanpaamamfabkaa
