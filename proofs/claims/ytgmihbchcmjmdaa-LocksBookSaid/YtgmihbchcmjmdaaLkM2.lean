/- The queue gone through; what the manager's calls do. -/
import Derived.Test.YtgmihbchcmjmdaaLkM
namespace Go.Proofs.Ytgmihbchcmjmdaa
open Go Go.Tr
set_option linter.unusedVariables false
theorem okSet_nod {m : Nat} {l : List Lk} (h : okSet m l = true) : nod l := by
  unfold okSet at h
  simp only [Bool.and_eq_true, decide_eq_true_eq] at h
  exact h.2
theorem thr_hit {has left q : List C} {c : C} (h : (hit has c.2 || hit left c.2) = true) : thr has left (c :: q) = thr has (left ++ [c]) q := by
  conv => lhs; unfold thr
  rw [if_pos h]
theorem thr_go {has left q : List C} {c : C} (h : (hit has c.2 || hit left c.2) = false) : thr has left (c :: q) = ((thr (has ++ [c]) left q).1, (thr (has ++ [c]) left q).2.1, c.1 :: (thr (has ++ [c]) left q).2.2) := by
  conv => lhs; unfold thr
  rw [if_neg (by rw [h]; simp)]
section
variable {F0 : Nat → Prop} {h0 h : H} {b : Nat} {A : AM} {B : Nat} {Rs Ps : List HP}
theorem rows_nod (ok : A.Ok B) {RH RQ : List CR} (e1 : RH.map abs = A.has) (e2 : RQ.map abs = A.queue) : ∀ x ∈ RH ++ RQ, nod x.2.2 := by
  intro x hx
  refine okSet_nod (m := A.locks) (ok.ok (abs x) ?_)
  rw [← e1, ← e2, ← List.map_append]
  exact List.mem_map_of_mem hx
theorem rows_len (ok : A.Ok B) {RH RQ : List CR} (e1 : RH.map abs = A.has) (e2 : RQ.map abs = A.queue) : RH.length + RQ.length ≤ B := by
  have := ok.b
  rw [← e1, ← e2] at this
  simpa using this
theorem through_spec (ok : A.Ok B) (hB : B ≤ 1000000000) :
    Does h [mgrP b A] (fun Q => locks_Manager_through (some ⟨b, 0, none⟩) h Q) (fun s : Sl => s) (fun s => [mgrP b A.through.2, ownP (kI .i64) s A.through.1]) := by
  intro F0 h0 Q S k
  show locks_Manager_through _ _ _
  obtain ⟨sh, sq, RH, RQ, e1, e2, S⟩ := mgr_open S
  have hnod := rows_nod ok e1 e2
  have hlen := rows_len ok e1 e2
  unfold locks_Manager_through
  refine jn_i (rd_some rfl (rd_some (by rw [add_mk]; exact varP.ld S fm_queue 0 rfl) ?_))
  have hql : sq.len = RQ.length := by have := ownP.len (K := kClaim) S 2 rfl; simpa using this
  refine loopE_rule (fun n (s : Sl × Sl × Int) h' => ∃ (j : Nat) (sh' : Sl) (RH' RL : List CR) (told : List Int), s.2.2 = j ∧ n + j = RQ.length ∧
      SG F0 h0 h' [varP kMgr b ⟨A.locks, sh', sq⟩, ownP kClaim sh' (RH'.map row), ownP kClaim sq (RQ.map row), bagP (RH ++ RQ), ownP kClaim s.1 (RL.map row), ownP (kI .i64) s.2.1 told] ∧
      (∀ x ∈ RH', x ∈ RH ++ RQ) ∧ (∀ x ∈ RL, x ∈ RH ++ RQ) ∧ RH'.length + RL.length = RH.length + j ∧ told.length ≤ j ∧
      thr A.has [] A.queue = ((thr (RH'.map abs) (RL.map abs) ((RQ.drop j).map abs)).1, (thr (RH'.map abs) (RL.map abs) ((RQ.drop j).map abs)).2.1, told ++ (thr (RH'.map abs) (RL.map abs) ((RQ.drop j).map abs)).2.2)) RQ.length
    ⟨0, sh, RH, [], [], rfl, rfl, ?_, fun x hx => List.mem_append_left _ hx, by simp, rfl, Nat.le_refl _, ?_⟩ ?_
  · have S1 := S.made (Ext.refl h) (Own.nil kClaim h _)
    have S2 := S1.made (Ext.refl h) (Own.nil (kI .i64) h _)
    exact S2.swap.rot.rot
  · rw [e1, List.drop_zero, e2]; rfl
  rintro n ⟨left, out, i⟩ h1 K ⟨j, sh', RH', RL, told, hi, hn, S1, hs1, hs2, hl1, hl2, ht⟩ next done
  have hi : i = j := hi
  subst hi
  unfold locks_Manager_through.b1
  refine ite_b (fun hc => ?_) (fun hc => ?_)
  · have hj : j < RQ.length := by
      have hc : decide ((j : Int) < (sq.len : Int)) = true := hc
      rw [decide_eq_true_eq] at hc; omega
    have hdr : RQ.drop j = RQ[j] :: RQ.drop (j + 1) := List.drop_eq_getElem_cons hj
    have hrm : RQ[j] ∈ RH ++ RQ := List.mem_append_right _ (List.getElem_mem _)
    rw [hdr, List.map_cons] at ht
    obtain ⟨a, ha, hx⟩ := ownP.get (K := kClaim) S1 2 rfl (j := j) (by simpa using hj) (n := 2) rfl
    rw [List.getElem_map] at hx
    refine jn_i (rd_some ha (rd_some hx (S1.cell fun q h2 S2 eb => ?_)))
    refine jn_q (fun a h' => a = (hit (RH'.map abs) RQ[j].2.2 || hit (RL.map abs) RQ[j].2.2) ∧ SG F0 h0 h' (varP kClaim q (row RQ[j]) :: [varP kMgr b ⟨A.locks, sh', sq⟩, ownP kClaim sh' (RH'.map row), ownP kClaim sq (RQ.map row), bagP (RH ++ RQ), ownP kClaim left (RL.map row), ownP (kI .i64) out told])) (fun K2 hK => ?_) ?_
    · have hv : ld kL ⟨b, 1, none⟩ h2 = some sh' := varP.ld S2 fm_has 1 rfl
      have hw : ld kClaim ⟨q, 0, none⟩ h2 = some (row RQ[j]) := varP.ld S2 (Fld.whole kClaim) 0 rfl
      refine rd_some rfl (rd_some (by rw [add_mk]; exact hv) (rd_some hw ?_))
      refine hit_spec (ownP.rds (K := kClaim) S2 2 rfl) (by omega) (fun x hx => bagP.is S2 4 rfl hx) hnod hrm hs1 fun h3 e3 => ?_
      have S3 := S2.ext e3
      refine ite_b (fun c => hK _ _ ⟨by rw [c]; rfl, S3⟩) (fun c => ?_)
      refine rd_some (ld_ext e3 hw) ?_
      refine hit_spec (ownP.rds (K := kClaim) S3 5 rfl) (by omega) (fun x hx => bagP.is S3 4 rfl hx) hnod hrm hs2 fun h4 e4 => ?_
      exact hK _ _ ⟨by rw [c, Bool.false_or], S3.ext e4⟩
    · rintro _ h3 ⟨rfl, S3⟩
      have hw : ld kClaim ⟨q, 0, none⟩ h3 = some (row RQ[j]) := varP.ld S3 (Fld.whole kClaim) 0 rfl
      have hwrap : IntKind.i64.wrap ((j : Int) + 1) = ((j + 1 : Nat) : Int) := by rw [wrap64_id (by omega) (by omega)]; rfl
      refine ite_b (fun c => ?_) (fun c => ?_)
      · refine rd_some hw (ownP.push (K := kClaim) (by decide) S3 5 rfl (row RQ[j]) (by simp; omega) (by simp; omega) fun s' h4 S4 => ?_)
        refine next (n - 1) _ _ (by omega) ⟨j + 1, sh', RH', RL ++ [RQ[j]], told, hwrap, by omega, by rw [List.map_append]; exact S4.tail, hs1, ?_, by simp; omega, by omega, ?_⟩
        · intro x hx
          rcases List.mem_append.1 hx with hx | hx
          · exact hs2 x hx
          · obtain rfl := List.mem_singleton.1 hx
            exact hrm
        · rw [thr_hit (c := abs RQ[j]) c] at ht
          rw [List.map_append]; exact ht
      · have hv : ld kL ⟨b, 1, none⟩ h3 = some sh' := varP.ld S3 fm_has 1 rfl
        refine rd_some rfl (rd_some (by rw [add_mk]; exact hv) (rd_some hw (ownP.push (K := kClaim) (by decide) S3 2 rfl (row RQ[j]) (by simp; omega) (by simp; omega) fun s' h4 S4 => ?_)))
        obtain ⟨h5, s5, S5, _⟩ := varP.st S4 fm_has 1 rfl s'
        refine rd_some rfl (rd_some (by rw [add_mk]; exact s5) ?_)
        have hv6 : ld (kI .i64) ⟨q, 0, none⟩ h5 = some (row RQ[j]).f0 := varP.ld S5 fl_task 0 rfl
        refine rd_some (by rw [add_mk]; exact hv6) (ownP.push (K := kI .i64) (by decide) S5 6 rfl (row RQ[j]).f0 (by omega) (by omega) fun o' h6 S6 => ?_)
        refine next (n - 1) _ _ (by omega) ⟨j + 1, s', RH' ++ [RQ[j]], RL, told ++ [(row RQ[j]).f0], hwrap, by omega, by rw [List.map_append]; exact S6.tail, ?_, hs2, by simp; omega, by simp; omega, ?_⟩
        · intro x hx
          rcases List.mem_append.1 hx with hx | hx
          · exact hs1 x hx
          · obtain rfl := List.mem_singleton.1 hx
            exact hrm
        · rw [thr_go (c := abs RQ[j]) c] at ht
          rw [List.map_append, ht]
          simp only [List.append_assoc]; rfl
  · have hj : j = RQ.length := by
      have hc : decide ((j : Int) < (sq.len : Int)) = false := hc
      rw [decide_eq_false_iff_not] at hc; omega
    refine done _ _ ?_
    obtain ⟨h2, s2, S2, _⟩ := varP.st S1 fm_queue 0 rfl left
    refine rd_some rfl (rd_some (by rw [add_mk]; exact s2) ?_)
    rw [hj, List.drop_length] at ht
    have hA : A.through = (told, { A with has := RH'.map abs, queue := RL.map abs }) := by
      unfold AM.through; rw [ht]; simp [thr]
    refine k _ h2 ?_
    rw [hA]
    have S3 : SG F0 h0 h2 [varP kMgr b ⟨A.locks, sh', left⟩, ownP kClaim sh' (RH'.map row), ownP kClaim sq (RQ.map row), bagP (RH ++ RQ), ownP kClaim left (RL.map row), ownP (kI .i64) out told] := S2
    have S4 := (S3.front 2 rfl).tail
    have S5 := bagP.sub S4 2 rfl (rs' := RH' ++ RL) fun r hr => (List.mem_append.1 hr).elim (hs1 r) (hs2 r)
    have S6 : SG F0 h0 h2 (mgrL b A.locks sh' left RH' RL ++ [ownP (kI .i64) out told]) := S5.perm ((List.Perm.refl _).cons _ |>.trans (List.Perm.cons _ (List.Perm.cons _ (List.Perm.swap _ _ _))))
    exact mgr_close (A := { A with has := RH'.map abs, queue := RL.map abs }) rfl rfl S6
end
end Go.Proofs.Ytgmihbchcmjmdaa
