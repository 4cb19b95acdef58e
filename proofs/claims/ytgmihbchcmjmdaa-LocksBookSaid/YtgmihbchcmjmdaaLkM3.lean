/- What the manager's calls do. -/
import Derived.Test.YtgmihbchcmjmdaaLkM2
namespace Go.Proofs.Ytgmihbchcmjmdaa
open Go Go.Tr
set_option linter.unusedVariables false
section
variable {F0 : Nat → Prop} {h0 h : H} {b : Nat} {A : AM} {B : Nat} {Rs Ps : List HP}
theorem errP.mk {e : Int} (he : e ≠ 0) {t : Int} (S : SG F0 h0 h Rs) {Q : Addr → H → Prop} (k : ∀ pb h', SG F0 h0 h' (errP (some (tRef, .pointer (some ⟨pb, 0, none⟩))) e :: Rs) → Q ⟨pb, 0, none⟩ h') {ty : TypeId} :
    al ty (kRefd.enc ⟨t, some (tErrno, .int .i64 e)⟩) h Q :=
  S.var (K := kRefd) fun pb h' S' _ => k pb h' (S'.imp 0 rfl _ fun F ⟨V, hF⟩ => .inr ⟨he, pb, t, rfl, V, hF⟩)
theorem errP.zero (S : SG F0 h0 h Rs) : SG F0 h0 h (errP none 0 :: Rs) :=
  S.add (P := errP none 0) (F1 := fun _ => False) (.inl ⟨rfl, rfl, fun _ h => h⟩) (Ext.refl h) fun _ h => h.elim
theorem find_has (ok : A.Ok B) (hB : B ≤ 1000000000) {sh : Sl} {RH : List CR} {i : Nat} (hi : Ps[i]? = some (ownP kClaim sh (RH.map row))) {l : List C} (hl : RH.map abs = l) (hm : l.length ≤ B) (S : SG F0 h0 h Ps) (t : Int) {Q : Int → H → Prop} (k : ∀ h', Ext h h' → Q (pl (findC l t)) h') : locks_find sh t h Q := by
  subst hl
  rw [List.length_map] at hm
  refine find_spec (ownP.rds (K := kClaim) S i hi) (by omega) t fun h' e => ?_
  rw [findR]; exact k h' e
theorem ask_spec (ok : A.Ok B) (hB : B ≤ 100000000) {t : Int} {s : Sl} {l : List Lk} (R : Rds kLk h s l) (hl : l.length < 4611686018427387904) :
    Does h [mgrP b A] (fun Q => locks_Manager_Ask (some ⟨b, 0, none⟩) t s h Q) (fun v : IF => ((A.ask t l).1.1, v)) (fun v => [mgrP b (A.ask t l).2, errP v (A.ask t l).1.2]) := by
  intro F0 h0 Q S k
  show locks_Manager_Ask _ _ _ _ _
  obtain ⟨sh, sq, RH, RQ, e1, e2, S⟩ := mgr_open S
  have hnod := rows_nod ok e1 e2
  have hlen := rows_len ok e1 e2
  have hb := ok.b
  unfold locks_Manager_Ask
  have err : ∀ {ty : TypeId} (e : Int) (h2 : H), e ≠ 0 → A.ask t l = ((false, e), A) → SG F0 h0 h2 (mgrL b A.locks sh sq RH RQ ++ []) → al ty (kRefd.enc ⟨t, some (tErrno, .int .i64 e)⟩) h2 fun q1 h4 => Q (false, (some (tRef, .pointer (some q1)) : IF)) h4 := fun {ty} e h2 he hA S2 => by
    refine errP.mk he (mgr_close e1 e2 S2) fun pb h' S' => ?_
    have k' := k (some (tRef, .pointer (some ⟨pb, 0, none⟩))) h'
    rw [hA] at k'
    exact k' S'.swap
  have hm : ld (kI .i64) ⟨b, 0, none⟩ h = some (A.locks : Int) := varP.ld S fm_locks 0 rfl
  refine set_spec hm R hl (fun hok m h1 S1 => ?_) fun hok r h1 ex => ?_
  · by_cases ht : t < 0
    · have hA : A.ask t l = ((false, 1), A) := by unfold AM.ask; rw [if_pos (.inl ht)]
      refine jn_c (some (tErrno, .int .i64 1) : IF) h1 (fun K hK => ite_t (by simpa using ht) hK) ?_
      refine jn_c (some (tErrno, .int .i64 1) : IF) h1 (fun K hK => jn_c false h1 (fun K hK => ite_f rfl hK) (ite_f rfl hK)) ?_
      exact ite_t rfl (err 1 h1 (by decide) hA (S.ext (SS.e S1)))
    · refine jn_c none h1 (fun K hK => ite_f (by simpa using ht) hK) ?_
      have S2 := (S.take_in S1).flat
      have S3 := (bagP.add (t := t) (S2.front 4 rfl).swap).rot
      have S3 : SG F0 h0 h1 [varP kMgr b ⟨A.locks, sh, sq⟩, ownP kClaim sh (RH.map row), ownP kClaim sq (RQ.map row), bagP ((t, m, l) :: (RH ++ RQ))] := S3
      have held : ∀ K : Bool → H → Prop, (∀ h', Ext h1 h' → K ((findC A.has t).isSome || (findC A.queue t).isSome) h') → _ := fun K hK => find_has ok (by omega) (Ps := [varP kMgr b ⟨A.locks, sh, sq⟩, ownP kClaim sh (RH.map row), ownP kClaim sq (RQ.map row), bagP ((t, m, l) :: (RH ++ RQ))]) (i := 1) rfl e1 (by omega) S3 t (Q := fun r4 h17 =>
        if (decide (r4 ≥ 0)) = true then K true h17 else rd (some (⟨b, 0, none⟩ : Addr)) fun q10 => rd (ld kL (q10.add 2) h17) fun x14 => locks_find x14 t h17 fun r5 h18 => K (decide (r5 ≥ 0)) h18) (fun h2 ex2 => by
          rw [pl_neg]
          refine ite_b (fun c => ?_) (fun c => ?_)
          · have := hK h2 ex2
            rw [c, Bool.true_or] at this; exact this
          · have S4 := S3.ext ex2
            refine rd_some rfl (rd_some (by rw [add_mk]; exact varP.ld S4 fm_queue 0 rfl) ?_)
            refine find_has ok (by omega) (i := 2) rfl e2 (by omega) S4 t fun h3 ex3 => ?_
            rw [pl_neg]
            have := hK h3 (ex2.trans ex3)
            rw [c, Bool.false_or] at this; exact this)
      refine jn_q (fun (v : IF) h' => Ext h1 h' ∧ v = if ((findC A.has t).isSome || (findC A.queue t).isSome) = true then (some (tErrno, .int .i64 41) : IF) else none) (fun K hK => ?_) ?_
      · refine jn_q (fun (v : Bool) h' => Ext h1 h' ∧ v = ((findC A.has t).isSome || (findC A.queue t).isSome)) (fun K2 hK2 => ite_t rfl ?_) ?_
        · exact rd_some rfl (rd_some (by rw [add_mk]; exact varP.ld S3 fm_has 0 rfl) (held K2 fun h' ex => hK2 _ _ ⟨ex, rfl⟩))
        · rintro _ h2 ⟨ex, rfl⟩
          refine ite_b (fun c => hK _ _ ⟨ex, by rw [if_pos c]⟩) (fun c => hK _ _ ⟨ex, by rw [if_neg (by rw [c]; simp)]⟩)
      · rintro _ h2 ⟨ex2, rfl⟩
        have S4 := S3.ext ex2
        cases hh : ((findC A.has t).isSome || (findC A.queue t).isSome) with
        | true =>
          have hA : A.ask t l = ((false, 41), A) := by unfold AM.ask; rw [if_neg (by rw [hok]; simp; omega), if_pos hh]
          refine ite_t rfl (err 41 h2 (by decide) hA ?_)
          exact bagP.sub S4 3 rfl fun r hr => List.mem_cons_of_mem _ hr
        | false =>
          refine ite_f rfl (S4.cell (K := kClaim) (x := row (t, m, l)) fun q h3 S5 ex5 => ?_)
          have hn2 : ∀ x ∈ (t, m, l) :: (RH ++ RQ), nod x.2.2 := by
            intro x hx
            rcases List.mem_cons.1 hx with rfl | hx
            · exact okSet_nod hok
            · exact hnod x hx
          have sub1 : ∀ x ∈ RH, x ∈ (t, m, l) :: (RH ++ RQ) := fun x hx => List.mem_cons_of_mem _ (List.mem_append_left _ hx)
          have sub2 : ∀ x ∈ RQ, x ∈ (t, m, l) :: (RH ++ RQ) := fun x hx => List.mem_cons_of_mem _ (List.mem_append_right _ hx)
          refine jn_q (fun (v : Bool) h' => Ext h3 h' ∧ v = (hit A.has l || hit A.queue l)) (fun K hK => ?_) ?_
          · have hw : ld kClaim ⟨q, 0, none⟩ h3 = some (row (t, m, l)) := varP.ld S5 (Fld.whole kClaim) 0 rfl
            refine rd_some rfl (rd_some (by rw [add_mk]; exact varP.ld S5 fm_has 1 rfl) (rd_some hw ?_))
            refine hit_spec (ownP.rds (K := kClaim) S5 2 rfl) (by omega) (fun x hx => bagP.is S5 4 rfl hx) hn2 List.mem_cons_self sub1 fun h4 ex4 => ?_
            have S6 := S5.ext ex4
            rw [e1]
            refine ite_b (fun c => hK _ _ ⟨ex4, by rw [show hit A.has l = true from c]; rfl⟩) (fun c => ?_)
            refine rd_some rfl (rd_some (by rw [add_mk]; exact varP.ld S6 fm_queue 1 rfl) (rd_some (ld_ext ex4 hw) ?_))
            refine hit_spec (ownP.rds (K := kClaim) S6 3 rfl) (by omega) (fun x hx => bagP.is S6 4 rfl hx) hn2 List.mem_cons_self sub2 fun h5 ex5 => ?_
            rw [e2]
            exact hK _ _ ⟨ex4.trans ex5, by rw [show hit A.has l = false from c, Bool.false_or]⟩
          · rintro _ h4 ⟨ex4, rfl⟩
            have S6 := S5.ext ex4
            have hw : ld kClaim ⟨q, 0, none⟩ h4 = some (row (t, m, l)) := varP.ld S6 (Fld.whole kClaim) 0 rfl
            refine ite_b (fun c => ?_) (fun c => ?_)
            · have hA : A.ask t l = ((false, 0), { A with queue := A.queue ++ [(t, l)] }) := by unfold AM.ask; rw [if_neg (by rw [hok]; simp; omega), if_neg (by rw [hh]; simp), if_pos c]
              rw [hA] at k
              refine rd_some rfl (rd_some (by rw [add_mk]; exact varP.ld S6 fm_queue 1 rfl) (rd_some hw (ownP.push (K := kClaim) (by decide) S6 3 rfl (row (t, m, l)) (by simp; omega) (by simp; omega) fun s' h5 S7 => ?_)))
              obtain ⟨h6, s6, S8, _⟩ := varP.st S7 fm_queue 1 rfl s'
              refine rd_some rfl (rd_some (by rw [add_mk]; exact s6) (k none h6 ?_))
              have S9 := bagP.sub S8.tail 3 rfl (rs' := RH ++ (RQ ++ [(t, m, l)])) (fun r hr => by simp at hr ⊢; rcases hr with h | h | h <;> simp [h])
              have S10 : SG F0 h0 h6 (mgrL b A.locks sh s' RH (RQ ++ [(t, m, l)]) ++ []) := by unfold mgrL; rw [List.map_append]; exact S9
              exact (errP.zero (mgr_close (A := { A with queue := A.queue ++ [(t, l)] }) e1 (by rw [List.map_append, e2]; rfl) S10)).swap
            · have hA : A.ask t l = ((true, 0), { A with has := A.has ++ [(t, l)] }) := by unfold AM.ask; rw [if_neg (by rw [hok]; simp; omega), if_neg (by rw [hh]; simp), if_neg (by rw [c]; simp)]
              rw [hA] at k
              refine rd_some rfl (rd_some (by rw [add_mk]; exact varP.ld S6 fm_has 1 rfl) (rd_some hw (ownP.push (K := kClaim) (by decide) S6 2 rfl (row (t, m, l)) (by simp; omega) (by simp; omega) fun s' h5 S7 => ?_)))
              obtain ⟨h6, s6, S8, _⟩ := varP.st S7 fm_has 1 rfl s'
              refine rd_some rfl (rd_some (by rw [add_mk]; exact s6) (k none h6 ?_))
              have S9 := bagP.sub S8.tail 3 rfl (rs' := (RH ++ [(t, m, l)]) ++ RQ) (fun r hr => by simp at hr ⊢; rcases hr with h | h | h <;> simp [h])
              have S10 : SG F0 h0 h6 (mgrL b A.locks s' sq (RH ++ [(t, m, l)]) RQ ++ []) := by unfold mgrL; rw [List.map_append]; exact S9
              exact (errP.zero (mgr_close (A := { A with has := A.has ++ [(t, l)] }) (by rw [List.map_append, e1]; rfl) e2 S10)).swap
  · have hA : A.ask t l = ((false, 1), A) := by unfold AM.ask; rw [if_pos (.inr hok)]
    refine jn_c (some (tErrno, .int .i64 1) : IF) h1 (fun K hK => ite_b (fun _ => hK) (fun _ => hK)) ?_
    refine jn_c (some (tErrno, .int .i64 1) : IF) h1 (fun K hK => jn_c false h1 (fun K hK => ite_f rfl hK) (ite_f rfl hK)) ?_
    exact ite_t rfl (err 1 h1 (by decide) hA (S.ext ex))
end
end Go.Proofs.Ytgmihbchcmjmdaa
