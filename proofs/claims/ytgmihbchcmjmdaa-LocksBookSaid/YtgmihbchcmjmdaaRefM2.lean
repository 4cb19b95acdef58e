/- The document's manager, the other calls. -/
import Derived.Test.YtgmihbchcmjmdaaRefM
namespace Go.Proofs.Ytgmihbchcmjmdaa
open Go Go.Tr
set_option linter.unusedVariables false
section
variable {F0 : Nat → Prop} {h0 h : H} {b : Nat} {A : AM} {B : Nat} {Rs Ps : List HP}
theorem rquit_spec (ok : A.Ok B) (hB : B ≤ 1000000000) (t : Int) :
    Does h [refP b A] (fun Q => spateref11_Manager_Quit (some ⟨b, 0, none⟩) t h Q) (fun s : Sl => s) (fun s => [refP b (A.quit t).2, ownP (kI .i64) s (A.quit t).1]) := by
  intro F0 h0 Q S k
  show spateref11_Manager_Quit _ _ _ _
  obtain ⟨sh, sq, RH, RQ, e1, e2, S⟩ := ref_open S
  have hlen := rrows_len ok e1 e2
  have hb := ok.b
  have hrl : RH.length = A.has.length := by rw [← e1]; simp
  have hql : RQ.length = A.queue.length := by rw [← e2]; simp
  unfold spateref11_Manager_Quit
  refine rd_some rfl (rd_some (by rw [add_mk]; exact varP.ld S fr_has 0 rfl) ?_)
  refine rfind_has ok hB (i := 1) rfl e1 (by omega) S t ?_
  cases hf : findC A.has t with
  | some i =>
    have hi := findC_lt hf
    have hA : A.quit t = ({ A with has := A.has.eraseIdx i }.through.1, { A with has := A.has.eraseIdx i }.through.2) := by unfold AM.quit; rw [hf]
    rw [hA] at k
    refine ite_t (by show decide ((i : Int) ≥ 0) = true; rw [decide_eq_true_eq]; omega) ?_
    refine rd_some rfl (rd_some (by rw [add_mk]; exact varP.ld S fr_has 0 rfl) ?_)
    refine rwithout_spec S (ownP.rds (K := kRS) S 1 rfl) (i := i) (by rw [List.length_map]; omega) (by rw [List.length_map]; omega) fun s' h2 S2 => ?_
    obtain ⟨h3, s3, S3, _⟩ := varP.st S2 fr_has 1 rfl s'
    refine rd_some rfl (rd_some (by rw [add_mk]; exact s3) ?_)
    refine rthrough_after (F0 := F0) (h0 := h0) ok hB (ok.eraseH i) rfl (RH := RH) (RQ := RQ) (RH' := RH.eraseIdx i) (RQ' := RQ) (sh := s') (sq := sq) (by rw [← e1]; exact (map_erase rabs _ _).symm) e2 (fun r hr => ?_) ?_ fun s h4 S4 => k s h4 S4
    · rcases List.mem_append.1 hr with hr | hr
      · exact List.mem_append_left _ (List.mem_of_mem_eraseIdx hr)
      · exact List.mem_append_right _ hr
    · have S4 : SG F0 h0 h3 [varP kRM b ⟨A.locks, s', sq⟩, ownP kRS s' ((RH.map rrow).eraseIdx i), ownP kRS sq (RQ.map rrow), sbagP A.locks (RH ++ RQ)] := SG.replace S3 1 (by show 1 < 4; omega)
      rw [map_erase] at S4; exact S4
  | none =>
    refine ite_f rfl (rd_some rfl (rd_some (by rw [add_mk]; exact varP.ld S fr_queue 0 rfl) ?_))
    refine rfind_has ok hB (i := 2) rfl e2 (by omega) S t ?_
    cases hq : findC A.queue t with
    | some i =>
      have hi := findC_lt hq
      have hA : A.quit t = ({ A with queue := A.queue.eraseIdx i }.through.1, { A with queue := A.queue.eraseIdx i }.through.2) := by unfold AM.quit; rw [hf]; simp only [hq]
      rw [hA] at k
      refine ite_t (by show decide ((i : Int) ≥ 0) = true; rw [decide_eq_true_eq]; omega) ?_
      refine rd_some rfl (rd_some (by rw [add_mk]; exact varP.ld S fr_queue 0 rfl) ?_)
      refine rwithout_spec S (ownP.rds (K := kRS) S 2 rfl) (i := i) (by rw [List.length_map]; omega) (by rw [List.length_map]; omega) fun s' h2 S2 => ?_
      obtain ⟨h3, s3, S3, _⟩ := varP.st S2 fr_queue 1 rfl s'
      refine rd_some rfl (rd_some (by rw [add_mk]; exact s3) ?_)
      refine rthrough_after (F0 := F0) (h0 := h0) ok hB (ok.eraseQ i) rfl (RH := RH) (RQ := RQ) (RH' := RH) (RQ' := RQ.eraseIdx i) (sh := sh) (sq := s') e1 (by rw [← e2]; exact (map_erase rabs _ _).symm) (fun r hr => ?_) ?_ fun s h4 S4 => k s h4 S4
      · rcases List.mem_append.1 hr with hr | hr
        · exact List.mem_append_left _ hr
        · exact List.mem_append_right _ (List.mem_of_mem_eraseIdx hr)
      · have S4 : SG F0 h0 h3 [varP kRM b ⟨A.locks, sh, s'⟩, ownP kRS sh (RH.map rrow), ownP kRS s' ((RQ.map rrow).eraseIdx i), sbagP A.locks (RH ++ RQ)] := SG.replace S3 2 (by show 2 < 4; omega)
        rw [map_erase] at S4; exact S4
    | none =>
      have hA : A.quit t = ([], A) := by unfold AM.quit; rw [hf]; simp only [hq]
      rw [hA] at k
      refine ite_f rfl (k Sl.nil h ?_)
      exact ((ref_close e1 e2 S).made (Ext.refl _) (Own.nil (kI .i64) h _)).swap
theorem rqueue_spec (ok : A.Ok B) (hB : B ≤ 1000000000) :
    Does h [refP b A] (fun Q => spateref11_Manager_Queue (some ⟨b, 0, none⟩) h Q) (fun s : Sl => s) (fun s => [refP b A, ownP (kI .i64) s A.queueL]) := by
  intro F0 h0 Q S k
  show spateref11_Manager_Queue _ _ _
  obtain ⟨sh, sq, RH, RQ, e1, e2, S⟩ := ref_open S
  have hlen := rrows_len ok e1 e2
  have hq : A.queueL = RQ.map (·.1) := by unfold AM.queueL; rw [← e2, List.map_map]; rfl
  unfold spateref11_Manager_Queue
  have hql : sq.len = RQ.length := by have := ownP.len (K := kRS) S 2 rfl; simpa using this
  refine jn_i (for0 (mk := fun (s : Sl) i => (s, i)) (s := Sl.nil) (n := RQ.length) (by omega) (fun j s h' => SG F0 h0 h' (ownP (kI .i64) s ((RQ.map (·.1)).take j) :: (refL b A.locks sh sq RH RQ ++ []))) (S.made (Ext.refl h) (Own.nil (kI .i64) h _)) (fun j s h1 K hj S1 next done => ?_) (fun s h1 K S1 done => ?_))
  · unfold spateref11_Manager_Queue.b1
    have hv : ld kL ⟨b, 2, none⟩ h1 = some sq := varP.ld S1 fr_queue 1 rfl
    refine rd_some rfl (rd_some (by rw [add_mk]; exact hv) (ite_t (by rw [hql]; exact clt_t hj) (rd_some rfl (rd_some (by rw [add_mk]; exact hv) ?_))))
    refine (ownP.rds (K := kRS) S1 3 rfl).elt fs_task (i := j) (by simpa using hj) rfl ?_
    rw [List.getElem_map]
    refine ownP.push (K := kI .i64) (by decide) S1 0 rfl (rrow RQ[j]).f0 (by simp; omega) (by simp; omega) fun o' h6 S6 => next o' h6 ?_
    have : (RQ.map (·.1)).take (j + 1) = (RQ.map (·.1)).take j ++ [(rrow RQ[j]).f0] := by
      rw [List.take_add_one, List.getElem?_map, List.getElem?_eq_getElem hj]; rfl
    rw [this]; exact S6
  · unfold spateref11_Manager_Queue.b1
    have hv : ld kL ⟨b, 2, none⟩ h1 = some sq := varP.ld S1 fr_queue 1 rfl
    refine rd_some rfl (rd_some (by rw [add_mk]; exact hv) (ite_f (by rw [hql]; exact clt_f (Nat.lt_irrefl _)) (done _ _ (k s h1 ?_))))
    have : (RQ.map (·.1)).take RQ.length = A.queueL := by rw [hq, List.take_of_length_le (by rw [List.length_map]; omega)]
    rw [this] at S1
    exact ref_close e1 e2 (S1.rot)
theorem rhas_spec (ok : A.Ok B) (hB : B ≤ 1000000000) (t : Int) (S : SG F0 h0 h (refP b A :: Rs)) {Q : Sl → H → Prop} (k : ∀ s, Rds kLk h s (A.hasL t) → Q s h) : spateref11_Manager_Has (some ⟨b, 0, none⟩) t h Q := by
  obtain ⟨sh, sq, RH, RQ, e1, e2, S⟩ := ref_open S
  have hlen := rrows_len ok e1 e2
  have hb := ok.b
  unfold spateref11_Manager_Has
  refine rd_some rfl (rd_some (by rw [add_mk]; exact varP.ld S fr_has 0 rfl) ?_)
  refine rfind_has ok hB (i := 1) rfl e1 (by omega) S t ?_
  cases hf : findC A.has t with
  | none =>
    have hA : A.hasL t = [] := by unfold AM.hasL; rw [hf]
    rw [hA] at k
    exact ite_t rfl (k Sl.nil (Rds.nil none 0))
  | some i =>
    have hi := findC_lt hf
    have hrl : RH.length = A.has.length := by rw [← e1]; simp
    have hir : i < RH.length := by omega
    have hA : A.hasL t = AM.sortL A.locks RH[i].2.2 := by
      unfold AM.hasL; rw [hf]
      simp only [← e1, List.getElem?_map, List.getElem?_eq_getElem hir]; rfl
    rw [hA] at k
    refine ite_f (by show decide ((i : Int) < 0) = false; rw [decide_eq_false_iff_not]; omega) ?_
    refine rd_some rfl (rd_some (by rw [add_mk]; exact varP.ld S fr_has 0 rfl) ?_)
    refine (ownP.rds (K := kRS) S 1 rfl).elt fs_l (i := i) (by simpa using hir) rfl ?_
    rw [List.getElem_map]
    exact k _ (sbagP.is S 3 rfl (List.mem_append_left _ (List.getElem_mem _)))
theorem rnew_spec {n : Int} {Ps : List HP} (S : SG F0 h0 h Ps) {Q : Option Addr × Int → H → Prop} (bad : n < 1 ∨ n > 1024 → Q (none, 1) h) (good : 1 ≤ n → n ≤ 1024 → ∀ b h', SG F0 h0 h' (refP b (AM.new n.toNat) :: Ps) → Q (some ⟨b, 0, none⟩, 0) h') : spateref11_New n h Q := by
  unfold spateref11_New
  refine jn_c (decide (n < 1) || decide (n > 1024)) h (fun K hK => ite_b (fun c => ?_) (fun c => ?_)) (ite_b (fun c => ?_) (fun c => ?_))
  · rw [c, Bool.true_or] at hK; exact hK
  · rw [c, Bool.false_or] at hK; exact hK
  · exact bad (by simpa using c)
  · simp at c
    have S1 := S.add (P := sbagP n.toNat []) (F1 := fun _ => False) ⟨by simp, fun _ h => h.elim⟩ (Ext.refl h) fun _ h => h.elim
    have S2 := (S1.made (Ext.refl h) (Own.nil kRS h _)).made (Ext.refl h) (Own.nil kRS h _)
    refine S2.var (K := kRM) fun b h' S3 e3 => good (by omega) (by omega) b h' ?_
    refine ref_close (A := AM.new n.toNat) (sh := Sl.nil) (sq := Sl.nil) (RH := []) (RQ := []) rfl rfl ?_
    have : ((n.toNat : Nat) : Int) = n := Int.toNat_of_nonneg (by omega)
    show SG F0 h0 h' (varP kRM b ⟨((n.toNat : Nat) : Int), Sl.nil, Sl.nil⟩ :: _)
    rw [this]; exact S3
theorem rask_spec (ok : A.Ok B) (hB : B ≤ 100000000) {t : Int} {s : Sl} {l : List Lk} (R : Rds kLk h s l) (hl : l.length < 1000000000000) :
    Does h [refP b A] (fun Q => spateref11_Manager_Ask (some ⟨b, 0, none⟩) t s h Q) (fun _ : Unit => (A.ask t l).1) (fun _ => [refP b (A.ask t l).2]) := by
  intro F0 h0 Q S k
  have k := k ()
  show spateref11_Manager_Ask _ _ _ _ _
  obtain ⟨sh, sq, RH, RQ, e1, e2, S⟩ := ref_open S
  have hoks := rows_ok ok e1 e2
  have hlen := rrows_len ok e1 e2
  have hb := ok.b
  have hn := ok.l2
  unfold spateref11_Manager_Ask
  have hm : ld (kI .i64) ⟨b, 0, none⟩ h = some (A.locks : Int) := varP.ld S fr_locks 0 rfl
  refine ordered_spec hm hn R hl fun s' h1 S1 s2 hs2 => ?_
  refine jn_c (decide (t < 0) || !okSet A.locks l) h1 (fun K hK => ite_b (fun c => ?_) (fun c => ?_)) ?_
  · rw [c, Bool.true_or] at hK; exact hK
  · rw [c, Bool.false_or] at hK; exact hK
  refine ite_b (fun c => ?_) (fun c => ?_)
  · have hA : A.ask t l = ((false, 1), A) := by unfold AM.ask; rw [if_pos (by simpa using c)]
    rw [hA] at k
    exact k h1 (ref_close e1 e2 (S.ext (SS.e S1)))
  · rw [Bool.or_eq_false_iff, decide_eq_false_iff_not, Bool.not_eq_false'] at c
    obtain ⟨ht, hok⟩ := c
    obtain rfl := hs2 hok
    have S2 := (S.take_in S1).flat
    have S3 := (sbagP.add (t := t) (S2.front 4 rfl).swap).rot
    have S3 : SG F0 h0 h1 [varP kRM b ⟨A.locks, sh, sq⟩, ownP kRS sh (RH.map rrow), ownP kRS sq (RQ.map rrow), sbagP A.locks ((t, s2, l) :: (RH ++ RQ))] := S3
    have hcond : ¬ (t < 0 ∨ okSet A.locks l = false) := by rw [hok]; simp; omega
    refine jn_c ((findC A.has t).isSome || (findC A.queue t).isSome) h1 (fun K hK => ?_) ?_
    · refine rd_some rfl (rd_some (by rw [add_mk]; exact varP.ld S3 fr_has 0 rfl) (rfind_has ok (by omega) (i := 1) rfl e1 (by omega) S3 t ?_))
      rw [pl_neg]
      refine ite_b (fun c => ?_) (fun c => ?_)
      · rw [c, Bool.true_or] at hK; exact hK
      · rw [c, Bool.false_or] at hK
        refine rd_some rfl (rd_some (by rw [add_mk]; exact varP.ld S3 fr_queue 0 rfl) (rfind_has ok (by omega) (i := 2) rfl e2 (by omega) S3 t ?_))
        rw [pl_neg]; exact hK
    · refine ite_b (fun hh => ?_) (fun hh => ?_)
      · have hA : A.ask t l = ((false, 41), A) := by unfold AM.ask; rw [if_neg hcond, if_pos hh]
        rw [hA] at k
        exact k h1 (ref_close e1 e2 (sbagP.sub S3 3 rfl fun r hr => List.mem_cons_of_mem _ hr))
      · refine S3.cell (K := kRS) (x := rrow (t, s2, l)) fun q h3 S5 ex5 => ?_
        have hn2 : ∀ x ∈ (t, s2, l) :: (RH ++ RQ), okSet A.locks x.2.2 = true := by
          intro x hx
          rcases List.mem_cons.1 hx with rfl | hx
          · exact hok
          · exact hoks x hx
        have sub1 : ∀ x ∈ RH, x ∈ (t, s2, l) :: (RH ++ RQ) := fun x hx => List.mem_cons_of_mem _ (List.mem_append_left _ hx)
        have sub2 : ∀ x ∈ RQ, x ∈ (t, s2, l) :: (RH ++ RQ) := fun x hx => List.mem_cons_of_mem _ (List.mem_append_right _ hx)
        refine jn_q (fun (v : Bool) h' => Ext h3 h' ∧ v = (hit A.has l || hit A.queue l)) (fun K hK => ?_) ?_
        · have hw : ld kRS ⟨q, 0, none⟩ h3 = some (rrow (t, s2, l)) := varP.ld S5 (Fld.whole kRS) 0 rfl
          refine rd_some rfl (rd_some (by rw [add_mk]; exact varP.ld S5 fr_has 1 rfl) (rd_some hw ?_))
          refine rhit_spec hn (ownP.rds (K := kRS) S5 2 rfl) (by omega) (fun x hx => sbagP.is S5 4 rfl hx) hn2 List.mem_cons_self sub1 fun h4 ex4 => ?_
          have S6 := S5.ext ex4
          rw [e1]
          refine ite_b (fun c => hK _ _ ⟨ex4, by rw [show hit A.has l = true from c]; rfl⟩) (fun c => ?_)
          refine rd_some rfl (rd_some (by rw [add_mk]; exact varP.ld S6 fr_queue 1 rfl) (rd_some (ld_ext ex4 hw) ?_))
          refine rhit_spec hn (ownP.rds (K := kRS) S6 3 rfl) (by omega) (fun x hx => sbagP.is S6 4 rfl hx) hn2 List.mem_cons_self sub2 fun h5 ex5 => ?_
          rw [e2]
          exact hK _ _ ⟨ex4.trans ex5, by rw [show hit A.has l = false from c, Bool.false_or]⟩
        · rintro _ h4 ⟨ex4, rfl⟩
          have S6 := S5.ext ex4
          have hw : ld kRS ⟨q, 0, none⟩ h4 = some (rrow (t, s2, l)) := varP.ld S6 (Fld.whole kRS) 0 rfl
          refine ite_b (fun c => ?_) (fun c => ?_)
          · have hA : A.ask t l = ((false, 0), { A with queue := A.queue ++ [(t, l)] }) := by unfold AM.ask; rw [if_neg hcond, if_neg (by rw [hh]; simp), if_pos c]
            rw [hA] at k
            refine rd_some rfl (rd_some (by rw [add_mk]; exact varP.ld S6 fr_queue 1 rfl) (rd_some hw (ownP.push (K := kRS) (by decide) S6 3 rfl (rrow (t, s2, l)) (by simp; omega) (by simp; omega) fun s' h5 S7 => ?_)))
            obtain ⟨h6, s6, S8, _⟩ := varP.st S7 fr_queue 1 rfl s'
            refine rd_some rfl (rd_some (by rw [add_mk]; exact s6) (k h6 ?_))
            have S9 := sbagP.sub S8.tail 3 rfl (rs' := RH ++ (RQ ++ [(t, s2, l)])) (fun r hr => by simp at hr ⊢; rcases hr with h | h | h <;> simp [h])
            have S10 : SG F0 h0 h6 (refL b A.locks sh s' RH (RQ ++ [(t, s2, l)]) ++ []) := by unfold refL; rw [List.map_append]; exact S9
            exact ref_close (A := { A with queue := A.queue ++ [(t, l)] }) e1 (by rw [List.map_append, e2]; rfl) S10
          · have hA : A.ask t l = ((true, 0), { A with has := A.has ++ [(t, l)] }) := by unfold AM.ask; rw [if_neg hcond, if_neg (by rw [hh]; simp), if_neg (by rw [c]; simp)]
            rw [hA] at k
            refine rd_some rfl (rd_some (by rw [add_mk]; exact varP.ld S6 fr_has 1 rfl) (rd_some hw (ownP.push (K := kRS) (by decide) S6 2 rfl (rrow (t, s2, l)) (by simp; omega) (by simp; omega) fun s' h5 S7 => ?_)))
            obtain ⟨h6, s6, S8, _⟩ := varP.st S7 fr_has 1 rfl s'
            refine rd_some rfl (rd_some (by rw [add_mk]; exact s6) (k h6 ?_))
            have S9 := sbagP.sub S8.tail 3 rfl (rs' := (RH ++ [(t, s2, l)]) ++ RQ) (fun r hr => by simp at hr ⊢; rcases hr with h | h | h <;> simp [h])
            have S10 : SG F0 h0 h6 (refL b A.locks s' sq (RH ++ [(t, s2, l)]) RQ ++ []) := by unfold refL; rw [List.map_append]; exact S9
            exact ref_close (A := { A with has := A.has ++ [(t, l)] }) (by rw [List.map_append, e1]; rfl) e2 S10
end
end Go.Proofs.Ytgmihbchcmjmdaa
