/- Freed, quit, looked at; a manager made. -/
import Derived.Test.YtgmihbchcmjmdaaLkM3
namespace Go.Proofs.Ytgmihbchcmjmdaa
open Go Go.Tr
set_option linter.unusedVariables false
theorem map_erase {α β : Type _} (f : α → β) : ∀ (l : List α) (i : Nat), (l.map f).eraseIdx i = (l.eraseIdx i).map f
  | [], i => rfl
  | x :: l, 0 => rfl
  | x :: l, i + 1 => by
    rw [List.map_cons, List.eraseIdx_cons_succ, List.eraseIdx_cons_succ, List.map_cons, map_erase f l i]
theorem ld_if {a : Addr} {h : H} {x : IF} (hl : ld kIf a h = some x) : hcell h a = some x.val := by
  unfold ld rdCells at hl
  simp only [Option.bind_eq_some_iff] at hl
  obtain ⟨l, h1, h2⟩ := hl
  have h3 := kIf.sound _ _ h2
  subst h3
  have h4 : rdFrom h a 0 1 = some [x.val] := h1
  simp only [rdFrom, Option.map_some, Option.bind_eq_some_iff, Option.some.injEq] at h4
  obtain ⟨v, hv, h5⟩ := h4
  have : a.add 0 = a := by simp [Addr.add]
  rw [this] at hv
  simp at h5; subst h5; exact hv
theorem fr_why : Fld kRefd kIf 1 (·.f1) (fun x v => { x with f1 := v }) := (Fld.whole kIf).snd.iso
section
variable {F0 : Nat → Prop} {h0 h : H} {b : Nat} {A : AM} {B : Nat} {Rs Ps : List HP}
/-- What an error says, to who asks. -/
theorem errP.is (S : SG F0 h0 h Ps) (i : Nat) {v : IF} {n : Int} (hi : Ps[i]? = some (errP v n)) : (n = 0 ∧ v = none) ∨ (n ≠ 0 ∧ v.isNone = false ∧ ErrIs v h n) := by
  obtain ⟨F1, x, _⟩ := S.at i hi
  rcases x with ⟨h1, h2, _⟩ | ⟨h1, pb, t, rfl, V, _⟩
  · exact .inl ⟨h1, h2⟩
  · exact .inr ⟨h1, rfl, .inr ⟨pb, 0, rfl, ld_if (V.ld fr_why)⟩⟩
theorem through_after (ok : A.Ok B) (hB : B ≤ 1000000000) {sh sq : Sl} {RH RQ RH' RQ' : List CR} {A' : AM} (ok' : A'.Ok B) (hl : A'.locks = A.locks) (e1 : RH'.map abs = A'.has) (e2 : RQ'.map abs = A'.queue) (hs : ∀ r ∈ RH' ++ RQ', r ∈ RH ++ RQ)
    (S : SG F0 h0 h [varP kMgr b ⟨A.locks, sh, sq⟩, ownP kClaim sh (RH'.map row), ownP kClaim sq (RQ'.map row), bagP (RH ++ RQ)]) {Q : Sl → H → Prop} (k : ∀ s h', SG F0 h0 h' [mgrP b A'.through.2, ownP (kI .i64) s A'.through.1] → Q s h') : locks_Manager_through (some ⟨b, 0, none⟩) h Q := by
  refine through_spec ok' hB (h := h) (b := b) ?_ k
  refine mgr_close (Rs := []) (sh := sh) (sq := sq) e1 e2 ?_
  rw [hl]
  exact bagP.sub S 3 rfl hs
theorem findC_lt {l : List C} {t : Int} {i : Nat} (h : findC l t = some i) : i < l.length := by
  unfold findC at h
  exact (List.findIdx?_eq_some_iff_getElem.1 h).1
theorem free_spec (ok : A.Ok B) (hB : B ≤ 1000000000) (t : Int) :
    Does h [mgrP b A] (fun Q => locks_Manager_Free (some ⟨b, 0, none⟩) t h Q) (fun g : Sl × IF => g) (fun g => [mgrP b (A.free t).2, ownP (kI .i64) g.1 (A.free t).1.1, errP g.2 (A.free t).1.2]) := by
  intro F0 h0 Q S k
  show locks_Manager_Free _ _ _ _
  obtain ⟨sh, sq, RH, RQ, e1, e2, S⟩ := mgr_open S
  have hlen := rows_len ok e1 e2
  have hb := ok.b
  unfold locks_Manager_Free
  refine rd_some rfl (rd_some (by rw [add_mk]; exact varP.ld S fm_has 0 rfl) ?_)
  refine find_has ok hB (i := 1) rfl e1 (by omega) S t fun h1 ex => ?_
  have S1 := S.ext ex
  cases hf : findC A.has t with
  | none =>
    have hA : A.free t = (([], 42), A) := by unfold AM.free; rw [hf]
    rw [hA] at k
    refine ite_t rfl (errP.mk (by decide) (mgr_close e1 e2 S1) fun pb h2 S2 => ?_)
    rcases errP.is S2 0 rfl with ⟨x, _⟩ | ⟨_, _, he⟩
    · cases x
    · refine ⟨42, 42, he, rfl, ite_f rfl (k (Sl.nil, _) h2 ?_)⟩
      exact (SG.made (Ps := [mgrP b A, _]) S2.rot (Ext.refl _) (Own.nil (kI .i64) h2 _)).swap
  | some i =>
    have hi := findC_lt hf
    have hA : A.free t = (({ A with has := A.has.eraseIdx i }.through.1, 0), { A with has := A.has.eraseIdx i }.through.2) := by unfold AM.free; rw [hf]
    rw [hA] at k
    have hrl : RH.length = A.has.length := by rw [← e1]; simp
    refine ite_f (by show decide ((i : Int) < 0) = false; rw [decide_eq_false_iff_not]; omega) ?_
    refine rd_some rfl (rd_some (by rw [add_mk]; exact varP.ld S1 fm_has 0 rfl) ?_)
    refine ownP.delete S1 1 rfl (i := i) (by rw [List.length_map]; omega) (by show IntKind.i64.wrap ((i : Int) + 1) = _; rw [wrap64_id (by omega) (by omega)]; rfl) fun s' h2 S2 => ?_
    obtain ⟨h3, s3, S3, _⟩ := varP.st S2 fm_has 0 rfl s'
    refine rd_some rfl (rd_some (by rw [add_mk]; exact s3) ?_)
    refine through_after (F0 := F0) (h0 := h0) ok hB (ok.eraseH i) rfl (RH := RH) (RQ := RQ) (RH' := RH.eraseIdx i) (RQ' := RQ) (sh := s') (sq := sq) (by rw [← e1]; exact (map_erase abs _ _).symm) e2 (fun r hr => ?_) ?_ fun s h4 S4 => ?_
    · rcases List.mem_append.1 hr with hr | hr
      · exact List.mem_append_left _ (List.mem_of_mem_eraseIdx hr)
      · exact List.mem_append_right _ hr
    · have S3 : SG F0 h0 h3 [varP kMgr b ⟨A.locks, s', sq⟩, ownP kClaim s' ((RH.map row).eraseIdx i), ownP kClaim sq (RQ.map row), bagP (RH ++ RQ)] := S3
      rw [map_erase] at S3; exact S3
    · exact k (s, none) h4 (errP.zero S4).rot
theorem quit_spec (ok : A.Ok B) (hB : B ≤ 1000000000) (t : Int) :
    Does h [mgrP b A] (fun Q => locks_Manager_Quit (some ⟨b, 0, none⟩) t h Q) (fun s : Sl => s) (fun s => [mgrP b (A.quit t).2, ownP (kI .i64) s (A.quit t).1]) := by
  intro F0 h0 Q S k
  show locks_Manager_Quit _ _ _ _
  obtain ⟨sh, sq, RH, RQ, e1, e2, S⟩ := mgr_open S
  have hlen := rows_len ok e1 e2
  have hb := ok.b
  have hrl : RH.length = A.has.length := by rw [← e1]; simp
  have hql : RQ.length = A.queue.length := by rw [← e2]; simp
  unfold locks_Manager_Quit
  refine rd_some rfl (rd_some (by rw [add_mk]; exact varP.ld S fm_has 0 rfl) (rd_some rfl (rd_some (by rw [add_mk]; exact varP.ld S fm_queue 0 rfl) ?_)))
  refine find_has ok hB (i := 1) rfl e1 (by omega) S t fun h1 ex => ?_
  have S1 := S.ext ex
  refine ⟨by rw [add_mk]; exact varP.ld S1 fm_queue 0 rfl, ?_⟩
  refine find_has ok hB (i := 2) rfl e2 (by omega) S1 t fun h2 ex2 => ?_
  have S2 := S1.ext ex2
  refine jn_i ?_
  cases hf : findC A.has t with
  | some i =>
    have hi := findC_lt hf
    have hA : A.quit t = ({ A with has := A.has.eraseIdx i }.through.1, { A with has := A.has.eraseIdx i }.through.2) := by unfold AM.quit; rw [hf]
    rw [hA] at k
    refine ite_t (by show decide ((i : Int) ≥ 0) = true; rw [decide_eq_true_eq]; omega) ?_
    refine rd_some rfl (rd_some (by rw [add_mk]; exact varP.ld S2 fm_has 0 rfl) ?_)
    refine ownP.delete S2 1 rfl (i := i) (by rw [List.length_map]; omega) (by show IntKind.i64.wrap ((i : Int) + 1) = _; rw [wrap64_id (by omega) (by omega)]; rfl) fun s' h2 S2 => ?_
    obtain ⟨h3, s3, S3, _⟩ := varP.st S2 fm_has 0 rfl s'
    refine rd_some rfl (rd_some (by rw [add_mk]; exact s3) ?_)
    refine through_after (F0 := F0) (h0 := h0) ok hB (ok.eraseH i) rfl (RH := RH) (RQ := RQ) (RH' := RH.eraseIdx i) (RQ' := RQ) (sh := s') (sq := sq) (by rw [← e1]; exact (map_erase abs _ _).symm) e2 (fun r hr => ?_) ?_ fun s h4 S4 => ?_
    · rcases List.mem_append.1 hr with hr | hr
      · exact List.mem_append_left _ (List.mem_of_mem_eraseIdx hr)
      · exact List.mem_append_right _ hr
    · have S3 : SG F0 h0 h3 [varP kMgr b ⟨A.locks, s', sq⟩, ownP kClaim s' ((RH.map row).eraseIdx i), ownP kClaim sq (RQ.map row), bagP (RH ++ RQ)] := S3
      rw [map_erase] at S3; exact S3
    · exact k s h4 S4
  | none =>
    refine ite_f rfl ?_
    cases hq : findC A.queue t with
    | some i =>
      have hi := findC_lt hq
      have hA : A.quit t = ({ A with queue := A.queue.eraseIdx i }.through.1, { A with queue := A.queue.eraseIdx i }.through.2) := by unfold AM.quit; rw [hf]; simp only [hq]
      rw [hA] at k
      refine ite_t (by show decide ((i : Int) ≥ 0) = true; rw [decide_eq_true_eq]; omega) ?_
      refine rd_some rfl (rd_some (by rw [add_mk]; exact varP.ld S2 fm_queue 0 rfl) ?_)
      refine ownP.delete S2 2 rfl (i := i) (by rw [List.length_map]; omega) (by show IntKind.i64.wrap ((i : Int) + 1) = _; rw [wrap64_id (by omega) (by omega)]; rfl) fun s' h2 S2 => ?_
      obtain ⟨h3, s3, S3, _⟩ := varP.st S2 fm_queue 0 rfl s'
      refine rd_some rfl (rd_some (by rw [add_mk]; exact s3) ?_)
      refine through_after (F0 := F0) (h0 := h0) ok hB (ok.eraseQ i) rfl (RH := RH) (RQ := RQ) (RH' := RH) (RQ' := RQ.eraseIdx i) (sh := sh) (sq := s') e1 (by rw [← e2]; exact (map_erase abs _ _).symm) (fun r hr => ?_) ?_ fun s h4 S4 => ?_
      · rcases List.mem_append.1 hr with hr | hr
        · exact List.mem_append_left _ hr
        · exact List.mem_append_right _ (List.mem_of_mem_eraseIdx hr)
      · have S3 : SG F0 h0 h3 [varP kMgr b ⟨A.locks, sh, s'⟩, ownP kClaim sh (RH.map row), ownP kClaim s' ((RQ.map row).eraseIdx i), bagP (RH ++ RQ)] := S3
        rw [map_erase] at S3; exact S3
      · exact k s h4 S4
    | none =>
      have hA : A.quit t = ([], A) := by unfold AM.quit; rw [hf]; simp only [hq]
      rw [hA] at k
      refine ite_f rfl (k Sl.nil h2 ?_)
      exact ((mgr_close e1 e2 S2).made (Ext.refl _) (Own.nil (kI .i64) h2 _)).swap
theorem waits_spec (ok : A.Ok B) (hB : B ≤ 1000000000) (t : Int) :
    Does h [mgrP b A] (fun Q => locks_Manager_Waits (some ⟨b, 0, none⟩) t h Q) (fun _ : Unit => A.waits t) (fun _ => [mgrP b A]) := by
  intro F0 h0 Q S k
  show locks_Manager_Waits _ _ _ _
  obtain ⟨sh, sq, RH, RQ, e1, e2, S⟩ := mgr_open S
  have hb := ok.b
  unfold locks_Manager_Waits
  refine rd_some rfl (rd_some (by rw [add_mk]; exact varP.ld S fm_queue 0 rfl) ?_)
  refine find_has ok hB (i := 2) rfl e2 (by omega) S t fun h1 ex => ?_
  rw [pl_neg]
  exact k () h1 (mgr_close e1 e2 (S.ext ex))
theorem queue_spec (ok : A.Ok B) (hB : B ≤ 1000000000) :
    Does h [mgrP b A] (fun Q => locks_Manager_Queue (some ⟨b, 0, none⟩) h Q) (fun s : Sl => s) (fun s => [mgrP b A, ownP (kI .i64) s A.queueL]) := by
  intro F0 h0 Q S k
  show locks_Manager_Queue _ _ _
  obtain ⟨sh, sq, RH, RQ, e1, e2, S⟩ := mgr_open S
  have hlen := rows_len ok e1 e2
  have hq : A.queueL = RQ.map (·.1) := by unfold AM.queueL; rw [← e2, List.map_map]; rfl
  unfold locks_Manager_Queue
  refine jn_i (rd_some rfl (rd_some (by rw [add_mk]; exact varP.ld S fm_queue 0 rfl) ?_))
  have hql : sq.len = RQ.length := by have := ownP.len (K := kClaim) S 2 rfl; simpa using this
  refine loopE_rule (fun n (s : Sl × Int) h' => ∃ j : Nat, s.2 = j ∧ n + j = RQ.length ∧ SG F0 h0 h' (ownP (kI .i64) s.1 ((RQ.map (·.1)).take j) :: (mgrL b A.locks sh sq RH RQ ++ []))) RQ.length ⟨0, rfl, rfl, S.made (Ext.refl h) (Own.nil (kI .i64) h _)⟩ ?_
  rintro n ⟨out, i⟩ h1 K ⟨j, hi, hn, S1⟩ next done
  have hi : i = j := hi
  subst hi
  unfold locks_Manager_Queue.b1
  refine ite_b (fun hc => ?_) (fun hc => ?_)
  · have hj : j < RQ.length := by
      have hc : decide ((j : Int) < (sq.len : Int)) = true := hc
      rw [decide_eq_true_eq] at hc; omega
    obtain ⟨a, ha, hx⟩ := ownP.get (K := kClaim) S1 3 rfl (j := j) (by simpa using hj) (n := 2) rfl
    rw [List.getElem_map] at hx
    refine rd_some ha (rd_some hx (S1.cell fun q h2 S2 eb => ?_))
    have hv : ld (kI .i64) ⟨q, 0, none⟩ h2 = some (row RQ[j]).f0 := varP.ld S2 fl_task 0 rfl
    refine rd_some (by rw [add_mk]; exact hv) (ownP.push (K := kI .i64) (by decide) S2 1 rfl (row RQ[j]).f0 (by simp; omega) (by simp; omega) fun o' h6 S6 => ?_)
    refine next (n - 1) _ _ (by omega) ⟨j + 1, by show IntKind.i64.wrap ((j : Int) + 1) = _; rw [wrap64_id (by omega) (by omega)]; rfl, by omega, ?_⟩
    have : (RQ.map (·.1)).take (j + 1) = (RQ.map (·.1)).take j ++ [(row RQ[j]).f0] := by
      rw [List.take_add_one, List.getElem?_map, List.getElem?_eq_getElem hj]; rfl
    rw [this]
    exact S6.tail
  · have hj : j = RQ.length := by
      have hc : decide ((j : Int) < (sq.len : Int)) = false := hc
      rw [decide_eq_false_iff_not] at hc; omega
    refine done _ _ (k out h1 ?_)
    have : (RQ.map (·.1)).take j = A.queueL := by rw [hq, List.take_of_length_le (by rw [List.length_map]; omega)]
    rw [this] at S1
    exact (mgr_close e1 e2 (S1.rot)) 
theorem filt_find {l : List Lk} (hn : nod l) (k : Int) : (l.filter fun x => x.f0 == k) = match l.find? (fun y => k == y.f0) with | some y => [⟨k, how y == 1⟩] | none => [] := by
  induction l with
  | nil => rfl
  | cons x l ih =>
    have hn' := List.nodup_cons.1 (by simpa [nod] using hn : (x.f0 :: l.map (·.f0)).Nodup)
    rw [List.find?_cons]
    by_cases hb : k = x.f0
    · subst hb
      have : (l.filter fun y => y.f0 == x.f0) = [] := by
        rw [List.filter_eq_nil_iff]
        intro y hy e
        have e : y.f0 = x.f0 := by simpa using e
        exact hn'.1 (by rw [← e]; exact List.mem_map_of_mem hy)
      rw [List.filter_cons_of_pos (by simp), this]
      have e2 : (how x == 1) = x.f1 := by unfold how; cases x.f1 <;> rfl
      simp [e2]
    · have h1 : (k == x.f0) = false := by simpa using hb
      rw [h1, List.filter_cons_of_neg (by simp; exact fun e => hb e.symm)]
      exact ih hn'.2
theorem has_spec (ok : A.Ok B) (hB : B ≤ 1000000000) (t : Int) :
    Does h [mgrP b A] (fun Q => locks_Manager_Has (some ⟨b, 0, none⟩) t h Q) (fun s : Sl => s) (fun s => [mgrP b A, ownP kLk s (A.hasL t)]) := by
  intro F0 h0 Q S k
  show locks_Manager_Has _ _ _ _
  obtain ⟨sh, sq, RH, RQ, e1, e2, S⟩ := mgr_open S
  have hnod := rows_nod ok e1 e2
  have hlen := rows_len ok e1 e2
  have hb := ok.b
  have hl2 := ok.l2
  unfold locks_Manager_Has
  refine rd_some rfl (rd_some (by rw [add_mk]; exact varP.ld S fm_has 0 rfl) ?_)
  refine find_has ok hB (i := 1) rfl e1 (by omega) S t fun h1 ex => ?_
  have S1 := S.ext ex
  cases hf : findC A.has t with
  | none =>
    have hA : A.hasL t = [] := by unfold AM.hasL; rw [hf]
    rw [hA] at k
    exact ite_t rfl (k Sl.nil h1 ((mgr_close e1 e2 S1).made (Ext.refl _) (Own.nil kLk h1 _)).swap)
  | some i =>
    have hi := findC_lt hf
    have hrl : RH.length = A.has.length := by rw [← e1]; simp
    have hir : i < RH.length := by omega
    have hA : A.hasL t = AM.sortL A.locks RH[i].2.2 := by
      unfold AM.hasL; rw [hf]
      simp only [← e1, List.getElem?_map, List.getElem?_eq_getElem hir]; rfl
    rw [hA] at k
    refine ite_f (by show decide ((i : Int) < 0) = false; rw [decide_eq_false_iff_not]; omega) (jn_i ?_)
    refine rd_some rfl (rd_some (by rw [add_mk]; exact varP.ld S1 fm_locks 0 rfl) ?_)
    refine loopE_rule (fun n (s : Sl × Int) h' => ∃ j : Nat, s.2 = j ∧ n + j = A.locks ∧ (AM.sortL j RH[i].2.2).length ≤ j ∧ SG F0 h0 h' (ownP kLk s.1 (AM.sortL j RH[i].2.2) :: (mgrL b A.locks sh sq RH RQ ++ []))) A.locks ⟨0, rfl, rfl, Nat.le_refl _, S1.made (Ext.refl h1) (Own.nil kLk h1 _)⟩ ?_
    rintro n ⟨out, i'⟩ h1 K ⟨j, hi', hn, hlj, S1⟩ next done
    have hi' : i' = j := hi'
    subst hi'
    unfold locks_Manager_Has.b1
    refine ite_b (fun hc => ?_) (fun hc => ?_)
    · have hj : j < A.locks := by
        have hc : decide ((j : Int) < (A.locks : Int)) = true := hc
        rw [decide_eq_true_eq] at hc; omega
      have hmem : RH[i] ∈ RH ++ RQ := List.mem_append_left _ (List.getElem_mem _)
      obtain ⟨a, ha⟩ := ownP.ix S1 2 rfl (K := kClaim) (xs := RH.map row) (j := i) (by simpa using hir) (n := 2) rfl
      have hx := ownP.ldF fl_set S1 2 (xs := RH.map row) rfl (j := i) (x := row RH[i]) (by rw [List.getElem?_map, List.getElem?_eq_getElem hir]; rfl) rfl ha
      obtain ⟨y, hlk⟩ := MapIs.look (bagP.is S1 4 rfl hmem) (j : Int)
      refine jn_i (rd_some rfl (rd_some (by rw [add_mk]; exact varP.ld S1 fm_has 1 rfl) (rd_some ha (rd_some hx (rd_some hlk ?_)))))
      have hnx : ∀ (out' : Sl) (h' : H), SG F0 h0 h' (ownP kLk out' (AM.sortL (j + 1) RH[i].2.2) :: (mgrL b A.locks sh sq RH RQ ++ [])) → (AM.sortL (j + 1) RH[i].2.2).length ≤ j + 1 → K (.inl (out', IntKind.i64.wrap ((j : Int) + 1))) h' := fun out' h' S' hl' =>
        next (n - 1) _ _ (by omega) ⟨j + 1, by show IntKind.i64.wrap ((j : Int) + 1) = _; rw [wrap64_id (by omega) (by omega)]; rfl, by omega, hl', S'⟩
      have hs1 : AM.sortL (j + 1) RH[i].2.2 = AM.sortL j RH[i].2.2 ++ match RH[i].2.2.find? (fun y => (j : Int) == y.f0) with | some y => [⟨(j : Int), how y == 1⟩] | none => [] := by
        unfold AM.sortL
        rw [List.range_succ, List.flatMap_append, List.flatMap_singleton, filt_find (hnod _ hmem)]
      rw [alk_setm]
      cases hfd : RH[i].2.2.find? (fun y => (j : Int) == y.f0) with
      | none =>
        refine ite_f rfl (hnx _ _ ?_ ?_)
        · rw [hs1, hfd, List.append_nil]; exact S1
        · rw [hs1, hfd, List.append_nil]; omega
      | some y =>
        refine ite_t (how_ne y) (ownP.push (K := kLk) (by decide) S1 0 rfl ⟨(j : Int), how y == 1⟩ (by omega) (by omega) fun o' h6 S6 => hnx _ _ ?_ ?_)
        · rw [hs1, hfd]; exact S6
        · rw [hs1, hfd]; simp; omega
    · have hj : j = A.locks := by
        have hc : decide ((j : Int) < (A.locks : Int)) = false := hc
        rw [decide_eq_false_iff_not] at hc; omega
      refine done _ _ (k out h1 ?_)
      rw [hj] at S1
      exact (mgr_close e1 e2 (S1.rot))
theorem new_spec {n : Int} {Ps : List HP} (S : SG F0 h0 h Ps) {Q : Option Addr × Int → H → Prop} (bad : n < 1 ∨ n > 1024 → Q (none, 1) h) (good : 1 ≤ n → n ≤ 1024 → ∀ b h', SG F0 h0 h' (mgrP b (AM.new n.toNat) :: Ps) → Q (some ⟨b, 0, none⟩, 0) h') : locks_New n h Q := by
  unfold locks_New
  refine jn_c (decide (n < 1) || decide (n > 1024)) h (fun K hK => ite_b (fun c => ?_) (fun c => ?_)) (ite_b (fun c => ?_) (fun c => ?_))
  · rw [c, Bool.true_or] at hK; exact hK
  · rw [c, Bool.false_or] at hK; exact hK
  · exact bad (by simpa using c)
  · simp at c
    have S1 := S.add (P := bagP []) (F1 := fun _ => False) ⟨by simp, fun _ h => h.elim⟩ (Ext.refl h) fun _ h => h.elim
    have S2 := (S1.made (Ext.refl h) (Own.nil kClaim h _)).made (Ext.refl h) (Own.nil kClaim h _)
    refine S2.var (K := kMgr) fun b h' S3 e3 => good (by omega) (by omega) b h' ?_
    refine mgr_close (A := AM.new n.toNat) (sh := Sl.nil) (sq := Sl.nil) (RH := []) (RQ := []) rfl rfl ?_
    have : ((n.toNat : Nat) : Int) = n := Int.toNat_of_nonneg (by omega)
    show SG F0 h0 h' (varP kMgr b ⟨((n.toNat : Nat) : Int), Sl.nil, Sl.nil⟩ :: _)
    rw [this]; exact S3
end
end Go.Proofs.Ytgmihbchcmjmdaa
