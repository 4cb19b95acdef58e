/- LocksFair, over the heap. -/
import Derived.Test.YtgmihbchcmjmdaaLkJ2
import Derived.Test.YtgmihbchcmjmdaaG7
namespace Go.Proofs.Ytgmihbchcmjmdaa
open Go Go.Tr
set_option linter.unusedVariables false
theorem AM.ask_bad {A : AM} {t : Int} {l : List Lk} (h : (A.ask t l).1.2 ≠ 0) : (A.ask t l).1.1 = false ∧ (A.ask t l).2 = A := by
  unfold AM.ask at h ⊢
  split
  · exact ⟨rfl, rfl⟩
  · split
    · exact ⟨rfl, rfl⟩
    · rename_i h1 h2
      rw [if_neg h1, if_neg h2] at h
      split at h <;> exact absurd rfl h
theorem posT_isSome (Ls : List AK) (t : Int) : (posT Ls t).isSome = Ls.any fun a => a.t == t := by unfold posT; rw [List.findIdx?_isSome]
theorem fair_true (n : Int) (l : Sl) (xs : List S52) (h : H) (hl : Rds kStep h l xs) (hw : ∀ y ∈ xs, wStep h y) (hm : xs.length * 40 ≤ reachBytes) : spatelaw11_LocksFair n l h fun r h' => r = true ∧ Ext h h' := by
  unfold spatelaw11_LocksFair
  have hlen := hl.len
  refine known_spec fun h1 e1 => ite_f rfl ?_
  have S0 : SS h h1 [] := SS.nil e1
  refine new_spec S0 (fun hb => ite_t rfl (jn_c true h1 (fun K hK => ite_t rfl (ite_b (fun c => hK) fun c => ?_)) ⟨rfl, e1⟩)) fun g1 g2 m h2 S2 => ite_f rfl (jn_i ?_)
  · rw [decide_eq_false_iff_not] at c
    rw [show decide (n > 1024) = true by rw [decide_eq_true_eq]; omega]; exact hK
  have ok0 : (AM.new n.toNat).Ok 0 := AM.Ok.new (by omega) (by omega)
  have SA : SS h h2 [mgrP m (AM.new n.toNat), ownP kAsk Sl.nil (([] : List AK).map arow), abagP []] := by
    have Sa := S2.add (P := abagP []) (F1 := fun _ => False) ⟨by simp, fun _ h => h.elim⟩ (Ext.refl h2) fun _ h => h.elim
    exact (SG.made (Ps := [mgrP m (AM.new n.toNat), abagP []]) Sa.rot (Ext.refl h2) (Own.nil kAsk h2 _)).swap
  refine for0 (mk := fun (s : Sl) i => (s, i)) (s := Sl.nil) (n := min xs.length 300) (by omega) (fun j s h' => ∃ (A : AM) (Ls : List AK), A.Ok j ∧ Rel A Ls ∧ Ls.length ≤ j ∧ (∀ a ∈ Ls, a.l.length ≤ 40) ∧ SS h h' [mgrP m A, ownP kAsk s (Ls.map arow), abagP Ls]) ⟨_, [], ok0, Rel.new _, Nat.le_refl _, by simp, SA⟩ (fun j s h' K hj hI next done => ?_) (fun s h' K hI done => ?_)
  · obtain ⟨A, Ls, ok, R, hL, hm40, S⟩ := hI
    have hmm : ∀ a ∈ Ls, a.l.length ≤ 1000000 := fun a ha => by have := hm40 a ha; omega
    unfold spatelaw11_LocksFair.b1
    have hjx : j < xs.length := by omega
    refine jn_c true h' (fun K6 hK => ite_t (by rw [hlen]; exact clt_t hjx) ?_) (ite_t rfl (jn_i ?_))
    · rw [show decide ((j : Int) < 300) = true by rw [decide_eq_true_eq]; omega]; exact hK
    obtain ⟨ys, Ry, hy⟩ := hw _ (List.getElem_mem hjx)
    refine (hl.ext (SS.e S)).elt0 hjx rfl (S.cell (K := kStep) (x := xs[j]) fun q h1 S1 _ => ?_)
    have hx0 : ld (kI .i64) ⟨q, 0, none⟩ h1 = some xs[j].f0 := varP.ld S1 ft_kind 0 rfl
    have hx1 : ld (kI .i64) ⟨q, 1, none⟩ h1 = some xs[j].f1 := varP.ld S1 ft_task 0 rfl
    have hx2 : ld kL ⟨q, 2, none⟩ h1 = some xs[j].f2 := varP.ld S1 ft_l 0 rfl
    have h40 : (ys.take 40).length ≤ 40 := by simp; omega
    refine rd_some (by rw [add_mk]; exact hx1) (afind_spec (ownP.rds (K := kAsk) S1 2 rfl) (by omega) xs[j].f1 ?_)
    have hpos := R.pos xs[j].f1
    refine jn_q (fun s' h' => ∃ (A' : AM) (Ls' : List AK), A'.Ok (j + 1) ∧ Rel A' Ls' ∧ Ls'.length ≤ j + 1 ∧ (∀ a ∈ Ls', a.l.length ≤ 40) ∧ SS h h' (varP kStep q xs[j] :: [mgrP m A', ownP kAsk s' (Ls'.map arow), abagP Ls'])) (fun K5 hK5 => rd_some (by rw [add_mk]; exact hx0) ?_) ?_
    · refine ite_b (fun c1 => ?_) (fun c1 => ite_b (fun c2 => ?_) (fun c2 => ite_b (fun c3 => ?_) (fun c3 => ?_)))
      · -- ask
        refine rd_some (by rw [add_mk]; exact hx2) (cut_spec Ry (by omega) fun s' R' => rd_some (by rw [add_mk]; exact hx1) ?_)
        refine S1.go1 1 rfl (ask_spec ok (by omega) (t := xs[j].f1) (R'.ext (SS.e S1)) (by omega)) fun v h3 S3 => ?_
        have S3 : SS h h3 (errP v (A.ask xs[j].f1 (ys.take 40)).1.2 :: varP kStep q xs[j] :: [mgrP m (A.ask xs[j].f1 (ys.take 40)).2, ownP kAsk s (Ls.map arow), abagP Ls]) := S3
        have hn := errP.nil S3 0 rfl
        by_cases h0 : (A.ask xs[j].f1 (ys.take 40)).1.2 = 0
        · rw [decide_eq_true h0] at hn
          have hf := posT_isSome Ls xs[j].f1
          rw [(R.ask Sl.nil h0).1] at hf
          have hst := (R.ask Sl.nil h0).2.1
          refine ite_f (by rw [hn]; rfl) (ite_f (by rw [pl_neg]; exact hf) ?_)
          refine jn_c (Ls.any fun a => conf a.l (ys.take 40)) h3 (fun K7 hK7 => ?_) (ite_f (by show ((A.ask xs[j].f1 (ys.take 40)).1.1 == _) = false; rw [hst]; cases (Ls.any fun a => conf a.l (ys.take 40)) <;> rfl) ?_)
          · have RA := rdA S3 3 4 rfl rfl (by omega) hmm
            have hsl := RA.rows.len
            rw [List.length_map] at hsl
            refine for0 (mk := fun (st : Bool) i => (st, i)) (s := false) (n := Ls.length) (by omega) (fun i st h' => h' = h3 ∧ st = (Ls.take i).any fun a => conf a.l (ys.take 40)) ⟨rfl, rfl⟩ (fun i st h4 K8 hi hI next2 done2 => ?_) (fun st h4 K8 hI done2 => ?_)
            · obtain ⟨rfl, rfl⟩ := hI
              unfold spatelaw11_LocksFair.b2
              refine ite_t (by rw [hsl]; exact clt_t hi) (jn_c ((Ls.take (i + 1)).any fun a => conf a.l (ys.take 40)) h4 (fun K9 hK9 => ?_) (next2 _ _ ⟨rfl, rfl⟩))
              rw [any_take _ hi] at hK9
              refine ite_b (fun c => ?_) (fun c => ?_)
              · have c : ((Ls.take i).any fun a => conf a.l (ys.take 40)) = true := c
                rw [c, Bool.true_or] at hK9; exact hK9
              · have c : ((Ls.take i).any fun a => conf a.l (ys.take 40)) = false := c
                rw [c, Bool.false_or] at hK9
                refine RA.rows.elt fq_l (i := i) (by rw [List.length_map]; exact hi) rfl ?_
                rw [List.getElem_map]
                have := hmm _ (List.getElem_mem hi)
                exact lconf_spec (RA.sets _ (List.getElem_mem hi)) (R'.ext (SS.e S3)) (by omega) (by omega) hK9
            · obtain ⟨rfl, rfl⟩ := hI
              unfold spatelaw11_LocksFair.b2
              refine ite_f (by rw [hsl]; exact clt_f (Nat.lt_irrefl _)) (done2 _ _ ?_)
              rw [List.take_length]; exact hK7
          · refine rd_some (by rw [add_mk]; exact varP.ld S3 ft_task 1 rfl) ?_
            refine bs_own (K := kLk) [] rfl rfl fun x7 h4 o4 hl4 e4 z4 => ?_
            have S4 := S3.made e4 (o4.mono fun b hb => by omega)
            refine ownP.app (K := kLk) (by decide) S4 0 rfl (R'.ext (SS.e S4)) (by simp; omega) (by simp; omega) fun x8 h5 S5 => ⟨by rw [add_mk]; exact varP.ld S5 ft_task 2 rfl, ?_⟩
            refine ownP.push (K := kAsk) (by decide) S5 4 rfl (arow ⟨xs[j].f1, x8, ys.take 40, (A.ask xs[j].f1 (ys.take 40)).1.1⟩) (by simp; omega) (by simp; omega) fun x10 h6 S6 => ?_
            have S6 : SS h h6 (ownP kLk x8 (ys.take 40) :: errP v (A.ask xs[j].f1 (ys.take 40)).1.2 :: varP kStep q xs[j] :: [mgrP m (A.ask xs[j].f1 (ys.take 40)).2, ownP kAsk x10 (Ls.map arow ++ [arow ⟨xs[j].f1, x8, ys.take 40, (A.ask xs[j].f1 (ys.take 40)).1.1⟩]), abagP Ls]) := S6
            have S7 := abagP.add (a := ⟨xs[j].f1, x8, ys.take 40, (A.ask xs[j].f1 (ys.take 40)).1.1⟩) (S6.front 5 rfl).swap
            refine hK5 x10 h6 ⟨_, Ls ++ [⟨xs[j].f1, x8, ys.take 40, (A.ask xs[j].f1 (ys.take 40)).1.1⟩], ok.ask _ _, (R.ask x8 h0).2.2, by simp; omega, fun a ha => ?_, ?_⟩
            · rcases List.mem_append.1 ha with ha | ha
              · exact hm40 a ha
              · obtain rfl := List.mem_singleton.1 ha
                exact h40
            · rw [List.map_append]
              exact (S7.swap.tail).rot |> fun S8 => S8.perm (List.Perm.refl _)
        · rw [decide_eq_false h0] at hn
          have hbad := AM.ask_bad h0
          refine ite_t (by rw [hn]; rfl) (ite_f hbad.1 (next s h3 ⟨A, Ls, ok.mono (by omega), R, by omega, hm40, ?_⟩))
          rw [hbad.2] at S3
          exact S3.tail.tail
      · -- free
        refine rd_some (by rw [add_mk]; exact hx1) (S1.go1 1 rfl (free_spec ok (by omega) xs[j].f1) fun g h3 S3 => ?_)
        have S3 : SS h h3 (ownP (kI .i64) g.1 (A.free xs[j].f1).1.1 :: errP g.2 (A.free xs[j].f1).1.2 :: varP kStep q xs[j] :: [mgrP m (A.free xs[j].f1).2, ownP kAsk s (Ls.map arow), abagP Ls]) := S3
        have hn := errP.nil S3 1 rfl
        have hgl := ownP.len (K := kI .i64) S3 0 rfl
        cases hp : posT Ls xs[j].f1 with
        | none =>
          rw [hp] at hpos
          have e : A.free xs[j].f1 = (([], 42), A) := by unfold AM.free; rw [hpos.1]
          rw [e] at S3 hn hgl
          have hgl : g.1.len = 0 := hgl
          have hn : g.2.isNone = false := hn
          refine jn_c false h3 (fun K9 hK9 => ite_f rfl (ite_f (by rw [hn]; rfl) (ite_t (by rw [hn]; rfl) ?_))) (ite_f rfl (ite_f hn ?_))
          · rw [hgl]; exact hK9
          · exact hK5 s h3 ⟨A, Ls, ok.mono (by omega), R, by omega, hm40, S3.tail.tail⟩
        | some k =>
          rw [hp] at hpos
          obtain ⟨hk, ht, hg⟩ := hpos
          have hk' : k < (Ls.map arow).length := by rw [List.length_map]; exact hk
          have e0 : (if (0 : Int) > pl (some k) then 0 else pl (some k)) = (k : Int) := by
            show (if (0 : Int) > (k : Int) then 0 else (k : Int)) = (k : Int)
            rw [if_neg (by omega)]
          have hk0 : decide (pl (some k) ≥ 0) = true := by show decide ((k : Int) ≥ 0) = true; rw [decide_eq_true_eq]; omega
          cases hgk : Ls[k].g with
          | false =>
            have hfn : findC A.has xs[j].f1 = none := by rw [hgk] at hg; simpa using hg
            have e : A.free xs[j].f1 = (([], 42), A) := by unfold AM.free; rw [hfn]
            rw [e] at S3 hn hgl
            have hgl : g.1.len = 0 := hgl
            have hn : g.2.isNone = false := hn
            refine jn_c false h3 (fun K9 hK9 => ite_t hk0 ?_) (ite_f rfl (ite_f hn ?_))
            · rw [e0]
              refine (ownP.rds (K := kAsk) S3 4 rfl).elt fq_g hk' rfl ?_
              rw [List.getElem_map]
              refine ite_f (by rw [hn]; show (!(false == Ls[k].g)) = false; rw [hgk]; rfl) (ite_t (by rw [hn]; rfl) ?_)
              rw [hgl]; exact hK9
            · exact hK5 s h3 ⟨A, Ls, ok.mono (by omega), R, by omega, hm40, S3.tail.tail⟩
          | true =>
            have hR := R.free hk hgk
            rw [ht] at hR
            rw [decide_eq_true hR.1] at hn
            refine jn_c false h3 (fun K9 hK9 => ite_t hk0 ?_) (ite_f rfl (ite_t hn ?_))
            · rw [e0]
              refine (ownP.rds (K := kAsk) S3 4 rfl).elt fq_g hk' rfl ?_
              rw [List.getElem_map]
              exact ite_f (by rw [hn]; show (!(true == Ls[k].g)) = false; rw [hgk]; rfl) (ite_f (by rw [hn]; rfl) hK9)
            · refine awithout_spec S3 (ownP.rds (K := kAsk) S3 4 rfl) (by rw [List.length_map]; omega) hk' fun s4 h4 S4 => ?_
              rw [map_erase] at S4
              have S5 : SS h h4 (ownP (kI .i64) g.1 (A.free xs[j].f1).1.1 :: errP g.2 (A.free xs[j].f1).1.2 :: varP kStep q xs[j] :: [mgrP m (A.free xs[j].f1).2, ownP kAsk s4 ((Ls.eraseIdx k).map arow), abagP Ls]) := SG.replace S4 4 (by show 4 < 6; omega)
              have S6 := abagP.sub S5 5 rfl (Ls' := Ls.eraseIdx k) fun a ha => ⟨a, List.mem_of_mem_eraseIdx ha, rfl, rfl⟩
              have S7 : SS h h4 (ownP kAsk s4 ((Ls.eraseIdx k).map arow) :: abagP (Ls.eraseIdx k) :: ownP (kI .i64) g.1 (A.free xs[j].f1).1.1 :: [errP g.2 (A.free xs[j].f1).1.2, varP kStep q xs[j], mgrP m (A.free xs[j].f1).2]) := (SG.front (S6.front 4 rfl) 5 rfl).swap
              have hel : (Ls.eraseIdx k).length ≤ Ls.length := List.length_eraseIdx_le _ _
              have hme : ∀ a ∈ Ls.eraseIdx k, a.l.length ≤ 40 := fun a ha => hm40 a (List.mem_of_mem_eraseIdx ha)
              refine grant_spec S7 (nd_erase R.nd k) hR.2.2 (by omega) (fun a ha => by have := hme a ha; omega) hR.2.1.fair fun h5 S8 => ite_f rfl ?_
              refine hK5 s4 h5 ⟨_, _, (ok.free _).mono (by omega), hR.2.1, by rw [List.length_map]; omega, fun a ha => ?_, ?_⟩
              · obtain ⟨b, hb, rfl⟩ := List.mem_map.1 ha
                have : (mkd (A.free xs[j].f1).1.1 b).l = b.l := by unfold mkd; split <;> rfl
                rw [this]; exact hme b hb
              · exact (((S8.front 2 rfl).tail.front 2 rfl).tail).rot.rot
      · -- quit
        refine rd_some (by rw [add_mk]; exact hx1) (S1.go1 1 rfl (quit_spec ok (by omega) xs[j].f1) fun g h3 S3 => ?_)
        have S3 : SS h h3 (ownP (kI .i64) g (A.quit xs[j].f1).1 :: varP kStep q xs[j] :: [mgrP m (A.quit xs[j].f1).2, ownP kAsk s (Ls.map arow), abagP Ls]) := S3
        have hgl := ownP.len (K := kI .i64) S3 0 rfl
        cases hp : posT Ls xs[j].f1 with
        | none =>
          rw [hp] at hpos
          have e : A.quit xs[j].f1 = ([], A) := by unfold AM.quit; rw [hpos.1]; simp only [hpos.2]
          rw [e] at S3 hgl
          have hgl : g.len = 0 := hgl
          have emk : Ls.map (mkd []) = Ls := by
            conv => rhs; rw [← List.map_id Ls]
            congr 1
          refine jn_c false h3 (fun K9 hK9 => ite_t rfl (by rw [hgl]; exact hK9)) (ite_f rfl (jn_i (ite_f rfl ?_)))
          have S4 : SS h h3 (ownP kAsk s (Ls.map arow) :: abagP Ls :: ownP (kI .i64) g [] :: [varP kStep q xs[j], mgrP m A]) := (S3.front 3 rfl).front 4 rfl |>.swap
          refine grant_spec S4 R.nd (by simp) (by omega) hmm (by rw [emk]; exact R.fair) fun h5 S8 => ite_f rfl ?_
          rw [emk] at S8
          exact hK5 s h5 ⟨A, Ls, ok.mono (by omega), R, by omega, hm40, ((S8.front 2 rfl).tail).rot.rot⟩
        | some k =>
          rw [hp] at hpos
          obtain ⟨hk, ht, hg⟩ := hpos
          have hk' : k < (Ls.map arow).length := by rw [List.length_map]; exact hk
          have hk0 : decide (pl (some k) ≥ 0) = true := by show decide ((k : Int) ≥ 0) = true; rw [decide_eq_true_eq]; omega
          have hk1 : decide (pl (some k) < 0) = false := by show decide ((k : Int) < 0) = false; rw [decide_eq_false_iff_not]; omega
          have hR := R.quit hk
          rw [ht] at hR
          refine jn_c false h3 (fun K9 hK9 => ite_f hk1 hK9) (ite_f rfl (jn_i (ite_t hk0 ?_)))
          refine awithout_spec S3 (ownP.rds (K := kAsk) S3 3 rfl) (by rw [List.length_map]; omega) hk' fun s4 h4 S4 => ?_
          rw [map_erase] at S4
          have S5 : SS h h4 (ownP (kI .i64) g (A.quit xs[j].f1).1 :: varP kStep q xs[j] :: [mgrP m (A.quit xs[j].f1).2, ownP kAsk s4 ((Ls.eraseIdx k).map arow), abagP Ls]) := SG.replace S4 3 (by show 3 < 5; omega)
          have S6 := abagP.sub S5 4 rfl (Ls' := Ls.eraseIdx k) fun a ha => ⟨a, List.mem_of_mem_eraseIdx ha, rfl, rfl⟩
          have S7 : SS h h4 (ownP kAsk s4 ((Ls.eraseIdx k).map arow) :: abagP (Ls.eraseIdx k) :: ownP (kI .i64) g (A.quit xs[j].f1).1 :: [varP kStep q xs[j], mgrP m (A.quit xs[j].f1).2]) := (SG.front (S6.front 3 rfl) 4 rfl).swap
          have hel : (Ls.eraseIdx k).length ≤ Ls.length := List.length_eraseIdx_le _ _
          have hme : ∀ a ∈ Ls.eraseIdx k, a.l.length ≤ 40 := fun a ha => hm40 a (List.mem_of_mem_eraseIdx ha)
          refine grant_spec S7 (nd_erase R.nd k) hR.2 (by omega) (fun a ha => by have := hme a ha; omega) hR.1.fair fun h5 S8 => ite_f rfl ?_
          refine hK5 s4 h5 ⟨_, _, (ok.quit _).mono (by omega), hR.1, by rw [List.length_map]; omega, fun a ha => ?_, ((S8.front 2 rfl).tail).rot.rot⟩
          obtain ⟨b, hb, rfl⟩ := List.mem_map.1 ha
          have : (mkd (A.quit xs[j].f1).1 b).l = b.l := by unfold mkd; split <;> rfl
          rw [this]; exact hme b hb
      · exact hK5 s h1 ⟨A, Ls, ok.mono (by omega), R, by omega, hm40, S1⟩
    · rintro s' h6 ⟨A', Ls', ok', R', hL', hm', S6⟩
      have hmm' : ∀ a ∈ Ls', a.l.length ≤ 1000000 := fun a ha => by have := hm' a ha; omega
      refine jn_q (fun v h' => v = false ∧ SS h h' (varP kStep q xs[j] :: [mgrP m A', ownP kAsk s' (Ls'.map arow), abagP Ls'])) (fun K6 hK6 => ?_) ?_
      · refine fair_spec (rdA S6 2 3 rfl rfl (by omega) hmm') R'.fair (ite_f rfl ?_)
        refine S6.go1 1 rfl (queue_spec ok' (by omega)) fun q1 h7 S7 => ?_
        refine aqueue_spec S7 3 rfl (by omega) fun q2 h8 S8 => ?_
        have hql := queueL_len ok'
        have e : (wait Ls').map (·.1) = A'.queueL := by rw [R'.q]; rfl
        rw [e] at S8
        refine same_ints (ownP.rds (K := kI .i64) S8 1 rfl) (ownP.rds (K := kI .i64) S8 0 rfl) (by omega) (ite_f rfl ?_)
        refine says_spec ok' (by omega) R' (by omega) hmm' (Rs := [varP kStep q xs[j]]) (S8.tail.tail.rot) fun h9 S9 => ?_
        exact hK6 _ _ ⟨rfl, SG.unrot (Ps := [mgrP m A', ownP kAsk s' (Ls'.map arow), abagP Ls']) S9⟩
      · rintro _ h9 ⟨rfl, S9⟩
        exact ite_f rfl (next s' h9 ⟨A', Ls', ok', R', hL', hm', S9.tail⟩)
  · obtain ⟨A, Ls, ok, R, hL, hm40, S⟩ := hI
    unfold spatelaw11_LocksFair.b1
    refine jn_c false h' (fun K6 hK => ite_b (fun c => ?_) (fun c => hK)) (ite_f rfl (done _ _ ⟨rfl, SS.e S⟩))
    rw [decide_eq_true_eq] at c
    rw [show decide (((min xs.length 300 : Nat) : Int) < 300) = false by rw [decide_eq_false_iff_not]; omega]; exact hK
end Go.Proofs.Ytgmihbchcmjmdaa
