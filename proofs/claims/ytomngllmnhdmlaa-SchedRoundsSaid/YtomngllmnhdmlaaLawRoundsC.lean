/- SchedRounds, over the heap. -/
import Derived.Test.YtomngllmnhdmlaaB3
import Derived.Test.YtomngllmnhdmlaaF6C
namespace Go.Proofs.Ytomngllmnhdmlaa
open Go Go.Tr
set_option linter.unusedVariables false
theorem ready_nodup (ts : List TK) : (readyT ts).Pairwise fun a b => a < b := by
  unfold readyT readyTo
  rw [List.pairwise_map]
  refine List.Pairwise.imp (R := fun a b : Nat => a < b) (fun h => by omega) ?_
  exact (List.pairwise_lt_range).sublist List.filter_sublist
/-- Where a ready task stands among the ready ones. -/
theorem ready_pos {ts : List TK} {t : Nat} (h : rdyB ts t = true) : ∃ k, ∃ hk : k < (readyT ts).length, (readyT ts)[k] = (t : Int) := by
  have ht : t < ts.length := by
    unfold rdyB at h
    rcases Nat.lt_or_ge t ts.length with hl | hl
    · exact hl
    · rw [List.getElem?_eq_none hl] at h; cases h
  have : (t : Int) ∈ readyT ts := by
    unfold readyT readyTo
    exact List.mem_map_of_mem (f := fun i : Nat => (i : Int)) (List.mem_filter.2 ⟨List.mem_range.2 ht, h⟩)
  obtain ⟨k, hk, e⟩ := List.getElem_of_mem this
  exact ⟨k, hk, e⟩
theorem pickI_self {k n : Nat} (h : k < n) : pickI (k : Int) n = k := by
  unfold pickI
  have e : (k : Int).tmod (n : Int) = k := Int.tmod_eq_of_lt (by omega) (by omega)
  rw [e, if_neg (by omega)]; omega
theorem stAt_rdy {ts : List TK} {t : Nat} (ht : t < ts.length) : (stAt ts (t : Int) == 1) = rdyB ts t := by
  unfold stAt rdyB
  rw [if_neg (by omega), Int.toNat_natCast, List.getElem?_eq_getElem ht]
theorem rounds_true (l : Sl) (tasks : List Sl) (l2 : Sl) (script : List Act) (h : H) (hl : Rds kL h l tasks) (hw : ∀ y ∈ tasks, wTask h y) (hm : tasks.length * 24 ≤ reachBytes) (hl2 : Rds kAct h l2 script) (hw2 : ∀ y ∈ script, True) (hm2 : script.length * 16 ≤ reachBytes) :
    spatelaw12_SchedRounds l l2 h fun r h' => r = true ∧ Ext h h' := by
  unfold spatelaw12_SchedRounds
  have z1 := hl.len
  have z2 := hl2.len
  refine known_spec fun h1 e1 => ite_f rfl ?_
  by_cases hbig : script.length > 800 ∨ tasks.length > 60
  · refine jn_c' true h1 (fun K hK => ite_b (fun c => hK) (fun c => ?_)) (ite_t rfl ⟨rfl, e1⟩)
    rw [decide_eq_false_iff_not] at c
    have e : decide ((l.len : Int) > 60) = true := by rw [decide_eq_true_eq]; omega
    show K (decide ((l.len : Int) > 60)) h1
    rw [e]; exact hK
  refine jn_c' false h1 (fun K hK => ite_f (by rw [decide_eq_false_iff_not]; omega) ?_) (ite_f rfl ?_)
  · have e : decide ((l.len : Int) > 60) = false := by rw [decide_eq_false_iff_not]; omega
    show K (decide ((l.len : Int) > 60)) h1
    rw [e]; exact hK
  refine run_new (SS.nil e1) (fun hb => by omega) fun g1 g2 q h2 S2 => run_new S2 (fun hb => by omega) fun _ _ u h3 S3 => ?_
  have S3 : SS h h3 [runP u (AS.new 8, []), runP q (AS.new 8, [])] := S3
  have o0 : WS.Ok (AS.new 8, []) 0 0 := new_ok (n := 8) g1 g2
  refine jn_c' false h3 (fun K hK => ite_f rfl (ite_f rfl (ite_f rfl hK))) (ite_f rfl (jn_i ?_))
  refine for0 (mk := fun (_ : Unit) i => i) (s := ()) (n := tasks.length) (by omega) (fun j _ h' => ∃ V W : WS, V.Ok 0 0 ∧ Same V W ∧ W.2.length = j ∧ SS h h' [runP u V, runP q W]) ⟨_, _, o0, ⟨rfl, rfl⟩, rfl, S3⟩ (fun j _ h' K hj hI next done => ?_) (fun _ h' K hI done => ?_)
  · obtain ⟨V, W, oV, sm, hWl, S4⟩ := hI
    have hVl : V.2.length = W.2.length := by have := congrArg List.length sm.2; simpa using this
    have oW : W.Ok 0 0 := ⟨by rw [← sm.1]; exact oV.a, by rw [← sm.1, oV.l, hVl], fun p hp => by
      obtain ⟨i, hi, rfl⟩ := List.getElem_of_mem hp
      have h1 : (V.2.map PLY.ab)[i]? = (W.2.map PLY.ab)[i]? := by rw [sm.2]
      rw [List.getElem?_map, List.getElem?_map, List.getElem?_eq_getElem hi, List.getElem?_eq_getElem (by omega : i < V.2.length)] at h1
      have h2 : (V.2[i]'(by omega)).ab = W.2[i].ab := by simpa using h1
      have h3 : (V.2[i]'(by omega)).nx = W.2[i].nx := congrArg Prod.fst h2
      rw [← h3]; exact oV.x _ (List.getElem_mem _)⟩
    unfold spatelaw12_SchedRounds.b5
    obtain ⟨rows0, T⟩ := task_rows (hw _ (List.getElem_mem hj))
    refine ite_t (by rw [z1]; exact clt_t hj) ((hl.ext (SS.e S4)).elt0 hj rfl ?_)
    refine play_new T S4 fun s rows h4 er ro S5 => S5.var (K := kPl) fun b h5 S6 _ => ?_
    have S6 : SS h h5 (varP kPl b ⟨s, 0⟩ :: ownP kMv s (rows.map (·.v)) :: rbagP rows :: runP q W :: [runP u V]) := (((S6.front 4 rfl).front 3 rfl).front 3 rfl).front 3 rfl
    refine run_add oW (by rw [oW.l]; omega) ro S6 fun h6 S7 => ?_
    refine (hl.ext (SS.e S7)).elt0 hj rfl ?_
    refine play_new T S7 fun s' rows' h7 er' ro' S8 => S8.var (K := kPl) fun b' h8 S9 _ => ?_
    have S9 : SS h h8 (varP kPl b' ⟨s', 0⟩ :: ownP kMv s' (rows'.map (·.v)) :: rbagP rows' :: runP u V :: [runP q (W.add ⟨b, s, 0, rows⟩)]) := (((S9.front 4 rfl).front 3 rfl).front 3 rfl).front 3 rfl
    refine run_add oV (by rw [oV.l]; omega) ro' S9 fun h9 S10 => next () h9 ⟨_, _, oV.add (by rw [oV.l]; omega) (Nat.le_refl _), sm.add ?_, by simp [WS.add, hWl], S10⟩
    show (0, rows'.map MR.mv) = (0, rows.map MR.mv)
    rw [er, er']
  · obtain ⟨V, W, oV, sm, hWl, S4⟩ := hI
    unfold spatelaw12_SchedRounds.b5
    refine ite_f (by rw [z1]; exact clt_f (Nat.lt_irrefl _)) (done _ _ (jn_i ?_))
    have hN : W.1.ts.length = tasks.length := by rw [← sm.1, oV.l]; have := congrArg List.length sm.2; simp at this; omega
    refine for0 (mk := fun (_ : Unit) i => i) (s := ()) (n := script.length) (by omega) (fun j _ h' => ∃ V W : WS, V.Ok (400 * j) (400 * j) ∧ W.Ok (400 * j) (400 * j) ∧ Same V W ∧ W.1.ts.length = tasks.length ∧ SS h h' [runP u V, runP q W]) ⟨V, W, oV, ?_, sm, hN, S4⟩ (fun j _ h' K hj hI next done => ?_) (fun _ h' K hI done => ?_)
    · have hVl : V.2.length = W.2.length := by have := congrArg List.length sm.2; simpa using this
      exact ⟨by rw [← sm.1]; exact oV.a, by rw [← sm.1, oV.l, hVl], fun p hp => by
        obtain ⟨i, hi, rfl⟩ := List.getElem_of_mem hp
        have h1 : (V.2.map PLY.ab)[i]? = (W.2.map PLY.ab)[i]? := by rw [sm.2]
        rw [List.getElem?_map, List.getElem?_map, List.getElem?_eq_getElem hi, List.getElem?_eq_getElem (by omega : i < V.2.length)] at h1
        have h2 : (V.2[i]'(by omega)).ab = W.2[i].ab := by simpa using h1
        have h3 : (V.2[i]'(by omega)).nx = W.2[i].nx := congrArg Prod.fst h2
        rw [← h3]; exact oV.x _ (List.getElem_mem _)⟩
    · obtain ⟨V, W, oV, oW, sm, hN, S4⟩ := hI
      unfold spatelaw12_SchedRounds.b1
      have actlen : (W.act script[j]).1.ts.length = tasks.length := by
        rw [← hN]
        unfold WS.act
        split
        · split
          · exact step_lenW _ _
          · rfl
        · split
          · exact rfold_len _ _
          · split
            · show (wakeT W.1.ts _).length = _
              unfold wakeT; simp
            · rfl
      refine ite_t (by rw [z2]; exact clt_t hj) (jn_q (fun _ h' => ∃ V W : WS, V.Ok (400 * (j + 1)) (400 * (j + 1)) ∧ W.Ok (400 * (j + 1)) (400 * (j + 1)) ∧ Same V W ∧ W.1.ts.length = tasks.length ∧ SS h h' [runP u V, runP q W]) (fun K2 hK2 => ?_) fun _ h' hI => next () h' hI)
      refine (hl2.ext (SS.e S4)).elt0 hj rfl ?_
      refine do_spec oW (by omega) (by omega) script[j] S4.swap fun h5 S5 => ?_
      have S5 : SS h h5 [runP q (W.act script[j]), runP u V] := S5
      refine (hl2.ext (SS.e S5)).elt fa_k hj rfl ?_
      have oW' := oW.act script[j]
      have oV' := oV.act script[j]
      refine ite_b (fun c => ?_) (fun c => ?_)
      · refine (hl2.ext (SS.e S5)).elt0 hj rfl (do_spec oV (by omega) (by omega) script[j] S5.swap fun h6 S6 => ?_)
        exact hK2 () h6 ⟨_, _, oV'.mono (by omega) (by omega), oW'.mono (by omega) (by omega), sm.act _, actlen, S6⟩
      · have c : script[j].f0 = 2 := by simpa using c
        have eW : W.act script[j] = (roundW W).1 := by unfold WS.act; rw [if_neg (by omega), if_pos c]
        rw [eW] at S5 oW' actlen
        have hVN : V.1.ts.length = tasks.length := by rw [sm.1]; exact hN
        refine run_ready oV S5.swap fun s h6 S6 => jn_i ?_
        have S6 : SS h h6 [ownP (kI .i64) s (readyT V.1.ts), runP u V, runP q (roundW W).1] := S6
        have hsl := ownP.len (K := kI .i64) S6 0 rfl
        have hrl : (readyT V.1.ts).length ≤ V.1.ts.length := readyTo_len _ _
        refine for0 (mk := fun (_ : Unit) i => i) (s := ()) (n := (readyT V.1.ts).length) (by omega) (fun k _ h' => SS h h' [ownP (kI .i64) s (readyT V.1.ts), runP u (((readyT V.1.ts).take k).foldl rstep (V, 0)).1, runP q (roundW W).1]) S6 (fun k _ h7 K3 hk S7 next2 done2 => ?_) (fun _ h7 K3 S7 done2 => ?_)
        · have ok := rfold_ok ((readyT V.1.ts).take k) (V, 0) _ _ oV
          have hlk := rfold_len ((readyT V.1.ts).take k) (V, 0)
          have htk : ((readyT V.1.ts).take k).length ≤ 60 := by simp; omega
          have hstep : (((readyT V.1.ts).take (k + 1)).foldl rstep (V, 0)).1 = (rstep (((readyT V.1.ts).take k).foldl rstep (V, 0)) (readyT V.1.ts)[k]).1 := by
            rw [List.take_add_one, List.getElem?_eq_getElem hk, Option.toList_some, List.foldl_append]; rfl
          rw [hstep] at next2
          have okw : (((readyT V.1.ts).take k).foldl rstep (V, 0)).1.Ok (400 * j + 60) (400 * j + 60) := ok.mono (by omega) (by omega)
          generalize ((readyT V.1.ts).take k).foldl rstep (V, 0) = w at S7 okw hlk next2
          obtain ⟨V', cc⟩ := w
          have hlk : V'.1.ts.length = V.1.ts.length := hlk
          obtain ⟨t, ht, htl, _⟩ := readyT_mem (List.getElem_mem hk)
          have htV : t < V'.1.ts.length := by omega
          unfold spatelaw12_SchedRounds.b3
          refine ite_t (by rw [hsl]; exact clt_t hk) (jn_q (fun _ h' => SS h h' [ownP (kI .i64) s (readyT V.1.ts), runP u (rstep (V', cc) (readyT V.1.ts)[k]).1, runP q (roundW W).1]) (fun K4 hK4 => ?_) fun _ h' S' => next2 () h' S')
          refine (ownP.rds (K := kI .i64) S7 0 rfl).elt0 hk rfl ?_
          rw [ht] at hK4 ⊢
          have S7 : SS h h7 [ownP (kI .i64) s (readyT V.1.ts), runP u V', runP q (roundW W).1] := S7
          refine run_state okw (t : Int) S7.swap fun h8 S8 => ?_
          have hst := stAt_rdy htV
          unfold rstep at hK4
          simp only [Int.toNat_natCast] at hK4
          refine ite_b (fun d => ?_) (fun d => ?_)
          · have d : rdyB V'.1.ts t = false := by rw [← hst]; simpa using d
            simp only [d, Bool.false_eq_true, if_false] at hK4
            exact hK4 () h8 S8.swap
          · have d : rdyB V'.1.ts t = true := by rw [← hst]; simpa using d
            simp only [d, if_true] at hK4
            refine run_ready okw S8 fun r h9 S9 => ?_
            have S9 : SS h h9 [ownP (kI .i64) r (readyT V'.1.ts), runP u V', ownP (kI .i64) s (readyT V.1.ts), runP q (roundW W).1] := S9
            have hr := ownP.len (K := kI .i64) S9 0 rfl
            have hrl2 : (readyT V'.1.ts).length ≤ V'.1.ts.length := readyTo_len _ _
            obtain ⟨p, hp, ep⟩ := ready_pos d
            refine jn_c' (p : Int) h9 (fun K5 hK5 => ?_) ?_
            · refine loopE_rule (fun μ (i : Int) h' => ∃ n : Nat, i = n ∧ n ≤ p ∧ μ = p - n ∧ h' = h9) p ⟨0, rfl, by omega, by omega, rfl⟩ ?_
              rintro μ i h' K6 ⟨n, rfl, hn, rfl, rfl⟩ next3 done3
              unfold spatelaw12_SchedRounds.b4
              have hnr : n < (readyT V'.1.ts).length := by omega
              by_cases c : n = p
              · subst c
                refine jn_c' false h' (fun K7 hK7 => ite_t (by rw [hr]; exact clt_t hp) ?_) (ite_f rfl (done3 _ _ hK5))
                refine (ownP.rds (K := kI .i64) S9 0 rfl).elt0 hp rfl ((ownP.rds (K := kI .i64) S9 2 rfl).elt0 hk rfl ?_)
                rw [ep, ht]
                have : ((t : Int) != (t : Int)) = false := by simp
                rw [this]; exact hK7
              · refine jn_c' true h' (fun K7 hK7 => ite_t (by rw [hr]; exact clt_t hnr) ?_) (ite_t rfl (next3 _ _ _ (by omega) ⟨n + 1, ?_, by omega, rfl, rfl⟩))
                · refine (ownP.rds (K := kI .i64) S9 0 rfl).elt0 hnr rfl ((ownP.rds (K := kI .i64) S9 2 rfl).elt0 hk rfl ?_)
                  rw [ht]
                  have h3 := List.pairwise_iff_getElem.1 (ready_nodup V'.1.ts) n p hnr hp (by omega)
                  rw [ep] at h3
                  have : ((readyT V'.1.ts)[n] != (t : Int)) = true := by rw [bne_iff_ne]; omega
                  rw [this]; exact hK7
                · rw [wrap64_id (by omega) (by omega)]; rfl
            · have epk : (readyT V'.1.ts)[pickI (p : Int) (readyT V'.1.ts).length]? = some (t : Int) := by rw [pickI_self hp, List.getElem?_eq_getElem hp, ep]
              refine run_pick okw (by omega) (by omega) (p : Int) (S9.tail) (fun hz => ?_) fun t' ht' hr' h10 S10 => ?_
              · exfalso; rw [hz] at hp; exact absurd hp (by simp)
              · rw [epk] at hr'
                have : t' = t := by have := Option.some.inj hr'; omega
                subst this
                exact hK4 () h10 S10.swap
        · unfold spatelaw12_SchedRounds.b3
          refine ite_f (by rw [hsl]; exact clt_f (Nat.lt_irrefl _)) (done2 _ _ ?_)
          rw [List.take_length] at S7
          have eV : (roundW V).1 = ((readyT V.1.ts).foldl rstep (V, 0)).1 := rfl
          rw [← eV] at S7
          have smr := sm.round.1
          have oVr := oV.round
          have S8 : SS h h7 [runP u (roundW V).1, runP q (roundW W).1] := S7.tail
          refine run_ready oW' S8.swap fun r1 h8 S9 => ?_
          have S9 : SS h h8 [ownP (kI .i64) r1 (readyT (roundW W).1.1.ts), runP q (roundW W).1, runP u (roundW V).1] := S9
          refine run_ready oVr (S9.front 2 rfl) fun r2 h9 S10 => ?_
          have S10 : SS h h9 [ownP (kI .i64) r2 (readyT (roundW V).1.1.ts), runP u (roundW V).1, ownP (kI .i64) r1 (readyT (roundW W).1.1.ts), runP q (roundW W).1] := S10
          have hl3 : (readyT (roundW W).1.1.ts).length ≤ (roundW W).1.1.ts.length := readyTo_len _ _
          refine ints_spec (ownP.rds (K := kI .i64) S10 2 rfl) (by rw [← smr.1]; exact ownP.rds (K := kI .i64) S10 0 rfl) (by omega) (ite_f rfl ?_)
          have S11 : SS h h9 [runP u (roundW V).1, runP q (roundW W).1] := (S10.tail.front 1 rfl).tail
          refine for0 (mk := fun (_ : Unit) i => i) (s := ()) (n := tasks.length) (by omega) (fun _ _ h' => SS h h' [runP u (roundW V).1, runP q (roundW W).1]) S11 (fun i _ h10 K5 hi S12 next3 done3 => ?_) (fun _ h10 K5 S12 done3 => ?_)
          · unfold spatelaw12_SchedRounds.b2
            refine ite_t (by rw [z1]; exact clt_t hi) (run_state oW' (i : Int) S12.swap fun h11 S13 => run_state oVr (i : Int) S13.swap fun h12 S14 => ?_)
            rw [smr.1]
            exact ite_f (by simp) (next3 () h12 S14)
          · unfold spatelaw12_SchedRounds.b2
            exact ite_f (by rw [z1]; exact clt_f (Nat.lt_irrefl _)) (done3 _ _ (hK2 () h10 ⟨_, _, oVr.mono (by omega) (by omega), oW'.mono (by omega) (by omega), smr, actlen, S12⟩))
    · obtain ⟨V, W, oV, oW, sm, hN, S4⟩ := hI
      unfold spatelaw12_SchedRounds.b1
      exact ite_f (by rw [z2]; exact clt_f (Nat.lt_irrefl _)) (done _ _ ⟨rfl, SS.e S4⟩)
end Go.Proofs.Ytomngllmnhdmlaa
