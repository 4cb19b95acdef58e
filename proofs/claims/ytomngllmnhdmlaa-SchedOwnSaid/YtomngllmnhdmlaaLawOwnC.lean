/- SchedOwn, over the heap. -/
import Derived.Test.YtomngllmnhdmlaaSdQ2C
import Derived.Test.YtomngllmnhdmlaaF7C
namespace Go.Proofs.Ytomngllmnhdmlaa
open Go Go.Tr
set_option linter.unusedVariables false
theorem ptrs_len (L : List PLY) : (ptrs L).length = L.length := by unfold ptrs; simp
theorem ptrs_fold : ∀ (l : List Int) (w : WS × Nat), ptrs (l.foldl rstep w).1.2 = ptrs w.1.2
  | [], w => rfl
  | t :: l, w => by
    rw [List.foldl_cons, ptrs_fold l]
    unfold rstep
    split
    · exact ptrs_bump _ _
    · rfl
theorem ptrs_act (W : WS) (x : Act) : ptrs (W.act x).2 = ptrs W.2 := by
  unfold WS.act
  split
  · split
    · exact ptrs_bump _ _
    · rfl
  · split
    · exact ptrs_fold _ _
    · split <;> rfl
theorem playq_new {h0 h : H} {Ps : List HP} {src : Sl} {rows0 : List MR} (T : TRd h0 src rows0) (S : SS h0 h Ps) {Q : Sl → H → Prop}
    (k : ∀ (s : Sl) (rows : List MR) h', rows.map MR.mv = rows0.map MR.mv → rowsOk rows → SS h0 h' (ownP kMv s (rows.map (·.v)) :: HP.all (rows.map rowP) :: Ps) → Q s h') : spatelaw12_twin src h Q :=
  twq_spec T.m (by have := T.n; omega) (fun r hr => by have := T.b r hr; omega) S fun s rows h' e S' => k s rows h' e (rows_ok e T) S'
theorem own_true (l : Sl) (tasks : List Sl) (l2 : Sl) (script : List Act) (h : H) (hl : Rds kL h l tasks) (hw : ∀ y ∈ tasks, wTask h y) (hm : tasks.length * 24 ≤ reachBytes) (hl2 : Rds kAct h l2 script) (hw2 : ∀ y ∈ script, True) (hm2 : script.length * 16 ≤ reachBytes) :
    spatelaw12_SchedOwn l l2 h fun r h' => r = true ∧ Ext h h' := by
  unfold spatelaw12_SchedOwn
  have z1 := hl.len
  have z2 := hl2.len
  refine known_spec fun h1 e1 => ite_f rfl ?_
  by_cases hbig : script.length > 300 ∨ tasks.length > 40
  · refine jn_c' true h1 (fun K hK => ite_b (fun c => hK) (fun c => ?_)) (ite_t rfl ⟨rfl, e1⟩)
    rw [decide_eq_false_iff_not] at c
    have e : decide ((l.len : Int) > 40) = true := by rw [decide_eq_true_eq]; omega
    show K (decide ((l.len : Int) > 40)) h1
    rw [e]; exact hK
  refine jn_c' false h1 (fun K hK => ite_f (by rw [decide_eq_false_iff_not]; omega) ?_) (ite_f rfl ?_)
  · have e : decide ((l.len : Int) > 40) = false := by rw [decide_eq_false_iff_not]; omega
    show K (decide ((l.len : Int) > 40)) h1
    rw [e]; exact hK
  refine rq_new (SS.nil e1) (fun hb => by omega) fun g1 g2 q h2 S2 => run_new S2 (fun hb => by omega) fun _ _ u h3 S3 => ?_
  have S3 : SS h h3 [runP u (AS.new 8, []), rqP q (AS.new 8, [])] := S3
  have o0 : WS.Ok (AS.new 8, []) 0 0 := new_ok (n := 8) g1 g2
  refine jn_c' false h3 (fun K hK => ite_f rfl (ite_f rfl (ite_f rfl hK))) (ite_f rfl ?_)
  refine jn_q (fun (s : Sl) h' => ∃ V W : WS, V.Ok 0 0 ∧ W.Ok 0 0 ∧ Sm V W ∧ V.2.length = tasks.length ∧ SS h h' [ownP kP s (ptrs V.2), rqP q V, runP u W]) (fun K hK => ?_) ?_
  · refine for0 (mk := fun (s : Sl) i => (s, i)) (s := Sl.nil) (n := tasks.length) (by omega) (fun j s h' => ∃ V W : WS, V.Ok 0 0 ∧ W.Ok 0 0 ∧ Sm V W ∧ V.2.length = j ∧ SS h h' [ownP kP s (ptrs V.2), rqP q V, runP u W]) ⟨_, _, o0, o0, ⟨rfl, rfl, fun i p p' h1 _ => by cases h1⟩, rfl, S3.swap.made (Ext.refl h3) (Own.nil kP h3 _)⟩ (fun j s h' K2 hj hI next done => ?_) (fun s h' K2 hI done => ?_)
    · obtain ⟨V, W, oV, oW, sm, hVl, S4⟩ := hI
      have hWl : W.2.length = j := by rw [← sm.l]; exact hVl
      have hpl : (ptrs V.2).length = j := by rw [ptrs_len]; exact hVl
      unfold spatelaw12_SchedOwn.b5
      obtain ⟨rows0, T⟩ := task_rows (hw _ (List.getElem_mem hj))
      refine ite_t (by rw [z1]; exact clt_t hj) ((hl.ext (SS.e S4)).elt0 hj rfl ?_)
      refine playq_new T S4 fun s2 rows h4 er ro S5 => S5.var (K := kPl) fun b h5 S6 _ => ?_
      have S6 : SS h h5 [varP kPl b ⟨s2, 0⟩, ownP kMv s2 (rows.map (·.v)), HP.all (rows.map rowP), ownP kP s (ptrs V.2), rqP q V, runP u W] := S6
      refine ownP.pushW (K := kP) (by decide) S6 3 rfl (some ⟨b, 0, none⟩) (by omega) (by omega) fun s3 h6 S7 => ?_
      have S7 : SS h h6 [varP kPl b ⟨s2, 0⟩, ownP kMv s2 (rows.map (·.v)), HP.all (rows.map rowP), ownP kP s3 (ptrs (V.2 ++ [⟨b, s2, 0, rows⟩])), rqP q V, runP u W] := by
        have e : ptrs (V.2 ++ [⟨b, s2, 0, rows⟩]) = ptrs V.2 ++ [some ⟨b, 0, none⟩] := by unfold ptrs; rw [List.map_append]; rfl
        rw [e]; exact S7
      refine ptr_at (ownP.rds (K := kP) S7 3 rfl) (i := j) (by simp; omega) ?_
      have eb : (V.2 ++ [(⟨b, s2, 0, rows⟩ : PLY)])[j]'(by simp; omega) = ⟨b, s2, 0, rows⟩ := by
        rw [List.getElem_append_right (by omega)]; simp
      rw [eb]
      have S8 : SS h h6 [varP kPl b ⟨s2, 0⟩, ownP kMv s2 (rows.map (·.v)), HP.all (rows.map rowP), rqP q V, ownP kP s3 (ptrs (V.2 ++ [⟨b, s2, 0, rows⟩])), runP u W] :=
        S7.perm ((((List.Perm.swap _ _ _).cons _).cons _).cons _)
      refine rq_add oV (by rw [oV.l]; omega) ro S8 fun h7 S9 => ?_
      have S9 : SS h h7 [rqP q (V.add ⟨b, s2, 0, rows⟩), ownP kP s3 (ptrs (V.2 ++ [⟨b, s2, 0, rows⟩])), runP u W] := S9
      refine (hl.ext (SS.e S9)).elt0 hj rfl (play_new T S9 fun s4 rows' h8 er' ro' S10 => S10.var (K := kPl) fun b' h9 S11 _ => ?_)
      have S11 : SS h h9 [varP kPl b' ⟨s4, 0⟩, ownP kMv s4 (rows'.map (·.v)), rbagP rows', rqP q (V.add ⟨b, s2, 0, rows⟩), ownP kP s3 (ptrs (V.2 ++ [⟨b, s2, 0, rows⟩])), runP u W] := S11
      have S12 : SS h h9 [varP kPl b' ⟨s4, 0⟩, ownP kMv s4 (rows'.map (·.v)), rbagP rows', runP u W, rqP q (V.add ⟨b, s2, 0, rows⟩), ownP kP s3 (ptrs (V.2 ++ [⟨b, s2, 0, rows⟩]))] :=
        (((S11.front 5 rfl).front 3 rfl).front 3 rfl).front 3 rfl
      refine run_add oW (by rw [oW.l]; omega) ro' S12 fun h10 S13 => next s3 h10 ⟨V.add ⟨b, s2, 0, rows⟩, W.add ⟨b', s4, 0, rows'⟩, oV.add (by rw [oV.l]; omega) (Nat.le_refl _), oW.add (by rw [oW.l]; omega) (Nat.le_refl _), sm.add ⟨rfl, fun k _ => ?_⟩, by simp [WS.add, hVl], ?_⟩
      · have e : (rows.map MR.mv)[k]? = (rows'.map MR.mv)[k]? := by rw [er, er']
        rw [List.getElem?_map, List.getElem?_map] at e
        exact e
      · have S13 : SS h h10 [runP u (W.add ⟨b', s4, 0, rows'⟩), rqP q (V.add ⟨b, s2, 0, rows⟩), ownP kP s3 (ptrs (V.2 ++ [⟨b, s2, 0, rows⟩]))] := S13
        exact (S13.front 1 rfl).front 2 rfl
    · unfold spatelaw12_SchedOwn.b5
      exact ite_f (by rw [z1]; exact clt_f (Nat.lt_irrefl _)) (done _ _ (hK _ _ hI))
  rintro s h4 ⟨V, W, oV, oW, sm, hVl, S4⟩
  generalize hN : tasks.length = N at hVl
  have hN40 : N ≤ 40 := by omega
  have hsl := ownP.len (K := kP) S4 0 rfl
  rw [ptrs_len, hVl] at hsl
  refine jn_q (fun (_ : Unit) h' => ∃ V W : WS, V.Ok 1000000 1000000 ∧ W.Ok 1000000 1000000 ∧ Sm V W ∧ V.2.length = N ∧ SS h h' [ownP kP s (ptrs V.2), rqP q V, runP u W]) (fun K hK => ?_) ?_
  · refine for0 (mk := fun (_ : Unit) i => i) (s := ()) (n := script.length) (by omega) (fun j _ h' => ∃ V W : WS, V.Ok (400 * j) (400 * j) ∧ W.Ok (400 * j) (400 * j) ∧ Sm V W ∧ V.2.length = N ∧ SS h h' [ownP kP s (ptrs V.2), rqP q V, runP u W]) ⟨V, W, oV, oW, sm, hVl, S4⟩ (fun j _ h' K2 hj hI next done => ?_) (fun _ h' K2 hI done => ?_)
    · obtain ⟨V, W, oV, oW, sm, hVl, S5⟩ := hI
      have hj3 : j < 300 := by omega
      unfold spatelaw12_SchedOwn.b2
      refine ite_t (by rw [z2]; exact clt_t hj) (jn_q (fun (_ : Unit) h' => ∃ V W : WS, V.Ok (400 * (j + 1)) (400 * (j + 1)) ∧ W.Ok (400 * (j + 1)) (400 * (j + 1)) ∧ Sm V W ∧ V.2.length = N ∧ SS h h' [ownP kP s (ptrs V.2), rqP q V, runP u W]) (fun K3 hK3 => ?_) fun _ h' hI => next () h' hI)
      refine (hl2.ext (SS.e S5)).elt0 hj rfl (dq_spec oV (by omega) (by omega) script[j] (S5.front 1 rfl) fun h5 S6 => ?_)
      have S6 : SS h h5 [rqP q (V.act script[j]), ownP kP s (ptrs V.2), runP u W] := S6
      refine (hl2.ext (SS.e S6)).elt0 hj rfl (do_spec oW (by omega) (by omega) script[j] (S6.front 2 rfl) fun h6 S7 => ?_)
      have S7 : SS h h6 [runP u (W.act script[j]), rqP q (V.act script[j]), ownP kP s (ptrs V.2)] := S7
      have oV' := oV.act script[j]
      have oW' := oW.act script[j]
      have sm' := sm.act script[j]
      have hp' := ptrs_act V script[j]
      rw [← hp'] at S7
      have hVl' : (V.act script[j]).2.length = N := by rw [← ptrs_len, hp', ptrs_len]; exact hVl
      generalize V.act script[j] = V at S7 oV' sm' hVl'
      generalize W.act script[j] = W at S7 oW' sm'
      have oV' : V.Ok (400 * (j + 1)) (400 * (j + 1)) := oV'.mono (by omega) (by omega)
      have oW' : W.Ok (400 * (j + 1)) (400 * (j + 1)) := oW'.mono (by omega) (by omega)
      have hrN : (readyT V.1.ts).length ≤ N := by
        have h1 : (readyT V.1.ts).length ≤ V.1.ts.length := readyTo_len _ _
        have := oV'.l; omega
      refine rq_ready oV' (S7.front 1 rfl) fun r10 h7 S8 => ?_
      have S8 : SS h h7 [ownP (kI .i64) r10 (readyT V.1.ts), rqP q V, runP u W, ownP kP s (ptrs V.2)] := S8
      refine rq_ready oV' (S8.front 1 rfl) fun r11 h8 S9 => ?_
      have S9 : SS h h8 [ownP (kI .i64) r11 (readyT V.1.ts), rqP q V, ownP (kI .i64) r10 (readyT V.1.ts), runP u W, ownP kP s (ptrs V.2)] := S9
      refine run_ready oW' (S9.front 3 rfl) fun r12 h9 S10 => ?_
      have S10 : SS h h9 [ownP (kI .i64) r12 (readyT W.1.ts), runP u W, ownP (kI .i64) r11 (readyT V.1.ts), rqP q V, ownP (kI .i64) r10 (readyT V.1.ts), ownP kP s (ptrs V.2)] := S10
      rw [← sm'.a] at S10
      have hl12 := ownP.len (K := kI .i64) S10 0 rfl
      have hl10 := ownP.len (K := kI .i64) S10 4 rfl
      refine jn_q (fun (_ : Unit) h' => ∃ ws : List Int, ws.length = (readyT V.1.ts).length ∧ SS h h' [ownP (kI .i64) r12 (readyT V.1.ts), runP u W, ownP (kI .i64) r11 (readyT V.1.ts), rqP q V, ownP (kI .i64) r10 ws, ownP kP s (ptrs V.2)]) (fun K4 hK4 => ?_) ?_
      · refine for0 (mk := fun (_ : Unit) i => i) (s := ()) (n := (readyT V.1.ts).length) (by omega) (fun k _ h' => ∃ ws : List Int, ws.length = (readyT V.1.ts).length ∧ SS h h' [ownP (kI .i64) r12 (readyT V.1.ts), runP u W, ownP (kI .i64) r11 (readyT V.1.ts), rqP q V, ownP (kI .i64) r10 ws, ownP kP s (ptrs V.2)]) ⟨_, rfl, S10⟩ (fun k _ h' K5 hk hI next2 done2 => ?_) (fun _ h' K5 hI done2 => ?_)
        · obtain ⟨ws, hws, S11⟩ := hI
          unfold spatelaw12_SchedOwn.b4
          obtain ⟨a, h2, ha, hs, S12⟩ := ownP.set (K := kI .i64) S11 4 rfl (j := k) (by omega) (-5) (n := 1) rfl
          exact ite_t (by rw [hl10]; exact clt_t hk) (rd_some ha (rd_some hs (next2 () h2 ⟨_, by simpa using hws, S12⟩)))
        · unfold spatelaw12_SchedOwn.b4
          exact ite_f (by rw [hl10]; exact clt_f (Nat.lt_irrefl _)) (done2 _ _ (hK4 _ _ hI))
      rintro _ h10 ⟨ws, hws, S11⟩
      refine ownP.pushW (K := kI .i64) (by decide) S11 4 rfl 8 (by omega) (by omega) fun x4 h11 S12 => ?_
      have S12 : SS h h11 [ownP (kI .i64) r12 (readyT V.1.ts), runP u W, ownP (kI .i64) r11 (readyT V.1.ts), rqP q V, ownP (kI .i64) x4 (ws ++ [8]), ownP kP s (ptrs V.2)] := S12
      have hx4 := ownP.len (K := kI .i64) S12 4 rfl
      have hx4 : x4.len = (readyT V.1.ts).length + 1 := by rw [hx4]; simp [hws]
      refine jn_q (fun (b : Bool) h' => b = false ∧ SS h h' [rqP q V, runP u W, ownP kP s (ptrs V.2)]) (fun K4 hK4 => ?_) ?_
      · refine ints_spec (ownP.rds (K := kI .i64) S12 2 rfl) (ownP.rds (K := kI .i64) S12 0 rfl) (by omega) (ite_f rfl ?_)
        refine rq_ready oV' (S12.front 3 rfl) fun r16 h12 S13 => ?_
        have S13 : SS h h12 [ownP (kI .i64) r16 (readyT V.1.ts), rqP q V, ownP (kI .i64) r12 (readyT V.1.ts), runP u W, ownP (kI .i64) r11 (readyT V.1.ts), ownP (kI .i64) x4 (ws ++ [8]), ownP kP s (ptrs V.2)] := S13
        refine ints_spec (ownP.rds (K := kI .i64) S13 0 rfl) (ownP.rds (K := kI .i64) S13 2 rfl) (by omega) (ite_f rfl (ite_f ?_ ?_))
        · rw [hx4, hl12, wrap64_id (by omega) (by omega), bne_eq_false_iff_eq]; omega
        · rw [hl12]
          refine (ownP.rds (K := kI .i64) S13 5 rfl).elt0 (i := (readyT V.1.ts).length) (by simp; omega) rfl ?_
          have e : (ws ++ [(8 : Int)])[(readyT V.1.ts).length]'(by simp; omega) = 8 := by
            rw [List.getElem_append_right (by omega)]; simp
          rw [e]
          refine hK4 _ _ ⟨by decide, ?_⟩
          exact ((((((S13.front 6 rfl).front 4 rfl).front 3 rfl).rot.tail).rot.tail).perm (List.Perm.refl _) |> fun T => by
            have T : SS h h12 _ := (S13.tail.front 4 rfl).tail
            exact ((((T.front 1 rfl).tail).front 2 rfl).tail))
      rintro _ h12 ⟨rfl, S13⟩
      refine ite_f rfl ?_
      refine for0 (mk := fun (_ : Unit) i => i) (s := ()) (n := N) (by omega) (fun t _ h' => ∃ V : WS, V.Ok (400 * (j + 1)) (400 * (j + 1)) ∧ Sm V W ∧ V.2.length = N ∧ SS h h' [ownP kP s (ptrs V.2), rqP q V, runP u W]) ⟨V, oV', sm', hVl', S13.front 2 rfl⟩ (fun t _ h' K4 ht hI next2 done2 => ?_) (fun _ h' K4 hI done2 => ?_)
      · obtain ⟨V, oV, sm, hVl, S14⟩ := hI
        unfold spatelaw12_SchedOwn.b3
        refine ite_t (by rw [hsl]; exact clt_t ht) (ptr_at (ownP.rds (K := kP) S14 0 rfl) (i := t) (by omega) ?_)
        have hnx := oV.x _ (List.getElem_mem (by omega : t < V.2.length))
        refine spoilt_spec (t := t) (by omega) (by omega) (S14.front 1 rfl) fun rows' h13 sp S15 => next2 () h13 ⟨V.spoil t rows', oV.spoil _ _, sm.spoil (by omega) sp, by unfold WS.spoil; simpa using hVl, ?_⟩
        rw [ptrs_spoil]
        exact S15.swap
      · obtain ⟨V, oV, sm, hVl, S14⟩ := hI
        unfold spatelaw12_SchedOwn.b3
        exact ite_f (by rw [hsl]; exact clt_f (Nat.lt_irrefl _)) (done2 _ _ (hK3 () _ ⟨V, W, oV, oW', sm, hVl, S14⟩))
    · obtain ⟨V, W, oV, oW, sm, hVl, S5⟩ := hI
      unfold spatelaw12_SchedOwn.b2
      exact ite_f (by rw [z2]; exact clt_f (Nat.lt_irrefl _)) (done _ _ (hK _ _ ⟨V, W, oV.mono (by omega) (by omega), oW.mono (by omega) (by omega), sm, hVl, S5⟩))
  rintro _ h5 ⟨V, W, oV, oW, sm, hVl, S5⟩
  refine jn_q (fun (_ : Unit) h' => SS h h' [rqP q V, runP u W]) (fun K hK => ?_) fun _ h' S' => ⟨rfl, SS.e S'⟩
  refine for0 (mk := fun (_ : Unit) i => i) (s := ()) (n := N) (by omega) (fun t _ h' => SS h h' [rqP q V, runP u W]) S5.tail (fun t _ h' K2 ht S6 next done => ?_) (fun _ h' K2 S6 done => ?_)
  · unfold spatelaw12_SchedOwn.b1
    refine ite_t (by rw [hsl]; exact clt_t ht) (rq_state oV (t : Int) S6 fun h6 S7 => run_state oW (t : Int) S7.swap fun h7 S8 => ?_)
    rw [sm.a]
    exact ite_f (bne_self_eq_false _) (next () h7 S8.swap)
  · unfold spatelaw12_SchedOwn.b1
    exact ite_f (by rw [hsl]; exact clt_f (Nat.lt_irrefl _)) (done _ _ (hK _ _ S6))
end Go.Proofs.Ytomngllmnhdmlaa
