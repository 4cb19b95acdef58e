/- SchedSteps, over the heap. -/
import Derived.Test.YtomngllmnhdmlaaSdJC
import Derived.Test.YtomngllmnhdmlaaF3C
namespace Go.Proofs.Ytomngllmnhdmlaa
open Go Go.Tr
set_option linter.unusedVariables false
def ptrs (L : List PLY) : List (Option Addr) := L.map fun p => some ⟨p.b, 0, none⟩
theorem ptrs_bump (L : List PLY) (n : Nat) : ptrs (bump L n) = ptrs L := by
  have h := bump_b L n
  have e : ∀ L : List PLY, ptrs L = (L.map (·.b)).map fun b => some ⟨b, 0, none⟩ := fun L => by unfold ptrs; rw [List.map_map]; rfl
  rw [e, e, h]
def nxA (L : List PLY) (i : Nat) : Int := match L[i]? with | some p => (p.nx : Int) | none => 0
theorem nxA_at {L : List PLY} {i : Nat} (h : i < L.length) : nxA L i = (L[i].nx : Int) := by unfold nxA; rw [List.getElem?_eq_getElem h]
theorem nxA_bump_ne {L : List PLY} {n i : Nat} (h : n ≠ i) : nxA (bump L n) i = nxA L i := by unfold nxA; rw [bump_at, if_neg h]
theorem nxA_bump {L : List PLY} {n : Nat} (h : n < L.length) : nxA (bump L n) n = nxA L n + 1 := by
  unfold nxA
  rw [bump_at, if_pos rfl, List.getElem?_eq_getElem h]
  rfl
theorem stAt_Qr {n i : Nat} {ts ts' : List TK} (q : Qr n ts ts') (h : i ≠ n) : stAt ts' (i : Int) = stAt ts (i : Int) ∨ (stAt ts' (i : Int) = 1 ∧ (stAt ts (i : Int) = 2 ∨ stAt ts (i : Int) = 3)) := by
  have hl := q.1
  unfold stAt
  rw [if_neg (by omega), if_neg (by omega), Int.toNat_natCast]
  rcases Nat.lt_or_ge i ts.length with hi | hi
  · have hi' : i < ts'.length := by omega
    rw [List.getElem?_eq_getElem hi, List.getElem?_eq_getElem hi']
    exact q.2 i h _ _ (List.getElem?_eq_getElem hi) (List.getElem?_eq_getElem hi')
  · rw [List.getElem?_eq_none hi, List.getElem?_eq_none (by omega)]
    exact .inl rfl
/-- What one act of a script leaves. -/
structure Aft (W W' : WS) (n : Int) (s : Int) : Prop where
  a : ∀ i : Nat, (i : Int) ≠ s → stAt W'.1.ts (i : Int) = stAt W.1.ts (i : Int) ∨ (stAt W'.1.ts (i : Int) = 1 ∧ (stAt W.1.ts (i : Int) = 2 ∨ stAt W.1.ts (i : Int) = 3))
  b : ∀ i : Nat, (i : Int) ≠ s → nxA W'.2 i = nxA W.2 i
  c : ∀ i : Nat, (i : Int) = s → stAt W.1.ts (i : Int) = 1 ∧ nxA W'.2 i = nxA W.2 i + 1
  d : 0 ≤ s → (readyT W.1.ts)[pickI n (readyT W.1.ts).length]? = some s
  p : ptrs W'.2 = ptrs W.2
  j : W'.1.J
  l : W'.2.length = W.2.length
theorem Aft.same {W : WS} (j : W.1.J) (n : Int) : Aft W W n (-1) := ⟨fun i _ => .inl rfl, fun i _ => rfl, fun i h => by omega, fun h => by omega, rfl, j, rfl⟩
theorem Aft.wake {W : WS} (j : W.1.J) (n on : Int) : Aft W (W.wake on) n (-1) :=
  ⟨fun i _ => stAt_Qr (Qr.wake (i + 1) W.1.ts on) (by omega), fun i _ => rfl, fun i h => by omega, fun h => by omega, rfl, j.wake on, rfl⟩
theorem Aft.step {W : WS} {B N t : Nat} (o : W.Ok B N) (j : W.1.J) {n : Int} (h : (readyT W.1.ts)[pickI n (readyT W.1.ts).length]? = some (t : Int)) : Aft W (W.step t) n (t : Int) := by
  obtain ⟨t', e, ht, hs⟩ := readyT_mem (List.mem_of_getElem? h)
  have : t' = t := by omega
  subst this
  obtain ⟨q, j'⟩ := AS.step_Q j o.a (List.getElem?_eq_getElem ht) hs (mvAtL W.2 t')
  have hL : t' < W.2.length := by rw [← o.l]; exact ht
  refine ⟨fun i hi => stAt_Qr q (by omega), fun i hi => nxA_bump_ne (by omega), fun i hi => ?_, fun _ => h, ptrs_bump _ _, j', by show (bump W.2 t').length = _; rw [bump_len]⟩
  have : i = t' := by omega
  subst this
  refine ⟨?_, nxA_bump hL⟩
  unfold stAt
  rw [if_neg (by omega), Int.toNat_natCast, List.getElem?_eq_getElem ht]; exact hs
section
variable {h0 h : H} {q : Nat} {W : WS} {B N : Nat} {Ps : List HP}
theorem nx_at (S : SS h0 h Ps) (i : Nat) (hi : Ps[i]? = some (runP q W)) {t : Nat} (ht : t < W.2.length) : ld (kI .i64) ((⟨W.2[t].b, 0, none⟩ : Addr).add 1) h = some (nxA W.2 t) := by
  rw [add_mk, nxA_at ht]; exact run_nx S i hi ht
theorem ptr_at {h : H} {s : Sl} {L : List PLY} (R : Rds kP h s (ptrs L)) {i : Nat} (hi : i < L.length) {Q : Option Addr → Prop} (k : Q (some ⟨L[i].b, 0, none⟩)) : rd (ixA 1 s (i : Int)) fun q => rd (ld kP q h) Q := by
  refine R.elt0 (by unfold ptrs; simpa using hi) rfl ?_
  unfold ptrs
  rw [List.getElem_map]; exact k
end
theorem steps_true (l : Sl) (tasks : List Sl) (l2 : Sl) (script : List Act) (h : H) (hl : Rds kL h l tasks) (hw : ∀ y ∈ tasks, wTask h y) (hm : tasks.length * 24 ≤ reachBytes) (hl2 : Rds kAct h l2 script) (hw2 : ∀ y ∈ script, True) (hm2 : script.length * 16 ≤ reachBytes) :
    spatelaw12_SchedSteps l l2 h fun r h' => r = true ∧ Ext h h' := by
  unfold spatelaw12_SchedSteps
  have z1 := hl.len
  have z2 := hl2.len
  refine known_spec fun h1 e1 => ite_f rfl ?_
  by_cases hbig : script.length > 4000 ∨ tasks.length > 100
  · refine jn_c' true h1 (fun K hK => ite_b (fun c => hK) (fun c => ?_)) (ite_t rfl ⟨rfl, e1⟩)
    rw [decide_eq_false_iff_not] at c
    have e : decide ((l.len : Int) > 100) = true := by rw [decide_eq_true_eq]; omega
    show K (decide ((l.len : Int) > 100)) h1
    rw [e]; exact hK
  refine jn_c' false h1 (fun K hK => ite_f (by rw [decide_eq_false_iff_not]; omega) ?_) (ite_f rfl ?_)
  · have e : decide ((l.len : Int) > 100) = false := by rw [decide_eq_false_iff_not]; omega
    show K (decide ((l.len : Int) > 100)) h1
    rw [e]; exact hK
  refine run_new (SS.nil e1) (fun hb => by omega) fun g1 g2 q h2 S2 => ?_
  have S2 : SS h h2 [runP q (AS.new 8, [])] := S2
  have o0 : WS.Ok (AS.new 8, []) 0 0 := new_ok (n := 8) g1 g2
  refine jn_c' false h2 (fun K hK => ite_f rfl hK) (ite_f rfl (jn_i ?_))
  refine for0 (mk := fun (s : Sl) i => (s, i)) (s := Sl.nil) (n := tasks.length) (by omega) (fun j s h' => ∃ W : WS, W.Ok 0 0 ∧ W.1.J ∧ W.2.length = j ∧ SS h h' [ownP kP s (ptrs W.2), runP q W]) ⟨_, o0, AS.J.new 8, rfl, S2.made (Ext.refl h2) (Own.nil kP h2 _)⟩ (fun j s h' K hj hI next done => ?_) (fun s h' K hI done => ?_)
  · obtain ⟨W, oW, jW, hWl, S4⟩ := hI
    have hpl : (ptrs W.2).length = j := by unfold ptrs; simpa using hWl
    unfold spatelaw12_SchedSteps.b4
    obtain ⟨rows0, T⟩ := task_rows (hw _ (List.getElem_mem hj))
    refine ite_t (by rw [z1]; exact clt_t hj) ((hl.ext (SS.e S4)).elt0 hj rfl ?_)
    refine play_new T S4 fun s2 rows h4 er ro S5 => S5.var (K := kPl) fun b h5 S6 _ => ?_
    have S6 : SS h h5 [varP kPl b ⟨s2, 0⟩, ownP kMv s2 (rows.map (·.v)), rbagP rows, ownP kP s (ptrs W.2), runP q W] := S6
    refine ownP.pushW (K := kP) (by decide) S6 3 rfl (some ⟨b, 0, none⟩) (by omega) (by omega) fun s3 h6 S7 => ?_
    have S7 : SS h h6 [varP kPl b ⟨s2, 0⟩, ownP kMv s2 (rows.map (·.v)), rbagP rows, ownP kP s3 (ptrs (W.2 ++ [⟨b, s2, 0, rows⟩])), runP q W] := by
      have e : ptrs (W.2 ++ [⟨b, s2, 0, rows⟩]) = ptrs W.2 ++ [some ⟨b, 0, none⟩] := by unfold ptrs; rw [List.map_append]; rfl
      rw [e]; exact S7
    refine ptr_at (ownP.rds (K := kP) S7 3 rfl) (i := j) (by simp; omega) ?_
    have eb : (W.2 ++ [(⟨b, s2, 0, rows⟩ : PLY)])[j]'(by simp; omega) = ⟨b, s2, 0, rows⟩ := by
      rw [List.getElem_append_right (by omega)]; simp
    rw [eb]
    have S8 : SS h h6 [varP kPl b ⟨s2, 0⟩, ownP kMv s2 (rows.map (·.v)), rbagP rows, runP q W, ownP kP s3 (ptrs (W.2 ++ [⟨b, s2, 0, rows⟩]))] := by
      refine S7.perm ?_
      exact (((List.Perm.swap _ _ _).cons _).cons _).cons _
    refine run_add oW (by rw [oW.l]; omega) ro S8 fun h7 S9 => next s3 h7 ⟨W.add ⟨b, s2, 0, rows⟩, oW.add (by rw [oW.l]; omega) (Nat.le_refl _), jW.add, by simp [WS.add, hWl], S9.swap⟩
  · obtain ⟨W, oW, jW, hWl, S4⟩ := hI
    unfold spatelaw12_SchedSteps.b4
    refine ite_f (by rw [z1]; exact clt_f (Nat.lt_irrefl _)) (done _ _ (jn_i ?_))
    generalize hN : tasks.length = N at hWl
    have hN100 : N ≤ 100 := by omega
    refine for0 (mk := fun (_ : Unit) i => i) (s := ()) (n := script.length) (by omega) (fun j _ h' => ∃ W : WS, W.Ok (400 * j) (400 * j) ∧ W.1.J ∧ W.2.length = N ∧ SS h h' [ownP kP s (ptrs W.2), runP q W]) ⟨W, oW.mono (by omega) (by omega), jW, hWl, S4⟩ (fun j _ h' K hj hI next done => ?_) (fun _ h' K hI done => ?_)
    · obtain ⟨W, oW, jW, hWl, S4⟩ := hI
      have hj4 : j < 4000 := by omega
      have hTl : W.1.ts.length = N := by rw [oW.l]; exact hWl
      have hpl : (ptrs W.2).length = N := by unfold ptrs; simpa using hWl
      have hsl := ownP.len (K := kP) S4 0 rfl
      rw [hpl] at hsl
      unfold spatelaw12_SchedSteps.b1
      refine ite_t (by rw [z2]; exact clt_t hj) (jn_q (fun _ h' => ∃ W : WS, W.Ok (400 * (j + 1)) (400 * (j + 1)) ∧ W.1.J ∧ W.2.length = N ∧ SS h h' [ownP kP s (ptrs W.2), runP q W]) (fun K2 hK2 => ?_) fun _ h' hI => next () h' hI)
      refine (hl2.ext (SS.e S4)).elt0 hj rfl ?_
      generalize script[j] = x
      refine S4.cell (K := kAct) (x := x) fun c h4 S5 _ => ?_
      have S5 : SS h h4 [varP kAct c x, ownP kP s (ptrs W.2), runP q W] := S5
      refine run_ready oW (S5.front 2 rfl) fun r h5 S6 => ?_
      have S6 : SS h h5 [ownP (kI .i64) r (readyT W.1.ts), runP q W, varP kAct c x, ownP kP s (ptrs W.2)] := S6
      have hrl := ownP.len (K := kI .i64) S6 0 rfl
      have hrN : (readyT W.1.ts).length ≤ W.1.ts.length := readyTo_len _ _
      rw [hsl]
      refine S6.own (K := kI .i64) (z := 0) (by decide) (n := N) (by omega) (by omega) fun was h6 S7 => S7.own (K := kI .i64) (z := 0) (by decide) (n := N) (by omega) (by omega) fun steps h7 S8 => ?_
      have S8 : SS h h7 [ownP (kI .i64) steps (List.replicate N 0), ownP (kI .i64) was (List.replicate N 0), ownP (kI .i64) r (readyT W.1.ts), runP q W, varP kAct c x, ownP kP s (ptrs W.2)] := S8
      refine jn_q (fun _ h' => ∃ sl wl : List Int, sl.length = N ∧ wl.length = N ∧ (∀ i, i < N → wl[i]? = some (stAt W.1.ts (i : Int)) ∧ sl[i]? = some (nxA W.2 i)) ∧ SS h h' [runP q W, ownP (kI .i64) steps sl, ownP (kI .i64) was wl, ownP (kI .i64) r (readyT W.1.ts), varP kAct c x, ownP kP s (ptrs W.2)]) (fun K3 hK3 => ?_) ?_
      · refine for0 (mk := fun (_ : Unit) i => i) (s := ()) (n := N) (by omega) (fun k _ h' => ∃ sl wl : List Int, sl.length = N ∧ wl.length = N ∧ (∀ i, i < k → wl[i]? = some (stAt W.1.ts (i : Int)) ∧ sl[i]? = some (nxA W.2 i)) ∧ SS h h' [runP q W, ownP (kI .i64) steps sl, ownP (kI .i64) was wl, ownP (kI .i64) r (readyT W.1.ts), varP kAct c x, ownP kP s (ptrs W.2)]) ⟨_, _, by simp, by simp, fun i hi => by omega, S8.front 3 rfl⟩ (fun k _ h' K4 hk hI next2 done2 => ?_) (fun _ h' K4 hI done2 => ?_)
        · obtain ⟨sl, wl, hsN, hwN, hv, S9⟩ := hI
          unfold spatelaw12_SchedSteps.b3
          refine ite_t (by rw [hsl]; exact clt_t hk) (run_state oW (k : Int) S9 fun h9 S10 => ?_)
          have S10 : SS h h9 [runP q W, ownP (kI .i64) steps sl, ownP (kI .i64) was wl, ownP (kI .i64) r (readyT W.1.ts), varP kAct c x, ownP kP s (ptrs W.2)] := S10
          obtain ⟨a1, h10, ha1, hs1, S11⟩ := ownP.set (K := kI .i64) S10 2 rfl (j := k) (by omega) (stAt W.1.ts (k : Int)) (n := 1) rfl
          refine rd_some ha1 (rd_some hs1 ?_)
          refine ptr_at (ownP.rds (K := kP) S11 5 rfl) (i := k) (by omega) (rd_some rfl (rd_some (nx_at S11 0 rfl (by omega)) ?_))
          obtain ⟨a2, h11, ha2, hs2, S12⟩ := ownP.set (K := kI .i64) S11 1 rfl (j := k) (by omega) (nxA W.2 k) (n := 1) rfl
          refine rd_some ha2 (rd_some hs2 (next2 () h11 ⟨sl.set k (nxA W.2 k), wl.set k (stAt W.1.ts (k : Int)), by simpa using hsN, by simpa using hwN, fun i hi => ?_, S12⟩))
          by_cases ci : i = k
          · subst ci
            rw [List.getElem?_set_self (by omega), List.getElem?_set_self (by omega)]
            exact ⟨rfl, rfl⟩
          · rw [List.getElem?_set_ne (by omega), List.getElem?_set_ne (by omega)]
            exact hv i (by omega)
        · unfold spatelaw12_SchedSteps.b3
          exact ite_f (by rw [hsl]; exact clt_f (Nat.lt_irrefl _)) (done2 _ _ (hK3 _ _ hI))
      · rintro _ h8 ⟨sl, wl, hsN, hwN, hv, S9⟩
        have hf0 : ld (kI .i64) ((⟨c, 0, none⟩ : Addr).add 0) h8 = some x.f0 := by rw [add_mk]; exact varP.ld S9 fa_k 4 rfl
        have hf1 : ld (kI .i64) ((⟨c, 0, none⟩ : Addr).add 1) h8 = some x.f1 := by rw [add_mk]; exact varP.ld S9 fa_n 4 rfl
        refine jn_q (fun s7 h' => ∃ W' : WS, Aft W W' x.f1 s7 ∧ W'.Ok (400 * (j + 1)) (400 * (j + 1)) ∧ SS h h' [runP q W', ownP (kI .i64) steps sl, ownP (kI .i64) was wl, ownP (kI .i64) r (readyT W.1.ts), varP kAct c x, ownP kP s (ptrs W.2)]) (fun K3 hK3 => ?_) ?_
        · refine rd_some hf0 (ite_b (fun c1 => rd_some hf1 ?_) (fun c1 => rd_some hf0 (ite_b (fun c2 => rd_some hf1 ?_) (fun c2 => ?_))))
          · refine run_pick oW (by omega) (by omega) x.f1 S9 (fun hz h9 S10 => ?_) fun t ht hr h9 S10 => ?_
            · have : r.len = 0 := by rw [hrl, hz]; rfl
              refine jn_c' false h9 (fun K4 hK4 => ite_f (by rw [this]; rfl) (ite_t rfl hK4)) (ite_f rfl (ite_f rfl (hK3 _ _ ⟨W, Aft.same jW _, oW.mono (by omega) (by omega), S10⟩)))
            · have hpos : 0 < (readyT W.1.ts).length := by
                have := (List.getElem?_eq_some_iff.1 hr).1; omega
              refine jn_c' false h9 (fun K4 hK4 => ite_f ?_ (ite_f rfl hK4)) (ite_f rfl (ite_t rfl (hK3 _ _ ⟨W.step t, Aft.step oW jW hr, (oW.step (by rw [oW.l]; exact ht)).mono (by omega) (by omega), S10⟩)))
              have e : decide ((r.len : Int) > 0) = true := by rw [decide_eq_true_eq]; omega
              rw [e]; rfl
          · exact run_wake oW x.f1 S9 fun h9 S10 => hK3 _ _ ⟨W.wake x.f1, Aft.wake jW _ _, (oW.wake _).mono (by omega) (by omega), S10⟩
          · exact hK3 _ _ ⟨W, Aft.same jW _, oW.mono (by omega) (by omega), S9⟩
        · rintro s7 h9 ⟨W', af, oW', S10⟩
          have hWl' : W'.2.length = N := by rw [af.l]; exact hWl
          refine jn_q (fun _ h' => SS h h' [runP q W', ownP (kI .i64) steps sl, ownP (kI .i64) was wl, ownP (kI .i64) r (readyT W.1.ts), varP kAct c x, ownP kP s (ptrs W.2)]) (fun K3 hK3 => ?_) ?_
          · refine for0 (mk := fun (_ : Unit) i => i) (s := ()) (n := N) (by omega) (fun k _ h' => SS h h' [runP q W', ownP (kI .i64) steps sl, ownP (kI .i64) was wl, ownP (kI .i64) r (readyT W.1.ts), varP kAct c x, ownP kP s (ptrs W.2)]) S10 (fun k _ h' K4 hk S11 next2 done2 => ?_) (fun _ h' K4 S11 done2 => ?_)
            · unfold spatelaw12_SchedSteps.b2
              obtain ⟨hv1, hv2⟩ := hv k hk
              obtain ⟨hk1, hv1⟩ := List.getElem?_eq_some_iff.1 hv1
              obtain ⟨hk2, hv2⟩ := List.getElem?_eq_some_iff.1 hv2
              refine ite_t (by rw [hsl]; exact clt_t hk) (jn_q (fun _ h' => SS h h' [runP q W', ownP (kI .i64) steps sl, ownP (kI .i64) was wl, ownP (kI .i64) r (readyT W.1.ts), varP kAct c x, ownP kP s (ptrs W.2)]) (fun K5 hK5 => ?_) fun _ h' S' => next2 () h' S')
              refine run_state oW' (k : Int) S11 fun h12 S12 => ?_
              have S12 : SS h h12 [runP q W', ownP (kI .i64) steps sl, ownP (kI .i64) was wl, ownP (kI .i64) r (readyT W.1.ts), varP kAct c x, ownP kP s (ptrs W.2)] := S12
              have RP : Rds kP h12 s (ptrs W'.2) := by rw [af.p]; exact ownP.rds (K := kP) S12 5 rfl
              have RW := ownP.rds (K := kI .i64) S12 2 rfl
              have RS := ownP.rds (K := kI .i64) S12 1 rfl
              refine ite_b (fun c1 => ?_) (fun c1 => ?_)
              · have c1 : (k : Int) = s7 := by simpa using c1
                obtain ⟨a1, a2⟩ := af.c k c1
                refine jn_c' false h12 (fun K6 hK6 => RW.elt0 hk1 rfl ?_) (ite_f rfl (hK5 () h12 S12))
                rw [hv1, a1]
                refine ite_f rfl (ptr_at RP (i := k) (by omega) (rd_some rfl (rd_some (nx_at S12 0 rfl (by omega)) (RS.elt0 hk2 rfl ?_))))
                rw [hv2, a2]
                have hb : nxA W.2 k = (W.2[k].nx : Int) := nxA_at (by omega)
                have := oW.x _ (List.getElem_mem (by omega : k < W.2.length))
                rw [wrap64_id (by omega) (by omega), bne_self_eq_false]; exact hK6
              · have c1 : (k : Int) ≠ s7 := by simpa using c1
                have b1 := af.b k c1
                refine ptr_at RP (i := k) (by omega) (rd_some rfl (rd_some (nx_at S12 0 rfl (by omega)) (RS.elt0 hk2 rfl ?_)))
                rw [hv2, b1]
                refine ite_f (bne_self_eq_false _) (jn_c' false h12 (fun K6 hK6 => RW.elt0 hk1 rfl ?_) (ite_f rfl (hK5 () h12 S12)))
                rw [hv1]
                rcases af.a k c1 with e | ⟨e1, e2⟩
                · rw [e]; exact ite_f (bne_self_eq_false _) hK6
                · rw [e1]
                  refine ite_b (fun _ => ite_f rfl (RW.elt0 hk1 rfl ?_)) (fun _ => hK6)
                  rw [hv1]
                  refine ite_b (fun c2 => RW.elt0 hk1 rfl ?_) (fun _ => hK6)
                  rw [hv1]
                  have c2 : stAt W.1.ts (k : Int) ≠ 2 := by simpa using c2
                  have e3 : stAt W.1.ts (k : Int) = 3 := by
                    rcases e2 with e2 | e2
                    · exact absurd e2 c2
                    · exact e2
                  rw [e3]; exact hK6
            · unfold spatelaw12_SchedSteps.b2
              exact ite_f (by rw [hsl]; exact clt_f (Nat.lt_irrefl _)) (done2 _ _ (hK3 () _ S11))
          · intro _ h10 S11
            have fin : ∃ W : WS, W.Ok (400 * (j + 1)) (400 * (j + 1)) ∧ W.1.J ∧ W.2.length = N ∧ SS h h10 [ownP kP s (ptrs W.2), runP q W] := by
              refine ⟨W', oW', af.j, hWl', ?_⟩
              rw [af.p]
              have T := S11.front 5 rfl
              have T : SS h h10 [ownP kP s (ptrs W.2), runP q W', ownP (kI .i64) steps sl, ownP (kI .i64) was wl, ownP (kI .i64) r (readyT W.1.ts), varP kAct c x] := T
              have T2 : SS h h10 ([ownP (kI .i64) steps sl, ownP (kI .i64) was wl, ownP (kI .i64) r (readyT W.1.ts), varP kAct c x] ++ [ownP kP s (ptrs W.2), runP q W']) := T.perm (List.perm_append_comm (l₁ := [ownP kP s (ptrs W.2), runP q W']))
              exact T2.tail.tail.tail.tail
            refine ite_b (fun c1 => ?_) (fun c1 => hK2 () h10 fin)
            have c1 : 0 ≤ s7 := by rw [decide_eq_true_eq] at c1; exact c1
            have hd := af.d c1
            have hpos : 0 < (readyT W.1.ts).length := by
              have := (List.getElem?_eq_some_iff.1 hd).1; omega
            obtain ⟨hpk, hd⟩ := List.getElem?_eq_some_iff.1 hd
            have hf1 : ld (kI .i64) ((⟨c, 0, none⟩ : Addr).add 1) h10 = some x.f1 := by rw [add_mk]; exact varP.ld S11 fa_n 4 rfl
            obtain ⟨v, hv3, hp⟩ := rem_pick (n := x.f1) hpos (by omega)
            rw [hrl]
            refine rd_some hf1 (rd_some hv3 (jn_c' (pickI x.f1 (readyT W.1.ts).length : Int) h10 (fun K6 hK6 => ite_b (fun c2 => ?_) (fun c2 => ?_)) ?_))
            · have c2 : v < 0 := by rw [decide_eq_true_eq] at c2; exact c2
              rw [if_pos c2] at hp
              rw [hp]; exact hK6
            · have c2 : ¬ v < 0 := by rw [decide_eq_false_iff_not] at c2; exact c2
              rw [if_neg c2] at hp
              rw [hp]; exact hK6
            refine (ownP.rds (K := kI .i64) S11 3 rfl).elt0 hpk rfl ?_
            rw [hd]
            exact ite_f (bne_self_eq_false _) (hK2 () h10 fin)
    · obtain ⟨W, oW, jW, hWl, S4⟩ := hI
      unfold spatelaw12_SchedSteps.b1
      exact ite_f (by rw [z2]; exact clt_f (Nat.lt_irrefl _)) (done _ _ ⟨rfl, SS.e S4⟩)
end Go.Proofs.Ytomngllmnhdmlaa
