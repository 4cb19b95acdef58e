/- SchedAlive, over the heap. -/
import Derived.Test.YtomngllmnhdmlaaSdWC
import Derived.Test.YtomngllmnhdmlaaSdSetC
import Derived.Test.YtomngllmnhdmlaaF5C
namespace Go.Proofs.Ytomngllmnhdmlaa
open Go Go.Tr
set_option linter.unusedVariables false
theorem mvs3 (rows : List MR) (r : MR) : (rows ++ [r] ++ [row1 1] ++ [row1 3]).map (·.v) = rows.map (·.v) ++ [r.v, ⟨1, Sl.nil, 0, Sl.nil⟩, ⟨3, Sl.nil, 0, Sl.nil⟩] := by simp [row1]
theorem alive_true (l : Sl) (sets : List Sl) (turns : Int) (h : H) (hl : Rds kL h l sets) (hw : ∀ y ∈ sets, SlW kLk (fun _ _ => True) 16 h y) (hm : sets.length * 24 ≤ reachBytes) : spatelaw12_SchedAlive l turns h fun r h' => r = true ∧ Ext h h' := by
  unfold spatelaw12_SchedAlive
  have z1 := hl.len
  refine known_spec fun h1 e1 => ite_f rfl ?_
  by_cases hbig : sets.length > 40
  · exact ite_t (by rw [decide_eq_true_eq]; omega) ⟨rfl, e1⟩
  refine ite_f (by rw [decide_eq_false_iff_not]; omega) (count_spec turns fun t0 ht0 => ?_)
  obtain ⟨T, hT⟩ : ∃ T : Nat, T = t0 + 1 := ⟨_, rfl⟩
  have eT : IntKind.i64.wrap (1 + (t0 : Int)) = (T : Int) := by rw [wrap64_id (by omega) (by omega)]; omega
  rw [eT]
  have hT20 : T ≤ 20 := by omega
  refine run_new (SS.nil e1) (fun hb => by omega) fun g1 g2 q h2 S2 => ?_
  have S2 : SS h h2 [runP q (AS.new 16, [])] := S2
  have o0 : WS.Ok (AS.new 16, []) 0 0 := new_ok (n := 16) g1 g2
  refine jn_c' false h2 (fun K hK => ite_f rfl hK) (ite_f rfl ?_)
  refine jn_q (fun (s : Sl) h' => ∃ W : WS, W.Ok 0 0 ∧ W.1.J ∧ Lv T W.1 W.nl ∧ W.2.length = sets.length ∧ SS h h' [ownP kP s (ptrs W.2), runP q W]) (fun K hK => ?_) ?_
  · refine for0 (mk := fun (s : Sl) i => (s, i)) (s := Sl.nil) (n := sets.length) (by omega) (fun j s h' => ∃ W : WS, W.Ok 0 0 ∧ W.1.J ∧ Lv T W.1 W.nl ∧ W.2.length = j ∧ SS h h' [ownP kP s (ptrs W.2), runP q W]) ⟨_, o0, AS.J.new 16, Lv.new T, rfl, S2.made (Ext.refl h2) (Own.nil kP h2 _)⟩ (fun j s h' K2 hj hI next done => ?_) (fun s h' K2 hI done => ?_)
    · obtain ⟨W, oW, jW, vW, hWl, S4⟩ := hI
      have hpl : (ptrs W.2).length = j := by unfold ptrs; simpa using hWl
      have hTl : W.1.ts.length = j := by rw [oW.l]; exact hWl
      unfold spatelaw12_SchedAlive.b3
      refine ite_t (by rw [z1]; exact clt_t hj) (jn_q (fun (s : Sl) h' => ∃ W : WS, W.Ok 0 0 ∧ W.1.J ∧ Lv T W.1 W.nl ∧ W.2.length = j + 1 ∧ SS h h' [ownP kP s (ptrs W.2), runP q W]) (fun K3 hK3 => ?_) fun s' h' hI => next s' h' hI)
      refine jn_q (fun (s2 : Sl) h' => ∃ rows : List MR, Tri T (rows.map MR.mv) ∧ (∀ r ∈ rows, r.l.length ≤ 8796093022077 ∧ r.w.length ≤ 1) ∧ SS h h' [rbagP rows, ownP kMv s2 (rows.map (·.v)), ownP kP s (ptrs W.2), runP q W]) (fun K4 hK4 => ?_) ?_
      · refine for0 (mk := fun (s : Sl) i => (s, i)) (s := Sl.nil) (n := T) (by omega) (fun k s2 h' => ∃ rows : List MR, Tri k (rows.map MR.mv) ∧ (∀ r ∈ rows, r.l.length ≤ 8796093022077 ∧ r.w.length ≤ 1) ∧ SS h h' [rbagP rows, ownP kMv s2 (rows.map (·.v)), ownP kP s (ptrs W.2), runP q W]) ⟨[], Tri.nil, by simp, rbagP.nil (S4.made (Ext.refl h') (Own.nil kMv h' _))⟩ (fun k s2 h3 K5 hk hI next2 done2 => ?_) (fun s2 h3 K5 hI done2 => ?_)
        · obtain ⟨rows, tr, hb, S5⟩ := hI
          have hrl : rows.length = 3 * k := by have := tr.len; simpa using this
          unfold spatelaw12_SchedAlive.b4
          have hLpos : 0 < sets.length := by omega
          have hix : (j + k) % sets.length < sets.length := Nat.mod_lt _ hLpos
          have hrm : remI (IntKind.i64.wrap ((j : Int) + (k : Int))) (sets.length : Int) = some (((j + k) % sets.length : Nat) : Int) := by
            rw [wrap64_id (by omega) (by omega)]
            unfold remI
            rw [if_neg (by omega)]
            congr 1
          refine ite_t (clt_t hk) ?_
          rw [z1]
          refine rd_some hrm ((hl.ext (SS.e S5)).elt0 hix rfl ?_)
          obtain ⟨xs, Rx, _, hxb⟩ := hw _ (List.getElem_mem hix)
          unfold reachBytes at hxb
          refine right_spec Rx (by omega) S5 fun r ys h4 hok hyl S6 => ?_
          have S6 : SS h h4 [ownP kLk r ys, rbagP rows, ownP kMv s2 (rows.map (·.v)), ownP kP s (ptrs W.2), runP q W] := S6
          refine bs_own (K := kMv) [⟨2, r, 0, Sl.nil⟩, ⟨1, Sl.nil, 0, Sl.nil⟩, ⟨3, Sl.nil, 0, Sl.nil⟩] (by simp [encs]) rfl fun x8 h5 o5 hl5 e5 z5 => ?_
          refine ownP.appW (K := kMv) (by decide) (S6.ext e5) 2 rfl o5.rds (by simp; omega) (by simp; omega) fun s3 h6 S7 => ?_
          have S7 : SS h h6 [ownP kLk r ys, rbagP rows, ownP kMv s3 (rows.map (·.v) ++ [⟨2, r, 0, Sl.nil⟩, ⟨1, Sl.nil, 0, Sl.nil⟩, ⟨3, Sl.nil, 0, Sl.nil⟩]), ownP kP s (ptrs W.2), runP q W] := S7
          have S8 := rbagP.add (r := ⟨⟨2, r, 0, Sl.nil⟩, ys, []⟩) (S7.made (Ext.refl h6) (Own.nil (kI .i64) h6 (fun b => h6.size ≤ b)))
          have S9 := rbagP.more 3 (rbagP.more 1 S8 0 rfl) 0 rfl
          refine next2 s3 h6 ⟨rows ++ [⟨⟨2, r, 0, Sl.nil⟩, ys, []⟩] ++ [row1 1] ++ [row1 3], ?_, fun r' hr' => ?_, ?_⟩
          · have e : (rows ++ [(⟨⟨2, r, 0, Sl.nil⟩, ys, []⟩ : MR)] ++ [row1 1] ++ [row1 3]).map MR.mv = rows.map MR.mv ++ [⟨2, ys, 0, []⟩, ⟨1, [], 0, []⟩, ⟨3, [], 0, []⟩] := by simp [row1, MR.mv]
            rw [e]
            exact tr.more hok
          · simp only [List.mem_append, List.mem_singleton] at hr'
            rcases hr' with ((hr' | rfl) | rfl) | rfl
            · exact hb r' hr'
            · exact ⟨hyl, by show 0 ≤ 1; omega⟩
            · exact ⟨by show 0 ≤ _; omega, by show 0 ≤ 1; omega⟩
            · exact ⟨by show 0 ≤ _; omega, by show 0 ≤ 1; omega⟩
          · rw [mvs3]; exact S9
        · unfold spatelaw12_SchedAlive.b4
          exact ite_f (clt_f (Nat.lt_irrefl _)) (done2 _ _ (hK4 _ _ hI))
      rintro s2 h3 ⟨rows, tr, hb, S5⟩
      have hrl : rows.length = 3 * T := by have := tr.len; simpa using this
      have hro : rowsOk rows := ⟨by omega, fun r hr => by have := hb r hr; omega⟩
      refine S5.var (K := kPl) fun b h5 S6 _ => ?_
      have S6 : SS h h5 [varP kPl b ⟨s2, 0⟩, rbagP rows, ownP kMv s2 (rows.map (·.v)), ownP kP s (ptrs W.2), runP q W] := S6
      refine ownP.pushW (K := kP) (by decide) S6 3 rfl (some ⟨b, 0, none⟩) (by omega) (by omega) fun s3 h6 S7 => ?_
      have S7 : SS h h6 [varP kPl b ⟨s2, 0⟩, rbagP rows, ownP kMv s2 (rows.map (·.v)), ownP kP s3 (ptrs (W.2 ++ [⟨b, s2, 0, rows⟩])), runP q W] := by
        have e : ptrs (W.2 ++ [⟨b, s2, 0, rows⟩]) = ptrs W.2 ++ [some ⟨b, 0, none⟩] := by unfold ptrs; rw [List.map_append]; rfl
        rw [e]; exact S7
      refine ptr_at (ownP.rds (K := kP) S7 3 rfl) (i := j) (by simp; omega) ?_
      have eb : (W.2 ++ [(⟨b, s2, 0, rows⟩ : PLY)])[j]'(by simp; omega) = ⟨b, s2, 0, rows⟩ := by
        rw [List.getElem_append_right (by omega)]; simp
      rw [eb]
      have S8 : SS h h6 [varP kPl b ⟨s2, 0⟩, ownP kMv s2 (rows.map (·.v)), rbagP rows, runP q W, ownP kP s3 (ptrs (W.2 ++ [⟨b, s2, 0, rows⟩]))] := by
        refine S7.perm (List.Perm.cons _ ?_)
        exact (List.Perm.swap _ _ _).trans (((List.Perm.swap _ _ _).cons _).cons _)
      refine run_add oW (by rw [oW.l]; omega) hro S8 fun h7 S9 => hK3 s3 h7 ⟨W.add ⟨b, s2, 0, rows⟩, oW.add (by rw [oW.l]; omega) (Nat.le_refl _), jW.add, ?_, by simp [WS.add, hWl], S9.swap⟩
      have e : (W.add ⟨b, s2, 0, rows⟩).nl = W.nl ++ [(0, rows.map MR.mv)] := by unfold WS.nl WS.add; rw [List.map_append]; rfl
      rw [e]
      exact vW.add oW.a (by rw [List.length_map, oW.l]) tr.plays
    · obtain ⟨W, oW, jW, vW, hWl, S4⟩ := hI
      unfold spatelaw12_SchedAlive.b3
      exact ite_f (by rw [z1]; exact clt_f (Nat.lt_irrefl _)) (done _ _ (hK _ _ ⟨W, oW, jW, vW, hWl, S4⟩))
  rintro s h3 ⟨W, oW, jW, vW, hWl, S4⟩
  obtain ⟨R, hR⟩ : ∃ R : Nat, R = (3 * T + 1) * (sets.length + 1) + 9 := ⟨_, rfl⟩
  have hp : (3 * T + 1) * (sets.length + 1) ≤ 61 * 41 := Nat.mul_le_mul (by omega) (by omega)
  have eR : IntKind.i64.wrap ((IntKind.i64.wrap ((IntKind.i64.wrap ((IntKind.i64.wrap (3 * (T : Int))) + 1)) * (IntKind.i64.wrap ((l.len : Int) + 1)))) + 9) = (R : Int) := by
    rw [z1, wrap64_id (n := 3 * (T : Int)) (by omega) (by omega), wrap64_id (n := 3 * (T : Int) + 1) (by omega) (by omega), wrap64_id (n := (sets.length : Int) + 1) (by omega) (by omega)]
    have e : (3 * (T : Int) + 1) * ((sets.length : Int) + 1) = (((3 * T + 1) * (sets.length + 1) : Nat) : Int) := by push_cast; rfl
    rw [e, wrap64_id (n := (((3 * T + 1) * (sets.length + 1) : Nat) : Int)) (by omega) (by omega), wrap64_id (by omega) (by omega)]
    omega
  refine jn_q (fun (_ : Unit) h' => ∃ V : WS, V.Ok (400 * R) (400 * R) ∧ Lv T V.1 V.nl ∧ readyT V.1.ts = [] ∧ V.2.length = sets.length ∧ SS h h' [ownP kP s (ptrs V.2), runP q V]) (fun K hK => ?_) ?_
  · refine for0 (mk := fun (_ : Unit) i => i) (s := ()) (n := R) (by omega) (fun j _ h' => ∃ V : WS, V.Ok (400 * j) (400 * j) ∧ V.1.J ∧ Lv T V.1 V.nl ∧ (readyT V.1.ts = [] ∨ j ≤ totN V.nl) ∧ V.2.length = sets.length ∧ ptrs V.2 = ptrs W.2 ∧ SS h h' [ownP kP s (ptrs W.2), runP q V]) ⟨W, oW.mono (by omega) (by omega), jW, vW, .inr (Nat.zero_le _), hWl, rfl, S4⟩ (fun j _ h' K2 hj hI next done => ?_) (fun _ h' K2 hI done => ?_)
    · obtain ⟨V, oV, jV, vV, hz, hVl, hpt, S5⟩ := hI
      unfold spatelaw12_SchedAlive.b2
      rw [eR]
      refine ite_t (clt_t hj) (run_round oV (by omega) (by omega) S5.swap fun h5 S6 => next () h5 ?_)
      obtain ⟨v', e', j'⟩ := vV.round oV jV
      refine ⟨(roundW V).1, oV.round.mono (by omega) (by omega), j', v', ?_, ?_, ?_, S6.swap⟩
      · rcases List.eq_nil_or_concat (readyT V.1.ts) with c | ⟨y, z, c⟩
        · rw [round_none c]; exact .inl c
        · refine .inr ?_
          have : 1 ≤ (readyT V.1.ts).length := by rw [c]; simp
          rw [e']
          rcases hz with hz | hz
          · rw [hz] at this; exact absurd this (by simp)
          · omega
      · have hl := rfold_len (readyT V.1.ts) (V, 0)
        have o' := oV.round.l
        have : (roundW V).1.1.ts.length = V.1.ts.length := hl
        rw [← o', this, oV.l, hVl]
      · rw [← hpt]
        have : ∀ (l : List Int) (w : WS × Nat), ptrs (l.foldl rstep w).1.2 = ptrs w.1.2 := by
          intro l
          induction l with
          | nil => exact fun w => rfl
          | cons t l ih =>
            intro w
            rw [List.foldl_cons, ih]
            unfold rstep
            split
            · exact ptrs_bump _ _
            · rfl
        exact this _ (V, 0)
    · obtain ⟨V, oV, jV, vV, hz, hVl, hpt, S5⟩ := hI
      unfold spatelaw12_SchedAlive.b2
      rw [eR]
      refine ite_f (clt_f (Nat.lt_irrefl _)) (done _ _ (hK _ _ ⟨V, oV, vV, ?_, hVl, by rw [hpt]; exact S5⟩))
      rcases hz with hz | hz
      · exact hz
      · exfalso
        have := vV.tot oV
        rw [hVl] at this
        have h1 : (3 * T + 1) * (sets.length + 1) = (3 * T + 1) * sets.length + (3 * T + 1) := Nat.mul_succ _ _
        omega
  rintro _ h4 ⟨V, oV, vV, hz, hVl, S5⟩
  have hlive := vV.live oV hz
  have hVt : V.1.ts.length = sets.length := by rw [oV.l]; exact hVl
  refine jn_q (fun (_ : Unit) h' => SS h h' [ownP kP s (ptrs V.2), runP q V]) (fun K hK => ?_) ?_
  · refine for0 (mk := fun (_ : Unit) i => i) (s := ()) (n := sets.length) (by omega) (fun j _ h' => SS h h' [ownP kP s (ptrs V.2), runP q V]) S5 (fun j _ h' K2 hj S6 next done => ?_) (fun _ h' K2 S6 done => ?_)
    · obtain ⟨a1, a2, x, hx, a3⟩ := hlive j (by omega)
      unfold spatelaw12_SchedAlive.b1
      refine ite_t (by rw [z1]; exact clt_t hj) (jn_q (fun (b : Bool) h' => b = false ∧ SS h h' [ownP kP s (ptrs V.2), runP q V]) (fun K3 hK3 => ?_) ?_)
      · refine run_state oV (j : Int) S6.swap fun h5 S7 => ite_f (by rw [a1]; rfl) (run_fault oV (j : Int) S7 fun v h6 S8 hv => ?_)
        rw [a2] at hv
        rcases hv with ⟨_, rfl⟩ | ⟨hv, _⟩
        · refine ite_f rfl (ptr_at (ownP.rds (K := kP) S8 1 rfl) (i := j) (by omega) (rd_some rfl (rd_some (nx_at S8 0 rfl (by omega)) ?_)))
          have hnx : nxA V.2 j = ((3 * T + 1 : Nat) : Int) := by
            rw [nxA_at (by omega)]
            rw [List.getElem?_map, List.getElem?_eq_getElem (by omega : j < V.2.length)] at hx
            have hx : V.2[j].ab = x := by simpa using hx
            have : V.2[j].nx = x.1 := by rw [← hx]; rfl
            rw [this, a3]
          rw [hnx, wrap64_id (n := 3 * (T : Int)) (by omega) (by omega), wrap64_id (by omega) (by omega)]
          have e : (((3 * T + 1 : Nat) : Int) != 3 * (T : Int) + 1) = false := by
            have : ((3 * T + 1 : Nat) : Int) = 3 * (T : Int) + 1 := by omega
            rw [this]; exact bne_self_eq_false _
          rw [e]
          exact hK3 _ _ ⟨rfl, S8.swap⟩
        · exact absurd rfl hv
      · rintro _ h5 ⟨rfl, S7⟩
        exact ite_f rfl (next () h5 S7)
    · unfold spatelaw12_SchedAlive.b1
      exact ite_f (by rw [z1]; exact clt_f (Nat.lt_irrefl _)) (done _ _ (hK _ _ S6))
  intro _ h5 S6
  refine run_ready oV S6.swap fun r h6 S7 => ?_
  have hr := ownP.len (K := kI .i64) S7 0 rfl
  rw [hz] at hr
  exact ⟨by rw [hr]; rfl, SS.e S7⟩
end Go.Proofs.Ytomngllmnhdmlaa
