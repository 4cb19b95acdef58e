/- SchedFaults, over the heap. -/
import Derived.Test.YtomngllmnhdmlaaSdXC
import Derived.Test.YtomngllmnhdmlaaF4C
namespace Go.Proofs.Ytomngllmnhdmlaa
open Go Go.Tr
set_option linter.unusedVariables false
def row1 (k : Int) : MR := ⟨⟨k, Sl.nil, 0, Sl.nil⟩, [], []⟩
theorem rbagP.more {F0 : Nat → Prop} {h0 h : H} {Ps : List HP} (k : Int) {rows : List MR} (S : SG F0 h0 h Ps) (i : Nat) (hi : Ps[i]? = some (rbagP rows)) : SG F0 h0 h (Ps.set i (rbagP (rows ++ [row1 k]))) :=
  S.imp i hi _ fun F ⟨v, l⟩ => ⟨fun r hr => by
    rcases List.mem_append.1 hr with hr | hr
    · exact v r hr
    · obtain rfl := List.mem_singleton.1 hr
      exact ⟨Own.nil _ _ _, Own.nil _ _ _⟩, l⟩
theorem count_spec (a : Int) {h : H} {Q : Int → H → Prop} (k : ∀ n : Nat, n < 20 → Q (n : Int) h) : spatelaw12_count a h Q := by
  unfold spatelaw12_count
  have h1 := Int.tmod_lt_of_pos a (b := 20) (by decide)
  have h2 : -20 < a.tmod 20 := by
    have := Int.tmod_lt_of_pos (-a) (b := 20) (by decide)
    rw [Int.neg_tmod] at this
    omega
  have hr : remI a 20 = some (a.tmod 20) := by unfold remI; rw [if_neg (by decide)]
  refine rd_some hr (ite_b (fun c => ?_) (fun c => ?_))
  · rw [decide_eq_true_eq] at c
    rw [wrap64_id (by omega) (by omega)]
    have := k (0 - a.tmod 20).toNat (by omega)
    rw [Int.toNat_of_nonneg (by omega)] at this; exact this
  · rw [decide_eq_false_iff_not] at c
    have := k (a.tmod 20).toNat (by omega)
    rw [Int.toNat_of_nonneg (by omega)] at this; exact this
section
variable {F0 : Nat → Prop} {h0 h : H} {q : Nat} {W : WS} {B N : Nat} {Rs Ps : List HP}
theorem run_add' {n : Int} (hn : n = ((W.1.ts.length : Nat) : Int)) (o : W.Ok B N) (hl : W.1.ts.length < 400) {b : Nat} {s : Sl} {rows : List MR} (hr : rowsOk rows) (S : SG F0 h0 h (varP kPl b ⟨s, 0⟩ :: ownP kMv s (rows.map (·.v)) :: rbagP rows :: runP q W :: Rs)) {Q : Int → H → Prop}
    (k : ∀ h', SG F0 h0 h' (runP q (W.add ⟨b, s, 0, rows⟩) :: Rs) → Q n h') : sched_Sched_Add (some ⟨q, 0, none⟩) (some (tPlay, .pointer (some ⟨b, 0, none⟩))) h Q :=
  run_add o hl hr S fun h' S' => by rw [← hn]; exact k h' S'
end
def rowsJ (r : MR) (j : Nat) : List MR := r :: List.replicate j (row1 1)
theorem rowsJ_succ (r : MR) (j : Nat) : rowsJ r (j + 1) = rowsJ r j ++ [row1 1] := by unfold rowsJ; rw [List.replicate_succ']; rfl
def fM0 (a : Nat) (k : Int) : List MV := (fAskX :: List.replicate a fGo) ++ [fEnd k]
theorem fM0_go {a : Nat} {k : Int} {i : Nat} (h : i < a) : abMv (1 + i, fM0 a k) = fGo := by
  unfold abMv fM0
  simp only
  rw [List.getD_eq_getElem?_getD, List.getElem?_append_left (by simp; omega), Nat.add_comm, List.getElem?_cons_succ, List.getElem?_replicate, if_pos h]; rfl
theorem fM0_end {a : Nat} {k : Int} : abMv (1 + a, fM0 a k) = fEnd k := by
  unfold abMv fM0
  simp only
  rw [List.getD_eq_getElem?_getD, List.getElem?_append_right (by simp; omega)]
  simp [Nat.add_comm]
theorem f0_succ (j : Nat) : f0 (j + 1) = (f0 j).add := by
  unfold f0 AS.add
  rw [List.replicate_succ' (n := j + 1)]
theorem faults_true (kind ahead others : Int) (h : H) : spatelaw12_SchedFaults kind ahead others h fun r h' => r = true ∧ Ext h h' := by
  unfold spatelaw12_SchedFaults
  refine known_spec fun h1 e1 => ite_f rfl ?_
  refine jn_q (fun (s : Int) h' => (s < 1 ∨ 5 < s) ∧ h' = h1) (fun K hK => ?_) ?_
  · by_cases c : 1 ≤ kind ∧ kind ≤ 5
    · refine jn_c' true h1 (fun K2 hK2 => ite_t (by rw [decide_eq_true_eq]; omega) ?_) (ite_t rfl (hK _ _ ⟨by omega, rfl⟩))
      have e : decide (kind ≤ 5) = true := decide_eq_true c.2
      rw [e]; exact hK2
    · refine jn_c' false h1 (fun K2 hK2 => ite_b (fun d => ?_) (fun d => hK2)) (ite_f rfl (hK _ _ ⟨by omega, rfl⟩))
      have d : kind ≥ 1 := by simpa using d
      have e : decide (kind ≤ 5) = false := by rw [decide_eq_false_iff_not]; omega
      rw [e]; exact hK2
  rintro k _ ⟨hk, rfl⟩
  refine count_spec ahead fun a ha => count_spec others fun o ho => ?_
  refine run_new (SS.nil e1) (fun hb => by omega) fun g1 g2 q h2 S2 => ?_
  have S2 : SS h h2 [runP q (AS.new 2, [])] := S2
  have o0 : WS.Ok (AS.new 2, []) 0 0 := new_ok (n := 2) g1 g2
  refine jn_c' false h2 (fun K hK => ite_f rfl hK) (ite_f rfl ?_)
  refine bs_own (K := kLk) [⟨1, false⟩] rfl rfl fun x1 h3 o3 hl3 e3 z3 => ?_
  have S3 := S2.made e3 (o3.mono fun b hb => by omega)
  refine bs_own (K := kMv) [⟨2, x1, 0, Sl.nil⟩] rfl rfl fun x2 h4 o4 hl4 e4 z4 => ?_
  have S4 := S3.made e4 (o4.mono fun b hb => by omega)
  have S4 : SS h h4 [ownP kMv x2 [⟨2, x1, 0, Sl.nil⟩], ownP kLk x1 [⟨1, false⟩], runP q (AS.new 2, [])] := S4
  obtain ⟨r0, hr0⟩ : ∃ r : MR, r = ⟨⟨2, x1, 0, Sl.nil⟩, [⟨1, false⟩], []⟩ := ⟨_, rfl⟩
  have S5 : SS h h4 [rbagP (rowsJ r0 0), ownP kMv x2 ((rowsJ r0 0).map (·.v)), runP q (AS.new 2, [])] := by
    have T := ((rbagP.nil S4).front 2 rfl).made (Ext.refl h4) (Own.nil (kI .i64) h4 (fun b => h4.size ≤ b))
    have T2 := rbagP.add (r := ⟨⟨2, x1, 0, Sl.nil⟩, [⟨1, false⟩], []⟩) (rows := []) T
    rw [hr0]; exact T2
  refine jn_q (fun (s : Sl) h' => SS h h' [rbagP (rowsJ r0 a), ownP kMv s ((rowsJ r0 a).map (·.v)), runP q (AS.new 2, [])]) (fun K hK => ?_) ?_
  · refine for0 (mk := fun (s : Sl) i => (s, i)) (s := x2) (n := a) (by omega) (fun j s h' => SS h h' [rbagP (rowsJ r0 j), ownP kMv s ((rowsJ r0 j).map (·.v)), runP q (AS.new 2, [])]) S5 (fun j s h' K2 hj S6 next done => ?_) (fun s h' K2 S6 done => ?_)
    · unfold spatelaw12_SchedFaults.b4
      refine ite_t (clt_t hj) (ownP.pushW (K := kMv) (by decide) S6 1 rfl ⟨1, Sl.nil, 0, Sl.nil⟩ (by unfold rowsJ; simp; omega) (by unfold rowsJ; simp; omega) fun s' h6 S7 => next s' h6 ?_)
      have S8 := rbagP.more 1 S7 0 rfl
      rw [rowsJ_succ, List.map_append]; exact S8
    · unfold spatelaw12_SchedFaults.b4
      exact ite_f (clt_f (Nat.lt_irrefl _)) (done _ _ (hK _ _ S6))
  intro s h5 S6
  refine ownP.pushW (K := kMv) (by decide) S6 1 rfl ⟨k, Sl.nil, 0, Sl.nil⟩ (by unfold rowsJ; simp; omega) (by unfold rowsJ; simp; omega) fun s' h6 S7 => ?_
  have S8 := rbagP.more k S7 0 rfl
  obtain ⟨rows, hrows⟩ : ∃ r : List MR, r = rowsJ r0 a ++ [row1 k] := ⟨_, rfl⟩
  have S8 : SS h h6 [rbagP rows, ownP kMv s' (rows.map (·.v)), runP q (AS.new 2, [])] := by
    rw [hrows, List.map_append]; exact S8
  have hro : rowsOk rows := by
    rw [hrows]
    refine ⟨by unfold rowsJ; simp; omega, fun r hr => ?_⟩
    have : r = r0 ∨ r = row1 1 ∨ r = row1 k := by
      unfold rowsJ at hr
      rcases List.mem_append.1 hr with hr | hr
      · rcases List.mem_cons.1 hr with hr | hr
        · exact .inl hr
        · exact .inr (.inl (List.eq_of_mem_replicate hr))
      · exact .inr (.inr (List.mem_singleton.1 hr))
    rcases this with rfl | rfl | rfl
    · rw [hr0]; exact ⟨by show 1 ≤ _; omega, by show 0 ≤ _; omega⟩
    · exact ⟨by show 0 ≤ _; omega, by show 0 ≤ _; omega⟩
    · exact ⟨by show 0 ≤ _; omega, by show 0 ≤ _; omega⟩
  have hab : rows.map MR.mv = fM0 a k := by
    rw [hrows, hr0]
    unfold rowsJ fM0
    rw [List.map_append, List.map_cons, List.map_replicate]; rfl
  refine S8.var (K := kPl) fun b h7 S9 _ => ?_
  have S9 : SS h h7 [varP kPl b ⟨s', 0⟩, ownP kMv s' (rows.map (·.v)), rbagP rows, runP q (AS.new 2, [])] := S9.perm ((List.Perm.swap _ _ _).cons _)
  refine run_add' (n := 0) rfl o0 (by decide) hro S9 fun h8 S10 => ?_
  refine jn_q (fun (_ : Unit) h' => ∃ W : WS, W.Ok 0 0 ∧ W.1.J ∧ W.1 = f0 o ∧ (∀ i, i < o + 1 → (W.2.map PLY.ab)[i]? = some (0, fMs (fM0 a k) i)) ∧ W.2.length = o + 1 ∧ SS h h' [runP q W]) (fun K hK => ?_) ?_
  · refine for0 (mk := fun (_ : Unit) i => i) (s := ()) (n := o) (by omega) (fun j _ h' => ∃ W : WS, W.Ok 0 0 ∧ W.1.J ∧ W.1 = f0 j ∧ (∀ i, i < j + 1 → (W.2.map PLY.ab)[i]? = some (0, fMs (fM0 a k) i)) ∧ W.2.length = j + 1 ∧ SS h h' [runP q W]) ⟨_, o0.add (by decide) (Nat.le_refl _), (AS.J.new 2).add, rfl, fun i hi => ?_, rfl, S10⟩ (fun j _ h' K2 hj hI next done => ?_) (fun _ h' K2 hI done => ?_)
    · have : i = 0 := by omega
      subst this
      show some ((0 : Nat), rows.map MR.mv) = some (0, fM0 a k)
      rw [hab]
    · obtain ⟨W, oW, jW, eW, hI, hl, S11⟩ := hI
      unfold spatelaw12_SchedFaults.b3
      refine ite_t (clt_t hj) (bs_own (K := kLk) [⟨1, true⟩] rfl rfl fun x5 h9 o9 hl9 e9 z9 => ?_)
      have S12 := S11.made e9 (o9.mono fun b hb => by omega)
      refine bs_own (K := kMv) [⟨2, x5, 0, Sl.nil⟩] rfl rfl fun x6 h10 o10 hl10 e10 z10 => ?_
      have S13 := S12.made e10 (o10.mono fun b hb => by omega)
      have S13 : SS h h10 [ownP kMv x6 [⟨2, x5, 0, Sl.nil⟩], ownP kLk x5 [⟨1, true⟩], runP q W] := S13
      have S14 : SS h h10 [rbagP [⟨⟨2, x5, 0, Sl.nil⟩, [⟨1, true⟩], []⟩], ownP kMv x6 [⟨2, x5, 0, Sl.nil⟩], runP q W] := by
        have T := ((rbagP.nil S13).front 2 rfl).made (Ext.refl h10) (Own.nil (kI .i64) h10 (fun b => h10.size ≤ b))
        exact rbagP.add (r := ⟨⟨2, x5, 0, Sl.nil⟩, [⟨1, true⟩], []⟩) (rows := []) T
      refine S14.var (K := kPl) fun b2 h11 S15 _ => ?_
      have S15 : SS h h11 [varP kPl b2 ⟨x6, 0⟩, ownP kMv x6 ([(⟨⟨2, x5, 0, Sl.nil⟩, [⟨1, true⟩], []⟩ : MR)].map (·.v)), rbagP [⟨⟨2, x5, 0, Sl.nil⟩, [⟨1, true⟩], []⟩], runP q W] := S15.perm ((List.Perm.swap _ _ _).cons _)
      have hWl : W.1.ts.length = j + 1 := by rw [oW.l]; exact hl
      refine run_add oW (by omega) ⟨by show 1 ≤ _; omega, fun r hr => by obtain rfl := List.mem_singleton.1 hr; exact ⟨by show 1 ≤ _; omega, by show 0 ≤ _; omega⟩⟩ S15 fun h12 S16 => next () h12 ⟨_, oW.add (by omega) (Nat.le_refl _), jW.add, ?_, fun i hi => ?_, by simp [WS.add, hl], S16⟩
      · show W.1.add = _
        rw [f0_succ, eW]
      · show ((W.2 ++ [_]).map PLY.ab)[i]? = _
        rw [List.map_append]
        rcases Nat.lt_or_ge i (j + 1) with c | c
        · rw [List.getElem?_append_left (by simp; omega)]; exact hI i c
        · have : i = j + 1 := by omega
          subst this
          rw [List.getElem?_append_right (by simp; omega), List.length_map, hl, Nat.sub_self]; rfl
    · unfold spatelaw12_SchedFaults.b3
      exact ite_f (clt_f (Nat.lt_irrefl _)) (done _ _ (hK _ _ hI))
  rintro _ h9 ⟨W, oW, jW, eW, hI, hl, S11⟩
  obtain ⟨er, jr⟩ := round_all oW jW
  have hrd := (fd3 o ho).1
  rw [← eW] at hrd
  rw [hrd] at er jr
  obtain ⟨f1, f2⟩ := first_round ho eW (m0 := fM0 a k) rfl hI o (Nat.le_refl o)
  refine run_round oW (by omega) (by omega) S11 fun h10 S12 => ?_
  have oV := oW.round
  have eV : (roundW W).1 = stepsW W ((List.range (o + 1)).map fun i : Nat => (i : Int)) := by rw [er]
  rw [← eV] at f1 f2 jr
  generalize (roundW W).1 = V at S12 oV f1 f2 jr
  have f2 := f2 0 (by omega)
  have f2 : (V.2.map PLY.ab)[0]? = some (1, fM0 a k) := by rw [f2]; rfl
  have hrv : readyT V.1.ts = [0] := by rw [f1]; exact (fd3 o ho).2
  refine run_ready oV S12 fun r7 h11 S13 => ?_
  have hr7 := ownP.len (K := kI .i64) S13 0 rfl
  rw [hrv] at hr7
  refine ite_f (by rw [hr7]; rfl) ?_
  have S14 : SS h h11 [runP q V] := S13.tail
  refine jn_q (fun (_ : Unit) h' => ∃ U : WS, U.Ok 1000 1000 ∧ U.1.J ∧ U.1 = (fS o o).endT 0 (fFl k) ∧ SS h h' [runP q U]) (fun K hK => ?_) ?_
  · refine for0 (mk := fun (_ : Unit) i => i) (s := ()) (n := a + 1) (by omega) (fun i _ h' => ∃ U : WS, U.Ok (400 + i) (400 + i) ∧ U.1.J ∧ (i ≤ a → U.1 = fS o o ∧ (U.2.map PLY.ab)[0]? = some (1 + i, fM0 a k)) ∧ (i = a + 1 → U.1 = (fS o o).endT 0 (fFl k)) ∧ SS h h' [runP q U]) ⟨V, oV.mono (by omega) (by omega), jr, fun _ => ⟨f1, f2⟩, fun c => by omega, S14⟩ (fun i _ h' K2 hi hI next done => ?_) (fun _ h' K2 hI done => ?_)
    · obtain ⟨U, oU, jU, c1, _, S15⟩ := hI
      obtain ⟨c1, c2⟩ := c1 (by omega)
      unfold spatelaw12_SchedFaults.b2
      refine ite_t (by rw [decide_eq_true_eq]; omega) (jn_q (fun (s : Bool) h' => s = false ∧ SS h h' [runP q U]) (fun K3 hK3 => ?_) ?_)
      · refine run_state oU 0 S15 fun h12 S16 => ite_f (by rw [c1, (fd5 o ho).1]; rfl) (run_fault oU 0 S16 fun v h13 S17 hv => ?_)
        rw [c1, (fd5 o ho).2] at hv
        rcases hv with ⟨_, rfl⟩ | ⟨hv, _⟩
        · exact hK3 _ _ ⟨rfl, S17⟩
        · exact absurd rfl hv
      · rintro _ h12 ⟨rfl, S16⟩
        refine ite_f rfl (run_pick oU (by omega) (by omega) 0 S16 (fun hz => ?_) fun t ht hr h13 S17 => ?_)
        · rw [c1, (fd3 o ho).2] at hz; exact absurd hz (by simp)
        · rw [c1, (fd3 o ho).2] at hr
          have ht0 : t = 0 := by
            have h1 : ([0] : List Int)[pickI 0 1]? = some 0 := rfl
            have hr : ([0] : List Int)[pickI 0 1]? = some (t : Int) := hr
            rw [h1] at hr
            have := Option.some.inj hr; omega
          subst ht0
          have hrdy : rdyB U.1.ts 0 = true := by
            have hmem : (0 : Int) ∈ readyT U.1.ts := by rw [c1, (fd3 o ho).2]; simp
            obtain ⟨n, e, hn⟩ := ready_rdy hmem
            have : n = 0 := by omega
            rw [this] at hn; exact hn
          have jU' := (WS.step_Q oU jU hrdy).2
          have oU' := oU.step (n := 0) (by rw [oU.l]; exact ht)
          refine next () h13 ⟨U.step 0, oU'.mono (by omega) (by omega), jU', fun c => ⟨?_, ?_⟩, fun c => ?_, S17⟩
          · show U.1.step 0 (mvAtL U.2 0) = _
            rw [mvAt_ab c2, fM0_go (by omega), step_go, c1]
          · show ((bump U.2 0).map PLY.ab)[0]? = _
            rw [bump_ab_at c2]; rfl
          · show U.1.step 0 (mvAtL U.2 0) = _
            have c4 : U.1 = fS o o := c1
            have : i = a := by omega
            subst this
            rw [mvAt_ab c2, fM0_end, step_bad _ hk, c4]
    · obtain ⟨U, oU, jU, _, c2, S15⟩ := hI
      unfold spatelaw12_SchedFaults.b2
      exact ite_f (by rw [decide_eq_false_iff_not]; omega) (done _ _ (hK _ _ ⟨U, oU.mono (by omega) (by omega), jU, c2 rfl, S15⟩))
  rintro _ h12 ⟨U, oU, jU, eU, S15⟩
  have hts : U.1.ts = fE o (fFl k) := by
    rw [eU]
    rcases fFl_or k with e | e <;> rw [e]
    · exact (fd4 o ho).1
    · exact (fd4 o ho).2.1
  have hrd : readyT U.1.ts = (List.range o).map (fun i : Nat => ((i + 1 : Nat) : Int)) := by
    rw [hts]
    rcases fFl_or k with e | e <;> rw [e]
    · exact (fd4 o ho).2.2.1
    · exact (fd4 o ho).2.2.2
  have h0s : stAt U.1.ts 0 = 4 ∧ flAt U.1.ts 0 = fFl k := by
    rw [hts]
    have := (fd6 o ho).1
    rcases fFl_or k with e | e <;> rw [e]
    · exact ⟨this.1, this.2.1⟩
    · exact ⟨this.2.2.1, this.2.2.2⟩
  have his : ∀ i, i < o → stAt U.1.ts ((i + 1 : Nat) : Int) = 1 ∧ flAt U.1.ts ((i + 1 : Nat) : Int) = 0 := fun i hi => by
    rw [hts]
    have := (fd6 o ho).2 i hi
    rcases fFl_or k with e | e <;> rw [e]
    · exact this.1
    · exact this.2
  refine jn_q (fun (w : IF) h' => w = some (26, .int .i64 (fFl k)) ∧ h' = h12) (fun K hK => ?_) ?_
  · by_cases c : isPan k = true
    · have hc : -103 ≤ k ∧ k ≤ -99 := by unfold isPan at c; simpa using c
      have ef : fFl k = 42 := by unfold fFl; rw [if_pos c]
      refine jn_c' false h12 (fun K2 hK2 => ite_f (by rw [decide_eq_false_iff_not]; omega) ?_) (ite_f rfl (hK _ _ ⟨by rw [ef], rfl⟩))
      have e : decide (k < -103) = false := by rw [decide_eq_false_iff_not]; omega
      rw [e]; exact hK2
    · have ef : fFl k = 15 := by unfold fFl; rw [if_neg c]
      have hc : ¬ (-103 ≤ k ∧ k ≤ -99) := by unfold isPan at c; simpa using c
      refine jn_c' true h12 (fun K2 hK2 => ite_b (fun _ => hK2) (fun d => ?_)) (ite_t rfl (hK _ _ ⟨by rw [ef], rfl⟩))
      have d : ¬ k > -99 := by rw [decide_eq_false_iff_not] at d; exact d
      have e : decide (k < -103) = true := by rw [decide_eq_true_eq]; omega
      rw [e]; exact hK2
  rintro _ _ ⟨rfl, rfl⟩
  refine jn_q (fun (s : Bool) h' => s = false ∧ SS h h' [runP q U]) (fun K hK => ?_) ?_
  · refine run_state oU 0 S15 fun h13 S16 => ite_f (by rw [h0s.1]; rfl) (run_fault oU 0 S16 fun v h14 S17 hv => ?_)
    rw [h0s.2] at hv
    have hne : fFl k ≠ 0 := by rcases fFl_or k with e | e <;> rw [e] <;> decide
    rcases hv with ⟨hv, _⟩ | ⟨_, _, hv⟩
    · exact absurd hv hne
    · refine ⟨_, _, hv, rfl, ite_f (by simp) (run_ready oU S17 fun s2 h15 S18 => ?_)⟩
      have hs2 := ownP.len (K := kI .i64) S18 0 rfl
      rw [hrd] at hs2
      have : ((s2.len : Int) != (o : Int)) = false := by rw [hs2]; simp
      rw [this]
      exact hK _ _ ⟨rfl, S18.tail⟩
  rintro _ h13 ⟨rfl, S16⟩
  refine ite_f rfl (jn_q (fun (_ : Unit) h' => SS h h' [runP q U]) (fun K hK => ?_) ?_)
  · refine forG (mk := fun (_ : Unit) i => i) (s := ()) (i0 := 1) (n := o + 1) (by omega) (by omega) (fun i _ h' => SS h h' [runP q U]) S16 (fun i _ h' K2 hi1 hi S17 next done => ?_) (fun _ h' K2 S17 done => ?_)
    · unfold spatelaw12_SchedFaults.b1
      obtain ⟨c1, c2⟩ := his (i - 1) (by omega)
      rw [Nat.sub_add_cancel hi1] at c1 c2
      refine ite_t (by rw [decide_eq_true_eq]; omega) (jn_q (fun (s : Bool) h' => s = false ∧ SS h h' [runP q U]) (fun K3 hK3 => ?_) ?_)
      · refine run_state oU (i : Int) S17 fun h14 S18 => ite_f (by rw [c1]; rfl) (run_fault oU (i : Int) S18 fun v h15 S19 hv => ?_)
        rw [c2] at hv
        rcases hv with ⟨_, rfl⟩ | ⟨hv, _⟩
        · exact hK3 _ _ ⟨rfl, S19⟩
        · exact absurd rfl hv
      · rintro _ h14 ⟨rfl, S18⟩
        exact ite_f rfl (next () h14 S18)
    · unfold spatelaw12_SchedFaults.b1
      exact ite_f (by rw [decide_eq_false_iff_not]; omega) (done _ _ (hK _ _ S17))
  intro _ h14 S17
  refine run_round oU (by omega) (by omega) S17 fun h15 S18 => ⟨?_, SS.e S18⟩
  have := (round_all oU jU).1
  rw [this, hrd]
  simp
end Go.Proofs.Ytomngllmnhdmlaa
