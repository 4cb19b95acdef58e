/- LocksWide, over the heap: the turns. -/
import Derived.Test.YtgmihbchcmjmdaaLkW5
import Derived.Test.YtgmihbchcmjmdaaLkI
namespace Go.Proofs.Ytgmihbchcmjmdaa
open Go Go.Tr
set_option linter.unusedVariables false
section
variable {F0 : Nat → Prop} {h0 h : H} {Ps : List HP} {s : Sl} {Ls : List AK}
theorem wide_find {p9 : Option Addr} {p20 : Int} (R : Rds kAsk h s (Ls.map arow)) (hl : Ls.length ≤ 1000) (hx : ∃ k, ∃ hk : k < Ls.length, Ls[k].g = true) {Q : Int ⊕ Bool → H → Prop}
    (kq : ∀ (k : Nat) (hk : k < Ls.length), Ls[k].g = true → Q (.inl (k : Int)) h) : loopE (spatelaw11_LocksWide.b4 p9 s p20) 0 h Q := by
  obtain ⟨k0, hk0, hg0⟩ := hx
  have hlen := R.len
  rw [List.length_map] at hlen
  refine loopE_rule (fun μ (t : Int) h' => ∃ k : Nat, t = k ∧ k ≤ k0 ∧ μ = k0 - k ∧ h' = h) k0 ⟨0, rfl, by omega, by omega, rfl⟩ ?_
  rintro μ t h' K ⟨k, rfl, hk, rfl, rfl⟩ next done
  have hk' : k < (Ls.map arow).length := by rw [List.length_map]; omega
  unfold spatelaw11_LocksWide.b4
  refine R.elt fq_g hk' rfl ?_
  rw [List.getElem_map]
  refine ite_b (fun c => ?_) (fun c => done _ _ (kq k (by omega) ?_))
  · have c : Ls[k].g = false := by
      have c : (!Ls[k].g) = true := c
      simpa using c
    have hne : k ≠ k0 := by rintro rfl; rw [c] at hg0; cases hg0
    have hw : IntKind.i64.wrap ((k : Int) + 1) = ((k + 1 : Nat) : Int) := by rw [wrap64_id (by omega) (by omega)]; rfl
    refine ite_f (by rw [hw, hlen, beq_eq_false_iff_ne]; omega) (next _ _ _ (by omega) ⟨k + 1, hw, by omega, rfl, rfl⟩)
  · have c : (!Ls[k].g) = false := c
    simpa using c
end
section
variable {h0 h : H} {m N : Nat} {s : Sl}
theorem WI.fair {A : AM} {Ls : List AK} {j : Nat} (w : WI A N Ls j) (hne : Ls ≠ []) : ∃ k, ∃ hk : k < Ls.length, Ls[k].g = true := by
  have h0 : 0 < Ls.length := List.length_pos_iff.2 hne
  cases hg : Ls[0].g with
  | true => exact ⟨0, h0, hg⟩
  | false =>
    obtain ⟨k, hk, a, b, ha, hb, hne, hc, hw⟩ := w.R.fair.j2 0 _ (List.getElem?_eq_getElem h0) hg
    refine ⟨k, hk, ?_⟩
    rw [List.getElem?_eq_getElem hk] at hb
    cases hb
    exact hw.resolve_right (by omega)
/-- The turns. -/
theorem wide_turns {A : AM} {Ls : List AK} (w : WI A N Ls 0) (S : SS h0 h [mgrP m A, ownP kAsk s (Ls.map arow), abagP Ls]) {Q : Sl ⊕ Bool → H → Prop}
    (kq : ∀ s' A' h', A'.Ok 20 → A'.queue = [] → s'.len = 0 → SS h0 h' [mgrP m A'] → Q (.inl s') h') : loopE (spatelaw11_LocksWide.b1 (some ⟨m, 0, none⟩)) (s, 0) h Q := by
  refine for0 (mk := fun (s : Sl) i => (s, i)) (s := s) (n := 21) (by omega) (fun j s h' => ∃ A Ls, WI A N Ls j ∧ SS h0 h' [mgrP m A, ownP kAsk s (Ls.map arow), abagP Ls]) ⟨A, Ls, w, S⟩ (fun j s h1 K hj hI next done => ?_) (fun s h1 K hI done => ?_)
  · obtain ⟨A, Ls, w, S⟩ := hI
    have hn := w.n
    have hlen := ownP.len S 1 rfl
    rw [List.length_map] at hlen
    unfold spatelaw11_LocksWide.b1
    rcases List.eq_nil_or_concat Ls with rfl | hne
    · refine jn_c false h1 (fun K6 hK => ite_f (by rw [hlen]; rfl) hK) (ite_f rfl (done _ _ (kq s A h1 w.ok ?_ hlen (S.perm (List.Perm.refl _) |> fun S => (S.front 1 rfl).tail |> fun S => (S.front 1 rfl).tail))))
      have := w.R.q
      exact this.symm
    · have hne : Ls ≠ [] := by rintro rfl; obtain ⟨a, b, e⟩ := hne; cases a <;> cases e
      have h0' : 0 < Ls.length := List.length_pos_iff.2 hne
      refine jn_c true h1 (fun K6 hK => ite_t (by rw [hlen, decide_eq_true_eq]; omega) ?_) (ite_t rfl ?_)
      · have e : decide ((j : Int) < 50) = true := by rw [decide_eq_true_eq]; omega
        show K6 (decide ((j : Int) < 50)) h1
        rw [e]; exact hK
      refine jn_q (fun s' h' => ∃ A Ls, WI A N Ls (j + 1) ∧ SS h0 h' [mgrP m A, ownP kAsk s' (Ls.map arow), abagP Ls]) (fun K2 hK2 => jn_i ?_) fun s' h2 hI => next s' h2 hI
      have R1 := ownP.rds (K := kAsk) S 1 rfl
      refine wide_find R1 (by omega) (w.fair hne) fun k hk hg => ?_
      have hk' : k < (Ls.map arow).length := by rw [List.length_map]; exact hk
      have ha : Ls[k] ∈ Ls := List.getElem_mem hk
      show sumK _ _ (Sum.inl (k : Int)) h1
      refine R1.elt fq_task hk' rfl ?_
      obtain ⟨q, hq, hx⟩ := R1.ix hk' (n := 3) rfl
      refine rd_some hq (rd_some (ld_fld fq_l hx) ?_)
      rw [List.getElem_map]
      refine S.go1 0 rfl (has_spec w.ok (by decide) Ls[k].t) fun hs h2 S2 => ?_
      have S2 : SS h0 h2 (ownP kLk hs (A.hasL Ls[k].t) :: [mgrP m A, ownP kAsk s (Ls.map arow), abagP Ls]) := S2
      have R2 := ownP.rds (K := kAsk) S2 2 rfl
      obtain ⟨q', hq', hx'⟩ := R2.ix hk' (n := 3) rfl
      have hqq : q' = q := by rw [hq] at hq'; exact (Option.some.inj hq').symm
      subst hqq
      rw [List.getElem_map] at hx'
      refine ⟨ld_fld fq_l hx', ?_⟩
      have eh : A.hasL Ls[k].t = Ls[k].l := by rw [w.R.hasG ha hg, sort_ris (w.m _ ha).1 (w.R.okS w.ok ha)]
      have ml := (w.m _ ha).2
      refine same_locks (ownP.rds (K := kLk) S2 0 rfl) (by rw [eh]; exact abagP.is S2 3 rfl ha) (by rw [eh]; omega) (ite_f rfl ?_)
      refine R2.elt fq_task hk' rfl ?_
      rw [List.getElem_map]
      refine S2.go1 1 rfl (free_spec w.ok (by decide) Ls[k].t) fun g h3 S3 => ?_
      have S3 : SS h0 h3 (ownP (kI .i64) g.1 (A.free Ls[k].t).1.1 :: errP g.2 (A.free Ls[k].t).1.2 :: ownP kLk hs (A.hasL Ls[k].t) :: [mgrP m (A.free Ls[k].t).2, ownP kAsk s (Ls.map arow), abagP Ls]) := S3
      have hR := w.R.free hk hg
      have hnl := errP.nil S3 1 rfl
      rw [decide_eq_true hR.1] at hnl
      refine ite_f (by rw [hnl]; rfl) ?_
      refine awithout_spec S3 (ownP.rds (K := kAsk) S3 4 rfl) (by rw [List.length_map]; omega) hk' fun s4 h4 S4 => ?_
      rw [map_erase] at S4
      have S5 : SS h0 h4 (ownP (kI .i64) g.1 (A.free Ls[k].t).1.1 :: errP g.2 (A.free Ls[k].t).1.2 :: ownP kLk hs (A.hasL Ls[k].t) :: [mgrP m (A.free Ls[k].t).2, ownP kAsk s4 ((Ls.eraseIdx k).map arow), abagP Ls]) := SG.replace S4 4 (by show 4 < 6; omega)
      have S6 := abagP.sub S5 5 rfl (Ls' := Ls.eraseIdx k) fun a ha => ⟨a, List.mem_of_mem_eraseIdx ha, rfl, rfl⟩
      have S7 : SS h0 h4 (ownP kAsk s4 ((Ls.eraseIdx k).map arow) :: abagP (Ls.eraseIdx k) :: ownP (kI .i64) g.1 (A.free Ls[k].t).1.1 :: [errP g.2 (A.free Ls[k].t).1.2, ownP kLk hs (A.hasL Ls[k].t), mgrP m (A.free Ls[k].t).2]) := (SG.front (S6.front 4 rfl) 5 rfl).swap
      obtain ⟨x, e1, e2, e3, e4⟩ := w.R.dropH hk hg
      have ef : (A.free Ls[k].t).1.1 = (thr (A.has.eraseIdx x) [] A.queue).2.2 := by unfold AM.free; rw [e1]; rfl
      have hel : (Ls.eraseIdx k).length + 1 = Ls.length := by rw [List.length_eraseIdx, if_pos hk]; omega
      have hme : ∀ a ∈ Ls.eraseIdx k, Ris a.l ∧ a.l.length ≤ 1024 := fun a ha => w.m a (List.mem_of_mem_eraseIdx ha)
      refine jn_i (wide_want (nd_erase w.R.nd k) (by omega) hme e3 e2 S7 fun w' h5 S8 => ?_)
      rw [← ef] at S8
      have hTl : (A.free Ls[k].t).1.1.length ≤ Ls.length := by
        have h1 := hR.2.2.length_le
        have h2 := List.length_filter_le (fun a : AK => !a.g) (Ls.eraseIdx k)
        rw [List.length_map] at h1; omega
      refine same_ints (ownP.rds (K := kI .i64) S8 3 rfl) (ownP.rds (K := kI .i64) S8 0 rfl) (by omega) (ite_f rfl ?_)
      refine hK2 s4 h5 ⟨_, _, ⟨w.ok.free _, ?_, hR.2.1, by rw [List.length_map]; omega, fun a ha => ?_⟩, ((S8.tail.front 5 rfl).perm (List.Perm.refl _)) |> fun S9 => ?_⟩
      · rw [← w.lk]; unfold AM.free; rw [e1]; rfl
      · obtain ⟨b, hb, rfl⟩ := List.mem_map.1 ha
        have : (mkd (A.free Ls[k].t).1.1 b).l = b.l := by unfold mkd; split <;> rfl
        rw [this]; exact hme b hb
      · have S9 : SS h0 h5 (mgrP m (A.free Ls[k].t).2 :: ownP kAsk s4 (((Ls.eraseIdx k).map (mkd (A.free Ls[k].t).1.1)).map arow) :: abagP ((Ls.eraseIdx k).map (mkd (A.free Ls[k].t).1.1)) :: [ownP (kI .i64) g.1 (A.free Ls[k].t).1.1, errP g.2 (A.free Ls[k].t).1.2, ownP kLk hs (A.hasL Ls[k].t)]) := S9
        have S10 := (S9.perm (Qs := [ownP (kI .i64) g.1 (A.free Ls[k].t).1.1, errP g.2 (A.free Ls[k].t).1.2, ownP kLk hs (A.hasL Ls[k].t)] ++ [mgrP m (A.free Ls[k].t).2, ownP kAsk s4 (((Ls.eraseIdx k).map (mkd (A.free Ls[k].t).1.1)).map arow), abagP ((Ls.eraseIdx k).map (mkd (A.free Ls[k].t).1.1))]) (List.perm_append_comm (l₁ := [_, _, _])))
        exact S10.tail.tail.tail
  · obtain ⟨A, Ls, w, S⟩ := hI
    exact absurd w.n (by omega)
end
theorem wide_true (n : Int) (p1 p2 p3 : Sl) (fs bys ss : List Int) (h : H) (R1 : Rds (kI .i64) h p1 fs) (R2 : Rds (kI .i64) h p2 bys) (R3 : Rds (kI .i64) h p3 ss) : spatelaw11_LocksWide n p1 p2 p3 h fun r h' => r = true ∧ Ext h h' := by
  unfold spatelaw11_LocksWide
  have z1 := R1.len
  have z2 := R2.len
  have z3 := R3.len
  refine known_spec fun h1 e1 => ite_f rfl ?_
  refine within_go (by decide) (by decide) fun r hr0 hr1 => ?_
  have hw : IntKind.i64.wrap (1 + r) = 1 + r := wrap64_id (by omega) (by omega)
  rw [hw]
  refine new_spec (SS.nil e1) (fun hb => absurd hb (by omega)) fun g1 g2 m h2 S2 => ite_f rfl ?_
  have hN : ((1 + r).toNat : Int) = 1 + r := by omega
  by_cases hz : fs.length = 0 ∨ bys.length = 0 ∨ ss.length = 0
  · refine jn_c true h2 (fun K hK => ite_b (fun c => hK) (fun c => ite_b (fun c2 => hK) (fun c2 => ?_))) (ite_t rfl ⟨rfl, SS.e S2⟩)
    have c : ((p1.len : Int) == 0) = false := c
    have c2 : ((p2.len : Int) == 0) = false := c2
    rw [beq_eq_false_iff_ne] at c c2
    have e : ((p3.len : Int) == 0) = true := by rw [beq_iff_eq]; omega
    show K ((p3.len : Int) == 0) h2
    rw [e]; exact hK
  · refine jn_c false h2 (fun K hK => ite_f (by rw [beq_eq_false_iff_ne]; omega) (ite_f (by rw [beq_eq_false_iff_ne]; omega) ?_)) (ite_f rfl (jn_i ?_))
    · have e : ((p3.len : Int) == 0) = false := by rw [beq_eq_false_iff_ne]; omega
      show K ((p3.len : Int) == 0) h2
      rw [e]; exact hK
    have SA : SS h h2 [mgrP m (AM.new (1 + r).toNat), ownP kAsk Sl.nil (([] : List AK).map arow), abagP []] := by
      have Sa := S2.add (P := abagP []) (F1 := fun _ => False) ⟨by simp, fun _ h => h.elim⟩ (Ext.refl h2) fun _ h => h.elim
      exact (SG.made (Ps := [mgrP m (AM.new (1 + r).toNat), abagP []]) Sa.rot (Ext.refl h2) (Own.nil kAsk h2 _)).swap
    have hN2 : (1 + r).toNat ≤ 1024 := by omega
    have := wide_asks (N := (1 + r).toNat) R1 R2 R3 (by omega) (by omega) (by omega) hN2 SA (Q := sumK (fun r25 hh => jn (fun (k3 : Sl → H → Prop) =>
          loopE (spatelaw11_LocksWide.b1 (some ⟨m, 0, none⟩)) (r25, 0) hh (sumK (fun r16 hh => k3 r16 hh) (fun r17 hh => r17 = true ∧ Ext h hh))) fun s3 h6 =>
        jn (fun (k4 : Bool → H → Prop) =>
          if ((s3.len : Int) == 0) = true then
            locks_Manager_Queue (some ⟨m, 0, none⟩) h6 fun r4 h8 =>
            k4 ((r4.len : Int) == 0) h8
          else
            k4 false h6) fun s4 h7 => s4 = true ∧ Ext h h7) (fun r26 hh => r26 = true ∧ Ext h hh)) ?_
    · rw [hN] at this; exact this
    · intro s A Ls h' w S
      show jn _ _
      refine jn_i (wide_turns w S fun s' A' h3 ok hq hs S3 => ?_)
      show jn _ _
      refine jn_i (ite_t (by rw [hs]; rfl) ?_)
      refine S3.go1 0 rfl (queue_spec ok (by decide)) fun q h4 S4 => ?_
      have hr : q.len = A'.queueL.length := ownP.len (K := kI .i64) S4 0 rfl
      refine ⟨?_, SS.e S4⟩
      rw [hr]; unfold AM.queueL; rw [hq]; rfl
theorem wide_law (n : Int) (p1 : Sl) (fs : List Int) (p2 : Sl) (bys : List Int) (p3 : Sl) (ss : List Int) (h : H) (R1 : Rds (kI .i64) h p1 fs) (_ : ∀ y ∈ fs, (Lit.int .i64 y).wf = true) (_ : fs.length * 8 ≤ reachBytes) (R2 : Rds (kI .i64) h p2 bys) (_ : ∀ y ∈ bys, (Lit.int .i64 y).wf = true) (_ : bys.length * 8 ≤ reachBytes) (R3 : Rds (kI .i64) h p3 ss) (_ : ∀ y ∈ ss, (Lit.int .i64 y).wf = true) (_ : ss.length * 8 ≤ reachBytes) : spatelaw11_LocksWide n p1 p2 p3 h fun r h' => r = true ∧ Ext h h' := wide_true n p1 p2 p3 fs bys ss h R1 R2 R3
end Go.Proofs.Ytgmihbchcmjmdaa
