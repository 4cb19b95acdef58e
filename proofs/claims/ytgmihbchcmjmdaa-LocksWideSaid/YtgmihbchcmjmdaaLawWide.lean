/- LocksWide, over the heap. -/
import Derived.Test.YtgmihbchcmjmdaaLkW3
import Derived.Test.YtgmihbchcmjmdaaLkJ2
namespace Go.Proofs.Ytgmihbchcmjmdaa
open Go Go.Tr
set_option linter.unusedVariables false
structure WI (A : AM) (N : Nat) (Ls : List AK) (j : Nat) : Prop where
  ok : A.Ok 20
  lk : A.locks = N
  R : Rel A Ls
  n : Ls.length + j ≤ 20
  m : ∀ a ∈ Ls, Ris a.l ∧ a.l.length ≤ 1024
section
variable {h0 h : H} {m N : Nat}
theorem WI.mm {A : AM} {Ls : List AK} {j : Nat} (w : WI A N Ls j) : ∀ a ∈ Ls, a.l.length ≤ 1000000 := fun a ha => by have := (w.m a ha).2; omega
/-- The asks, made. -/
theorem wide_asks {p1 p2 p3 : Sl} {fs bys ss : List Int} (Rf : Rds (kI .i64) h0 p1 fs) (Rb : Rds (kI .i64) h0 p2 bys) (Rs : Rds (kI .i64) h0 p3 ss) (hb : 0 < bys.length) (hs : 0 < ss.length) (hN : 1 ≤ N) (hN2 : N ≤ 1024)
    (S : SS h0 h [mgrP m (AM.new N), ownP kAsk Sl.nil (([] : List AK).map arow), abagP []]) {Q : Sl ⊕ Bool → H → Prop}
    (kq : ∀ s A Ls h', WI A N Ls 0 → SS h0 h' [mgrP m A, ownP kAsk s (Ls.map arow), abagP Ls] → Q (.inl s) h') : loopE (spatelaw11_LocksWide.b5 (N : Int) p1 p2 p3 (some ⟨m, 0, none⟩)) (Sl.nil, 0) h Q := by
  have zf := Rf.len
  have zb := Rb.len
  refine for0 (mk := fun (s : Sl) i => (s, i)) (s := Sl.nil) (n := min fs.length 20) (by omega) (fun j s h' => ∃ (A : AM) (Ls : List AK), A.Ok j ∧ A.locks = N ∧ Rel A Ls ∧ Ls.length ≤ j ∧ (∀ a ∈ Ls, Ris a.l ∧ a.l.length ≤ 1024 ∧ a.t < 1000 + (j : Int)) ∧ SS h0 h' [mgrP m A, ownP kAsk s (Ls.map arow), abagP Ls]) ⟨_, [], AM.Ok.new hN hN2, rfl, Rel.new _, Nat.le_refl _, by simp, S⟩ (fun j s h' K hj hI next done => ?_) (fun s h' K hI done => ?_)
  · obtain ⟨A, Ls, ok, hlk, R, hL, hm, S⟩ := hI
    have hmm : ∀ a ∈ Ls, a.l.length ≤ 1000000 := fun a ha => by have := (hm a ha).2.1; omega
    unfold spatelaw11_LocksWide.b5
    have hjx : j < fs.length := by omega
    refine jn_c true h' (fun K6 hK => ite_t (by rw [zf]; exact clt_t hjx) ?_) (ite_t rfl (jn_i ?_))
    · rw [show decide ((j : Int) < 20) = true by rw [decide_eq_true_eq]; omega]; exact hK
    have hrem : remI (j : Int) (p2.len : Int) = some ((j % bys.length : Nat) : Int) := by rw [zb]; exact rem_ix hb
    refine rd_some hrem ((Rb.ext (SS.e S)).elt0 (i := j % bys.length) (Nat.mod_lt _ hb) rfl ?_)
    refine within_go (by decide) (by decide) fun r hr0 hr1 => ?_
    have hw : IntKind.i64.wrap (1 + r) = 1 + r := wrap64_id (by omega) (by omega)
    rw [hw]
    refine jn_i ((Rf.ext (SS.e S)).elt0 hjx rfl (within_go (by omega) (by omega) fun k0 hk0 hk1 => ?_))
    refine wide_set hN2 S Rs hs hk0 hk1 (by omega) (by omega) fun s' l h1 S1 hr hx hne hll => ?_
    have hok : okSet A.locks l = true := okSet_iff.2 ⟨hne, by rw [List.all_eq_true, hlk]; exact hx, ris_nod hr⟩
    have R1 := ownP.rds (K := kLk) S1 0 rfl
    have hwt : IntKind.i64.wrap (1000 + (j : Int)) = 1000 + (j : Int) := wrap64_id (by omega) (by omega)
    have hfind : (Ls.any fun a => a.t == 1000 + (j : Int)) = false := by
      rw [List.any_eq_false]
      intro a ha e
      have := (hm a ha).2.2
      rw [beq_iff_eq] at e; omega
    have h0' : (A.ask (1000 + (j : Int)) l).1.2 = 0 := by
      have hf := R.find (1000 + (j : Int))
      rw [hfind] at hf
      unfold AM.ask
      rw [if_neg (by rw [hok]; simp; omega), if_neg (by rw [← hf]; simp)]
      split <;> rfl
    have hst := (R.ask Sl.nil h0').2.1
    refine jn_c (Ls.any fun a => conf a.l l) h1 (fun K7 hK7 => ?_) ?_
    · have RA := rdA S1 2 3 rfl rfl (by omega) hmm
      have hsl := RA.rows.len
      rw [List.length_map] at hsl
      refine for0 (mk := fun (st : Bool) i => (st, i)) (s := false) (n := Ls.length) (by omega) (fun i st h' => h' = h1 ∧ st = (Ls.take i).any fun a => conf a.l l) ⟨rfl, rfl⟩ (fun i st h4 K8 hi hI next2 done2 => ?_) (fun st h4 K8 hI done2 => ?_)
      · obtain ⟨rfl, rfl⟩ := hI
        unfold spatelaw11_LocksWide.b6
        refine ite_t (by rw [hsl]; exact clt_t hi) (jn_c ((Ls.take (i + 1)).any fun a => conf a.l l) h4 (fun K9 hK9 => ?_) (next2 _ _ ⟨rfl, rfl⟩))
        rw [any_take _ hi] at hK9
        refine ite_b (fun c => ?_) (fun c => ?_)
        · have c : ((Ls.take i).any fun a => conf a.l l) = true := c
          rw [c, Bool.true_or] at hK9; exact hK9
        · have c : ((Ls.take i).any fun a => conf a.l l) = false := c
          rw [c, Bool.false_or] at hK9
          refine RA.rows.elt fq_l (i := i) (by rw [List.length_map]; exact hi) rfl ?_
          rw [List.getElem_map]
          have := hm _ (List.getElem_mem hi)
          exact meets_spec (RA.sets _ (List.getElem_mem hi)) R1 this.1 hr (by omega) (by omega) hK9
      · obtain ⟨rfl, rfl⟩ := hI
        unfold spatelaw11_LocksWide.b6
        refine ite_f (by rw [hsl]; exact clt_f (Nat.lt_irrefl _)) (done2 _ _ ?_)
        rw [List.take_length]; exact hK7
    · show locks_Manager_Ask _ (IntKind.i64.wrap (1000 + (j : Int))) _ _ _
      rw [hwt]
      refine S1.go1 1 rfl (ask_spec ok (by omega) (t := 1000 + (j : Int)) R1 (by omega)) fun v h3 S3 => ?_
      have S3 : SS h0 h3 (errP v (A.ask (1000 + (j : Int)) l).1.2 :: ownP kLk s' l :: [mgrP m (A.ask (1000 + (j : Int)) l).2, ownP kAsk s (Ls.map arow), abagP Ls]) := S3
      have hn := errP.nil S3 0 rfl
      rw [decide_eq_true h0'] at hn
      refine jn_c false h3 (fun K9 hK9 => ite_f (by rw [hn]; rfl) ?_) (ite_f rfl ?_)
      · have e : ((A.ask (1000 + (j : Int)) l).1.1 == (Ls.any fun a => conf a.l l)) = false := by rw [hst]; cases (Ls.any fun a => conf a.l l) <;> rfl
        show K9 ((A.ask (1000 + (j : Int)) l).1.1 == (Ls.any fun a => conf a.l l)) h3
        rw [e]; exact hK9
      · refine ownP.push (K := kAsk) (by decide) S3 3 rfl (arow ⟨1000 + (j : Int), s', l, (A.ask (1000 + (j : Int)) l).1.1⟩) (by simp; omega) (by simp; omega) fun x10 h6 S6 => ?_
        have S6 : SS h0 h6 (errP v (A.ask (1000 + (j : Int)) l).1.2 :: ownP kLk s' l :: [mgrP m (A.ask (1000 + (j : Int)) l).2, ownP kAsk x10 (Ls.map arow ++ [arow ⟨1000 + (j : Int), s', l, (A.ask (1000 + (j : Int)) l).1.1⟩]), abagP Ls]) := S6
        have S7 := abagP.add (a := ⟨1000 + (j : Int), s', l, (A.ask (1000 + (j : Int)) l).1.1⟩) (S6.tail.front 3 rfl).swap
        refine next x10 h6 ⟨_, Ls ++ [⟨1000 + (j : Int), s', l, (A.ask (1000 + (j : Int)) l).1.1⟩], ok.ask _ _, ?_, (R.ask s' h0').2.2, by simp; omega, fun a ha => ?_, ?_⟩
        · rw [← hlk]; unfold AM.ask; split <;> (try rfl); split <;> (try rfl); split <;> rfl
        · rcases List.mem_append.1 ha with ha | ha
          · have := hm a ha
            exact ⟨this.1, this.2.1, by omega⟩
          · obtain rfl := List.mem_singleton.1 ha
            refine ⟨hr, hll, ?_⟩
            show 1000 + (j : Int) < _
            omega
        · rw [List.map_append]; exact S7.rot
  · obtain ⟨A, Ls, ok, hlk, R, hL, hm, S⟩ := hI
    unfold spatelaw11_LocksWide.b5
    refine jn_c false h' (fun K6 hK => ite_b (fun c => ?_) (fun c => hK)) (ite_f rfl (done _ _ (kq s A Ls h' ⟨ok.mono (by omega), hlk, R, by omega, fun a ha => ⟨(hm a ha).1, (hm a ha).2.1⟩⟩ S)))
    rw [decide_eq_true_eq] at c
    rw [show decide (((min fs.length 20 : Nat) : Int) < 20) = false by rw [decide_eq_false_iff_not]; omega]; exact hK
end
end Go.Proofs.Ytgmihbchcmjmdaa
