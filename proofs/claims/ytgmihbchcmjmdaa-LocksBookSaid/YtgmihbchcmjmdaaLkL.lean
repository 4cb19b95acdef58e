/- The statements' own helpers. -/
import Derived.Test.YtgmihbchcmjmdaaRefM2
import Derived.Test.YtgmihbchcmjmdaaG0
import Derived.Test.YtgmihbchcmjmdaaG1
namespace Go.Proofs.Ytgmihbchcmjmdaa
open Go Go.Tr
set_option linter.unusedVariables false
theorem eq32_self (x : Lk) : eq32 x x = true := by unfold eq32; simp
section
variable {F0 : Nat → Prop} {h0 h : H} {b : Nat} {A : AM} {B : Nat} {Rs Ps : List HP}
theorem same_ints {s t : Sl} {xs : List Int} (R : Rds (kI .i64) h s xs) (R2 : Rds (kI .i64) h t xs) (hl : xs.length < 4611686018427387904) {Q : Bool → H → Prop} (k : Q true h) : spatelaw11_SameInts s t h Q := by
  unfold spatelaw11_SameInts
  have h1 := R.len
  have h2 := R2.len
  refine ite_f (by rw [h1, h2]; simp) (jn_i ?_)
  refine for0 (mk := fun (_ : Unit) i => i) (s := ()) hl (fun j _ h' => h' = h) rfl (fun j _ h' K hj e next done => ?_) (fun _ h' K e done => ?_)
  · subst e
    unfold spatelaw11_SameInts.b1
    exact ite_t (by rw [h1]; exact clt_t hj) (R.elt0 hj rfl (R2.elt0 hj rfl (ite_f (by simp) (next () _ rfl))))
  · subst e
    unfold spatelaw11_SameInts.b1
    exact ite_f (by rw [h1]; exact clt_f (Nat.lt_irrefl _)) (done _ _ k)
theorem same_locks {s t : Sl} {xs : List Lk} (R : Rds kLk h s xs) (R2 : Rds kLk h t xs) (hl : xs.length < 4611686018427387904) {Q : Bool → H → Prop} (k : Q true h) : spatelaw11_SameLocks s t h Q := by
  unfold spatelaw11_SameLocks
  have h1 := R.len
  have h2 := R2.len
  refine ite_f (by rw [h1, h2]; simp) (jn_i ?_)
  refine for0 (mk := fun (_ : Unit) i => i) (s := ()) hl (fun j _ h' => h' = h) rfl (fun j _ h' K hj e next done => ?_) (fun _ h' K e done => ?_)
  · subst e
    unfold spatelaw11_SameLocks.b1
    exact ite_t (by rw [h1]; exact clt_t hj) (R.elt0 hj rfl (R2.elt0 hj rfl (ite_f (by rw [eq32_self]; rfl) (next () _ rfl))))
  · subst e
    unfold spatelaw11_SameLocks.b1
    exact ite_f (by rw [h1]; exact clt_f (Nat.lt_irrefl _)) (done _ _ k)
theorem is_spec (S : SG F0 h0 h Ps) (i : Nat) {v : IF} {n : Int} (hi : Ps[i]? = some (errP v n)) {Q : Bool → H → Prop} (k : Q true h) : spatelaw11_is v n h Q := by
  unfold spatelaw11_is
  rcases errP.is S i hi with ⟨rfl, rfl⟩ | ⟨hn, hv, he⟩
  · exact ite_t rfl k
  · refine ite_f (by simpa using hn) (jn_c true h (fun K hK => ite_t (by rw [hv]; rfl) ⟨n, n, he, rfl, ?_⟩) k)
    rw [beq_self_eq_true]; exact hK
theorem cut_spec {g : H} {s : Sl} {l : List Lk} (R : Rds kLk g s l) (hl : l.length < 4611686018427387904) {Q : Sl → H → Prop} (k : ∀ s', Rds kLk g s' (l.take 40) → Q s' h) : spatelaw11_set s h Q := by
  unfold spatelaw11_set
  have h1 := R.len
  refine ite_b (fun c => ?_) (fun c => ?_)
  · rw [decide_eq_true_eq] at c
    obtain ⟨s', hs, R', _⟩ := R.slx_hi (n := 40) (by omega) (w := 2) rfl
    exact rd_some hs (k s' R')
  · rw [decide_eq_false_iff_not] at c
    refine k s ?_
    rw [List.take_of_length_le (by omega)]; exact R
def mark (i : Nat) : Lk := ⟨-5 - (i : Int), false⟩
def full (l : List Lk) : List Lk := l ++ (List.range 3).map fun i => mark (l.length + i)
theorem full_len (l : List Lk) : (full l).length = l.length + 3 := by simp [full]
theorem full_hi {l : List Lk} {j : Nat} (h1 : l.length ≤ j) (h2 : j < (full l).length) : (full l)[j] = mark j := by
  simp only [full]
  rw [List.getElem_append_right h1, List.getElem_map, List.getElem_range]
  congr 1; omega
theorem full_lo {l : List Lk} {j : Nat} (h1 : j < l.length) (h2 : j < (full l).length) : (full l)[j] = l[j] := by
  simp only [full]
  rw [List.getElem_append_left h1]
theorem set_next {α : Type _} {l : List α} {z : α} {j m : Nat} (hj : j < l.length) (hm : j + (m + 1) = l.length) : (l.take j ++ List.replicate (m + 1) z).set j l[j] = l.take (j + 1) ++ List.replicate m z := by
  have hl : (l.take j).length = j := by simp; omega
  rw [List.set_append_right _ _ (by omega), hl, Nat.sub_self, List.replicate_succ, List.set_cons_zero, List.take_add_one, List.getElem?_eq_getElem hj]
  simp only [Option.toList_some, List.append_assoc, List.cons_append, List.nil_append]
theorem lend_spec (S : SG F0 h0 h Rs) {s : Sl} {l : List Lk} (R : Rds kLk h s l) (hl : l.length ≤ 1000000000) {Q : Sl → H → Prop}
    (k : ∀ L h', L.len = l.length + 3 → L.len ≤ L.cap → SG F0 h0 h' (ownP kLk L (full l) :: Rs) → Q ⟨L.a, l.length, L.cap⟩ h') : spatelaw11_lend s h Q := by
  unfold spatelaw11_lend
  have hs := R.len
  rw [wrap64_id (by omega) (by omega)]
  have e : (s.len : Int) + 3 = ((l.length + 3 : Nat) : Int) := by omega
  rw [e]
  refine mk_own (K := kLk) (by decide) (by omega) (by omega) fun L h1 eL o A e1 z1 => ?_
  have S1 : SG F0 h0 h1 (ownP kLk L (List.replicate (l.length + 3) zLk) :: Rs) := S.made e1 (o.mono fun b hb => by omega)
  have hL : L.len = l.length + 3 := by rw [eL]
  have hLc : L.len ≤ L.cap := by rw [eL]; exact Nat.le_refl _
  obtain ⟨h2, hc, S2⟩ := ownP.cpy S1 0 rfl (R.ext e1) (by simp) (n := 2) rfl
  refine rd_some hc ?_
  have S2' : SG F0 h0 h2 (ownP kLk L ((full l).take l.length ++ List.replicate (l.length + 3 - l.length) zLk) :: Rs) := by
    have e5 : (full l).take l.length ++ List.replicate (l.length + 3 - l.length) zLk = l ++ (List.replicate (l.length + 3) zLk).drop l.length := by simp [full]
    rw [e5]; exact S2
  refine jn_i ?_
  rw [hs]
  refine forG (mk := fun (_ : Unit) i => i) (s := ()) (i0 := l.length) (n := l.length + 3) (by omega) (by omega) (fun j _ h' => SG F0 h0 h' (ownP kLk L ((full l).take j ++ List.replicate (l.length + 3 - j) zLk) :: Rs)) S2' (fun j _ h' K h1 h2 S3 next done => ?_) (fun _ h' K S3 done => ?_)
  · unfold spatelaw11_lend.b1
    have hj : j < (full l).length := by rw [full_len]; exact h2
    obtain ⟨m, hm⟩ : ∃ m, l.length + 3 - j = m + 1 := ⟨l.length + 2 - j, by omega⟩
    obtain ⟨a, h4, ha, hst, S4⟩ := ownP.set (K := kLk) S3 0 rfl (j := j) (by simp [full_len]; omega) (full l)[j] (n := 2) rfl
    rw [full_hi h1 hj] at hst
    have em : (⟨IntKind.i64.wrap (-5 - (j : Int)), false⟩ : Lk) = mark j := by unfold mark; rw [wrap64_id (by omega) (by omega)]
    refine ite_t (by rw [hL]; exact clt_t h2) (rd_some ha ?_)
    rw [show (S31.mk (IntKind.i64.wrap (-5 - (j : Int))) false) = mark j from em]
    refine rd_some hst (next () _ ?_)
    rw [hm] at S4
    have S5 : SG F0 h0 h4 (ownP kLk L (((full l).take j ++ List.replicate (m + 1) zLk).set j (full l)[j]) :: Rs) := S4
    rw [set_next hj (by rw [full_len]; omega)] at S5
    rw [show l.length + 3 - (j + 1) = m by omega]; exact S5
  · unfold spatelaw11_lend.b1
    refine ite_f (by rw [hL]; exact clt_f (Nat.lt_irrefl _)) (done _ _ ?_)
    refine rd_some (slx_num (by omega)) (k L h' hL hLc ?_)
    rw [show l.length + 3 - (l.length + 3) = 0 by omega, List.replicate_zero, List.append_nil, List.take_of_length_le (by rw [full_len]; omega)] at S3
    exact S3
theorem kept_spec {L : Sl} {l : List Lk} (hL : L.len = l.length + 3) (hLc : L.len ≤ L.cap) (S : SG F0 h0 h (ownP kLk L (full l) :: Rs)) {s : Sl} (R : ∀ h', SG F0 h0 h' Rs → Rds kLk h' s l) (hl : l.length ≤ 1000000000) {Q : Bool → H → Prop}
    (k : ∀ h', SG F0 h0 h' Rs → Q true h') : spatelaw11_kept ⟨L.a, l.length, L.cap⟩ s h Q := by
  unfold spatelaw11_kept
  have hs := (R h S.tail).len
  rw [wrap64_id (by omega) (by omega)]
  have e2 : (s.len : Int) + 3 = ((l.length + 3 : Nat) : Int) := by omega
  have e3 : (⟨L.a, l.length + 3, L.cap⟩ : Sl) = L := by rw [← hL]
  rw [e2]
  refine rd_some (slx_num (w := 2) (s := ⟨L.a, l.length, L.cap⟩) (n := l.length + 3) (by show l.length + 3 ≤ L.cap; omega)) ?_
  show jn _ _
  rw [e3]
  refine jn_i ?_
  refine for0 (mk := fun (s : Bool) i => (s, i)) (s := true) (n := l.length + 3) (by omega) (fun j t h' => t = true ∧ ∃ zs : List Lk, zs.length = l.length + 3 ∧ zs.drop j = (full l).drop j ∧ SG F0 h0 h' (ownP kLk L zs :: Rs)) ⟨rfl, full l, full_len l, rfl, S⟩ (fun j t h' K hj hI next done => ?_) (fun t h' K hI done => ?_)
  · obtain ⟨rfl, zs, hz, hd, S1⟩ := hI
    have hjz : j < zs.length := by omega
    have hjf : j < (full l).length := by rw [full_len]; exact hj
    have ez : zs[j] = (full l)[j] := by
      rw [List.drop_eq_getElem_cons hjz, List.drop_eq_getElem_cons hjf] at hd
      exact (List.cons.inj hd).1
    have ed : zs.drop (j + 1) = (full l).drop (j + 1) := by
      rw [List.drop_eq_getElem_cons hjz, List.drop_eq_getElem_cons hjf] at hd
      exact (List.cons.inj hd).2
    have R0 := ownP.rds (K := kLk) S1 0 rfl
    unfold spatelaw11_kept.b1
    refine ite_t (by rw [hL]; exact clt_t hj) (jn_c true h' (fun K2 hK => ?_) ?_)
    · refine ite_b (fun c => ?_) (fun c => ?_)
      · have hjl : j < l.length := by
          have c : decide ((j : Int) < (s.len : Int)) = true := c
          rw [decide_eq_true_eq] at c; omega
        refine ite_t rfl (R0.elt0 hjz rfl ((R h' S1.tail).elt0 hjl rfl ?_))
        rw [ez, full_lo hjl hjf, eq32_self]; exact hK
      · have hjl : l.length ≤ j := by
          have c : decide ((j : Int) < (s.len : Int)) = false := c
          rw [decide_eq_false_iff_not] at c; omega
        refine ite_t rfl (R0.elt0 hjz rfl ?_)
        have em : (S31.mk (IntKind.i64.wrap (-5 - (j : Int))) false) = mark j := by unfold mark; rw [wrap64_id (by omega) (by omega)]
        show K2 (eq32 zs[j] (S31.mk (IntKind.i64.wrap (-5 - (j : Int))) false)) h'
        rw [em, ez, full_hi hjl hjf, eq32_self]; exact hK
    · refine R0.elt fk_s hjz rfl ?_
      obtain ⟨a, h4, ha, hst, S4⟩ := ownP.set (K := kLk) S1 0 rfl (j := j) hjz ⟨1, !zs[j].f1⟩ (n := 2) rfl
      refine rd_some ha (rd_some hst (next true _ ⟨rfl, _, by simpa using hz, ?_, S4⟩))
      rw [List.drop_set_of_lt (by omega)]; exact ed
  · obtain ⟨rfl, zs, hz, hd, S1⟩ := hI
    unfold spatelaw11_kept.b1
    exact ite_f (by rw [hL]; exact clt_f (Nat.lt_irrefl _)) (done _ _ (k h' S1.tail))
theorem queueL_len (ok : A.Ok B) : A.queueL.length ≤ B := by
  have := ok.b
  unfold AM.queueL; rw [List.length_map]; omega
theorem sortL_len2 (ok : A.Ok B) (t : Int) : (A.hasL t).length ≤ 1024 := by
  unfold AM.hasL
  have := ok.l2
  split
  · simp
  · rename_i i hf
    cases hc : A.has[i]? with
    | none => simp
    | some c =>
      have hn := okSet_nod (ok.ok c (List.mem_append_left _ (List.mem_of_getElem? hc)))
      have := sortL_le hn A.locks
      simp only; omega
theorem looks_spec (ok : A.Ok B) (hB : B ≤ 1000000000) {m r : Nat} (S : SG F0 h0 h (mgrP m A :: refP r A :: Rs)) (t : Int) {Q : Bool → H → Prop} (k : ∀ h', SG F0 h0 h' (mgrP m A :: refP r A :: Rs) → Q true h') :
    spatelaw11_looks (some ⟨m, 0, none⟩) (some ⟨r, 0, none⟩) t h Q := by
  unfold spatelaw11_looks
  have hql := queueL_len ok
  have hsl := sortL_len2 ok t
  refine SG.go1 S 1 rfl (rqueue_spec ok hB) fun q h1 S1 => ?_
  have S1 : SG F0 h0 h1 (ownP (kI .i64) q A.queueL :: mgrP m A :: refP r A :: Rs) := S1
  have Rq := ownP.rds (K := kI .i64) S1 0 rfl
  have hq := Rq.len
  refine jn_c (A.waits t) h1 (fun K hK => ?_) ?_
  · refine for0 (mk := fun (s : Bool) i => (s, i)) (s := false) (n := A.queueL.length) (by omega) (fun j s h' => h' = h1 ∧ s = (A.queueL.take j).any (· == t)) ⟨rfl, rfl⟩ (fun j s h' K2 hj hI next done => ?_) (fun s h' K2 hI done => ?_)
    · obtain ⟨rfl, rfl⟩ := hI
      unfold spatelaw11_looks.b1
      refine ite_t (by rw [hq]; exact clt_t hj) (jn_c ((A.queueL.take (j + 1)).any (· == t)) h' (fun K3 hK3 => ?_) (next _ _ ⟨rfl, rfl⟩))
      rw [any_take _ hj] at hK3
      refine ite_b (fun c => ?_) (fun c => ?_)
      · have c : (A.queueL.take j).any (· == t) = true := c
        rw [c, Bool.true_or] at hK3; exact hK3
      · have c : (A.queueL.take j).any (· == t) = false := c
        rw [c, Bool.false_or] at hK3
        exact Rq.elt0 hj rfl hK3
    · obtain ⟨rfl, rfl⟩ := hI
      unfold spatelaw11_looks.b1
      refine ite_f (by rw [hq]; exact clt_f (Nat.lt_irrefl _)) (done _ _ ?_)
      rw [List.take_length]
      have : A.queueL.any (· == t) = A.waits t := by unfold AM.queueL AM.waits; rw [findC_isSome, List.any_map]; rfl
      rw [this]; exact hK
  · refine jn_i ?_
    refine SG.go1 S1 1 rfl (has_spec ok hB t) fun hs h2 S2 => ?_
    have S2 : SG F0 h0 h2 (ownP kLk hs (A.hasL t) :: ownP (kI .i64) q A.queueL :: mgrP m A :: refP r A :: Rs) := S2
    refine rhas_spec ok hB t (S2.front 3 rfl) fun rs Rr => ?_
    refine same_locks (ownP.rds (K := kLk) S2 0 rfl) Rr (by omega) (ite_t rfl ?_)
    refine SG.go1 S2 2 rfl (waits_spec ok hB t) fun _ h3 S3 => ?_
    have S3 : SG F0 h0 h3 (ownP kLk hs (A.hasL t) :: ownP (kI .i64) q A.queueL :: mgrP m A :: refP r A :: Rs) := S3
    rw [beq_self_eq_true]
    refine ite_t rfl (SG.go1 S3 2 rfl (queue_spec ok hB) fun q2 h4 S4 => ?_)
    have S4 : SG F0 h0 h4 (ownP (kI .i64) q2 A.queueL :: ownP kLk hs (A.hasL t) :: ownP (kI .i64) q A.queueL :: mgrP m A :: refP r A :: Rs) := S4
    exact same_ints (ownP.rds (K := kI .i64) S4 0 rfl) (ownP.rds (K := kI .i64) S4 2 rfl) (by omega) (k h4 S4.tail.tail.tail)
end
end Go.Proofs.Ytgmihbchcmjmdaa
