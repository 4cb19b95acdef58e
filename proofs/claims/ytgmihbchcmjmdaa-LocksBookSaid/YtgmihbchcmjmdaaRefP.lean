/- The document's manager: its looks. They read, and make new cells. -/
import Derived.Test.YtgmihbchcmjmdaaLkS
import Derived.Test.YtgmihbchcmjmdaaLkM
import Derived.Test.YtgmihbchcmjmdaaLoop
import Derived.Test.YtgmihbchcmjmdaaG1
import Derived.Test.YtgmihbchcmjmdaaG0
namespace Go.Proofs.Ytgmihbchcmjmdaa
open Go Go.Tr
set_option linter.unusedVariables false
abbrev RSet := S98
abbrev kRS : Kd RSet := k98
theorem fs_task : Fld kRS (kI .i64) 0 (·.f0) (fun x v => { x with f0 := v }) := (Fld.whole (kI .i64)).fst.iso
theorem fs_l : Fld kRS kL 1 (·.f1) (fun x v => { x with f1 := v }) := (Fld.whole kL).snd.iso
theorem any_take {α : Type _} (p : α → Bool) {l : List α} {j : Nat} (hj : j < l.length) : (l.take (j + 1)).any p = ((l.take j).any p || p l[j]) := by
  rw [List.take_add_one, List.getElem?_eq_getElem hj, Option.toList_some, List.any_append, List.any_cons, List.any_nil, Bool.or_false]
def tst (x y : Lk) : Bool := x.f0 == y.f0 && !(x.f1 && y.f1)
theorem conf_tst (a b : List Lk) : conf a b = a.any fun x => b.any (tst x) := rfl
section
variable {h : H}
theorem rconf_spec {a b : RSet} {la lb : List Lk} (Ra : Rds kLk h a.f1 la) (Rb : Rds kLk h b.f1 lb) (h1 : la.length < 4611686018427387904) (h2 : lb.length < 4611686018427387904) {Q : Bool → H → Prop} (k : ∀ h', Ext h h' → Q (conf la lb) h') : spateref11_conflict a b h Q := by
  unfold spateref11_conflict
  refine al_var fun b1 g1 eb1 V1 e1 z1 => al_var fun b2 g2 eb2 V2 e2 z2 => jn_i ?_
  have hx : ld kL ⟨b1, 1, none⟩ g2 = some a.f1 := ld_ext e2 (V1.ld fs_l)
  have hy : ld kL ⟨b2, 1, none⟩ g2 = some b.f1 := V2.ld fs_l
  have Ra := Ra.ext (e1.trans e2)
  have Rb := Rb.ext (e1.trans e2)
  refine for0 (mk := fun (_ : Unit) i => i) (s := ()) h1 (fun j _ g => g = g2 ∧ ((la.take j).any fun x => lb.any (tst x)) = false) ⟨rfl, by simp⟩ (fun j _ g K hj hI next done => ?_) (fun _ g K hI done => ?_)
  · obtain ⟨rfl, hI⟩ := hI
    unfold spateref11_conflict.b1
    refine rd_some (by rw [add_mk]; exact hx) (ite_t (by rw [Ra.len]; exact clt_t hj) (jn_i ?_))
    refine for0 (mk := fun (_ : Unit) i => i) (s := ()) h2 (fun i _ g' => g' = g ∧ ((lb.take i).any (tst la[j])) = false) ⟨rfl, by simp⟩ (fun i _ g' K2 hi hI2 next2 done2 => ?_) (fun _ g' K2 hI2 done2 => ?_)
    · obtain ⟨rfl, hI2⟩ := hI2
      unfold spateref11_conflict.b2
      refine rd_some (by rw [add_mk]; exact hy) (ite_t (by rw [Rb.len]; exact clt_t hi) ?_)
      refine jn_c (tst la[j] lb[i]) g' (fun K3 hK => ?_) ?_
      · unfold tst at hK
        refine rd_some (by rw [add_mk]; exact hx) (Ra.elt fk_n hj rfl (rd_some (by rw [add_mk]; exact hy) (Rb.elt fk_n hi rfl ?_)))
        refine ite_b (fun c => ?_) (fun c => ?_)
        · rw [c, Bool.true_and] at hK
          refine rd_some (by rw [add_mk]; exact hx) (Ra.elt fk_s hj rfl (ite_b (fun c2 => ?_) fun c2 => ?_))
          · rw [c2, Bool.true_and] at hK
            exact rd_some (by rw [add_mk]; exact hy) (Rb.elt fk_s hi rfl hK)
          · rw [c2, Bool.false_and] at hK
            exact hK
        · rw [c, Bool.false_and] at hK
          exact hK
      · refine ite_b (fun c => ?_) (fun c => ?_)
        · refine done2 _ _ (done _ _ ?_)
          have : conf la lb = true := List.any_eq_true.2 ⟨_, List.getElem_mem hj, List.any_eq_true.2 ⟨_, List.getElem_mem hi, c⟩⟩
          have k' := k _ (e1.trans e2)
          rw [this] at k'; exact k'
        · exact next2 () _ ⟨rfl, by rw [any_take _ hi, hI2, c]; rfl⟩
    · obtain ⟨rfl, hI2⟩ := hI2
      unfold spateref11_conflict.b2
      refine rd_some (by rw [add_mk]; exact hy) (ite_f (by rw [Rb.len]; exact clt_f (Nat.lt_irrefl _)) (done2 _ _ ?_))
      refine next () _ ⟨rfl, ?_⟩
      rw [List.take_length] at hI2
      rw [any_take _ hj, hI, hI2]; rfl
  · obtain ⟨rfl, hI⟩ := hI
    unfold spateref11_conflict.b1
    refine rd_some (by rw [add_mk]; exact hx) (ite_f (by rw [Ra.len]; exact clt_f (Nat.lt_irrefl _)) (done _ _ ?_))
    rw [List.take_length] at hI
    have k' := k _ (e1.trans e2)
    rw [conf_tst, hI] at k'; exact k'
theorem rconfs_spec {ι : Type} {g : ι → RSet} {f : ι → List Lk} {s : Sl} {xs : List ι} {x : RSet} {lx : List Lk} (R : Rds kRS h s (xs.map g)) (hl : xs.length < 4611686018427387904) (hx : Rds kLk h x.f1 lx) (hlx : lx.length < 4611686018427387904)
    (Rs : ∀ y ∈ xs, Rds kLk h (g y).f1 (f y) ∧ (f y).length < 4611686018427387904) {Q : Bool → H → Prop} (k : ∀ h', Ext h h' → Q (xs.any fun y => conf (f y) lx) h') : spateref11_conflicts s x h Q := by
  unfold spateref11_conflicts
  refine al_var fun b1 g1 eb1 V1 e1 z1 => jn_i ?_
  have hlen := R.len
  rw [List.length_map] at hlen
  refine for0 (mk := fun (_ : Unit) i => i) (s := ()) hl (fun j _ g' => Ext g1 g' ∧ ((xs.take j).any fun y => conf (f y) lx) = false) ⟨Ext.refl _, by simp⟩ (fun j _ g' K hj hI next done => ?_) (fun _ g' K hI done => ?_)
  · obtain ⟨ex, hI⟩ := hI
    have ex' := e1.trans ex
    have hw : ld kRS ⟨b1, 0, none⟩ g' = some x := ld_ext ex (V1.ld (Fld.whole kRS))
    unfold spateref11_conflicts.b1
    refine ite_t (by rw [hlen]; exact clt_t hj) ((R.ext ex').elt0 (i := j) (by rw [List.length_map]; exact hj) rfl (rd_some hw ?_))
    rw [List.getElem_map]
    have hy := Rs xs[j] (List.getElem_mem _)
    refine rconf_spec (hy.1.ext ex') (hx.ext ex') hy.2 hlx fun h2 e2 => ?_
    refine ite_b (fun c => ?_) (fun c => ?_)
    · refine done _ _ ?_
      have : (xs.any fun y => conf (f y) lx) = true := List.any_eq_true.2 ⟨_, List.getElem_mem hj, c⟩
      have k' := k _ (ex'.trans e2)
      rw [this] at k'; exact k'
    · exact next () _ ⟨ex.trans e2, by rw [any_take _ hj, hI, c]; rfl⟩
  · obtain ⟨ex, hI⟩ := hI
    unfold spateref11_conflicts.b1
    refine ite_f (by rw [hlen]; exact clt_f (Nat.lt_irrefl _)) (done _ _ ?_)
    rw [List.take_length] at hI
    have k' := k _ (e1.trans ex)
    rw [hI] at k'; exact k'
theorem rfind_spec {ι : Type} {g : ι → RSet} {s : Sl} {xs : List ι} (R : Rds kRS h s (xs.map g)) (hl : xs.length < 4611686018427387904) (t : Int) {Q : Int → H → Prop} (k : Q (pl (xs.findIdx? fun c => (g c).f0 == t)) h) : spateref11_find s t h Q := by
  unfold spateref11_find
  refine jn_i ?_
  have hlen := R.len
  rw [List.length_map] at hlen
  refine for0 (mk := fun (_ : Unit) i => i) (s := ()) hl (fun j _ g' => g' = h ∧ ∀ x ∈ xs.take j, ((g x).f0 == t) = false) ⟨rfl, by simp⟩ (fun j _ g' K hj hI next done => ?_) (fun _ g' K hI done => ?_)
  · obtain ⟨rfl, hI⟩ := hI
    unfold spateref11_find.b1
    refine ite_t (by rw [hlen]; exact clt_t hj) (R.elt fs_task (i := j) (by rw [List.length_map]; exact hj) rfl ?_)
    rw [List.getElem_map]
    refine ite_b (fun c => ?_) (fun c => ?_)
    · refine done _ _ ?_
      have : (xs.findIdx? fun c => (g c).f0 == t) = some j := by
        rw [List.findIdx?_eq_some_iff_getElem]
        refine ⟨hj, c, fun i hi => ?_⟩
        have := hI xs[i] (by rw [List.mem_take_iff_getElem]; exact ⟨i, by omega, rfl⟩)
        simp only [this]; simp
      rw [this] at k; exact k
    · refine next () _ ⟨rfl, fun x hx => ?_⟩
      rw [List.take_add_one, List.getElem?_eq_getElem hj] at hx
      simp only [Option.toList_some, List.mem_append, List.mem_singleton] at hx
      rcases hx with hx | rfl
      · exact hI x hx
      · exact c
  · obtain ⟨rfl, hI⟩ := hI
    unfold spateref11_find.b1
    refine ite_f (by rw [hlen]; exact clt_f (Nat.lt_irrefl _)) (done _ _ ?_)
    have : (xs.findIdx? fun c => (g c).f0 == t) = none := by
      rw [List.findIdx?_eq_none_iff]
      intro x hx
      exact hI x (by rw [List.take_length]; exact hx)
    rw [this] at k; exact k
/-- The set put in order, if it may be asked for. -/
theorem ordered_spec {mb m : Nat} {s : Sl} {l : List Lk} (hm : ld (kI .i64) ⟨mb, 0, none⟩ h = some (m : Int)) (hm2 : m ≤ 1024) (R : Rds kLk h s l) (hl : l.length < 1000000000000) {Q : Sl × Bool → H → Prop}
    (k : ∀ s' h', SS h h' [ownP kLk s' (AM.sortL m l)] → ∀ s2, (okSet m l = true → s2 = s') → Q (s2, okSet m l) h') : spateref11_Manager_ordered (some ⟨mb, 0, none⟩) s h Q := by
  unfold spateref11_Manager_ordered
  have hlen := R.len
  refine jn_q (fun s' h' => SS h h' [ownP kLk s' (AM.sortL m l)]) (fun K hK => ?_) ?_
  · refine for0 (mk := fun (s : Sl) i => (s, i)) (s := Sl.nil) (n := m) (by omega) (fun j s' h' => SS h h' [ownP kLk s' (AM.sortL j l)]) ((SS.nil (Ext.refl h)).made (Ext.refl h) (Own.nil kLk h _)) (fun j s' h1 K2 hj S1 next done => ?_) (fun s' h1 K2 S1 done => ?_)
    · unfold spateref11_Manager_ordered.b2
      refine rd_some rfl (rd_some (by rw [add_mk]; exact ld_ext (SS.e S1) hm) (ite_t (clt_t hj) (jn_i ?_)))
      have hsl : (AM.sortL j l).length ≤ l.length := by rw [(sortL_perm l j).length_eq]; exact List.length_filter_le _ _
      refine for0 (mk := fun (s : Sl) i => (s, i)) (s := s') (n := l.length) (by omega) (fun i s2 h' => SS h h' [ownP kLk s2 (AM.sortL j l ++ (l.take i).filter fun x => x.f0 == (j : Int))]) (by simpa using S1) (fun i s2 h2 K3 hi S2 next2 done2 => ?_) (fun s2 h2 K3 S2 done2 => ?_)
      · unfold spateref11_Manager_ordered.b3
        refine ite_t (by rw [hlen]; exact clt_t hi) (jn_i ((R.ext (SS.e S2)).elt fk_n hi rfl ?_))
        have htk : l.take (i + 1) = l.take i ++ [l[i]] := by rw [List.take_add_one, List.getElem?_eq_getElem hi]; rfl
        have hle : ((l.take i).filter fun x => x.f0 == (j : Int)).length ≤ l.length := Nat.le_trans (List.length_filter_le _ _) (by simp; omega)
        refine ite_b (fun c => ?_) (fun c => ?_)
        · refine (R.ext (SS.e S2)).elt0 hi rfl (ownP.push (K := kLk) (by decide) S2 0 rfl l[i] (by rw [List.length_append]; omega) (by rw [List.length_append]; omega) fun s3 h3 S3 => next2 s3 h3 ?_)
          have c' : (l[i].f0 == (j : Int)) = true := c
          have e1 : (List.filter (fun x : Lk => x.f0 == (j : Int)) [l[i]]) = [l[i]] := by simp only [List.filter_cons, List.filter_nil, c', if_true]
          rw [htk, List.filter_append, e1, ← List.append_assoc]; exact S3
        · refine next2 s2 h2 ?_
          rw [htk, List.filter_append, List.filter_cons_of_neg (by rw [c]; simp), List.filter_nil, List.append_nil]; exact S2
      · unfold spateref11_Manager_ordered.b3
        refine ite_f (by rw [hlen]; exact clt_f (Nat.lt_irrefl _)) (done2 _ _ (next s2 h2 ?_))
        rw [List.take_length] at S2
        rw [sortL_succ]; exact S2
    · unfold spateref11_Manager_ordered.b2
      exact rd_some rfl (rd_some (by rw [add_mk]; exact ld_ext (SS.e S1) hm) (ite_f (clt_f (Nat.lt_irrefl _)) (done _ _ (hK _ _ S1))))
  · rintro s' h1 S1
    have R1 := ownP.rds (K := kLk) S1 0 rfl
    have hl1 := R1.len
    have hsl : (AM.sortL m l).length ≤ l.length := by rw [(sortL_perm l m).length_eq]; exact List.length_filter_le _ _
    refine jn_q (fun _ h' => h' = h1 ∧ adj (AM.sortL m l)) (fun K hK => ?_) ?_
    · by_cases h0 : 1 ≤ (AM.sortL m l).length
      · refine forG (mk := fun (_ : Unit) i => i) (s := ()) (i0 := 1) (n := (AM.sortL m l).length) h0 (by omega) (fun j _ h' => h' = h1 ∧ ∀ (i : Nat) (hi : i + 1 < (AM.sortL m l).length), i + 1 < j → (AM.sortL m l)[i + 1].f0 ≠ (AM.sortL m l)[i].f0) ⟨rfl, fun i hi h => by omega⟩ (fun j _ h2 K2 hj1 hj hI next done => ?_) (fun _ h2 K2 hI done => ?_)
        · obtain ⟨rfl, hI⟩ := hI
          unfold spateref11_Manager_ordered.b1
          refine ite_t (by rw [hl1]; exact clt_t hj) (R1.elt fk_n hj rfl ?_)
          have e : IntKind.i64.wrap ((j : Int) - 1) = ((j - 1 : Nat) : Int) := by rw [wrap64_id (by omega) (by omega)]; omega
          rw [e]
          refine R1.elt fk_n (i := j - 1) (by omega) rfl (ite_b (fun c => ?_) (fun c => ?_))
          · refine done _ _ ?_
            have hk : okSet m l = false := by
              cases hok : okSet m l with
              | false => rfl
              | true =>
                exfalso
                have h2 := (ok_sort hok).1 (j - 1) (by omega)
                have c : (AM.sortL m l)[j].f0 = (AM.sortL m l)[j - 1].f0 := by simpa using c
                simp only [show j - 1 + 1 = j by omega] at h2
                exact h2 c
            have k' := k s' h2 S1 Sl.nil (by rw [hk]; intro h; cases h)
            rw [hk] at k'; exact k'
          · refine next () _ ⟨rfl, fun i hi hij => ?_⟩
            rcases Nat.lt_or_ge (i + 1) j with hlt | hge
            · exact hI i hi hlt
            · have : i = j - 1 := by omega
              subst this
              simp only [show j - 1 + 1 = j by omega]
              simpa using c
        · obtain ⟨rfl, hI⟩ := hI
          unfold spateref11_Manager_ordered.b1
          exact ite_f (by rw [hl1]; exact clt_f (Nat.lt_irrefl _)) (done _ _ (hK _ _ ⟨rfl, fun i hi => hI i hi hi⟩))
      · refine loopE_rule (fun n s h' => s = 1 ∧ h' = h1) 0 ⟨rfl, rfl⟩ ?_
        rintro n s h2 K2 ⟨rfl, rfl⟩ next done
        unfold spateref11_Manager_ordered.b1
        exact ite_f (by rw [hl1]; rw [decide_eq_false_iff_not]; omega) (done _ _ (hK _ _ ⟨rfl, fun i hi => by omega⟩))
    · rintro _ h2 ⟨rfl, ha⟩
      have hk : okSet m l = (decide ((AM.sortL m l).length = l.length) && decide (0 < l.length)) := by
        apply Bool.eq_iff_iff.2
        rw [Bool.and_eq_true, decide_eq_true_eq, decide_eq_true_eq]
        exact ⟨fun h => (ok_sort h).2, fun h => sort_ok ha h.1 h.2⟩
      refine jn_c (s', okSet m l) h2 (fun K hK => ite_b (fun c => ?_) (fun c => ?_)) (k s' h2 S1 s' fun _ => rfl)
      · have c : (AM.sortL m l).length = l.length := by
          have c : ((s'.len : Int) == (s.len : Int)) = true := c
          rw [beq_iff_eq] at c; omega
        rw [hk] at hK
        rw [decide_eq_true c, Bool.true_and] at hK
        have e : decide ((s.len : Int) > 0) = decide (0 < l.length) := by rw [hlen]; apply Bool.eq_iff_iff.2; rw [decide_eq_true_eq, decide_eq_true_eq]; omega
        rw [e]; exact hK
      · have c : ¬ (AM.sortL m l).length = l.length := by
          have c : ((s'.len : Int) == (s.len : Int)) = false := c
          rw [beq_eq_false_iff_ne] at c; omega
        rw [hk] at hK
        rw [decide_eq_false c, Bool.false_and] at hK
        exact hK
end
end Go.Proofs.Ytgmihbchcmjmdaa
