/- LocksEnds, over the heap. -/
import Derived.Test.YtgmihbchcmjmdaaLawPlays
import Derived.Test.YtgmihbchcmjmdaaG5
namespace Go.Proofs.Ytgmihbchcmjmdaa
open Go Go.Tr
set_option linter.unusedVariables false
theorem thr_pre : ∀ (q has left : List C), ∃ x, (thr has left q).1 = has ++ x
  | [], has, left => ⟨[], by simp [thr]⟩
  | c :: q, has, left => by
    cases hc : (hit has c.2 || hit left c.2) with
    | true => rw [thr_hit hc]; exact thr_pre q has _
    | false =>
      rw [thr_go hc]
      obtain ⟨x, hx⟩ := thr_pre q (has ++ [c]) left
      exact ⟨c :: x, by simp only [hx]; simp⟩
theorem thr_empty {q has : List C} (h : (thr has [] q).1 = []) : q = [] := by
  cases q with
  | nil => rfl
  | cons c q =>
    exfalso
    cases hc : (hit has c.2 || hit [] c.2) with
    | true =>
      rw [thr_hit hc] at h
      obtain ⟨x, hx⟩ := thr_pre q has ([] ++ [c])
      rw [hx] at h
      have : has = [] := by
        cases has with
        | nil => rfl
        | cons y l => cases h
      rw [this] at hc
      cases hc
    | false =>
      rw [thr_go hc] at h
      obtain ⟨x, hx⟩ := thr_pre q (has ++ [c]) []
      simp only [hx] at h
      simp at h
namespace AM
variable {A : AM} {B : Nat} {T : List Int}
def tot (A : AM) : Nat := A.has.length + A.queue.length
structure Ends (A : AM) (T : List Int) : Prop where
  j : A.has = [] → A.queue = []
  t : ∀ c ∈ A.has ++ A.queue, c.1 ∈ T
  n : A.tot ≤ T.length
theorem through_tot (A : AM) : A.through.2.tot = A.tot := by
  have := thr_len A.queue A.has []
  unfold tot AM.through; simp only; simp at this; omega
theorem Ends.through (t : ∀ c ∈ A.has ++ A.queue, c.1 ∈ T) (n : A.tot ≤ T.length) : A.through.2.Ends T := by
  refine ⟨fun h => ?_, thr_mem (P := fun c => c.1 ∈ T) A.queue A.has [] (by simpa using t), by rw [through_tot]; exact n⟩
  have hq := thr_empty (show (thr A.has [] A.queue).1 = [] from h)
  show (thr A.has [] A.queue).2.1 = []
  rw [hq]; simp [thr]
theorem Ends.ask (e : A.Ends T) (t : Int) (l : List Lk) : ((A.ask t l).1.2 = 0 → (A.ask t l).2.Ends (T ++ [t])) ∧ ((A.ask t l).1.2 ≠ 0 → (A.ask t l).2 = A) := by
  have e1 := e.t
  have e2 := e.n
  unfold tot at e2
  unfold AM.ask
  split
  · exact ⟨fun h => absurd (show (1 : Int) = 0 from h) (by decide), fun _ => rfl⟩
  · split
    · exact ⟨fun h => absurd (show (41 : Int) = 0 from h) (by decide), fun _ => rfl⟩
    · split
      · rename_i hh
        refine ⟨fun _ => ⟨fun h0 => ?_, fun c hc => ?_, by unfold tot; simp; omega⟩, fun h => absurd rfl h⟩
        · exfalso
          have h0 : A.has = [] := h0
          rw [h0, e.j h0] at hh
          cases hh
        · simp only [List.mem_append, List.mem_singleton] at hc ⊢
          rcases hc with hc | hc | rfl
          · exact .inl (e1 c (by simp [hc]))
          · exact .inl (e1 c (by simp [hc]))
          · exact .inr rfl
      · refine ⟨fun _ => ⟨fun h0 => ?_, fun c hc => ?_, by unfold tot; simp; omega⟩, fun h => absurd rfl h⟩
        · simp at h0
        · simp only [List.mem_append, List.mem_singleton] at hc ⊢
          rcases hc with (hc | rfl) | hc
          · exact .inl (e1 c (by simp [hc]))
          · exact .inr rfl
          · exact .inl (e1 c (by simp [hc]))
theorem Ends.eraseH (e : A.Ends T) (i : Nat) : ({ A with has := A.has.eraseIdx i } : AM).through.2.Ends T := by
  have e2 := e.n
  unfold tot at e2
  refine Ends.through (fun c hc => e.t c ?_) ?_
  · simp only [List.mem_append] at hc ⊢
    exact hc.imp (fun h => List.mem_of_mem_eraseIdx h) id
  · have := List.length_eraseIdx_le A.has i
    unfold tot; simp only; omega
theorem Ends.eraseQ (e : A.Ends T) (i : Nat) : ({ A with queue := A.queue.eraseIdx i } : AM).through.2.Ends T := by
  have e2 := e.n
  unfold tot at e2
  refine Ends.through (fun c hc => e.t c ?_) ?_
  · simp only [List.mem_append] at hc ⊢
    exact hc.imp id (fun h => List.mem_of_mem_eraseIdx h)
  · have := List.length_eraseIdx_le A.queue i
    unfold tot; simp only; omega
theorem Ends.free (e : A.Ends T) (t : Int) : (A.free t).2.Ends T := by
  unfold AM.free
  split
  · exact e
  · exact e.eraseH _
theorem Ends.quit (e : A.Ends T) (t : Int) : (A.quit t).2.Ends T := by
  unfold AM.quit
  split
  · exact e.eraseH _
  · split
    · exact e.eraseQ _
    · exact e
theorem free_tot {t : Int} {i : Nat} (h : findC A.has t = some i) : (A.free t).2.tot + 1 = A.tot ∧ (A.free t).1.2 = 0 := by
  have hi := findC_lt h
  unfold AM.free
  rw [h]
  simp only
  rw [through_tot]
  unfold tot
  simp only [List.length_eraseIdx, if_pos hi]
  refine ⟨by omega, trivial⟩
theorem has_pos (ok : A.Ok B) (t : Int) : decide (((A.hasL t).length : Int) > 0) = (findC A.has t).isSome := by
  unfold AM.hasL
  cases h : findC A.has t with
  | none => rfl
  | some i =>
    have hi := findC_lt h
    have hok := ok.ok A.has[i] (List.mem_append_left _ (List.getElem_mem _))
    have := (ok_sort hok).2
    simp only [Option.isSome_some, List.getElem?_eq_getElem hi]
    rw [decide_eq_true_eq]
    omega
end AM
section
variable {F0 : Nat → Prop} {h0 h : H} {Ps : List HP}
theorem errP.nil (S : SG F0 h0 h Ps) (i : Nat) {v : IF} {n : Int} (hi : Ps[i]? = some (errP v n)) : v.isNone = decide (n = 0) := by
  rcases errP.is S i hi with ⟨rfl, rfl⟩ | ⟨hn, hv, _⟩
  · rfl
  · rw [hv, decide_eq_false hn]
end
theorem ends_turn {h : H} {m : Nat} {s : Sl} {T : List Int} {A : AM} {B : Nat} {p12 p13 : Int} {h1 : H} (ok : A.Ok B) (hB : B ≤ 100000000) (e : A.Ends T) (hT : T.length ≤ 100000000) (S : SS h h1 [mgrP m A, ownP (kI .i64) s T]) {Q : Unit ⊕ Bool → H → Prop}
    (k : ∀ (A' : AM) h', A'.Ok B → A'.Ends T → (A'.tot + 1 ≤ A.tot ∨ A'.tot = 0) → SS h h' [mgrP m A', ownP (kI .i64) s T] → Q (.inl ()) h') : loopE (spatelaw11_LocksEnds.b3 (some ⟨m, 0, none⟩) s p12 p13) 0 h1 Q := by
  have hs : s.len = T.length := ownP.len (K := kI .i64) S 1 rfl
  refine for0 (mk := fun (_ : Unit) i => i) (s := ()) (n := T.length) (by omega) (fun j _ h' => ∃ A' : AM, A'.Ok B ∧ A'.Ends T ∧ (A'.tot + 1 ≤ A.tot ∨ A' = A ∧ ∀ t ∈ T.take j, findC A.has t = none) ∧ SS h h' [mgrP m A', ownP (kI .i64) s T]) ⟨A, ok, e, .inr ⟨rfl, by simp⟩, S⟩ (fun j _ h' K hj hI next done => ?_) (fun _ h' K hI done => ?_)
  · obtain ⟨A', ok', e', hA, S1⟩ := hI
    unfold spatelaw11_LocksEnds.b3
    have R := ownP.rds (K := kI .i64) S1 1 rfl
    refine ite_t (by rw [hs]; exact clt_t hj) (jn_i (R.elt0 hj rfl ?_))
    refine S1.go1 0 rfl (has_spec ok' (by omega) T[j]) fun r h2 S2 => ?_
    have hr : r.len = (A'.hasL T[j]).length := ownP.len (K := kLk) S2 0 rfl
    have hp := AM.has_pos ok' T[j]
    rw [hr, hp]
    have S2 : SS h h2 (ownP kLk r (A'.hasL T[j]) :: [mgrP m A', ownP (kI .i64) s T]) := S2
    have R2 := ownP.rds (K := kI .i64) S2 2 rfl
    cases hf : findC A'.has T[j] with
    | some i =>
      have ht := AM.free_tot hf
      refine ite_t rfl (R2.elt0 hj rfl (S2.go1 1 rfl (free_spec ok' (by omega) T[j]) fun g h3 S3 => ?_))
      have hn := errP.nil S3 1 rfl
      rw [ht.2] at hn
      refine ite_f (by rw [hn]; rfl) (next () h3 ⟨_, ok'.free _, e'.free _, .inl ?_, S3.tail.tail.tail⟩)
      rcases hA with hA | ⟨rfl, _⟩ <;> omega
    | none =>
      refine ite_f rfl (next () h2 ⟨A', ok', e', ?_, S2.tail⟩)
      rcases hA with hA | ⟨rfl, hA⟩
      · exact .inl hA
      · refine .inr ⟨rfl, fun t ht => ?_⟩
        rw [List.take_add_one, List.getElem?_eq_getElem hj, Option.toList_some, List.mem_append, List.mem_singleton] at ht
        rcases ht with ht | rfl
        · exact hA t ht
        · exact hf
  · obtain ⟨A', ok', e', hA, S1⟩ := hI
    unfold spatelaw11_LocksEnds.b3
    refine ite_f (by rw [hs]; exact clt_f (Nat.lt_irrefl _)) (done _ _ (k A' h' ok' e' ?_ S1))
    rcases hA with hA | ⟨rfl, hA⟩
    · exact .inl hA
    · right
      rw [List.take_length] at hA
      have hh : A'.has = [] := by
        cases hc : A'.has with
        | nil => rfl
        | cons c l =>
          exfalso
          have h1 := hA c.1 (e.t c (by rw [hc]; simp))
          have h2 : (findC A'.has c.1).isSome = true := by rw [findC_isSome, hc]; simp
          rw [h1] at h2; cases h2
      unfold AM.tot
      rw [hh, e.j hh]; rfl
theorem ends_true (n : Int) (l : Sl) (xs : List S52) (h : H) (hl : Rds kStep h l xs) (hw : ∀ y ∈ xs, wStep h y) (hm : xs.length * 40 ≤ reachBytes) : spatelaw11_LocksEnds n l h fun r h' => r = true ∧ Ext h h' := by
  unfold spatelaw11_LocksEnds
  have hlen := hl.len
  refine known_spec fun h1 e1 => ite_f rfl ?_
  have S0 : SS h h1 [] := SS.nil e1
  refine new_spec S0 (fun _ => ite_t rfl ⟨rfl, e1⟩) fun g1 g2 m h2 S2 => ite_f rfl ?_
  have ok0 : (AM.new n.toNat).Ok 0 := AM.Ok.new (by omega) (by omega)
  have en0 : (AM.new n.toNat).Ends [] := ⟨fun _ => rfl, by simp [AM.new], Nat.le_refl _⟩
  refine jn_q (fun s h' => ∃ (A : AM) (T : List Int), A.Ok 1500 ∧ A.Ends T ∧ T.length ≤ 1500 ∧ SS h h' [mgrP m A, ownP (kI .i64) s T]) (fun K1 hK1 => ?_) ?_
  · refine for0 (mk := fun (s : Sl) i => (s, i)) (s := Sl.nil) (n := min xs.length 1500) (by omega) (fun j s h' => ∃ (A : AM) (T : List Int), A.Ok j ∧ A.Ends T ∧ T.length ≤ j ∧ SS h h' [mgrP m A, ownP (kI .i64) s T]) ⟨_, [], ok0, en0, Nat.le_refl _, (S2.made (Ext.refl _) (Own.nil (kI .i64) h2 _)).swap⟩ (fun j s h' K hj hI next done => ?_) (fun s h' K hI done => ?_)
    · obtain ⟨A, T, ok, en, hT, S⟩ := hI
      unfold spatelaw11_LocksEnds.b4
      have hjx : j < xs.length := by omega
      refine jn_c true h' (fun K6 hK => ite_t (by rw [hlen]; exact clt_t hjx) ?_) (ite_t rfl (jn_i ?_))
      · rw [show decide ((j : Int) < 1500) = true by rw [decide_eq_true_eq]; omega]; exact hK
      obtain ⟨ys, Ry, hy⟩ := hw _ (List.getElem_mem hjx)
      refine (hl.ext (SS.e S)).elt0 hjx rfl (S.cell (K := kStep) (x := xs[j]) fun q h1 S1 _ => ?_)
      have hx0 : ld (kI .i64) ⟨q, 0, none⟩ h1 = some xs[j].f0 := varP.ld S1 ft_kind 0 rfl
      have hx1 : ld (kI .i64) ⟨q, 1, none⟩ h1 = some xs[j].f1 := varP.ld S1 ft_task 0 rfl
      have hx2 : ld kL ⟨q, 2, none⟩ h1 = some xs[j].f2 := varP.ld S1 ft_l 0 rfl
      refine rd_some (by rw [add_mk]; exact hx0) ?_
      have h40 : (ys.take 40).length ≤ 40 := by simp; omega
      refine ite_b (fun c1 => ?_) (fun c1 => ite_b (fun c2 => ?_) (fun c2 => ite_b (fun c3 => ?_) (fun c3 => ?_)))
      · refine rd_some (by rw [add_mk]; exact hx1) (rd_some (by rw [add_mk]; exact hx2) (cut_spec Ry (by omega) fun s' R' => ⟨by rw [add_mk]; exact hx1, ?_⟩))
        refine S1.go1 1 rfl (ask_spec ok (by omega) (t := xs[j].f1) (R'.ext (SS.e S1)) (by omega)) fun v h3 S3 => ?_
        have hn := errP.nil S3 0 rfl
        have ha := en.ask xs[j].f1 (ys.take 40)
        have hok := ok.ask xs[j].f1 (ys.take 40)
        by_cases h0 : (A.ask xs[j].f1 (ys.take 40)).1.2 = 0
        · refine ite_t (by rw [hn]; exact decide_eq_true h0) (rd_some (by rw [add_mk]; exact varP.ld S3 ft_task 1 rfl) ?_)
          refine ownP.push (K := kI .i64) (by decide) S3 3 rfl xs[j].f1 (by omega) (by omega) fun s' h4 S4 => ?_
          exact next s' h4 ⟨_, _, hok, ha.1 h0, by simp; omega, S4.tail.tail⟩
        · refine ite_f (by rw [hn]; exact decide_eq_false h0) (next s h3 ⟨_, _, hok, ?_, by omega, S3.tail.tail⟩)
          rw [ha.2 h0]; exact en
      · refine rd_some (by rw [add_mk]; exact hx1) (S1.go1 1 rfl (free_spec ok (by omega) xs[j].f1) fun g h3 S3 => ?_)
        exact next s h3 ⟨_, _, (ok.free _).mono (by omega), en.free _, by omega, S3.tail.tail.tail⟩
      · refine rd_some (by rw [add_mk]; exact hx1) (S1.go1 1 rfl (quit_spec ok (by omega) xs[j].f1) fun g h3 S3 => ?_)
        exact next s h3 ⟨_, _, (ok.quit _).mono (by omega), en.quit _, by omega, S3.tail.tail⟩
      · exact next s h1 ⟨_, _, ok.mono (by omega), en, by omega, S1.tail⟩
    · obtain ⟨A, T, ok, en, hT, S⟩ := hI
      unfold spatelaw11_LocksEnds.b4
      refine jn_c false h' (fun K6 hK => ite_b (fun c => ?_) (fun c => hK)) (ite_f rfl (done _ _ (hK1 _ _ ⟨A, T, ok.mono (by omega), en, by omega, S⟩)))
      rw [decide_eq_true_eq] at c
      rw [show decide (((min xs.length 1500 : Nat) : Int) < 1500) = false by rw [decide_eq_false_iff_not]; omega]; exact hK
  · rintro s h3 ⟨A, T, ok, en, hT, S3⟩
    have hs : s.len = T.length := ownP.len (K := kI .i64) S3 1 rfl
    have hw : IntKind.i64.wrap ((s.len : Int) + 1) = ((T.length + 1 : Nat) : Int) := by rw [wrap64_id (by omega) (by omega)]; omega
    rw [hw]
    refine jn_i (for0 (mk := fun (_ : Unit) i => i) (s := ()) (n := T.length + 1) (by omega) (fun j _ h' => ∃ A : AM, A.Ok 1500 ∧ A.Ends T ∧ A.tot + j ≤ T.length + A.tot * 0 + (if A.tot = 0 then j else 0) ∧ SS h h' [mgrP m A, ownP (kI .i64) s T]) ⟨A, ok, en, ?_, S3⟩ (fun j _ h' K hj hI next done => ?_) (fun _ h' K hI done => ?_))
    · have := en.n; split <;> omega
    · obtain ⟨A, ok, en, hA, S⟩ := hI
      unfold spatelaw11_LocksEnds.b2
      refine ite_t (clt_t hj) (jn_i (ends_turn ok (by decide) en (by omega) S fun A' h' ok' en' hd S' => next () h' ⟨A', ok', en', ?_, S'⟩))
      rw [Nat.mul_zero, Nat.add_zero] at hA ⊢
      have := en'.n
      split at hA <;> split <;> omega
    · obtain ⟨A, ok, en, hA, S⟩ := hI
      unfold spatelaw11_LocksEnds.b2
      refine ite_f (clt_f (Nat.lt_irrefl _)) (done _ _ ?_)
      have ht : A.tot = 0 := by split at hA <;> omega
      unfold AM.tot at ht
      have hh : A.has = [] := List.length_eq_zero_iff.1 (by omega)
      have hq : A.queue = [] := List.length_eq_zero_iff.1 (by omega)
      refine jn_i (for0 (mk := fun (_ : Unit) i => i) (s := ()) (n := T.length) (by omega) (fun j _ h' => SS h h' [mgrP m A, ownP (kI .i64) s T]) S (fun j _ h' K hj S1 next done => ?_) (fun _ h' K S1 done => ?_))
      · unfold spatelaw11_LocksEnds.b1
        have R := ownP.rds (K := kI .i64) S1 1 rfl
        refine ite_t (by rw [hs]; exact clt_t hj) (jn_q (fun v h2 => v = false ∧ SS h h2 [mgrP m A, ownP (kI .i64) s T]) (fun K2 hK => R.elt0 hj rfl ?_) ?_)
        · refine S1.go1 0 rfl (waits_spec ok (by decide) T[j]) fun _ h2 S2 => ?_
          refine ite_f (by unfold AM.waits; rw [hq]; rfl) ((ownP.rds (K := kI .i64) S2 1 rfl).elt0 hj rfl ?_)
          refine SG.go1 S2 0 rfl (has_spec ok (by decide) T[j]) fun r h3 S3 => ?_
          have hr : r.len = (A.hasL T[j]).length := ownP.len (K := kLk) S3 0 rfl
          have hp := AM.has_pos ok T[j]
          rw [hr, hp]
          exact hK _ _ ⟨by rw [hh]; rfl, S3.tail⟩
        · rintro _ h2 ⟨rfl, S2⟩
          exact ite_f rfl (next () h2 S2)
      · unfold spatelaw11_LocksEnds.b1
        refine ite_f (by rw [hs]; exact clt_f (Nat.lt_irrefl _)) (done _ _ ?_)
        refine S1.go1 0 rfl (queue_spec ok (by decide)) fun q h2 S2 => ?_
        have hr : q.len = A.queueL.length := ownP.len (K := kI .i64) S2 0 rfl
        refine ⟨?_, SS.e S2⟩
        rw [hr]; unfold AM.queueL; rw [hq]; rfl
end Go.Proofs.Ytgmihbchcmjmdaa
