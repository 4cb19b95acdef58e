/- LocksBook, over the heap. -/
import Derived.Test.YtgmihbchcmjmdaaLkB2
import Derived.Test.YtgmihbchcmjmdaaLawPlays
import Derived.Test.YtgmihbchcmjmdaaLkI
import Derived.Test.YtgmihbchcmjmdaaG10
namespace Go.Proofs.Ytgmihbchcmjmdaa
open Go Go.Tr
set_option linter.unusedVariables false
section
variable {F0 : Nat → Prop} {h0 h : H} {Rs : List HP}
theorem tell_push {α : Type} {K : Kd α} {s o : Sl} {xs : List α} {R : List (GR α)} {t : TypeId} (S : SG F0 h0 h (ownP K s xs :: ownP kL o (R.map (·.ss)) :: tellP K R :: Rs)) (hl : R.length ≤ 10000) {Q : Sl → H → Prop}
    (k : ∀ o' h', SG F0 h0 h' (ownP kL o' ((R ++ [(⟨s, s, xs, xs⟩ : GR α)]).map (·.ss)) :: tellP K (R ++ [⟨s, s, xs, xs⟩]) :: Rs) → Q o' h') : bs t 1 (kL.enc s) h fun x h1 => ap kL.n 24 t (kL.enc Sl.nil) o x h1 Q := by
  refine ownP.push (K := kL) (by decide) S 1 rfl s (by simp; omega) (by simp; omega) fun o' h2 S2 => k o' h2 ?_
  have S2 : SG F0 h0 h2 (ownP K s xs :: ownP kL o' (R.map (·.ss) ++ [s]) :: tellP K R :: Rs) := S2
  have S3 : SG F0 h0 h2 (ownP K s xs :: tellP K R :: ownP kL o' (R.map (·.ss) ++ [s]) :: Rs) := (S2.front 2 rfl).swap
  have S4 := (tellP.add S3).swap
  rw [List.map_append]; exact S4
end
structure BI (A : AM) (RI : List (GR Int)) (RS : List (GR Lk)) (j : Nat) : Prop where
  ok : A.Ok j
  ni : RI.length ≤ 3 * j
  ns : RS.length ≤ 2 * j
  li : ∀ r ∈ RI, r.xs.length ≤ 3000
  ls : ∀ r ∈ RS, r.xs.length ≤ 3000
theorem mem_add {α : Type} {R : List (GR α)} {s : Sl} {xs : List α} (h : ∀ r ∈ R, r.xs.length ≤ 3000) (hx : xs.length ≤ 3000) : ∀ r ∈ R ++ [(⟨s, s, xs, xs⟩ : GR α)], r.xs.length ≤ 3000 := fun r hr => by
  rcases List.mem_append.1 hr with hr | hr
  · exact h r hr
  · obtain rfl := List.mem_singleton.1 hr; exact hx
/-- The looks, twice. -/
theorem book_twice {h0 h : H} {p1 p2 : Sl} {p13 : Int} {m r q : Nat} {x : S52} {A : AM} {RI : List (GR Int)} {RS : List (GR Lk)} {o1 o2 : Sl} (ok : A.Ok 60) (n1 : RI.length ≤ 1000) (n2 : RS.length ≤ 1000) (l1 : ∀ r ∈ RI, r.xs.length ≤ 3000) (l2 : ∀ r ∈ RS, r.xs.length ≤ 3000)
    (S : SS h0 h [varP kStep q x, mgrP m A, refP r A, ownP kL o1 (RI.map (·.ss)), tellP (kI .i64) RI, ownP kL o2 (RS.map (·.ss)), tellP kLk RS]) {Q : (Sl × Sl) ⊕ Bool → H → Prop}
    (kq : ∀ o1' o2' RI' RS' h', RI'.length = RI.length + 2 → RS'.length = RS.length + 2 → (∀ r ∈ RI', r.xs.length ≤ 3000) → (∀ r ∈ RS', r.xs.length ≤ 3000) → SS h0 h' [varP kStep q x, mgrP m A, refP r A, ownP kL o1' (RI'.map (·.ss)), tellP (kI .i64) RI', ownP kL o2' (RS'.map (·.ss)), tellP kLk RS'] → Q (.inl (o1', o2')) h') :
    loopE (spatelaw11_LocksBook.b4 p1 p2 (some ⟨m, 0, none⟩) (some ⟨r, 0, none⟩) p13 ⟨q, 0, none⟩) (o1, o2, 0) h Q := by
  refine for0 (mk := fun (s : Sl × Sl) i => (s.1, s.2, i)) (s := (o1, o2)) (n := 2) (by omega) (fun j s h' => ∃ RI' RS', RI'.length = RI.length + j ∧ RS'.length = RS.length + j ∧ (∀ r ∈ RI', r.xs.length ≤ 3000) ∧ (∀ r ∈ RS', r.xs.length ≤ 3000) ∧ SS h0 h' [varP kStep q x, mgrP m A, refP r A, ownP kL s.1 (RI'.map (·.ss)), tellP (kI .i64) RI', ownP kL s.2 (RS'.map (·.ss)), tellP kLk RS']) ⟨RI, RS, rfl, rfl, l1, l2, S⟩ (fun j s h1 K hj hI next done => ?_) (fun s h1 K hI done => ?_)
  · obtain ⟨RI', RS', e1, e2, l1', l2', S1⟩ := hI
    have hql := queueL_len ok
    have hsl := sortL_len2 ok x.f1
    unfold spatelaw11_LocksBook.b4
    refine ite_t (clt_t hj) (rd_some (by rw [add_mk]; exact varP.ld S1 ft_task 0 rfl) ?_)
    refine S1.go1 1 rfl (has_spec ok (by omega) x.f1) fun hs h2 S2 => ?_
    have S2 : SS h0 h2 [ownP kLk hs (A.hasL x.f1), varP kStep q x, mgrP m A, refP r A, ownP kL s.1 (RI'.map (·.ss)), tellP (kI .i64) RI', ownP kL s.2 (RS'.map (·.ss)), tellP kLk RS'] := S2
    refine S2.go1 2 rfl (queue_spec ok (by omega)) fun qs h3 S3 => ?_
    have S3 : SS h0 h3 [ownP (kI .i64) qs A.queueL, ownP kLk hs (A.hasL x.f1), varP kStep q x, mgrP m A, refP r A, ownP kL s.1 (RI'.map (·.ss)), tellP (kI .i64) RI', ownP kL s.2 (RS'.map (·.ss)), tellP kLk RS'] := S3
    refine jn_q (fun v h' => v = false ∧ SS h0 h' [ownP (kI .i64) qs A.queueL, ownP kLk hs (A.hasL x.f1), varP kStep q x, mgrP m A, refP r A, ownP kL s.1 (RI'.map (·.ss)), tellP (kI .i64) RI', ownP kL s.2 (RS'.map (·.ss)), tellP kLk RS']) (fun K2 hK2 => ?_) ?_
    · refine rd_some (by rw [add_mk]; exact varP.ld S3 ft_task 2 rfl) ?_
      refine rhas_spec ok (by omega) x.f1 (S3.front 4 rfl) fun rs Rr => ?_
      refine same_locks (ownP.rds (K := kLk) S3 1 rfl) Rr (by omega) (ite_f rfl ?_)
      refine S3.go1 4 rfl (rqueue_spec ok (by omega)) fun q2 h4 S4 => ?_
      have S4 : SS h0 h4 (ownP (kI .i64) q2 A.queueL :: [ownP (kI .i64) qs A.queueL, ownP kLk hs (A.hasL x.f1), varP kStep q x, mgrP m A, refP r A, ownP kL s.1 (RI'.map (·.ss)), tellP (kI .i64) RI', ownP kL s.2 (RS'.map (·.ss)), tellP kLk RS']) := S4
      exact same_ints (ownP.rds (K := kI .i64) S4 1 rfl) (ownP.rds (K := kI .i64) S4 0 rfl) (by omega) (hK2 _ _ ⟨rfl, S4.tail⟩)
    · rintro _ h4 ⟨rfl, S4⟩
      refine ite_f rfl ?_
      have T1 : SS h0 h4 [ownP kLk hs (A.hasL x.f1), ownP kL s.2 (RS'.map (·.ss)), tellP kLk RS', ownP (kI .i64) qs A.queueL, varP kStep q x, mgrP m A, refP r A, ownP kL s.1 (RI'.map (·.ss)), tellP (kI .i64) RI'] := ((S4.front 8 rfl).front 8 rfl).front 3 rfl
      refine tell_push T1 (by omega) fun o2' h5 T2 => ?_
      have T3 : SS h0 h5 [ownP (kI .i64) qs A.queueL, ownP kL s.1 (RI'.map (·.ss)), tellP (kI .i64) RI', ownP kL o2' ((RS' ++ [(⟨hs, hs, A.hasL x.f1, A.hasL x.f1⟩ : GR Lk)]).map (·.ss)), tellP kLk (RS' ++ [⟨hs, hs, A.hasL x.f1, A.hasL x.f1⟩]), varP kStep q x, mgrP m A, refP r A] := ((T2.front 7 rfl).front 7 rfl).front 4 rfl
      refine tell_push T3 (by omega) fun o1' h6 T4 => ?_
      have T5 : SS h0 h6 [varP kStep q x, mgrP m A, refP r A, ownP kL o1' ((RI' ++ [(⟨qs, qs, A.queueL, A.queueL⟩ : GR Int)]).map (·.ss)), tellP (kI .i64) (RI' ++ [⟨qs, qs, A.queueL, A.queueL⟩]), ownP kL o2' ((RS' ++ [(⟨hs, hs, A.hasL x.f1, A.hasL x.f1⟩ : GR Lk)]).map (·.ss)), tellP kLk (RS' ++ [⟨hs, hs, A.hasL x.f1, A.hasL x.f1⟩])] := ((T4.front 6 rfl).front 6 rfl).front 6 rfl
      exact next (o1', o2') h6 ⟨_, _, by simp; omega, by simp; omega, mem_add l1' (by omega), mem_add l2' (by omega), T5⟩
  · obtain ⟨RI', RS', e1, e2, l1', l2', S1⟩ := hI
    unfold spatelaw11_LocksBook.b4
    exact ite_f rfl (done _ _ (kq s.1 s.2 RI' RS' h1 e1 e2 l1' l2' S1))
theorem book_true (n : Int) (l : Sl) (xs : List S52) (l2 : Sl) (xs2 : List S52) (h : H) (hl : Rds kStep h l xs) (hw : ∀ y ∈ xs, wStep h y) (hm : xs.length * 40 ≤ reachBytes) (hl2 : Rds kStep h l2 xs2) (hw2 : ∀ y ∈ xs2, wStep h y) (hm2 : xs2.length * 40 ≤ reachBytes) :
    spatelaw11_LocksBook n l l2 h fun r h' => r = true ∧ Ext h h' := by
  unfold spatelaw11_LocksBook
  have hlen := hl.len
  have hlen2 := hl2.len
  refine known_spec fun h1 e1 => ite_f rfl ?_
  have S0 : SS h h1 [] := SS.nil e1
  refine new_spec S0 (fun hb => rnew_spec S0 (fun _ => ?_) fun a b => by omega) fun g1 g2 m h2 S2 => rnew_spec S2 (fun hb => by omega) fun _ _ r h3 S3 => ?_
  · exact jn_i (ite_f rfl (ite_f rfl (ite_t rfl ⟨rfl, e1⟩)))
  refine jn_i (ite_f rfl (ite_f rfl (ite_f rfl (jn_i ?_))))
  have S3 : SS h h3 [mgrP m (AM.new n.toNat), refP r (AM.new n.toNat)] := S3.swap
  have ok0 : (AM.new n.toNat).Ok 0 := AM.Ok.new (by omega) (by omega)
  -- more of the script
  have fin2 : ∀ (A : AM) (h4 : H), A.Ok 60 → SS h h4 [mgrP m A, refP r A] → jn (fun (k5 : Unit → H → Prop) =>
            loopE (spatelaw11_LocksBook.b1 l2 (some ⟨m, 0, none⟩) (some ⟨r, 0, none⟩)) 0 h4 (sumK (fun r6 hh => k5 r6 hh) (fun (r7 : Bool) hh => r7 = true ∧ Ext h hh))) fun s5 h8 => true = true ∧ Ext h h8 := fun A h4 ok S4 => by
    refine jn_i (for0 (mk := fun (_ : Unit) i => i) (s := ()) (n := min xs2.length 60) (by omega) (fun j _ h' => ∃ A : AM, A.Ok (60 + j) ∧ SS h h' [mgrP m A, refP r A]) ⟨A, ok, S4⟩ (fun j _ h' K hj hI next done => ?_) (fun _ h' K hI done => ?_))
    · obtain ⟨A, ok, S4⟩ := hI
      unfold spatelaw11_LocksBook.b1
      have hjx : j < xs2.length := by omega
      refine jn_c true h' (fun K6 hK => ite_t (by rw [hlen2]; exact clt_t hjx) ?_) (ite_t rfl ?_)
      · rw [show decide ((j : Int) < 60) = true by rw [decide_eq_true_eq]; omega]; exact hK
      obtain ⟨ys, Ry, hy⟩ := hw2 _ (List.getElem_mem hjx)
      refine jn_q (fun v h'' => v = false ∧ ∃ A : AM, A.Ok (60 + (j + 1)) ∧ SS h h'' [mgrP m A, refP r A]) (fun K7 hK7 => ?_) ?_
      · refine (hl2.ext (SS.e S4)).elt0 hjx rfl (step_spec ok (by omega) S4 xs2[j] Ry (by omega) fun h6 S6 => ite_f rfl ?_)
        have ok' := ok.step xs2[j] ys
        refine (hl2.ext (SS.e S6)).elt ft_task hjx rfl (looks_spec ok' (by omega) S6 _ fun h7 S7 => hK7 _ _ ⟨rfl, _, ok', S7⟩)
      · rintro _ h7 ⟨rfl, A', ok', S7⟩
        exact ite_f rfl (next () _ ⟨A', ok', S7⟩)
    · obtain ⟨A, ok, S4⟩ := hI
      unfold spatelaw11_LocksBook.b1
      refine jn_c false h' (fun K6 hK => ite_b (fun c => ?_) (fun c => hK)) (ite_f rfl (done _ _ ⟨rfl, SS.e S4⟩))
      rw [decide_eq_true_eq] at c
      rw [show decide (((min xs2.length 60 : Nat) : Int) < 60) = false by rw [decide_eq_false_iff_not]; omega]; exact hK
  have fin : ∀ (A : AM) (h4 : H), A.Ok 60 → SS h h4 [mgrP m A, refP r A] → jn (fun (k4 : Unit → H → Prop) =>
            loopE (spatelaw11_LocksBook.b2 l l2 (some ⟨m, 0, none⟩) (some ⟨r, 0, none⟩)) 0 h4 (sumK (fun r9 hh => k4 r9 hh) (fun (r10 : Bool) hh => r10 = true ∧ Ext h hh))) fun s4 h7 =>
          jn (fun (k5 : Unit → H → Prop) =>
            loopE (spatelaw11_LocksBook.b1 l2 (some ⟨m, 0, none⟩) (some ⟨r, 0, none⟩)) 0 h7 (sumK (fun r6 hh => k5 r6 hh) (fun (r7 : Bool) hh => r7 = true ∧ Ext h hh))) fun s5 h8 => true = true ∧ Ext h h8 := fun A h4 ok S4 => by
    refine jn_i (for0 (mk := fun (_ : Unit) i => i) (s := ()) (n := min xs.length 60) (by omega) (fun j _ h' => SS h h' [mgrP m A, refP r A]) S4 (fun j _ h' K hj S5 next done => ?_) (fun _ h' K S5 done => ?_))
    · unfold spatelaw11_LocksBook.b2
      have hjx : j < xs.length := by omega
      refine jn_c true h' (fun K6 hK => ite_t (by rw [hlen]; exact clt_t hjx) ?_) (ite_t rfl ?_)
      · rw [show decide ((j : Int) < 60) = true by rw [decide_eq_true_eq]; omega]; exact hK
      refine (hl.ext (SS.e S5)).elt ft_task hjx rfl (looks_spec ok (by decide) S5 _ fun h6 S6 => ite_f rfl (next () _ S6))
    · unfold spatelaw11_LocksBook.b2
      refine jn_c false h' (fun K6 hK => ite_b (fun c => ?_) (fun c => hK)) (ite_f rfl (done _ _ (fin2 A h' ok S5)))
      rw [decide_eq_true_eq] at c
      rw [show decide (((min xs.length 60 : Nat) : Int) < 60) = false by rw [decide_eq_false_iff_not]; omega]; exact hK
  have fin3 : ∀ (s : Sl × Sl) (A : AM) (RI : List (GR Int)) (RS : List (GR Lk)) (h' : H), A.Ok 60 → (∀ r ∈ RI, r.xs.length ≤ 3000) → (∀ r ∈ RS, r.xs.length ≤ 3000) → RI.length ≤ 3000 → RS.length ≤ 3000 → SS h h' [mgrP m A, refP r A, ownP kL s.1 (RI.map (·.ss)), tellP (kI .i64) RI, ownP kL s.2 (RS.map (·.ss)), tellP kLk RS] →
        jn (fun (k3 : Bool → H → Prop) =>
          spatelaw2_GrownInts s.1 h' fun r11 h17 =>
          if (!r11) = true then
            k3 true h17
          else
            spatelaw2_GrownLocks s.2 h17 fun r12 h18 =>
            k3 (!r12) h18) fun s3 h6 =>
        if s3 = true then
          false = true ∧ Ext h h6
        else
          jn (fun (k4 : Unit → H → Prop) =>
            loopE (spatelaw11_LocksBook.b2 l l2 (some ⟨m, 0, none⟩) (some ⟨r, 0, none⟩)) 0 h6 (sumK (fun r9 hh => k4 r9 hh) (fun (r10 : Bool) hh => r10 = true ∧ Ext h hh))) fun s4 h7 =>
          jn (fun (k5 : Unit → H → Prop) =>
            loopE (spatelaw11_LocksBook.b1 l2 (some ⟨m, 0, none⟩) (some ⟨r, 0, none⟩)) 0 h7 (sumK (fun r6 hh => k5 r6 hh) (fun (r7 : Bool) hh => r7 = true ∧ Ext h hh))) fun s5 h8 => true = true ∧ Ext h h8 := fun s A RI RS h' ok li ls hni hns S4 => by
    refine jn_q (fun v h'' => v = false ∧ SS h h'' [mgrP m A, refP r A]) (fun K7 hK7 => ?_) ?_
    · have T1 : SS h h' [ownP kL s.1 (RI.map (·.ss)), tellP (kI .i64) RI, mgrP m A, refP r A, ownP kL s.2 (RS.map (·.ss)), tellP kLk RS] := (S4.front 3 rfl).front 3 rfl
      refine grownInts_spec li hni T1 fun h5 T2 => ite_f rfl ?_
      have T3 : SS h h5 [ownP kL s.2 (RS.map (·.ss)), tellP kLk RS, mgrP m A, refP r A] := (T2.front 3 rfl).front 3 rfl
      exact grownLocks_spec ls hns T3 fun h6 T4 => hK7 _ _ ⟨rfl, T4⟩
    · rintro _ h5 ⟨rfl, S5⟩
      exact ite_f rfl (fin A h5 ok S5)
  have SA : SS h h3 [mgrP m (AM.new n.toNat), refP r (AM.new n.toNat), ownP kL Sl.nil (([] : List (GR Int)).map (·.ss)), tellP (kI .i64) [], ownP kL Sl.nil (([] : List (GR Lk)).map (·.ss)), tellP kLk []] := by
    have Sa := (tellP.nil (K := kLk) S3)
    have Sb := Sa.made (Ext.refl h3) (Own.nil kL h3 (fun b => h3.size ≤ b))
    have Sc := (tellP.nil (K := kI .i64) Sb)
    have Sd := Sc.made (Ext.refl h3) (Own.nil kL h3 (fun b => h3.size ≤ b))
    exact (Sd.front 5 rfl).front 5 rfl
  refine for0 (mk := fun (s : Sl × Sl) i => (s.1, s.2, i)) (s := (Sl.nil, Sl.nil)) (n := min xs.length 60) (by omega) (fun j s h' => ∃ A RI RS, BI A RI RS j ∧ SS h h' [mgrP m A, refP r A, ownP kL s.1 (RI.map (·.ss)), tellP (kI .i64) RI, ownP kL s.2 (RS.map (·.ss)), tellP kLk RS]) ⟨_, [], [], ⟨ok0, Nat.le_refl _, Nat.le_refl _, by simp, by simp⟩, SA⟩ (fun j s h' K hj hI next done => ?_) (fun s h' K hI done => ?_)
  · obtain ⟨A, RI, RS, w, S4⟩ := hI
    unfold spatelaw11_LocksBook.b3
    have hjx : j < xs.length := by omega
    refine jn_c true h' (fun K6 hK => ite_t (by rw [hlen]; exact clt_t hjx) ?_) (ite_t rfl (jn_q (fun s' h'' => ∃ A RI RS, BI A RI RS (j + 1) ∧ SS h h'' [mgrP m A, refP r A, ownP kL s'.1 (RI.map (·.ss)), tellP (kI .i64) RI, ownP kL s'.2 (RS.map (·.ss)), tellP kLk RS]) (fun K5 hK5 => ?_) fun s' h'' hI => next s' h'' hI))
    · rw [show decide ((j : Int) < 60) = true by rw [decide_eq_true_eq]; omega]; exact hK
    have wok := w.ok; have wni := w.ni; have wns := w.ns
    obtain ⟨ys, Ry, hy⟩ := hw _ (List.getElem_mem hjx)
    refine (hl.ext (SS.e S4)).elt0 hjx rfl (S4.cell (K := kStep) (x := xs[j]) fun q h1 S1 _ => ?_)
    have hx0 : ld (kI .i64) ⟨q, 0, none⟩ h1 = some xs[j].f0 := varP.ld S1 ft_kind 0 rfl
    have hx1 : ld (kI .i64) ⟨q, 1, none⟩ h1 = some xs[j].f1 := varP.ld S1 ft_task 0 rfl
    have S1 : SS h h1 [varP kStep q xs[j], mgrP m A, refP r A, ownP kL s.1 (RI.map (·.ss)), tellP (kI .i64) RI, ownP kL s.2 (RS.map (·.ss)), tellP kLk RS] := S1
    refine jn_q (fun o1 h5 => ∃ A' RI', A'.Ok (j + 1) ∧ RI'.length ≤ 3 * j + 1 ∧ (∀ r ∈ RI', r.xs.length ≤ 3000) ∧ SS h h5 [varP kStep q xs[j], mgrP m A', refP r A', ownP kL o1 (RI'.map (·.ss)), tellP (kI .i64) RI', ownP kL s.2 (RS.map (·.ss)), tellP kLk RS]) (fun K4 hK4 => ?_) ?_
    · refine rd_some (by rw [add_mk]; exact hx0) (ite_b (fun c1 => ?_) (fun c1 => ite_b (fun c2 => ?_) (fun c2 => ?_)))
      · have hfl := AM.free_len wok xs[j].f1
        refine rd_some (by rw [add_mk]; exact hx1) (S1.go1 1 rfl (free_spec wok (by omega) xs[j].f1) fun g h2 S2 => ?_)
        have S2 : SS h h2 [ownP (kI .i64) g.1 (A.free xs[j].f1).1.1, errP g.2 (A.free xs[j].f1).1.2, varP kStep q xs[j], mgrP m (A.free xs[j].f1).2, refP r A, ownP kL s.1 (RI.map (·.ss)), tellP (kI .i64) RI, ownP kL s.2 (RS.map (·.ss)), tellP kLk RS] := S2
        refine rd_some (by rw [add_mk]; exact varP.ld S2 ft_task 2 rfl) (S2.go1 4 rfl (rfree_spec wok (by omega) xs[j].f1) fun t h3 S3 => ?_)
        have S3 : SS h h3 [ownP (kI .i64) t (A.free xs[j].f1).1.1, ownP (kI .i64) g.1 (A.free xs[j].f1).1.1, errP g.2 (A.free xs[j].f1).1.2, varP kStep q xs[j], mgrP m (A.free xs[j].f1).2, refP r (A.free xs[j].f1).2, ownP kL s.1 (RI.map (·.ss)), tellP (kI .i64) RI, ownP kL s.2 (RS.map (·.ss)), tellP kLk RS] := S3
        refine jn_c false h3 (fun K3 hK3 => same_ints (ownP.rds (K := kI .i64) S3 1 rfl) (ownP.rds (K := kI .i64) S3 0 rfl) (by omega) (ite_f rfl (is_spec S3 2 rfl hK3))) (ite_f rfl ?_)
        have T1 : SS h h3 [ownP (kI .i64) g.1 (A.free xs[j].f1).1.1, ownP kL s.1 (RI.map (·.ss)), tellP (kI .i64) RI, errP g.2 (A.free xs[j].f1).1.2, varP kStep q xs[j], mgrP m (A.free xs[j].f1).2, refP r (A.free xs[j].f1).2, ownP kL s.2 (RS.map (·.ss)), tellP kLk RS] := ((S3.tail.front 6 rfl).front 6 rfl).front 2 rfl
        refine tell_push T1 (by omega) fun o1 h4 T2 => hK4 o1 h4 ⟨_, RI ++ [⟨g.1, g.1, (A.free xs[j].f1).1.1, (A.free xs[j].f1).1.1⟩], (wok.free xs[j].f1).mono (by omega), by simp; omega, mem_add (xs := (A.free xs[j].f1).1.1) w.li (by omega), ?_⟩
        exact ((((T2.front 2 rfl).tail).front 4 rfl).front 4 rfl).front 4 rfl
      · have hfl := AM.quit_len wok xs[j].f1
        refine rd_some (by rw [add_mk]; exact hx1) (S1.go1 1 rfl (quit_spec wok (by omega) xs[j].f1) fun g h2 S2 => ?_)
        have S2 : SS h h2 [ownP (kI .i64) g (A.quit xs[j].f1).1, varP kStep q xs[j], mgrP m (A.quit xs[j].f1).2, refP r A, ownP kL s.1 (RI.map (·.ss)), tellP (kI .i64) RI, ownP kL s.2 (RS.map (·.ss)), tellP kLk RS] := S2
        refine rd_some (by rw [add_mk]; exact varP.ld S2 ft_task 1 rfl) (S2.go1 3 rfl (rquit_spec wok (by omega) xs[j].f1) fun t h3 S3 => ?_)
        have S3 : SS h h3 [ownP (kI .i64) t (A.quit xs[j].f1).1, ownP (kI .i64) g (A.quit xs[j].f1).1, varP kStep q xs[j], mgrP m (A.quit xs[j].f1).2, refP r (A.quit xs[j].f1).2, ownP kL s.1 (RI.map (·.ss)), tellP (kI .i64) RI, ownP kL s.2 (RS.map (·.ss)), tellP kLk RS] := S3
        refine same_ints (ownP.rds (K := kI .i64) S3 1 rfl) (ownP.rds (K := kI .i64) S3 0 rfl) (by omega) (ite_f rfl ?_)
        have T1 : SS h h3 [ownP (kI .i64) g (A.quit xs[j].f1).1, ownP kL s.1 (RI.map (·.ss)), tellP (kI .i64) RI, varP kStep q xs[j], mgrP m (A.quit xs[j].f1).2, refP r (A.quit xs[j].f1).2, ownP kL s.2 (RS.map (·.ss)), tellP kLk RS] := ((S3.tail.front 5 rfl).front 5 rfl).front 2 rfl
        refine tell_push T1 (by omega) fun o1 h4 T2 => hK4 o1 h4 ⟨_, RI ++ [⟨g, g, (A.quit xs[j].f1).1, (A.quit xs[j].f1).1⟩], (wok.quit xs[j].f1).mono (by omega), by simp; omega, mem_add (xs := (A.quit xs[j].f1).1) w.li (by omega), ?_⟩
        exact ((T2.front 4 rfl).front 4 rfl).front 4 rfl
      · refine rd_some (varP.ld S1 (Fld.whole kStep) 0 rfl) ?_
        have S1' : SS h h1 (mgrP m A :: refP r A :: [varP kStep q xs[j], ownP kL s.1 (RI.map (·.ss)), tellP (kI .i64) RI, ownP kL s.2 (RS.map (·.ss)), tellP kLk RS]) := (S1.front 2 rfl).front 2 rfl
        refine step_spec wok (by omega) S1' xs[j] Ry (by omega) fun h6 S6 => ite_f rfl (hK4 _ _ ⟨_, RI, wok.step _ _, by omega, w.li, S6.front 2 rfl⟩)
    · rintro o1 h5 ⟨A', RI', ok', ni', li', S5⟩
      refine book_twice (ok'.mono (by omega)) (by omega) (by omega) li' w.ls S5 fun o1' o2' RI2 RS2 h6 e1 e2 l1 l2' S6 => hK5 (o1', o2') h6 ⟨A', RI2, RS2, ⟨ok', by omega, by omega, l1, l2'⟩, S6.tail⟩
  · obtain ⟨A, RI, RS, w, S4⟩ := hI
    have wok := w.ok; have wni := w.ni; have wns := w.ns
    unfold spatelaw11_LocksBook.b3
    refine jn_c false h' (fun K6 hK => ite_b (fun c => ?_) (fun c => hK)) (ite_f rfl (done _ _ ?_))
    · rw [decide_eq_true_eq] at c
      have c : ((min xs.length 60 : Nat) : Int) < (l.len : Int) := c
      show K6 (decide (((min xs.length 60 : Nat) : Int) < 60)) h'
      rw [show decide (((min xs.length 60 : Nat) : Int) < 60) = false by rw [decide_eq_false_iff_not]; omega]; exact hK
    exact fin3 s A RI RS h' (wok.mono (by omega)) w.li w.ls (by omega) (by omega) S4
end Go.Proofs.Ytgmihbchcmjmdaa
