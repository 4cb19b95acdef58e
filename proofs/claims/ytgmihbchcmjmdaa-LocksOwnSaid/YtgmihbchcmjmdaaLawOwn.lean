/- LocksOwn, over the heap. -/
import Derived.Test.YtgmihbchcmjmdaaLawPlays
import Derived.Test.YtgmihbchcmjmdaaG8
namespace Go.Proofs.Ytgmihbchcmjmdaa
open Go Go.Tr
set_option linter.unusedVariables false
section
variable {F0 : Nat → Prop} {h0 h : H} {Rs : List HP}
theorem spoil_spec {s : Sl} {xs : List Int} (S : SG F0 h0 h (ownP (kI .i64) s xs :: Rs)) (hl : xs.length ≤ 1000000000) {Q : Unit → H → Prop} (k : ∀ h', SG F0 h0 h' Rs → Q () h') : spatelaw11_spoil s h Q := by
  unfold spatelaw11_spoil
  have hs : s.len = xs.length := ownP.len (K := kI .i64) S 0 rfl
  refine jn_i (for0 (mk := fun (_ : Unit) i => i) (s := ()) (n := xs.length) (by omega) (fun j _ h' => ∃ zs : List Int, zs.length = xs.length ∧ SG F0 h0 h' (ownP (kI .i64) s zs :: Rs)) ⟨xs, rfl, S⟩ (fun j _ h' K hj hI next done => ?_) (fun _ h' K hI done => ?_))
  · obtain ⟨zs, hz, S1⟩ := hI
    unfold spatelaw11_spoil.b1
    obtain ⟨a, h4, ha, hst, S4⟩ := ownP.set (K := kI .i64) S1 0 rfl (j := j) (by omega) (-41) (n := 1) rfl
    exact ite_t (by rw [hs]; exact clt_t hj) (rd_some ha (rd_some hst (next () _ ⟨_, by simpa using hz, S4⟩)))
  · obtain ⟨zs, hz, S1⟩ := hI
    unfold spatelaw11_spoil.b1
    refine ite_f (by rw [hs]; exact clt_f (Nat.lt_irrefl _)) (done _ _ ?_)
    refine bs_own (K := kI .i64) [42, 43] rfl rfl fun x1 h2 o1 hl1 e1 z1 => ?_
    refine ownP.app (K := kI .i64) (by decide) (S1.ext e1) 0 rfl o1.rds (by simp; omega) (by simp; omega) fun s2 h3 S3 => ?_
    obtain ⟨a, h4, ha, hst, S4⟩ := ownP.set (K := kI .i64) S3 0 rfl (xs := zs ++ [42, 43]) (j := 0) (by simp) 44 (n := 1) rfl
    exact rd_some ha (rd_some hst (k h4 S4.tail))
theorem wipe_spec {p1 p2 : Sl} {p7 p9 p11 : Option Addr} {p13 : Int} {p14 : Addr} {s : Sl} {xs : List Lk} (S : SG F0 h0 h (ownP kLk s xs :: Rs)) (hl : xs.length ≤ 1000000000) {Q : Unit → H → Prop} (k : ∀ h', SG F0 h0 h' Rs → Q () h') : loopE (spatelaw11_LocksOwn.b2 p1 p2 p7 p9 p11 p13 p14 s) 0 h Q := by
  have hs : s.len = xs.length := ownP.len (K := kLk) S 0 rfl
  refine for0 (mk := fun (_ : Unit) i => i) (s := ()) (n := xs.length) (by omega) (fun j _ h' => ∃ zs : List Lk, zs.length = xs.length ∧ SG F0 h0 h' (ownP kLk s zs :: Rs)) ⟨xs, rfl, S⟩ (fun j _ h' K hj hI next done => ?_) (fun _ h' K hI done => ?_)
  · obtain ⟨zs, hz, S1⟩ := hI
    unfold spatelaw11_LocksOwn.b2
    obtain ⟨a, h4, ha, hst, S4⟩ := ownP.set (K := kLk) S1 0 rfl (j := j) (by omega) ⟨-3, false⟩ (n := 2) rfl
    exact ite_t (by rw [hs]; exact clt_t hj) (rd_some ha (rd_some hst (next () _ ⟨_, by simpa using hz, S4⟩)))
  · obtain ⟨zs, hz, S1⟩ := hI
    unfold spatelaw11_LocksOwn.b2
    exact ite_f (by rw [hs]; exact clt_f (Nat.lt_irrefl _)) (done _ _ (k h' S1.tail))
end
theorem own_true (n : Int) (l : Sl) (xs : List S52) (l2 : Sl) (xs2 : List S52) (h : H) (hl : Rds kStep h l xs) (hw : ∀ y ∈ xs, wStep h y) (hm : xs.length * 40 ≤ reachBytes) (hl2 : Rds kStep h l2 xs2) (hw2 : ∀ y ∈ xs2, wStep h y) (hm2 : xs2.length * 40 ≤ reachBytes) :
    spatelaw11_LocksOwn n l l2 h fun r h' => r = true ∧ Ext h h' := by
  unfold spatelaw11_LocksOwn
  have hlen := hl.len
  have hlen2 := hl2.len
  refine known_spec fun h1 e1 => ite_f rfl ?_
  have S0 : SS h h1 [] := SS.nil e1
  by_cases hb : n < 1 ∨ n > 1024
  · refine new_spec S0 (fun _ => new_spec S0 (fun _ => new_spec S0 (fun _ => ?_) fun _ _ => by omega) fun _ _ => by omega) fun _ _ => by omega
    exact ite_t rfl (jn_c true h1 (fun K hK => ite_t rfl hK) ⟨rfl, e1⟩)
  refine new_spec S0 (fun hb' => absurd hb' hb) fun g1 g2 a h2 S2 => new_spec S2 (fun hb' => absurd hb' hb) fun _ _ b h3 S3 => new_spec S3 (fun hb' => absurd hb' hb) fun _ _ c h4 S4 => ?_
  refine ite_f rfl (jn_i ?_)
  have ok0 : (AM.new n.toNat).Ok 0 := AM.Ok.new (by omega) (by omega)
  have S4 : SS h h4 [mgrP c (AM.new n.toNat), mgrP b (AM.new n.toNat), mgrP a (AM.new n.toNat)] := S4
  refine for0 (mk := fun (_ : Unit) i => i) (s := ()) (n := min (max xs.length xs2.length) 300) (by omega) (fun j _ h' => ∃ A B : AM, A.Ok j ∧ B.Ok j ∧ SS h h' [mgrP c A, mgrP b B, mgrP a A]) ⟨_, _, ok0, ok0, S4⟩ (fun j _ h' K hj hI next done => ?_) (fun _ h' K hI done => ?_)
  · obtain ⟨A, B, okA, okB, S⟩ := hI
    unfold spatelaw11_LocksOwn.b1
    refine jn_c true h' (fun K6 hK => ?_) (ite_t rfl (jn_i (jn_q (fun _ h9 => ∃ A' : AM, A'.Ok (j + 1) ∧ SS h h9 [mgrP c A', mgrP b B, mgrP a A']) (fun K5 hK5 => ?_) ?_)))
    · have h300 : decide ((j : Int) < 300) = true := by rw [decide_eq_true_eq]; omega
      refine ite_b (fun c => ?_) (fun c => ite_t ?_ ?_)
      · rw [h300]; exact hK
      · rw [decide_eq_false_iff_not] at c
        rw [decide_eq_true_eq]; omega
      · rw [h300]; exact hK
    · -- the first
      refine ite_b (fun cj => ?_) (fun cj => hK5 () h' ⟨A, okA.mono (by omega), S⟩)
      have hjx : j < xs.length := by rw [decide_eq_true_eq] at cj; omega
      obtain ⟨ys, Ry, hy⟩ := hw _ (List.getElem_mem hjx)
      refine (hl.ext (SS.e S)).elt0 hjx rfl (S.cell (K := kStep) (x := xs[j]) fun q h1 S1 _ => ?_)
      have hx0 : ld (kI .i64) ⟨q, 0, none⟩ h1 = some xs[j].f0 := varP.ld S1 ft_kind 0 rfl
      have hx1 : ld (kI .i64) ⟨q, 1, none⟩ h1 = some xs[j].f1 := varP.ld S1 ft_task 0 rfl
      have hx2 : ld kL ⟨q, 2, none⟩ h1 = some xs[j].f2 := varP.ld S1 ft_l 0 rfl
      refine jn_q (fun ok h6 => ok = true ∧ SS h h6 (varP kStep q xs[j] :: [mgrP c (A.step xs[j] ys), mgrP b B, mgrP a (A.step xs[j] ys)])) (fun K6 hK6 => rd_some (by rw [add_mk]; exact hx0) ?_) ?_
      · refine ite_b (fun c1 => ?_) (fun c1 => ite_b (fun c2 => ?_) (fun c2 => ite_b (fun c3 => ?_) (fun c3 => ?_)))
        · have hA : A.step xs[j] ys = (A.ask xs[j].f1 (ys.take 40)).2 := by unfold AM.step; rw [if_pos (by simpa using c1)]
          rw [hA] at hK6
          have h40 : (ys.take 40).length ≤ 40 := by simp; omega
          refine rd_some (by rw [add_mk]; exact hx1) (rd_some (by rw [add_mk]; exact hx2) (cut_spec Ry (by omega) fun s' R' => ⟨by rw [add_mk]; exact hx1, ?_⟩))
          refine S1.go1 3 rfl (ask_spec okA (by omega) (t := xs[j].f1) (R'.ext (SS.e S1)) (by omega)) fun v h3 S3 => ?_
          refine rd_some (by rw [add_mk]; exact varP.ld S3 ft_task 1 rfl) (rd_some (by rw [add_mk]; exact varP.ld S3 ft_l 1 rfl) (cut_spec Ry (by omega) fun s' R' => ⟨by rw [add_mk]; exact varP.ld S3 ft_task 1 rfl, ?_⟩))
          refine S3.go1 2 rfl (ask_spec okA (by omega) (t := xs[j].f1) (R'.ext (SS.e S3)) (by omega)) fun v2 h4 S4 => ?_
          exact hK6 _ _ ⟨by simp, S4.tail.tail⟩
        · have hA : A.step xs[j] ys = (A.free xs[j].f1).2 := by unfold AM.step; rw [if_neg (by simpa using c1), if_pos (by simpa using c2)]
          rw [hA] at hK6
          have hfl := AM.free_len okA xs[j].f1
          refine rd_some (by rw [add_mk]; exact hx1) (S1.go1 3 rfl (free_spec okA (by omega) xs[j].f1) fun g h3 S3 => ?_)
          have S3 : SS h h3 (ownP (kI .i64) g.1 (A.free xs[j].f1).1.1 :: errP g.2 (A.free xs[j].f1).1.2 :: varP kStep q xs[j] :: [mgrP c A, mgrP b B, mgrP a (A.free xs[j].f1).2]) := S3
          refine rd_some (by rw [add_mk]; exact varP.ld S3 ft_task 2 rfl) (S3.go1 3 rfl (free_spec okA (by omega) xs[j].f1) fun g2 h4 S4 => ?_)
          have S4 : SS h h4 (ownP (kI .i64) g2.1 (A.free xs[j].f1).1.1 :: errP g2.2 (A.free xs[j].f1).1.2 :: ownP (kI .i64) g.1 (A.free xs[j].f1).1.1 :: errP g.2 (A.free xs[j].f1).1.2 :: varP kStep q xs[j] :: [mgrP c (A.free xs[j].f1).2, mgrP b B, mgrP a (A.free xs[j].f1).2]) := S4
          refine same_ints (ownP.rds (K := kI .i64) S4 2 rfl) (ownP.rds (K := kI .i64) S4 0 rfl) (by omega) ?_
          exact spoil_spec (S4.front 2 rfl) (by omega) fun h5 S5 => hK6 _ _ ⟨rfl, S5.tail.tail.tail⟩
        · have hA : A.step xs[j] ys = (A.quit xs[j].f1).2 := by unfold AM.step; rw [if_neg (by simpa using c1), if_neg (by simpa using c2), if_pos (by simpa using c3)]
          rw [hA] at hK6
          have hfl := AM.quit_len okA xs[j].f1
          refine rd_some (by rw [add_mk]; exact hx1) (S1.go1 3 rfl (quit_spec okA (by omega) xs[j].f1) fun g h3 S3 => ?_)
          have S3 : SS h h3 (ownP (kI .i64) g (A.quit xs[j].f1).1 :: varP kStep q xs[j] :: [mgrP c A, mgrP b B, mgrP a (A.quit xs[j].f1).2]) := S3
          refine rd_some (by rw [add_mk]; exact varP.ld S3 ft_task 1 rfl) (S3.go1 2 rfl (quit_spec okA (by omega) xs[j].f1) fun g2 h4 S4 => ?_)
          have S4 : SS h h4 (ownP (kI .i64) g2 (A.quit xs[j].f1).1 :: ownP (kI .i64) g (A.quit xs[j].f1).1 :: varP kStep q xs[j] :: [mgrP c (A.quit xs[j].f1).2, mgrP b B, mgrP a (A.quit xs[j].f1).2]) := S4
          refine same_ints (ownP.rds (K := kI .i64) S4 1 rfl) (ownP.rds (K := kI .i64) S4 0 rfl) (by omega) ?_
          exact spoil_spec (S4.front 1 rfl) (by omega) fun h5 S5 => hK6 _ _ ⟨rfl, S5.tail⟩
        · have hA : A.step xs[j] ys = A := by unfold AM.step; rw [if_neg (by simpa using c1), if_neg (by simpa using c2), if_neg (by simpa using c3)]
          rw [hA] at hK6
          exact hK6 _ _ ⟨rfl, S1⟩
      · rintro _ h6 ⟨rfl, S6⟩
        have ok1 := okA.step xs[j] ys
        have hql := queueL_len ok1
        have hsl := sortL_len2 ok1 xs[j].f1
        refine ite_f rfl (S6.go1 3 rfl (queue_spec ok1 (by omega)) fun q1 h7 S7 => ?_)
        refine spoil_spec S7 (by omega) fun h8 S8 => rd_some (by rw [add_mk]; exact varP.ld S8 ft_task 0 rfl) ?_
        refine SG.go1 S8 3 rfl (has_spec ok1 (by omega) xs[j].f1) fun s1 h9 S9 => jn_i (wipe_spec S9 (by omega) fun h10 S10 => ?_)
        refine jn_q (fun v h' => v = false ∧ SS h h' (varP kStep q xs[j] :: [mgrP c (A.step xs[j] ys), mgrP b B, mgrP a (A.step xs[j] ys)])) (fun K8 hK8 => ?_) ?_
        · refine SG.go1 S10 3 rfl (queue_spec ok1 (by omega)) fun q2 h11 S11 => SG.go1 S11 2 rfl (queue_spec ok1 (by omega)) fun q3 h12 S12 => ?_
          have S12 : SS h h12 (ownP (kI .i64) q3 (A.step xs[j] ys).queueL :: ownP (kI .i64) q2 (A.step xs[j] ys).queueL :: varP kStep q xs[j] :: [mgrP c (A.step xs[j] ys), mgrP b B, mgrP a (A.step xs[j] ys)]) := S12
          refine same_ints (ownP.rds (K := kI .i64) S12 1 rfl) (ownP.rds (K := kI .i64) S12 0 rfl) (by omega) (ite_f rfl ?_)
          have hv : ld (kI .i64) ⟨q, 1, none⟩ h12 = some xs[j].f1 := varP.ld S12 ft_task 2 rfl
          refine rd_some (by rw [add_mk]; exact hv) (rd_some (by rw [add_mk]; exact hv) (SG.go1 S12 5 rfl (has_spec ok1 (by omega) xs[j].f1) fun s2 h13 S13 => ?_))
          have S13 : SS h h13 (ownP kLk s2 ((A.step xs[j] ys).hasL xs[j].f1) :: ownP (kI .i64) q3 (A.step xs[j] ys).queueL :: ownP (kI .i64) q2 (A.step xs[j] ys).queueL :: varP kStep q xs[j] :: [mgrP c (A.step xs[j] ys), mgrP b B, mgrP a (A.step xs[j] ys)]) := S13
          refine ⟨by rw [add_mk]; exact varP.ld S13 ft_task 3 rfl, SG.go1 S13 4 rfl (has_spec ok1 (by omega) xs[j].f1) fun s3 h14 S14 => ?_⟩
          have S14 : SS h h14 (ownP kLk s3 ((A.step xs[j] ys).hasL xs[j].f1) :: ownP kLk s2 ((A.step xs[j] ys).hasL xs[j].f1) :: ownP (kI .i64) q3 (A.step xs[j] ys).queueL :: ownP (kI .i64) q2 (A.step xs[j] ys).queueL :: varP kStep q xs[j] :: [mgrP c (A.step xs[j] ys), mgrP b B, mgrP a (A.step xs[j] ys)]) := S14
          exact same_locks (ownP.rds (K := kLk) S14 1 rfl) (ownP.rds (K := kLk) S14 0 rfl) (by omega) (hK8 _ _ ⟨rfl, S14.tail.tail.tail.tail⟩)
        · rintro _ h15 ⟨rfl, S15⟩
          exact ite_f rfl (hK5 () h15 ⟨_, ok1, S15.tail⟩)
    · -- the second
      rintro _ h9 ⟨A', okA', S9⟩
      refine ite_b (fun cj => ?_) (fun cj => next () h9 ⟨A', B, okA', okB.mono (by omega), S9⟩)
      have hjx : j < xs2.length := by rw [decide_eq_true_eq] at cj; omega
      obtain ⟨ys, Ry, hy⟩ := hw2 _ (List.getElem_mem hjx)
      refine (hl2.ext (SS.e S9)).elt0 hjx rfl (S9.cell (K := kStep) (x := xs2[j]) fun q h1 S1 _ => ?_)
      have hx0 : ld (kI .i64) ⟨q, 0, none⟩ h1 = some xs2[j].f0 := varP.ld S1 ft_kind 0 rfl
      have hx1 : ld (kI .i64) ⟨q, 1, none⟩ h1 = some xs2[j].f1 := varP.ld S1 ft_task 0 rfl
      have hx2 : ld kL ⟨q, 2, none⟩ h1 = some xs2[j].f2 := varP.ld S1 ft_l 0 rfl
      refine rd_some (by rw [add_mk]; exact hx0) ?_
      have h40 : (ys.take 40).length ≤ 40 := by simp; omega
      refine ite_b (fun c1 => ?_) (fun c1 => ite_b (fun c2 => ?_) (fun c2 => ite_b (fun c3 => ?_) (fun c3 => ?_)))
      · refine rd_some (by rw [add_mk]; exact hx1) (rd_some (by rw [add_mk]; exact hx2) (cut_spec Ry (by omega) fun s' R' => ⟨by rw [add_mk]; exact hx1, ?_⟩))
        refine S1.go1 2 rfl (ask_spec okB (by omega) (t := xs2[j].f1) (R'.ext (SS.e S1)) (by omega)) fun v h3 S3 => ?_
        exact next () h3 ⟨A', _, okA', okB.ask _ _, S3.tail.tail⟩
      · refine rd_some (by rw [add_mk]; exact hx1) (S1.go1 2 rfl (free_spec okB (by omega) xs2[j].f1) fun g h3 S3 => ?_)
        exact next () h3 ⟨A', _, okA', (okB.free _).mono (by omega), S3.tail.tail.tail⟩
      · refine rd_some (by rw [add_mk]; exact hx1) (S1.go1 2 rfl (quit_spec okB (by omega) xs2[j].f1) fun g h3 S3 => ?_)
        exact next () h3 ⟨A', _, okA', (okB.quit _).mono (by omega), S3.tail.tail⟩
      · exact next () h1 ⟨A', B, okA', okB.mono (by omega), S1.tail⟩
  · obtain ⟨A, B, okA, okB, S⟩ := hI
    unfold spatelaw11_LocksOwn.b1
    refine jn_c false h' (fun K6 hK => ?_) (ite_f rfl (done _ _ ⟨rfl, SS.e S⟩))
    have h300 : ∀ m, m = xs.length ∨ m = xs2.length → decide (((min (max xs.length xs2.length) 300 : Nat) : Int) < (m : Int)) = true → decide (((min (max xs.length xs2.length) 300 : Nat) : Int) < 300) = false := fun m hm c => by
      rw [decide_eq_true_eq] at c
      rw [decide_eq_false_iff_not]; omega
    refine ite_b (fun c => ?_) (fun c => ite_b (fun c2 => ?_) (fun c2 => hK))
    · rw [h300 l.len (.inl hlen) c]; exact hK
    · rw [h300 l2.len (.inr hlen2) c2]; exact hK
end Go.Proofs.Ytgmihbchcmjmdaa
