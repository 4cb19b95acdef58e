/- LocksNamed, over the heap. -/
import Derived.Test.YtgmihbchcmjmdaaLkR
import Derived.Test.YtgmihbchcmjmdaaLawEnds
import Derived.Test.YtgmihbchcmjmdaaG6
import Derived.Test.YtgmihbchcmjmdaaG1
namespace Go.Proofs.Ytgmihbchcmjmdaa
open Go Go.Tr
set_option linter.unusedVariables false
section
variable {F0 : Nat → Prop} {h0 h : H} {Ps Rs : List HP}
theorem within_go {a n : Int} (h1 : 0 < n) (h2 : n < 4611686018427387904) {Q : Int → H → Prop} (k : ∀ r, 0 ≤ r → r < n → Q r h) : spatelaw11_within a n h Q := by
  unfold spatelaw11_within
  have hr : remI a n = some (a.tmod n) := by unfold remI; rw [if_neg (by omega)]
  have hw := within_spec (h := h) h1 h2 hr
  refine rd_some hr (jn_c (if a.tmod n < 0 then IntKind.i64.wrap (a.tmod n + n) else a.tmod n) h (fun K hK => ite_b (fun c => ?_) (fun c => ?_)) (k _ hw.1 hw.2))
  · rw [decide_eq_true_eq] at c; rw [if_pos c] at hK; exact hK
  · rw [decide_eq_false_iff_not] at c; rw [if_neg c] at hK; exact hK
theorem tname_wrap {b : Nat} (hb : b < 1048576) {t : Int} (h1 : 0 ≤ t) (h2 : t ≤ 1099511627776) : IntKind.i64.wrap (IntKind.i64.wrap (3 * t) + (b : Int)) = tname b t := by
  unfold tname
  rw [wrap64_id (n := 3 * t) (by omega) (by omega), wrap64_id (by omega) (by omega)]
theorem names_spec {b : Nat} (hb : b < 1048576) (S : SG F0 h0 h Ps) (i : Nat) {s : Sl} {xs : List Int} (hi : Ps[i]? = some (ownP (kI .i64) s xs)) (hx : ∀ t ∈ xs, 0 ≤ t ∧ t ≤ 1099511627776) (hl : xs.length ≤ 1000000000) {Q : Sl → H → Prop}
    (k : ∀ s' h', SG F0 h0 h' (ownP (kI .i64) s' (xs.map (tname b)) :: Ps) → Q s' h') : spatelaw11_names s (b : Int) h Q := by
  unfold spatelaw11_names
  have hs := ownP.len S i hi
  refine jn_i (for0 (mk := fun (s : Sl) i => (s, i)) (s := Sl.nil) (n := xs.length) (by omega) (fun j s' h' => SG F0 h0 h' (ownP (kI .i64) s' ((xs.map (tname b)).take j) :: Ps)) (S.made (Ext.refl h) (Own.nil (kI .i64) h _)) (fun j s' h' K hj S1 next done => ?_) (fun s' h' K S1 done => ?_))
  · unfold spatelaw11_names.b1
    have R := ownP.rds S1 (i + 1) (by rw [List.getElem?_cons_succ]; exact hi)
    refine ite_t (by rw [hs]; exact clt_t hj) (R.elt0 hj rfl ?_)
    have hr := hx _ (List.getElem_mem hj)
    rw [tname_wrap hb hr.1 hr.2]
    refine ownP.push (K := kI .i64) (by decide) S1 0 rfl (tname b xs[j]) (by simp; omega) (by simp; omega) fun o' h6 S6 => next o' h6 ?_
    have : (xs.map (tname b)).take (j + 1) = (xs.map (tname b)).take j ++ [tname b xs[j]] := by
      rw [List.take_add_one, List.getElem?_map, List.getElem?_eq_getElem hj]; rfl
    rw [this]; exact S6
  · unfold spatelaw11_names.b1
    refine ite_f (by rw [hs]; exact clt_f (Nat.lt_irrefl _)) (done _ _ (k s' h' ?_))
    rw [List.take_of_length_le (by rw [List.length_map]; omega)] at S1; exact S1
end
section
variable {h0 h : H} {Ps : List HP}
/-- The set, with other numbers, from its end on. -/
theorem turned_spec {n b : Nat} (hn : 1 ≤ n) (hn2 : n ≤ 1024) (hb : b < 1048576) (S : SS h0 h Ps) {s : Sl} {l : List Lk} (R : Rds kLk h0 s l) (hl : l.length ≤ 1000000) {p1 : Sl} {p7 p9 : Option Addr} {p11 : Int} {p12 : Addr} {p13 : Int} {Q : Sl → H → Prop}
    (k : ∀ s' h', SS h0 h' (ownP kLk s' (renL n b l) :: Ps) → Q s' h') : loopE (spatelaw11_LocksNamed.b2 (n : Int) p1 (b : Int) p7 p9 p11 p12 p13 s) (Sl.nil, 0) h Q := by
  have hs := R.len
  have hrl : (renL n b l).length = l.length := by simp [renL]
  refine for0 (mk := fun (s : Sl) i => (s, i)) (s := Sl.nil) (n := l.length) (by omega) (fun j s' h' => SS h0 h' (ownP kLk s' ((renL n b l).take j) :: Ps)) (S.made (Ext.refl h) (Own.nil kLk h _)) (fun j s' h' K hj S1 next done => ?_) (fun s' h' K S1 done => ?_)
  · unfold spatelaw11_LocksNamed.b2
    have hj2 : l.length - 1 - j < l.length := by omega
    have ew : IntKind.i64.wrap (IntKind.i64.wrap ((s.len : Int) - 1) - (j : Int)) = ((l.length - 1 - j : Nat) : Int) := by
      rw [wrap64_id (n := (s.len : Int) - 1) (by omega) (by omega), wrap64_id (by omega) (by omega)]; omega
    refine ite_t (by rw [hs]; exact clt_t hj) ?_
    show rd (ixA 2 s (IntKind.i64.wrap (IntKind.i64.wrap ((s.len : Int) - 1) - (j : Int)))) _
    rw [ew]
    refine (R.ext (SS.e S1)).elt0 hj2 rfl (S1.cell (K := kLk) (x := l[l.length - 1 - j]) fun q h1 S2 _ => ?_)
    have hx : ld (kI .i64) ⟨q, 0, none⟩ h1 = some l[l.length - 1 - j].f0 := varP.ld S2 fk_n 0 rfl
    have he : (renL n b l).take (j + 1) = (renL n b l).take j ++ [ren n b l[l.length - 1 - j]] := by
      rw [List.take_add_one]
      congr 1
      unfold renL
      rw [List.getElem?_map, List.getElem?_reverse hj, List.getElem?_eq_getElem hj2]; rfl
    refine jn_q (fun _ h' => SS h0 h' (varP kLk q (ren n b l[l.length - 1 - j]) :: ownP kLk s' ((renL n b l).take j) :: Ps)) (fun K2 hK => ?_) ?_
    · refine jn_c (decide (0 ≤ l[l.length - 1 - j].f0 ∧ l[l.length - 1 - j].f0 < (n : Int))) h1 (fun K3 hK3 => rd_some (by rw [add_mk]; exact hx) (ite_b (fun c => ?_) (fun c => ?_))) (ite_b (fun c => ?_) (fun c => ?_))
      · rw [decide_eq_true_eq] at c
        have e : decide (0 ≤ l[l.length - 1 - j].f0 ∧ l[l.length - 1 - j].f0 < (n : Int)) = decide (l[l.length - 1 - j].f0 < (n : Int)) := by apply Bool.eq_iff_iff.2; rw [decide_eq_true_eq, decide_eq_true_eq]; omega
        rw [e] at hK3
        exact rd_some (by rw [add_mk]; exact hx) hK3
      · rw [decide_eq_false_iff_not] at c
        rw [decide_eq_false (by omega)] at hK3; exact hK3
      · rw [decide_eq_true_eq] at c
        have er : remI (IntKind.i64.wrap (l[l.length - 1 - j].f0 + (b : Int))) (n : Int) = some (gren n b l[l.length - 1 - j].f0) := by
          unfold remI gren
          rw [if_neg (by omega), if_pos c, wrap64_id (by omega) (by omega)]
        obtain ⟨h2, s2, S3, _⟩ := varP.st S2 fk_n 0 rfl (gren n b l[l.length - 1 - j].f0)
        exact rd_some (by rw [add_mk]; exact hx) (rd_some er (rd_some (by rw [add_mk]; exact s2) (hK () h2 S3)))
      · rw [decide_eq_false_iff_not] at c
        refine hK () h1 ?_
        have : ren n b l[l.length - 1 - j] = l[l.length - 1 - j] := by unfold ren gren; rw [if_neg c]
        rw [this]; exact S2
    · rintro _ h2 S3
      have hw : ld kLk ⟨q, 0, none⟩ h2 = some (ren n b l[l.length - 1 - j]) := varP.ld S3 (Fld.whole kLk) 0 rfl
      refine rd_some hw (ownP.push (K := kLk) (by decide) S3 1 rfl (ren n b l[l.length - 1 - j]) (by simp; omega) (by simp; omega) fun o' h6 S6 => next o' h6 ?_)
      rw [he]; exact S6.tail
  · unfold spatelaw11_LocksNamed.b2
    refine ite_f (by rw [hs]; exact clt_f (Nat.lt_irrefl _)) (done _ _ (k s' h' ?_))
    rw [List.take_of_length_le (by omega)] at S1; exact S1
end
theorem named_true (n : Int) (l : Sl) (xs : List S52) (by_ : Int) (h : H) (hl : Rds kStep h l xs) (hw : ∀ y ∈ xs, wStep h y) (hm : xs.length * 40 ≤ reachBytes) : spatelaw11_LocksNamed n l by_ h fun r h' => r = true ∧ Ext h h' := by
  unfold spatelaw11_LocksNamed
  have hlen := hl.len
  refine known_spec fun h1 e1 => ite_f rfl ?_
  have S0 : SS h h1 [] := SS.nil e1
  refine new_spec S0 (fun hb => new_spec S0 (fun _ => ?_) fun a b => by omega) fun g1 g2 m h2 S2 => new_spec S2 (fun hb => by omega) fun _ _ r h3 S3 => ?_
  · exact jn_i (ite_f rfl (ite_f rfl (ite_t rfl ⟨rfl, e1⟩)))
  obtain ⟨n, rfl⟩ := Int.eq_ofNat_of_zero_le (show 0 ≤ n by omega)
  refine jn_i (ite_f rfl (ite_f rfl (ite_f rfl (within_go (by decide) (by decide) fun b hb0 hb => jn_i ?_))))
  obtain ⟨b, rfl⟩ := Int.eq_ofNat_of_zero_le hb0
  have hb : b < 1048576 := by omega
  rw [Int.toNat_natCast] at S3
  have ok0 : (AM.new n).Ok 0 := AM.Ok.new (by omega) (by omega)
  have S3 : SS h h3 [mgrP r ((AM.new n).ren b), mgrP m (AM.new n)] := S3
  refine for0 (mk := fun (_ : Unit) i => i) (s := ()) (n := min xs.length 300) (by omega) (fun j _ h' => ∃ A : AM, A.locks = n ∧ A.Ok j ∧ A.Rg ∧ SS h h' [mgrP r (A.ren b), mgrP m A]) ⟨_, rfl, ok0, by intro c hc; simp [AM.new] at hc, S3⟩ (fun j _ h' K hj hI next done => ?_) (fun _ h' K hI done => ?_)
  · obtain ⟨A, hA, ok, rg, S⟩ := hI
    unfold spatelaw11_LocksNamed.b1
    have hjx : j < xs.length := by omega
    have l1 := ok.l1
    refine jn_c true h' (fun K6 hK => ite_t (by rw [hlen]; exact clt_t hjx) ?_) (ite_t rfl (jn_i ?_))
    · rw [show decide ((j : Int) < 300) = true by rw [decide_eq_true_eq]; omega]; exact hK
    obtain ⟨ys, Ry, hy⟩ := hw _ (List.getElem_mem hjx)
    refine (hl.ext (SS.e S)).elt0 hjx rfl (S.cell (K := kStep) (x := xs[j]) fun q h1 S1 _ => ?_)
    have hx0 : ld (kI .i64) ⟨q, 0, none⟩ h1 = some xs[j].f0 := varP.ld S1 ft_kind 0 rfl
    have hx1 : ld (kI .i64) ⟨q, 1, none⟩ h1 = some xs[j].f1 := varP.ld S1 ft_task 0 rfl
    have hx2 : ld kL ⟨q, 2, none⟩ h1 = some xs[j].f2 := varP.ld S1 ft_l 0 rfl
    refine jn_c (decide (xs[j].f1 < 0) || decide (xs[j].f1 > 1099511627776)) h1 (fun K5 hK => rd_some (by rw [add_mk]; exact hx1) (ite_b (fun c => ?_) (fun c => ?_))) (ite_b (fun c => ?_) (fun c => ?_))
    · rw [c, Bool.true_or] at hK; exact hK
    · rw [c, Bool.false_or] at hK; exact rd_some (by rw [add_mk]; exact hx1) hK
    · exact next () h1 ⟨A, hA, ok.mono (by omega), rg, S1.tail⟩
    · rw [Bool.or_eq_false_iff, decide_eq_false_iff_not, decide_eq_false_iff_not] at c
      have t1 : 0 ≤ xs[j].f1 := by omega
      have t2 : xs[j].f1 ≤ 1099511627776 := by omega
      refine rd_some (by rw [add_mk]; exact hx1) ?_
      rw [tname_wrap hb t1 t2]
      refine jn_q (fun _ h' => ∃ A' : AM, A'.locks = n ∧ A'.Ok (j + 1) ∧ A'.Rg ∧ SS h h' (varP kStep q xs[j] :: [mgrP r (A'.ren b), mgrP m A'])) (fun K6 hK6 => rd_some (by rw [add_mk]; exact hx0) ?_) ?_
      · have h40 : (ys.take 40).length ≤ 40 := by simp; omega
        refine ite_b (fun c1 => ?_) (fun c1 => ite_b (fun c2 => ?_) (fun c2 => ite_b (fun c3 => ?_) (fun c3 => ?_)))
        · refine rd_some (by rw [add_mk]; exact hx2) (cut_spec Ry (by omega) fun s' R' => jn_i ?_)
          refine turned_spec (n := n) (by omega) (by omega) hb S1 R' (by omega) fun s2 h3 S3 => ?_
          refine rd_some (by rw [add_mk]; exact varP.ld S3 ft_task 1 rfl) ?_
          refine SG.go1 S3 3 rfl (ask_spec ok (by omega) (t := xs[j].f1) (R'.ext (SS.e S3)) (by omega)) fun v h4 S4 => ?_
          have S4 : SS h h4 (errP v (A.ask xs[j].f1 (ys.take 40)).1.2 :: ownP kLk s2 (renL n b (ys.take 40)) :: varP kStep q xs[j] :: [mgrP r (A.ren b), mgrP m (A.ask xs[j].f1 (ys.take 40)).2]) := S4
          refine S4.go1 3 rfl (ask_spec (ok.ren (b := b)) (by omega) (t := tname b xs[j].f1) (ownP.rds (K := kLk) S4 1 rfl) (by simp [renL]; omega)) fun v2 h5 S5 => ?_
          have hr := AM.ask_ren (b := b) l1 t1 (ys.take 40)
          rw [hA] at hr
          rw [hr] at S5 ⊢
          have S5 : SS h h5 (errP v2 (A.ask xs[j].f1 (ys.take 40)).1.2 :: errP v (A.ask xs[j].f1 (ys.take 40)).1.2 :: ownP kLk s2 (renL n b (ys.take 40)) :: varP kStep q xs[j] :: [mgrP r ((A.ask xs[j].f1 (ys.take 40)).2.ren b), mgrP m (A.ask xs[j].f1 (ys.take 40)).2]) := S5
          have n1 := errP.nil S5 0 rfl
          have n2 := errP.nil S5 1 rfl
          refine jn_c false h5 (fun K9 hK9 => ite_f (by simp) ?_) (ite_f rfl (hK6 () h5 ⟨_, ?_, ok.ask _ _, rg.ask t1 t2 _, S5.tail.tail.tail⟩))
          · rw [n1, n2, beq_self_eq_true]; exact hK9
          · rw [← hA]; unfold AM.ask; split <;> (try rfl); split <;> (try rfl); split <;> rfl
        · refine rd_some (by rw [add_mk]; exact hx1) (SG.go1 S1 2 rfl (free_spec ok (by omega) xs[j].f1) fun g h3 S3 => ?_)
          have hfl := AM.free_len ok xs[j].f1
          have S3 : SS h h3 (ownP (kI .i64) g.1 (A.free xs[j].f1).1.1 :: errP g.2 (A.free xs[j].f1).1.2 :: varP kStep q xs[j] :: [mgrP r (A.ren b), mgrP m (A.free xs[j].f1).2]) := S3
          refine S3.go1 3 rfl (free_spec (ok.ren (b := b)) (by omega) (tname b xs[j].f1)) fun g2 h4 S4 => ?_
          rw [AM.free_ren l1] at S4
          have S4 : SS h h4 (ownP (kI .i64) g2.1 ((A.free xs[j].f1).1.1.map (tname b)) :: errP g2.2 (A.free xs[j].f1).1.2 :: ownP (kI .i64) g.1 (A.free xs[j].f1).1.1 :: errP g.2 (A.free xs[j].f1).1.2 :: varP kStep q xs[j] :: [mgrP r ((A.free xs[j].f1).2.ren b), mgrP m (A.free xs[j].f1).2]) := S4
          have n1 := errP.nil S4 1 rfl
          have n2 := errP.nil S4 3 rfl
          refine jn_q (fun v h' => v = false ∧ SS h h' (varP kStep q xs[j] :: [mgrP r ((A.free xs[j].f1).2.ren b), mgrP m (A.free xs[j].f1).2])) (fun K9 hK9 => ite_f (by rw [n1, n2]; simp) ?_) ?_
          · refine names_spec hb S4 2 rfl (rg.free _).2 (by omega) fun s5 h5 S5 => ?_
            refine same_ints (ownP.rds (K := kI .i64) S5 0 rfl) (ownP.rds (K := kI .i64) S5 1 rfl) (by rw [List.length_map]; omega) (hK9 _ _ ⟨rfl, S5.tail.tail.tail.tail.tail⟩)
          · rintro _ h6 ⟨rfl, S6⟩
            refine ite_f rfl (hK6 () h6 ⟨_, ?_, (ok.free _).mono (by omega), (rg.free _).1, S6⟩)
            rw [← hA]; unfold AM.free; split <;> rfl
        · refine rd_some (by rw [add_mk]; exact hx1) (SG.go1 S1 2 rfl (quit_spec ok (by omega) xs[j].f1) fun g h3 S3 => ?_)
          have hfl := AM.quit_len ok xs[j].f1
          have S3 : SS h h3 (ownP (kI .i64) g (A.quit xs[j].f1).1 :: varP kStep q xs[j] :: [mgrP r (A.ren b), mgrP m (A.quit xs[j].f1).2]) := S3
          refine names_spec hb S3 0 rfl (rg.quit _).2 (by omega) fun s4 h4 S4 => ?_
          refine SG.go1 S4 3 rfl (quit_spec (ok.ren (b := b)) (by omega) (tname b xs[j].f1)) fun g2 h5 S5 => ?_
          rw [AM.quit_ren l1] at S5
          have S5 : SS h h5 (ownP (kI .i64) g2 ((A.quit xs[j].f1).1.map (tname b)) :: ownP (kI .i64) s4 ((A.quit xs[j].f1).1.map (tname b)) :: ownP (kI .i64) g (A.quit xs[j].f1).1 :: varP kStep q xs[j] :: [mgrP r ((A.quit xs[j].f1).2.ren b), mgrP m (A.quit xs[j].f1).2]) := S5
          refine same_ints (ownP.rds (K := kI .i64) S5 1 rfl) (ownP.rds (K := kI .i64) S5 0 rfl) (by rw [List.length_map]; omega) (ite_f rfl (hK6 () h5 ⟨_, ?_, (ok.quit _).mono (by omega), (rg.quit _).1, S5.tail.tail.tail⟩))
          rw [← hA]; unfold AM.quit; split <;> (try rfl); split <;> rfl
        · exact hK6 () h1 ⟨A, hA, ok.mono (by omega), rg, S1⟩
      · rintro _ h6 ⟨A', hA', ok', rg', S6⟩
        have okr := ok'.ren (b := b)
        have hql := queueL_len ok'
        refine jn_q (fun v h' => v = false ∧ SS h h' (varP kStep q xs[j] :: [mgrP r (A'.ren b), mgrP m A'])) (fun K7 hK7 => ?_) ?_
        · refine SG.go1 S6 2 rfl (queue_spec ok' (by omega)) fun q1 h7 S7 => ?_
          have hrq : ∀ t ∈ A'.queueL, 0 ≤ t ∧ t ≤ 1099511627776 := by
            intro t ht
            unfold AM.queueL at ht
            obtain ⟨c, hc, rfl⟩ := List.mem_map.1 ht
            exact rg' c (List.mem_append_right _ hc)
          refine names_spec hb S7 0 rfl hrq (by omega) fun q2 h8 S8 => ?_
          refine SG.go1 S8 3 rfl (queue_spec okr (by omega)) fun q3 h9 S9 => ?_
          rw [AM.queueL_ren] at S9
          have S9 : SS h h9 (ownP (kI .i64) q3 (A'.queueL.map (tname b)) :: ownP (kI .i64) q2 (A'.queueL.map (tname b)) :: ownP (kI .i64) q1 A'.queueL :: varP kStep q xs[j] :: [mgrP r (A'.ren b), mgrP m A']) := S9
          refine same_ints (ownP.rds (K := kI .i64) S9 1 rfl) (ownP.rds (K := kI .i64) S9 0 rfl) (by rw [List.length_map]; omega) (ite_f rfl ?_)
          refine rd_some (by rw [add_mk]; exact varP.ld S9 ft_task 3 rfl) ?_
          refine SG.go1 S9 5 rfl (waits_spec ok' (by omega) xs[j].f1) fun _ h10 S10 => SG.go1 S10 4 rfl (waits_spec okr (by omega) (tname b xs[j].f1)) fun _ h11 S11 => ?_
          refine ite_f (by rw [AM.waits_ren]; simp) (rd_some (by rw [add_mk]; exact varP.ld S11 ft_task 3 rfl) ?_)
          refine SG.go1 S11 5 rfl (has_spec ok' (by omega) xs[j].f1) fun s12 h12 S12 => SG.go1 S12 5 rfl (has_spec okr (by omega) (tname b xs[j].f1)) fun s13 h13 S13 => ?_
          have S13 : SS h h13 (ownP kLk s13 ((A'.ren b).hasL (tname b xs[j].f1)) :: ownP kLk s12 (A'.hasL xs[j].f1) :: ownP (kI .i64) q3 (A'.queueL.map (tname b)) :: ownP (kI .i64) q2 (A'.queueL.map (tname b)) :: ownP (kI .i64) q1 A'.queueL :: varP kStep q xs[j] :: [mgrP r (A'.ren b), mgrP m A']) := S13
          have z1 : s13.len = _ := ownP.len (K := kLk) S13 0 rfl
          have z2 : s12.len = _ := ownP.len (K := kLk) S13 1 rfl
          rw [AM.hasL_ren ok'] at z1
          exact hK7 _ _ ⟨by rw [z1, z2]; simp, S13.tail.tail.tail.tail.tail⟩
        · rintro _ h14 ⟨rfl, S14⟩
          exact ite_f rfl (next () h14 ⟨A', hA', ok', rg', S14.tail⟩)
  · obtain ⟨A, hA, ok, rg, S⟩ := hI
    unfold spatelaw11_LocksNamed.b1
    refine jn_c false h' (fun K6 hK => ite_b (fun c => ?_) (fun c => hK)) (ite_f rfl (done _ _ ⟨rfl, SS.e S⟩))
    rw [decide_eq_true_eq] at c
    rw [show decide (((min xs.length 300 : Nat) : Int) < 300) = false by rw [decide_eq_false_iff_not]; omega]; exact hK
end Go.Proofs.Ytgmihbchcmjmdaa
