/- What each call of the program's net does: the rest. -/
import Derived.Test.YtbdopnhfbjdegaaNetM
namespace Go.Proofs.Ytbdopnhfbjdegaa
open Go Go.Tr
set_option linter.unusedVariables false
section
variable {F0 : Nat → Prop} {h0 h : H} {b : Nat} {A : AN} {B : Nat} {Rs : List HP}
theorem SG.clear (S : SG F0 h0 h Rs) (j : Nat) (hj : j < Rs.length) : SG F0 h0 h (Rs.set j (ownP u8 Sl.nil [])) := (S.made (Ext.refl h) (Own.nil u8 h _)).replace j hj
theorem close_spec (ok : A.Ok B) (c : Int) :
    Does h [netP b A] (fun Q => net_Net_Close (some ⟨b, 0, none⟩) c h Q) (fun _ : Unit => (A.close c).1) (fun _ => [netP b (A.close c).2]) := by
  intro F0 h0 Q S k
  have k := k ()
  show net_Net_Close _ _ _ _
  unfold net_Net_Close
  refine live_go ok.l S c (fun he get => get _ (ite_t (by simpa using he) ?_)) (fun n x ps cb w ib ob hd hk hg hc hn hp S' get => get _ (ite_f rfl ?_))
  · rw [AN.close_e he] at k; exact k h S
  · have e : A.close c = (0, A.put n { x with closed := true, way := [], inb := [] }) := by unfold AN.close; rw [hk]; simp [hg]
    rw [e] at k
    obtain ⟨h1, s1, S1, _⟩ := varP.st S' fc_closed 0 rfl true
    obtain ⟨h2, s2, S2, _⟩ := varP.st S1 (fc_way.comp fb_bytes) 0 rfl Sl.nil
    obtain ⟨h3, s3, S3, _⟩ := varP.st S2 (fc_inb.comp fb_bytes) 0 rfl Sl.nil
    refine rd_some rfl (rd_some s1 (rd_some rfl (rd_some s2 (rd_some rfl (rd_some s3 ?_)))))
    have S4 := SG.clear (SG.clear S3 1 (by simp [connL])) 2 (by simp [connL])
    exact k h3 (net_in (conn_in ok.l hn hp (x := { x with closed := true, way := [], inb := [] }) S4))
theorem cut_spec (ok : A.Ok B) (c : Int) :
    Does h [netP b A] (fun Q => net_Net_Cut (some ⟨b, 0, none⟩) c h Q) (fun _ : Unit => (A.cutC c).1) (fun _ => [netP b (A.cutC c).2]) := by
  intro F0 h0 Q S k
  have k := k ()
  show net_Net_Cut _ _ _ _
  unfold net_Net_Cut
  refine net_go ok.l S c (fun hk get => get _ (ite_t rfl ?_)) (fun n ps hk _ _ _ _ get => get _ (ite_t rfl ?_)) (fun n x ps cb w ib ob hd hk hc hn hp S' get => get _ (ite_f rfl ?_))
  · have e : A.cutC c = (1, A) := by unfold AN.cutC; rw [hk]
    rw [e] at k; exact k h S
  · have e : A.cutC c = (44, A) := by unfold AN.cutC; rw [hk]
    rw [e] at k; exact k h S
  · have hcut : ld kB ⟨cb, 8, none⟩ h = some x.cut := varP.ld S' fc_cut 0 rfl
    have e : A.cutC c = if x.cut then (44, A) else (0, A.put n { x with cut := true, way := [], inb := [], out := [] }) := by unfold AN.cutC; rw [hk]
    rw [e] at k
    refine rd_some rfl (rd_some hcut (ite_b (fun ec => ?_) (fun ec => ?_)))
    · rw [if_pos ec] at k; exact k h S
    · rw [ec] at k
      obtain ⟨h1, s1, S1, _⟩ := varP.st S' fc_cut 0 rfl true
      obtain ⟨h2, s2, S2, _⟩ := varP.st S1 (fc_way.comp fb_bytes) 0 rfl Sl.nil
      obtain ⟨h3, s3, S3, _⟩ := varP.st S2 (fc_inb.comp fb_bytes) 0 rfl Sl.nil
      obtain ⟨h4, s4, S4, _⟩ := varP.st S3 (fc_out.comp fb_bytes) 0 rfl Sl.nil
      refine rd_some rfl (rd_some s1 (rd_some rfl (rd_some s2 (rd_some rfl (rd_some s3 (rd_some rfl (rd_some s4 ?_)))))))
      have S5 := SG.clear (SG.clear (SG.clear S4 1 (by simp [connL])) 2 (by simp [connL])) 3 (by simp [connL])
      exact k h4 (net_in (conn_in ok.l hn hp (x := { x with cut := true, way := [], inb := [], out := [] }) S5))
theorem conn_new {ps : Ar 65 (Option Addr)} (hl : A.cs.length = 65) {n cb : Nat} (hn : n < 65) (S : SG F0 h0 h (varP k74 cb ⟨⟨⟨Sl.nil, -1⟩, ⟨Sl.nil, (A.i : Int)⟩⟩, ⟨Sl.nil, (A.o : Int)⟩, Sl.nil, false, false⟩ :: varP k66 b (cell A (ps.set n (some ⟨cb, 0, none⟩))) :: conns A ps ++ Rs)) :
    SG F0 h0 h (netP b (A.put n .fresh) :: Rs) := by
  have m := fun {Ps : List HP} (T : SG F0 h0 h Ps) => T.made (Ext.refl h) (Own.nil u8 h _)
  have S1 := m (m (m (m S)))
  have S2 : SG F0 h0 h (connL A.i A.o cb Sl.nil Sl.nil Sl.nil Sl.nil .fresh ++ (varP k66 b (cell A (ps.set n (some ⟨cb, 0, none⟩))) :: conns A ps ++ Rs)) := S1.perm (by
    unfold connL
    exact List.perm_middle (l₁ := [ownP u8 Sl.nil [], ownP u8 Sl.nil [], ownP u8 Sl.nil [], ownP u8 Sl.nil []]))
  have S3 : SG F0 h0 h (connP A.i A.o (some ⟨cb, 0, none⟩) (some .fresh) :: (varP k66 b (cell A (ps.set n (some ⟨cb, 0, none⟩))) :: conns A ps ++ Rs)) := SG.toex (cb, Sl.nil, Sl.nil, Sl.nil, Sl.nil) (SG.toand rfl (SG.fold _ S2))
  have hpl : n < ps.l.length := by rw [ps.h]; exact hn
  have hc : n < (conns A ps).length := by simp [conns, ps.h, hl]; exact hn
  have S4 := S3.replace (n + 1) (by simp; omega)
  refine net_in (ps := ps.set n (some ⟨cb, 0, none⟩)) ?_
  have e2 : (varP k66 b (cell A (ps.set n (some ⟨cb, 0, none⟩))) :: conns A ps ++ Rs).set (n + 1) (connP A.i A.o (some ⟨cb, 0, none⟩) (some .fresh)) = varP k66 b (cell (A.put n .fresh) (ps.set n (some ⟨cb, 0, none⟩))) :: conns (A.put n .fresh) (ps.set n (some ⟨cb, 0, none⟩)) ++ Rs := by
    rw [List.cons_append, List.set_cons_succ, List.set_append_left _ _ hc]
    unfold conns
    rw [zipWith_set]
    rfl
  rw [e2] at S4
  exact S4
theorem open_spec (ok : A.Ok B) (c : Int) :
    Does h [netP b A] (fun Q => net_Net_Open (some ⟨b, 0, none⟩) c h Q) (fun _ : Unit => (A.open' c).1) (fun _ => [netP b (A.open' c).2]) := by
  intro F0 h0 Q S k
  have k := k ()
  show net_Net_Open _ _ _ _
  unfold net_Net_Open
  refine net_go ok.l S c (fun hk get => get _ (ite_t rfl ?_)) (fun n ps hk hc n1 n2 S' get => get _ (ite_f rfl (ite_f rfl ?_))) (fun n x ps cb w ib ob hd hk hc hn hp S' get => get _ (ite_f rfl (ite_t rfl ?_)))
  · have e : A.open' c = (1, A) := by unfold AN.open'; rw [hk]
    rw [e] at k; exact k h S
  · have e : A.open' c = (0, A.put c.toNat .fresh) := by unfold AN.open'; rw [hk]
    rw [e] at k
    subst hc
    rw [Int.toNat_natCast] at k
    have hi : ld (kI .i64) ⟨b, 0, none⟩ h = some (A.i : Int) := varP.ld S' fn_in 0 rfl
    have ho : ld (kI .i64) ⟨b, 1, none⟩ h = some (A.o : Int) := varP.ld S' fn_out 0 rfl
    refine rd_some rfl (rd_some hi (rd_some rfl (rd_some ho (rd_some rfl ?_))))
    refine S'.var (K := k74) fun cb h2 S2 e2 => ?_
    have hx : ixR 65 1 ((⟨b, 0, none⟩ : Addr).add 2) (n : Int) = some ⟨b, 2 + n * 1, none⟩ := by rw [add_mk]; exact ixR_at (by omega)
    obtain ⟨h3, s3, S3, _⟩ := varP.st S2 (fn_conn n (by omega)) 1 (x := cell A ps) rfl (some ⟨cb, 0, none⟩)
    refine rd_some hx (rd_some s3 ?_)
    exact k h3 (conn_new ok.l (by omega) S3)
  · have e : A.open' c = (43, A) := by unfold AN.open'; rw [hk]
    rw [e] at k; exact k h S
theorem new_good (S : SG F0 h0 h Rs) {i o : Nat} (i1 : 1 ≤ i) (i2 : i ≤ 131072) (o1 : 1 ≤ o) (o2 : o ≤ 131072) {Q : Option Addr × Int → H → Prop} (k : ∀ b h', Ext h h' → SG F0 h0 h' (netP b (.new i o) :: Rs) → Q (some ⟨b, 0, none⟩, 0) h') : net_New (i : Int) (o : Int) h Q := by
  unfold net_New
  refine jn_c false h (fun K hK => ?_) (ite_f rfl ?_)
  · refine ite_f (by simp; omega) (ite_f (by simp; omega) (ite_f (by simp; omega) ?_))
    have : decide ((o : Int) > 131072) = false := by simp; omega
    rw [this]; exact hK
  · have S1 := emps 65 S
    refine S1.var (K := k66) fun b h2 S2 e2 => k b h2 e2 (net_in (ps := Ar.rep 65 none) ?_)
    have e : conns (AN.new i o) (Ar.rep 65 none) = List.replicate 65 HP.emp := by
      unfold conns AN.new Ar.rep
      rw [List.zipWith_replicate]
      rfl
    rw [List.cons_append, e]
    exact S2
theorem new_bad {a0 a1 : Int} (hb : a0 < 1 ∨ 131072 < a0 ∨ a1 < 1 ∨ 131072 < a1) {Q : Option Addr × Int → H → Prop} (k : Q (none, 1) h) : net_New a0 a1 h Q := by
  unfold net_New
  refine jn_c true h (fun K hK => ?_) (ite_t rfl k)
  refine ite_b (fun _ => hK) fun c1 => ite_b (fun _ => hK) fun c2 => ite_b (fun _ => hK) fun c3 => ?_
  have : decide (a1 > 131072) = true := by simp at c1 c2 c3 ⊢; omega
  rw [this]; exact hK
theorem heard_spec (ok : A.Ok B) (hB : B ≤ 10000000000) (c : Int) :
    Does h [netP b A] (fun Q => net_Net_Heard (some ⟨b, 0, none⟩) c h Q) (fun s : Sl => (s, (A.heard c).2)) (fun s => [netP b A, ownP u8 s (A.heard c).1]) := by
  intro F0 h0 Q S k
  show net_Net_Heard _ _ _ _
  unfold net_Net_Heard
  refine net_go ok.l S c (fun hk get => get _ (ite_t rfl ?_)) (fun n ps hk _ _ _ _ get => get _ (ite_t rfl ?_)) (fun n x ps cb w ib ob hd hk hc hn hp S' get => get _ (ite_f rfl ?_))
  · have e : A.heard c = ([], false) := by unfold AN.heard; rw [hk]
    rw [e] at k; exact k Sl.nil h (SG.swap (S.made (Ext.refl _) (Own.nil _ _ _)))
  · have e : A.heard c = ([], false) := by unfold AN.heard; rw [hk]
    rw [e] at k; exact k Sl.nil h (SG.swap (S.made (Ext.refl _) (Own.nil _ _ _)))
  · have hx := ok.x n x (AN.look_some hk).1
    have e : A.heard c = (x.heard, x.cut || x.closed && x.out.isEmpty) := by unfold AN.heard; rw [hk]
    rw [e] at k
    refine jn_i ?_
    have hh : ld kL ⟨cb, 6, none⟩ h = some hd := varP.ld S' fc_heard 0 rfl
    have hcut : ld kB ⟨cb, 8, none⟩ h = some x.cut := varP.ld S' fc_cut 0 rfl
    refine rd_some rfl (rd_some hh (rd_some rfl (rd_some hcut ?_)))
    have R := ownP.rds (K := u8) S' 4 rfl
    refine clone_spec S R (by omega) fun s h3 e3 S3 => ?_
    have k' := k s h3 S3.swap
    have S'' := S'.ext e3
    refine ⟨varP.ld S'' fc_cut 0 rfl, ite_b (fun ec => ?_) (fun ec => ?_)⟩
    · rw [ec, Bool.true_or] at k'; exact k'
    · rw [ec, Bool.false_or] at k'
      have hclo : ld kB ⟨cb, 7, none⟩ h3 = some x.closed := varP.ld S'' fc_closed 0 rfl
      refine rd_some rfl (rd_some hclo (ite_b (fun ec2 => ?_) (fun ec2 => ?_)))
      · rw [ec2, Bool.true_and] at k'
        have hob : ld kL ⟨cb, 4, none⟩ h3 = some ob := varP.ld S'' (fc_out.comp fb_bytes) 0 rfl
        have hol : ob.len = x.out.length := ownP.len (K := u8) S'' 3 rfl
        refine rd_some rfl (rd_some hob ?_)
        have : ((ob.len : Int) == 0) = x.out.isEmpty := by rw [hol]; cases x.out <;> simp; omega
        rw [this]; exact k'
      · rw [ec2, Bool.false_and] at k'; exact k'
theorem is_spec (ok : A.Ok B) (c : Int) :
    Does h [netP b A] (fun Q => net_Net_Is (some ⟨b, 0, none⟩) c h Q) (fun _ : Unit => A.is c) (fun _ => [netP b A]) := by
  intro F0 h0 Q S k
  have k := k () h S
  show net_Net_Is _ _ _ _
  unfold net_Net_Is
  refine net_go ok.l S c (fun hk get => get _ (ite_t rfl ?_)) (fun n ps hk _ _ _ _ get => get _ (ite_t rfl ?_)) (fun n x ps cb w ib ob hd hk hc hn hp S' get => get _ (ite_f rfl ?_))
  · have e : A.is c = (false, false) := by unfold AN.is; rw [hk]
    rw [e] at k; exact k
  · have e : A.is c = (false, false) := by unfold AN.is; rw [hk]
    rw [e] at k; exact k
  · have e : A.is c = (!x.cut && !x.closed, x.cut) := by unfold AN.is; rw [hk]
    rw [e] at k
    have hcut : ld kB ⟨cb, 8, none⟩ h = some x.cut := varP.ld S' fc_cut 0 rfl
    have hclo : ld kB ⟨cb, 7, none⟩ h = some x.closed := varP.ld S' fc_closed 0 rfl
    refine jn_i (rd_some rfl (rd_some hcut (ite_b (fun ec => ?_) (fun ec => ?_))))
    · refine rd_some rfl (rd_some hclo (rd_some rfl (rd_some hcut ?_)))
      rw [ec, Bool.true_and] at k; exact k
    · refine rd_some rfl (rd_some hcut ?_)
      rw [ec, Bool.false_and] at k; exact k
theorem under_spec (ok : A.Ok B) (c : Int) :
    Does h [netP b A] (fun Q => net_Net_Under (some ⟨b, 0, none⟩) c h Q) (fun _ : Unit => A.under c) (fun _ => [netP b A]) := by
  intro F0 h0 Q S k
  have k := k () h S
  show net_Net_Under _ _ _ _
  unfold net_Net_Under
  refine net_go ok.l S c (fun hk get => get _ (ite_t rfl ?_)) (fun n ps hk _ _ _ _ get => get _ (ite_t rfl ?_)) (fun n x ps cb w ib ob hd hk hc hn hp S' get => get _ (ite_f rfl ?_))
  · have e : A.under c = (0, 0) := by unfold AN.under; rw [hk]
    rw [e] at k; exact k
  · have e : A.under c = (0, 0) := by unfold AN.under; rw [hk]
    rw [e] at k; exact k
  · have hx := ok.x n x (AN.look_some hk).1
    have hi2 := ok.i2
    have e : A.under c = (((x.way.length + x.inb.length : Nat) : Int), ((x.out.length : Nat) : Int)) := by unfold AN.under; rw [hk]
    rw [e] at k
    have hw : ld kL ⟨cb, 0, none⟩ h = some w := varP.ld S' (fc_way.comp fb_bytes) 0 rfl
    have hwl : w.len = x.way.length := ownP.len (K := u8) S' 1 rfl
    have hib : ld kL ⟨cb, 2, none⟩ h = some ib := varP.ld S' (fc_inb.comp fb_bytes) 0 rfl
    have hibl : ib.len = x.inb.length := ownP.len (K := u8) S' 2 rfl
    have hob : ld kL ⟨cb, 4, none⟩ h = some ob := varP.ld S' (fc_out.comp fb_bytes) 0 rfl
    have hol : ob.len = x.out.length := ownP.len (K := u8) S' 3 rfl
    refine rd_some rfl (rd_some rfl (rd_some hob ?_))
    unfold net_inward_under
    refine rd_some rfl (rd_some hw (rd_some rfl (rd_some hib ⟨hob, ?_⟩)))
    rw [hwl, hibl, hol, wrap64_id (by omega) (by omega)]
    have : ((x.way.length : Nat) : Int) + ((x.inb.length : Nat) : Int) = ((x.way.length + x.inb.length : Nat) : Int) := by omega
    rw [this]; exact k
theorem moved_spec : Does h [netP b A] (fun Q => net_Net_Moved (some ⟨b, 0, none⟩) h Q) (fun _ : Unit => A.moved) (fun _ => [netP b A]) := by
  intro F0 h0 Q S k
  have k := k () h S
  show net_Net_Moved _ _ _
  unfold net_Net_Moved sync_atomic_Int64_Load
  obtain ⟨ps, S1⟩ := net_out S
  have hm : ld (kI .i64) ⟨b, 67, none⟩ h = some A.moved := varP.ld S1 fn_moved 0 rfl
  exact rd_some rfl (rd_some rfl (rd_some hm k))
end
end Go.Proofs.Ytbdopnhfbjdegaa
