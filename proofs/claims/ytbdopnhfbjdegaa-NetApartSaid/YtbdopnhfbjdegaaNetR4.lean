/- What each call of the document's net does: fetch, the looks, the beginning. -/
import Derived.Test.YtbdopnhfbjdegaaNetR3
namespace Go.Proofs.Ytbdopnhfbjdegaa
open Go Go.Tr
set_option linter.unusedVariables false
section
variable {F0 : Nat → Prop} {h0 h : H} {b : Nat} {A : AN} {B : Nat} {Rs Ps : List HP}
theorem ref_fetch (ok : A.Ok B) (hB : B ≤ 10000000000) (c most : Int) (S : SG F0 h0 h (refP b A :: Rs)) {Q : Int × Int → H → Prop}
    (k : ∀ h', SG F0 h0 h' (refP b (A.fetch c most).2 :: Rs) → Q (A.fetch c most).1 h') : spateref16_Net_Fetch (some ⟨b, 0, none⟩) c most h Q := by
  unfold spateref16_Net_Fetch
  refine ref_gone ok S c false (fun _ e => by cases e) (fun _ => ?_) (fun n x sl rs a w ib ob hd hk hg hc n2 hrl hr ha h1 S1 => ite_f rfl ?_)
  · cases hk : A.look c with
    | bad =>
      have e : A.fetch c most = ((0, 1), A) := by unfold AN.fetch; rw [hk]
      rw [e] at k; exact .inl ⟨rfl, fun h' S' => ite_t rfl (k h' S')⟩
    | none =>
      have e : A.fetch c most = ((0, 44), A) := by unfold AN.fetch; rw [hk]
      rw [e] at k; exact .inr (.inl ⟨rfl, fun h' S' => ite_t rfl (k h' S')⟩)
    | some n x => exact .inr (.inr ⟨n, x, rfl⟩)
  · subst hc
    have hx := ok.x n x (AN.look_some hk).1
    have ho2 := ok.o2
    have e : A.fetch (n : Int) most = ((((AN.fetchN x most : Nat) : Int), 0), { A.put n { x with out := x.out.drop (AN.fetchN x most), heard := x.heard ++ x.out.take (AN.fetchN x most) } with moved := IntKind.i64.wrap (A.moved + (AN.fetchN x most : Nat)) }) := by unfold AN.fetch; rw [hk]
    rw [e] at k
    have hL1 : ld kL ⟨b, 2, none⟩ h1 = some sl := varP.ld S1 fr_l 4 rfl
    refine rd_some rfl (rd_some hL1 (rd_some ha (rd_some (ownP.ldW S1 5 rfl hr rfl ha) ?_)))
    refine S1.cell (K := k97) (x := ⟨true, x.closed, x.cut, w, ib, ob, hd⟩) fun b3 h3 S3 e3 => ?_
    have hol : ob.len = x.out.length := ownP.len (K := u8) S3 3 rfl
    have q5 : ld kL ⟨b3, 5, none⟩ h3 = some ob := varP.ld S3 fw_out 0 rfl
    have q6 : ld kL ⟨b3, 6, none⟩ h3 = some hd := varP.ld S3 fw_heard 0 rfl
    refine rd_some q5 (rd_some q5 (part_spec _ _ _ ?_))
    have em : max 0 (min most (min (ob.len : Int) (ob.len : Int))) = ((AN.fetchN x most : Nat) : Int) := by
      unfold AN.fetchN; omega
    rw [em]
    have hle : AN.fetchN x most ≤ x.out.length := by unfold AN.fetchN; omega
    generalize AN.fetchN x most = N at *
    have Ro := ownP.rds S3 3 rfl
    obtain ⟨a8, h8, R8, _⟩ := Ro.slx_hi hle (w := 1) rfl
    refine rd_some q6 (rd_some q5 (rd_some h8 (join_spec S3 (ownP.rds S3 4 rfl) R8 (by simp; omega) fun s4 h5 e5 S5 => ?_)))
    obtain ⟨h6, s6, S6, _⟩ := varP.st S5 fw_heard 1 rfl s4
    refine rd_some s6 ?_
    have q9 : ld kL ⟨b3, 5, none⟩ h6 = some ob := varP.ld S6 fw_out 1 rfl
    have Ro6 := ownP.rds S6 4 rfl
    obtain ⟨a10, h10, R10, _⟩ := Ro6.slx_lo hle (w := 1) rfl
    refine rd_some q9 (rd_some h10 (join_spec S6 R10 (Rds.nil _ _) (by simp; omega) fun s5 h7 e7 S7 => ?_))
    rw [List.append_nil] at S7
    obtain ⟨h8', s8, S8, _⟩ := varP.st S7 fw_out 2 rfl s5
    refine rd_some s8 ?_
    have hL8 : ld kL ⟨b, 2, none⟩ h8' = some sl := varP.ld S8 fr_l 7 rfl
    have q12 : ld k97 ⟨b3, 0, none⟩ h8' = some _ := varP.ld S8 (Fld.whole k97) 2 rfl
    obtain ⟨h9, s9, S9⟩ := ownP.stW S8 8 rfl hr (n := 7) rfl ha ⟨true, x.closed, x.cut, w, ib, s5, s4⟩
    have hM : ld (kI .i64) ⟨b, 3, none⟩ h9 = some A.moved := varP.ld S9 fr_moved 7 rfl
    obtain ⟨h11, s11, S11, _⟩ := varP.st S9 fr_moved 7 rfl (IntKind.i64.wrap (A.moved + (N : Int)))
    refine rd_some rfl (rd_some hL8 (rd_some q12 (rd_some ha (rd_some s9 (rd_some rfl (rd_some hM (rd_some rfl (rd_some s11 (k h11 ?_)))))))))
    have T1 := S11.replace 4 (by simp [rowL])
    have T2 := T1.replace 4 (by simp [rowL])
    have T3 := T2.tail
    exact row_in (A := { A with moved := IntKind.i64.wrap (A.moved + (N : Int)) }) ok.l hrl (by omega) (x := { x with out := x.out.drop N, heard := x.heard ++ x.out.take N }) T3
theorem ref_heard (ok : A.Ok B) (hB : B ≤ 10000000000) (c : Int) (S : SG F0 h0 h (refP b A :: Rs)) {Q : Sl × Bool → H → Prop}
    (k : ∀ s h', SG F0 h0 h' (refP b A :: ownP u8 s (A.heard c).1 :: Rs) → Q (s, (A.heard c).2) h') : spateref16_Net_Heard (some ⟨b, 0, none⟩) c h Q := by
  unfold spateref16_Net_Heard
  refine ref_go ok.l S c (fun hk hc => ?_) (fun n sl rs a hk hc n1 n2 hrl hr ha S' => ?_) (fun n x sl rs a w ib ob hd hk hc n1 n2 hrl hr ha S' => ?_)
  · have e : A.heard c = ([], false) := by unfold AN.heard; rw [hk]
    rw [e] at k
    exact jn_c true h (fun K hK => is_bad hc (ite_t rfl hK)) (ite_t rfl (k Sl.nil h (SG.swap (S.made (Ext.refl _) (Own.nil _ _ _)))))
  · subst hc
    have e : A.heard (n : Int) = ([], false) := by unfold AN.heard; rw [hk]
    rw [e] at k
    have hL : ld kL ⟨b, 2, none⟩ h = some sl := varP.ld S' fr_l 0 rfl
    have ht : ld kB (a.add 0) h = some false := ownP.ldF fw_there S' 1 rfl hr rfl ha
    exact jn_c true h (fun K hK => is_ok n1 n2 (ite_f rfl (rd_some rfl (rd_some hL (rd_some ha (rd_some ht hK)))))) (ite_t rfl (k Sl.nil h (SG.swap (S.made (Ext.refl _) (Own.nil _ _ _)))))
  · subst hc
    have hx := ok.x n x (AN.look_some hk).1
    have e : A.heard (n : Int) = (x.heard, x.cut || x.closed && x.out.isEmpty) := by unfold AN.heard; rw [hk]
    rw [e] at k
    have hL : ld kL ⟨b, 2, none⟩ h = some sl := varP.ld S' fr_l 4 rfl
    have ht : ld kB (a.add 0) h = some true := ownP.ldF fw_there S' 5 rfl hr rfl ha
    refine jn_c false h (fun K hK => is_ok n1 n2 (ite_f rfl (rd_some rfl (rd_some hL (rd_some ha (rd_some ht hK)))))) (ite_f rfl ?_)
    refine rd_some rfl (rd_some hL (rd_some ha (rd_some (ownP.ldW S' 5 rfl hr rfl ha) ?_)))
    refine S'.cell (K := k97) (x := ⟨true, x.closed, x.cut, w, ib, ob, hd⟩) fun b3 h3 S3 e3 => jn_i ?_
    have q6 : ld kL ⟨b3, 6, none⟩ h3 = some hd := varP.ld S3 fw_heard 0 rfl
    have q2 : ld kB ⟨b3, 2, none⟩ h3 = some x.cut := varP.ld S3 fw_cut 0 rfl
    refine rd_some q6 (rd_some q2 (join_spec S3 (ownP.rds S3 4 rfl) (Rds.nil _ _) (by simp; omega) fun s h5 e5 S5 => ?_))
    rw [List.append_nil] at S5
    have T : SG F0 h0 h5 (refP b A :: ownP u8 s x.heard :: Rs) := by
      have T1 : SG F0 h0 h5 (ownP u8 s x.heard :: (rowL w ib ob hd x ++ (varP k82 b (rcell A sl) :: ownP k97 sl rs :: (rows A rs).eraseIdx n ++ Rs))) := (SG.swap S5).tail
      have T2 := row_back ok.l hrl n2 (AN.look_some hk).1 hr (b := b) (sl := sl) (Rs := Rs ++ [ownP u8 s x.heard]) (F0 := F0) (h0 := h0) (h := h5) (by
        have := SG.rot T1
        simpa only [List.append_assoc, List.cons_append] using this)
      exact SG.swap (SG.unrot (Ps := refP b A :: Rs) T2)
    have k' := k s h5 T
    have q2' : ld kB ⟨b3, 2, none⟩ h5 = some x.cut := varP.ld S5 fw_cut 1 rfl
    refine ⟨q2', ite_b (fun ec => ?_) (fun ec => ?_)⟩
    · rw [ec, Bool.true_or] at k'; exact k'
    · rw [ec, Bool.false_or] at k'
      have q1 : ld kB ⟨b3, 1, none⟩ h5 = some x.closed := varP.ld S5 fw_closed 1 rfl
      refine rd_some q1 (ite_b (fun ec2 => ?_) (fun ec2 => ?_))
      · rw [ec2, Bool.true_and] at k'
        have q5 : ld kL ⟨b3, 5, none⟩ h5 = some ob := varP.ld S5 fw_out 1 rfl
        have hol : ob.len = x.out.length := ownP.len (K := u8) S5 4 rfl
        refine rd_some q5 ?_
        have : ((ob.len : Int) == 0) = x.out.isEmpty := by rw [hol]; cases x.out <;> simp; omega
        rw [this]; exact k'
      · rw [ec2, Bool.false_and] at k'; exact k'
theorem ref_is (ok : A.Ok B) (c : Int) (S : SG F0 h0 h (refP b A :: Rs)) {Q : Bool × Bool → H → Prop}
    (k : ∀ h', SG F0 h0 h' (refP b A :: Rs) → Q (A.is c) h') : spateref16_Net_Is (some ⟨b, 0, none⟩) c h Q := by
  have main : ∀ (n : Nat) (sl : Sl) (rs : List S97) (a : Addr) (r : S97) (i j : Nat) (Ps : List HP), 1 ≤ n → n ≤ 64 → rs[n]? = some r → ixA 7 sl (n : Int) = some a → SG F0 h0 h Ps → Ps[i]? = some (varP k82 b (rcell A sl)) → Ps[j]? = some (ownP k97 sl rs) → A.is (n : Int) = (r.f0 && (!r.f1 && !r.f2), r.f2) → c = n →
      spateref16_Net_Is (some ⟨b, 0, none⟩) c h Q := by
    rintro n sl rs a r i j Ps n1 n2 hr ha S' hi hj e rfl
    unfold spateref16_Net_Is
    rw [e] at k
    have hL : ld kL ⟨b, 2, none⟩ h = some sl := varP.ld S' fr_l i hi
    refine is_ok n1 n2 (ite_f rfl (rd_some rfl (rd_some hL (rd_some ha (rd_some (ownP.ldW S' j hj hr rfl ha) ?_)))))
    refine S'.cell (K := k97) (x := r) fun b3 h3 S3 e3 => ?_
    have k' := k h3 (S.ext e3)
    have m0 : ld kB ⟨b3, 0, none⟩ h3 = some r.f0 := varP.ld S3 fw_there 0 rfl
    have m1 : ld kB ⟨b3, 1, none⟩ h3 = some r.f1 := varP.ld S3 fw_closed 0 rfl
    have m2 : ld kB ⟨b3, 2, none⟩ h3 = some r.f2 := varP.ld S3 fw_cut 0 rfl
    refine jn_i (rd_some m0 (ite_b (fun c1 => ?_) (fun c1 => ?_)))
    · rw [c1, Bool.true_and] at k'
      refine rd_some m1 (ite_b (fun c2 => ?_) (fun c2 => ?_))
      · rw [c2, Bool.true_and] at k'; exact rd_some m2 (rd_some m2 k')
      · rw [c2, Bool.false_and] at k'; exact rd_some m2 k'
    · rw [c1, Bool.false_and] at k'; exact rd_some m2 k'
  refine ref_go ok.l S c (fun hk hc => ?_) (fun n sl rs a hk hc n1 n2 hrl hr ha S' => ?_) (fun n x sl rs a w ib ob hd hk hc n1 n2 hrl hr ha S' => ?_)
  · have e : A.is c = (false, false) := by unfold AN.is; rw [hk]
    rw [e] at k
    unfold spateref16_Net_Is
    exact is_bad hc (ite_t rfl (k h S))
  · exact main n sl rs a z97 0 1 _ n1 n2 hr ha S' rfl rfl (by rw [← hc]; unfold AN.is; rw [hk]; rfl) hc
  · exact main n sl rs a _ 4 5 _ n1 n2 hr ha S' rfl rfl (by rw [← hc]; unfold AN.is; rw [hk]; simp [Bool.and_comm]) hc
theorem ref_under (ok : A.Ok B) (c : Int) (S : SG F0 h0 h (refP b A :: Rs)) {Q : Int × Int → H → Prop}
    (k : Q (A.under c) h) : spateref16_Net_Under (some ⟨b, 0, none⟩) c h Q := by
  unfold spateref16_Net_Under
  refine ref_go ok.l S c (fun hk hc => ?_) (fun n sl rs a hk hc n1 n2 hrl hr ha S' => ?_) (fun n x sl rs a w ib ob hd hk hc n1 n2 hrl hr ha S' => ?_)
  · have e : A.under c = (0, 0) := by unfold AN.under; rw [hk]
    rw [e] at k
    exact is_bad hc (ite_t rfl k)
  · subst hc
    have e : A.under (n : Int) = (0, 0) := by unfold AN.under; rw [hk]
    rw [e] at k
    have hL : ld kL ⟨b, 2, none⟩ h = some sl := varP.ld S' fr_l 0 rfl
    have m3 : ld kL (a.add 3) h = some Sl.nil := ownP.ldF fw_way S' 1 rfl hr rfl ha
    have m4 : ld kL (a.add 4) h = some Sl.nil := ownP.ldF fw_in S' 1 rfl hr rfl ha
    have m5 : ld kL (a.add 5) h = some Sl.nil := ownP.ldF fw_out S' 1 rfl hr rfl ha
    exact is_ok n1 n2 (ite_f rfl (rd_some rfl (rd_some hL (rd_some ha (rd_some m3 (rd_some rfl (rd_some hL (rd_some ha (rd_some m4 (rd_some rfl (rd_some hL (rd_some ha (rd_some m5 k)))))))))))))
  · subst hc
    have hx := ok.x n x (AN.look_some hk).1
    have hi2 := ok.i2
    have e : A.under (n : Int) = (((x.way.length + x.inb.length : Nat) : Int), ((x.out.length : Nat) : Int)) := by unfold AN.under; rw [hk]
    rw [e] at k
    have hL : ld kL ⟨b, 2, none⟩ h = some sl := varP.ld S' fr_l 4 rfl
    have m3 : ld kL (a.add 3) h = some w := ownP.ldF fw_way S' 5 rfl hr rfl ha
    have m4 : ld kL (a.add 4) h = some ib := ownP.ldF fw_in S' 5 rfl hr rfl ha
    have m5 : ld kL (a.add 5) h = some ob := ownP.ldF fw_out S' 5 rfl hr rfl ha
    have l3 : w.len = x.way.length := ownP.len (K := u8) S' 0 rfl
    have l4 : ib.len = x.inb.length := ownP.len (K := u8) S' 1 rfl
    have l5 : ob.len = x.out.length := ownP.len (K := u8) S' 2 rfl
    refine is_ok n1 n2 (ite_f rfl (rd_some rfl (rd_some hL (rd_some ha (rd_some m3 (rd_some rfl (rd_some hL (rd_some ha (rd_some m4 (rd_some rfl (rd_some hL (rd_some ha (rd_some m5 ?_)))))))))))))
    rw [l3, l4, l5, wrap64_id (by omega) (by omega)]
    have : ((x.way.length : Nat) : Int) + ((x.inb.length : Nat) : Int) = ((x.way.length + x.inb.length : Nat) : Int) := by omega
    rw [this]; exact k
theorem ref_moved (S : SG F0 h0 h (refP b A :: Rs)) : ld (kI .i64) ⟨b, 3, none⟩ h = some A.moved := by
  obtain ⟨sl, rs, _, S1⟩ := ref_out S
  exact varP.ld S1 fr_moved 0 rfl
theorem ref_new_bad {a0 a1 : Int} (hb : a0 < 1 ∨ 131072 < a0 ∨ a1 < 1 ∨ 131072 < a1) {Q : Option Addr × Int → H → Prop} (k : Q (none, 1) h) : spateref16_New a0 a1 h Q := by
  unfold spateref16_New
  refine jn_c true h (fun K hK => ?_) (ite_t rfl k)
  refine ite_b (fun _ => hK) fun c1 => ite_b (fun _ => hK) fun c2 => ite_b (fun _ => hK) fun c3 => ?_
  have : decide (a1 > 131072) = true := by simp at c1 c2 c3 ⊢; omega
  rw [this]; exact hK
theorem ref_new_good (S : SG F0 h0 h Rs) {i o : Nat} (i1 : 1 ≤ i) (i2 : i ≤ 131072) (o1 : 1 ≤ o) (o2 : o ≤ 131072) {Q : Option Addr × Int → H → Prop} (k : ∀ b h', SG F0 h0 h' (refP b (.new i o) :: Rs) → Q (some ⟨b, 0, none⟩, 0) h') : spateref16_New (i : Int) (o : Int) h Q := by
  unfold spateref16_New
  refine jn_c false h (fun K hK => ?_) (ite_f rfl ?_)
  · refine ite_f (by simp; omega) (ite_f (by simp; omega) (ite_f (by simp; omega) ?_))
    have : decide ((o : Int) > 131072) = false := by simp; omega
    rw [this]; exact hK
  · have S1 : SG F0 h0 h (List.replicate 65 (HP.and (z97 = z97) HP.emp) ++ Rs) := by
      have : ∀ n, SG F0 h0 h (List.replicate n (HP.and (z97 = z97) HP.emp) ++ Rs) := by
        intro n
        induction n with
        | zero => exact S
        | succ n ih => exact SG.toand rfl ih.toemp
      exact this 65
    refine SG.own (K := k97) (n := 65) (z := z97) (by decide) S1 (by decide) (by decide) fun sl h2 S2 => ?_
    refine S2.var (K := k82) fun b h3 S3 e3 => k b h3 (ref_in (sl := sl) (rs := List.replicate 65 z97) (by simp) ?_)
    have e : rows (AN.new i o) (List.replicate 65 z97) = List.replicate 65 (HP.and (z97 = z97) HP.emp) := by
      unfold rows AN.new
      rw [List.zipWith_replicate]
      rfl
    rw [List.cons_append, List.cons_append, e]
    exact S3
end
end Go.Proofs.Ytbdopnhfbjdegaa
