/- What each call of the document's net does: the rest. -/
import Derived.Test.YtbdopnhfbjdegaaNetR2
namespace Go.Proofs.Ytbdopnhfbjdegaa
open Go Go.Tr
set_option linter.unusedVariables false
section
variable {F0 : Nat → Prop} {h0 h : H} {b : Nat} {A : AN} {B : Nat} {Rs Ps : List HP}
theorem ref_close (ok : A.Ok B) (c : Int) (S : SG F0 h0 h (refP b A :: Rs)) {Q : Int → H → Prop}
    (k : ∀ h', SG F0 h0 h' (refP b (A.close c).2 :: Rs) → Q (A.close c).1 h') : spateref16_Net_Close (some ⟨b, 0, none⟩) c h Q := by
  unfold spateref16_Net_Close
  refine ref_gone ok S c true (fun he _ h' S' => ite_t (by simpa using he) ?_) (fun e => by cases e) (fun n x sl rs a w ib ob hd hk hg hc n2 hrl hr ha h1 S1 => ite_f rfl ?_)
  · rw [AN.close_e he] at k; exact k h' S'
  · have hg := hg rfl
    subst hc
    have e : A.close (n : Int) = (0, A.put n { x with closed := true, way := [], inb := [] }) := by unfold AN.close; rw [hk]; simp [hg]
    rw [e] at k
    have hn : n < rs.length := by omega
    obtain ⟨h2, s2, S2⟩ := ownP.stF fw_closed S1 5 rfl hr (n := 7) rfl ha true
    obtain ⟨h3, s3, S3⟩ := ownP.stF2 fw_way S2 5 rfl hn (n := 7) rfl ha Sl.nil
    obtain ⟨h4, s4, S4⟩ := ownP.stF2 fw_in S3 5 rfl hn (n := 7) rfl ha Sl.nil
    refine rd_some rfl (rd_some (varP.ld S1 fr_l 4 rfl) (rd_some ha (rd_some s2 (rd_some rfl (rd_some (varP.ld S2 fr_l 4 rfl) (rd_some ha (rd_some s3 (rd_some rfl (rd_some (varP.ld S3 fr_l 4 rfl) (rd_some ha (rd_some s4 (k h4 ?_))))))))))))
    have S5 := ((S4.made (Ext.refl h4) (Own.nil u8 h4 _)).replace 0 (by simp [rowL])).made (Ext.refl h4) (Own.nil u8 h4 _) |>.replace 1 (by simp [rowL])
    exact row_in ok.l hrl (by omega) (x := { x with closed := true, way := [], inb := [] }) S5
theorem ref_cut (ok : A.Ok B) (c : Int) (S : SG F0 h0 h (refP b A :: Rs)) {Q : Int → H → Prop}
    (k : ∀ h', SG F0 h0 h' (refP b (A.cutC c).2 :: Rs) → Q (A.cutC c).1 h') : spateref16_Net_Cut (some ⟨b, 0, none⟩) c h Q := by
  unfold spateref16_Net_Cut
  refine ref_gone ok S c false (fun _ e => by cases e) (fun _ => ?_) (fun n x sl rs a w ib ob hd hk hg hc n2 hrl hr ha h1 S1 => ite_f rfl ?_)
  · cases hk : A.look c with
    | bad =>
      have e : A.cutC c = (1, A) := by unfold AN.cutC; rw [hk]
      rw [e] at k; exact .inl ⟨rfl, fun h' S' => ite_t rfl (k h' S')⟩
    | none =>
      have e : A.cutC c = (44, A) := by unfold AN.cutC; rw [hk]
      rw [e] at k; exact .inr (.inl ⟨rfl, fun h' S' => ite_t rfl (k h' S')⟩)
    | some n x => exact .inr (.inr ⟨n, x, rfl⟩)
  · subst hc
    have e : A.cutC (n : Int) = if x.cut then (44, A) else (0, A.put n { x with cut := true, way := [], inb := [], out := [] }) := by unfold AN.cutC; rw [hk]
    rw [e] at k
    have hn : n < rs.length := by omega
    have hcut : ld kB (a.add 2) h1 = some x.cut := ownP.ldF fw_cut S1 5 rfl hr rfl ha
    have hL1 : ld kL ⟨b, 2, none⟩ h1 = some sl := varP.ld S1 fr_l 4 rfl
    refine rd_some rfl (rd_some hL1 (rd_some ha (rd_some hcut (ite_b (fun ec => ?_) (fun ec => ?_)))))
    · rw [if_pos ec] at k
      exact k h1 (row_back ok.l hrl n2 (AN.look_some hk).1 hr S1)
    · rw [ec] at k
      obtain ⟨h2, s2, S2⟩ := ownP.stF fw_cut S1 5 rfl hr (n := 7) rfl ha true
      obtain ⟨h3, s3, S3⟩ := ownP.stF2 fw_way S2 5 rfl hn (n := 7) rfl ha Sl.nil
      obtain ⟨h4, s4, S4⟩ := ownP.stF2 fw_in S3 5 rfl hn (n := 7) rfl ha Sl.nil
      obtain ⟨h5, s5, S5⟩ := ownP.stF2 fw_out S4 5 rfl hn (n := 7) rfl ha Sl.nil
      refine rd_some rfl (rd_some hL1 (rd_some ha (rd_some s2 (rd_some rfl (rd_some (varP.ld S2 fr_l 4 rfl) (rd_some ha (rd_some s3 (rd_some rfl (rd_some (varP.ld S3 fr_l 4 rfl) (rd_some ha (rd_some s4 (rd_some rfl (rd_some (varP.ld S4 fr_l 4 rfl) (rd_some ha (rd_some s5 (k h5 ?_))))))))))))))))
      have S6 := ((S5.made (Ext.refl h5) (Own.nil u8 h5 _)).replace 0 (by simp [rowL])).made (Ext.refl h5) (Own.nil u8 h5 _) |>.replace 1 (by simp [rowL])
      have S7 := (S6.made (Ext.refl h5) (Own.nil u8 h5 _)).replace 2 (by simp [rowL])
      exact row_in ok.l hrl (by omega) (x := { x with cut := true, way := [], inb := [], out := [] }) S7
theorem ref_bring (ok : A.Ok B) (c most : Int) (S : SG F0 h0 h (refP b A :: Rs)) {Q : Int × Int → H → Prop}
    (k : ∀ h', SG F0 h0 h' (refP b (A.bring c most).2 :: Rs) → Q (A.bring c most).1 h') : spateref16_Net_Bring (some ⟨b, 0, none⟩) c most h Q := by
  unfold spateref16_Net_Bring
  refine ref_gone ok S c false (fun _ e => by cases e) (fun _ => ?_) (fun n x sl rs a w ib ob hd hk hg hc n2 hrl hr ha h1 S1 => ite_f rfl ?_)
  · cases hk : A.look c with
    | bad =>
      have e : A.bring c most = ((0, 1), A) := by unfold AN.bring; rw [hk]
      rw [e] at k; exact .inl ⟨rfl, fun h' S' => ite_t rfl (k h' S')⟩
    | none =>
      have e : A.bring c most = ((0, 44), A) := by unfold AN.bring; rw [hk]
      rw [e] at k; exact .inr (.inl ⟨rfl, fun h' S' => ite_t rfl (k h' S')⟩)
    | some n x => exact .inr (.inr ⟨n, x, rfl⟩)
  · subst hc
    have hx := ok.x n x (AN.look_some hk).1
    have hi2 := ok.i2
    have e : A.bring (n : Int) most = ((((A.bringN x most : Nat) : Int), 0), { A.put n { x with way := x.way.drop (A.bringN x most), inb := x.inb ++ x.way.take (A.bringN x most) } with moved := IntKind.i64.wrap (A.moved + (A.bringN x most : Nat)) }) := by unfold AN.bring; rw [hk]
    rw [e] at k
    have hn : n < rs.length := by omega
    have hL1 : ld kL ⟨b, 2, none⟩ h1 = some sl := varP.ld S1 fr_l 4 rfl
    refine rd_some rfl (rd_some hL1 (rd_some ha (rd_some (ownP.ldW S1 5 rfl hr rfl ha) ?_)))
    refine S1.cell (K := k97) (x := ⟨true, x.closed, x.cut, w, ib, ob, hd⟩) fun b3 h3 S3 e3 => ?_
    have hwl : w.len = x.way.length := ownP.len (K := u8) S3 1 rfl
    have hil : ib.len = x.inb.length := ownP.len (K := u8) S3 2 rfl
    have q3 : ld kL ⟨b3, 3, none⟩ h3 = some w := varP.ld S3 fw_way 0 rfl
    have q4 : ld kL ⟨b3, 4, none⟩ h3 = some ib := varP.ld S3 fw_in 0 rfl
    have hI : ld (kI .i64) ⟨b, 0, none⟩ h3 = some (A.i : Int) := varP.ld S3 fr_in 5 rfl
    refine rd_some q3 (rd_some rfl (rd_some hI (rd_some q4 (part_spec _ _ _ ?_))))
    have em : max 0 (min most (min (IntKind.i64.wrap ((A.i : Int) - (ib.len : Int))) (w.len : Int))) = ((A.bringN x most : Nat) : Int) := by
      rw [wrap64_id (by omega) (by omega)]
      unfold AN.bringN; omega
    rw [em]
    have hle : A.bringN x most ≤ x.way.length := by unfold AN.bringN; omega
    have hle2 : A.bringN x most ≤ A.i - x.inb.length := by unfold AN.bringN; omega
    generalize A.bringN x most = N at *
    have Rw := ownP.rds S3 1 rfl
    obtain ⟨a8, h8, R8, _⟩ := Rw.slx_hi hle (w := 1) rfl
    refine rd_some q4 (rd_some q3 (rd_some h8 (join_spec S3 (ownP.rds S3 2 rfl) R8 (by simp; omega) fun s4 h5 e5 S5 => ?_)))
    obtain ⟨h6, s6, S6, _⟩ := varP.st S5 fw_in 1 rfl s4
    refine rd_some s6 ?_
    have q9 : ld kL ⟨b3, 3, none⟩ h6 = some w := varP.ld S6 fw_way 1 rfl
    have Rw6 := ownP.rds S6 2 rfl
    obtain ⟨a10, h10, R10, _⟩ := Rw6.slx_lo hle (w := 1) rfl
    refine rd_some q9 (rd_some h10 (join_spec S6 R10 (Rds.nil _ _) (by simp; omega) fun s5 h7 e7 S7 => ?_))
    rw [List.append_nil] at S7
    obtain ⟨h8', s8, S8, _⟩ := varP.st S7 fw_way 2 rfl s5
    refine rd_some s8 ?_
    have hL8 : ld kL ⟨b, 2, none⟩ h8' = some sl := varP.ld S8 fr_l 7 rfl
    have q12 : ld k97 ⟨b3, 0, none⟩ h8' = some _ := varP.ld S8 (Fld.whole k97) 2 rfl
    obtain ⟨h9, s9, S9⟩ := ownP.stW S8 8 rfl hr (n := 7) rfl ha ⟨true, x.closed, x.cut, s5, s4, ob, hd⟩
    have hM : ld (kI .i64) ⟨b, 3, none⟩ h9 = some A.moved := varP.ld S9 fr_moved 7 rfl
    obtain ⟨h11, s11, S11, _⟩ := varP.st S9 fr_moved 7 rfl (IntKind.i64.wrap (A.moved + (N : Int)))
    refine rd_some rfl (rd_some hL8 (rd_some q12 (rd_some ha (rd_some s9 (rd_some rfl (rd_some hM (rd_some rfl (rd_some s11 (k h11 ?_)))))))))
    -- s5 (way), s4 (in), the copy, then the old ones
    have T1 := S11.replace 2 (by simp [rowL])
    have T2 := T1.replace 2 (by simp [rowL])
    have T3 := T2.tail
    exact row_in (A := { A with moved := IntKind.i64.wrap (A.moved + (N : Int)) }) ok.l hrl (by omega) (x := { x with way := x.way.drop N, inb := x.inb ++ x.way.take N }) T3
end
end Go.Proofs.Ytbdopnhfbjdegaa
