/- What each call of the document's net does. -/
import Derived.Test.YtbdopnhfbjdegaaNetR
namespace Go.Proofs.Ytbdopnhfbjdegaa
open Go Go.Tr
set_option linter.unusedVariables false
section
variable {F0 : Nat → Prop} {h0 h : H} {b : Nat} {A : AN} {B : Nat} {Rs Ps : List HP}
theorem AN.put_same {A : AN} {n : Nat} {x : AC} (h : A.cs[n]? = some (some x)) : A.put n x = A := by
  unfold AN.put
  rw [set_same h]
theorem row_back (hl : A.cs.length = 65) {sl : Sl} {rs : List S97} (hrl : rs.length = 65) {n : Nat} (hn : n ≤ 64) {x : AC} (hx : A.cs[n]? = some (some x)) {w ib ob hd : Sl} (hr : rs[n]? = some ⟨true, x.closed, x.cut, w, ib, ob, hd⟩)
    (S : SG F0 h0 h (rowL w ib ob hd x ++ (varP k82 b (rcell A sl) :: ownP k97 sl rs :: (rows A rs).eraseIdx n ++ Rs))) : SG F0 h0 h (refP b A :: Rs) := by
  have S2 := row_in hl hrl (n := n) (x := x) (w := w) (ib := ib) (ob := ob) (hd := hd) (sl := sl) (rs := rs) (A := A) (b := b) (by omega) (Rs := Rs) (h := h) (h0 := h0) (F0 := F0) (by rw [set_same hr]; exact S)
  rwa [AN.put_same hx] at S2
theorem ref_gone (ok : A.Ok B) (S : SG F0 h0 h (refP b A :: Rs)) (c : Int) (use : Bool) {Q : Int → H → Prop}
    (bad : A.liveE c ≠ 0 → use = true → ∀ h', SG F0 h0 h' (refP b A :: Rs) → Q (A.liveE c) h')
    (bad2 : use = false → (A.look c = .bad ∧ ∀ h', SG F0 h0 h' (refP b A :: Rs) → Q 1 h') ∨ (A.look c = .none ∧ ∀ h', SG F0 h0 h' (refP b A :: Rs) → Q 44 h') ∨ ∃ n x, A.look c = .some n x)
    (som : ∀ (n : Nat) (x : AC) (sl : Sl) (rs : List S97) (a : Addr) (w ib ob hd : Sl), A.look c = .some n x → (use = true → AN.gone x = false) → c = n → n ≤ 64 → rs.length = 65 → rs[n]? = some ⟨true, x.closed, x.cut, w, ib, ob, hd⟩ → ixA 7 sl (n : Int) = some a → ∀ h', SG F0 h0 h' (rowL w ib ob hd x ++ (varP k82 b (rcell A sl) :: ownP k97 sl rs :: (rows A rs).eraseIdx n ++ Rs)) → Q 0 h') :
    spateref16_Net_gone (some ⟨b, 0, none⟩) c use h Q := by
  refine ref_go ok.l S c (fun hk hc => ?_) (fun n sl rs a hk hc n1 n2 hrl hr ha S' => ?_) (fun n x sl rs a w ib ob hd hk hc n1 n2 hrl hr ha S' => ?_)
  · refine gone_bad hc use ?_
    cases use with
    | true =>
      have e : A.liveE c = 1 := by unfold AN.liveE; rw [hk]
      have := bad (by rw [e]; decide) rfl h S
      rw [e] at this; exact this
    | false =>
      rcases bad2 rfl with ⟨_, k⟩ | ⟨e, _⟩ | ⟨n, x, e⟩
      · exact k h S
      · rw [hk] at e; cases e
      · rw [hk] at e; cases e
  · subst hc
    refine gone_row S' 0 1 rfl rfl n1 n2 hr ha use fun h' S2 => ?_
    have S3 := ref_in hrl S2
    cases use with
    | true =>
      have e : A.liveE (n : Int) = 44 := by unfold AN.liveE; rw [hk]
      have := bad (by rw [e]; decide) rfl h' S3
      rw [e] at this; exact this
    | false =>
      rcases bad2 rfl with ⟨e, k⟩ | ⟨e, k⟩ | ⟨n, x, e⟩
      · rw [hk] at e; cases e
      · exact k h' S3
      · rw [hk] at e; cases e
  · subst hc
    refine gone_row S' 4 5 rfl rfl n1 n2 hr ha use fun h' S2 => ?_
    cases use with
    | true =>
      cases hg : AN.gone x with
      | true =>
        have e : A.liveE (n : Int) = 44 := by unfold AN.liveE; rw [hk]; simp [hg]
        have := bad (by rw [e]; decide) rfl h' (row_back ok.l hrl n2 (AN.look_some hk).1 hr S2)
        rw [e] at this
        have e2 : goneE ⟨true, x.closed, x.cut, w, ib, ob, hd⟩ true = 44 := by unfold goneE; unfold AN.gone at hg; simp [hg]
        rw [e2]; exact this
      | false =>
        have e2 : goneE ⟨true, x.closed, x.cut, w, ib, ob, hd⟩ true = 0 := by unfold goneE; unfold AN.gone at hg; simp [hg]
        rw [e2]
        exact som n x sl rs a w ib ob hd hk (fun _ => hg) rfl n2 hrl hr ha h' S2
    | false => exact som n x sl rs a w ib ob hd hk (fun e => by cases e) rfl n2 hrl hr ha h' S2

theorem ref_send (ok : A.Ok B) {c : Int} {s : Sl} {ys : List Int} (R : Rds u8 h s ys) (hf : ∀ h', SG F0 h0 h' (refP b A :: Rs) → Rds u8 h' s ys) (hy : ys.length ≤ 140737488351232) (S : SG F0 h0 h (refP b A :: Rs)) {Q : Int → H → Prop}
    (k : ∀ h', SG F0 h0 h' (refP b (A.send c ys).2 :: Rs) → Q (A.send c ys).1 h') : spateref16_Net_Send (some ⟨b, 0, none⟩) c s h Q := by
  unfold spateref16_Net_Send
  refine ref_gone ok S c true (fun he _ h' S' => ite_t (by simpa using he) ?_) (fun e => by cases e) (fun n x sl rs a w ib ob hd hk hg hc n2 hrl hr ha h1 S1 => ite_f rfl ?_)
  · rw [AN.send_e he] at k; exact k h' S'
  · have hg := hg rfl
    subst hc
    have hx := ok.x n x (AN.look_some hk).1
    have e : A.send (n : Int) ys = if x.way.length + ys.length > 1048576 then (2, A) else (0, A.put n { x with way := x.way ++ ys }) := by unfold AN.send; rw [hk]; simp [hg]
    rw [e] at k
    have hL : ld kL ⟨b, 2, none⟩ h1 = some sl := varP.ld S1 fr_l 4 rfl
    have hw : ld kL (a.add 3) h1 = some w := ownP.ldF fw_way S1 5 rfl hr rfl ha
    have hwl : w.len = x.way.length := ownP.len (K := u8) S1 0 rfl
    have hsl := R.len
    refine rd_some rfl (rd_some hL (rd_some ha (rd_some hw ?_)))
    rw [wrap64_id (by omega) (by omega), hwl, hsl]
    by_cases hm : x.way.length + ys.length > 1048576
    · rw [if_pos hm] at k
      exact ite_t (by simp; omega) (k h1 (row_back ok.l hrl n2 (AN.look_some hk).1 hr S1))
    · rw [if_neg hm] at k
      refine ite_f (by simp; omega) (rd_some rfl (rd_some hL (rd_some rfl (rd_some hL (rd_some ha (rd_some hw ?_))))))
      refine join_spec S1 (ownP.rds S1 0 rfl) (hf h1 (row_back ok.l hrl n2 (AN.look_some hk).1 hr S1)) (by omega) fun s' h2 e2 S2 => ?_
      refine ⟨varP.ld S2 fr_l 5 rfl, rd_some ha ?_⟩
      obtain ⟨h3, s3, S3⟩ := ownP.stF fw_way S2 6 rfl hr (n := 7) rfl ha s'
      refine rd_some s3 (k h3 ?_)
      exact row_in ok.l hrl (by omega) (x := { x with way := x.way ++ ys }) (S3.replace 0 (by simp [rowL]))
theorem ref_write (ok : A.Ok B) {c : Int} {s : Sl} {ys : List Int} (R : Rds u8 h s ys) (hf : ∀ h', SG F0 h0 h' (refP b A :: Rs) → Rds u8 h' s ys) (hy : ys.length ≤ 140737488351232) (S : SG F0 h0 h (refP b A :: Rs)) {Q : Int × Int → H → Prop}
    (k : ∀ h', SG F0 h0 h' (refP b (A.write c ys).2 :: Rs) → Q (A.write c ys).1 h') : spateref16_Net_Write (some ⟨b, 0, none⟩) c s h Q := by
  unfold spateref16_Net_Write
  refine ref_gone ok S c true (fun he _ h' S' => ite_t (by simpa using he) ?_) (fun e => by cases e) (fun n x sl rs a w ib ob hd hk hg hc n2 hrl hr ha h1 S1 => ite_f rfl ?_)
  · rw [AN.write_e he] at k; exact k h' S'
  · have hg := hg rfl
    subst hc
    have hx := ok.x n x (AN.look_some hk).1
    have ho2 := ok.o2
    have e : A.write (n : Int) ys = ((((A.writeN x ys : Nat) : Int), 0), A.put n { x with out := x.out ++ ys.take (A.writeN x ys) }) := by unfold AN.write; rw [hk]; simp [hg]
    rw [e] at k
    have hL : ld kL ⟨b, 2, none⟩ h1 = some sl := varP.ld S1 fr_l 4 rfl
    have hO : ld (kI .i64) ⟨b, 1, none⟩ h1 = some (A.o : Int) := varP.ld S1 fr_out 4 rfl
    have hw : ld kL (a.add 5) h1 = some ob := ownP.ldF fw_out S1 5 rfl hr rfl ha
    have hwl : ob.len = x.out.length := ownP.len (K := u8) S1 2 rfl
    have hsl := R.len
    refine rd_some rfl (rd_some hO (rd_some rfl (rd_some hL (rd_some ha (rd_some hw (part_spec _ _ _ ?_))))))
    have em : max 0 (min (s.len : Int) (min (IntKind.i64.wrap ((A.o : Int) - (ob.len : Int))) (s.len : Int))) = ((A.writeN x ys : Nat) : Int) := by
      rw [wrap64_id (by omega) (by omega)]
      unfold AN.writeN; omega
    rw [em]
    have hle : A.writeN x ys ≤ ys.length := Nat.min_le_left _ _
    have hle2 : A.writeN x ys ≤ A.o - x.out.length := Nat.min_le_right _ _
    obtain ⟨a7, h7, R7, _⟩ := (hf h1 (row_back ok.l hrl n2 (AN.look_some hk).1 hr S1)).slx_hi hle (w := 1) rfl
    refine rd_some rfl (rd_some hL (rd_some rfl (rd_some hL (rd_some ha (rd_some hw (rd_some h7 ?_))))))
    refine join_spec S1 (ownP.rds S1 2 rfl) R7 (by simp; omega) fun s' h2 e2 S2 => ?_
    refine ⟨varP.ld S2 fr_l 5 rfl, rd_some ha ?_⟩
    obtain ⟨h3, s3, S3⟩ := ownP.stF fw_out S2 6 rfl hr (n := 7) rfl ha s'
    refine rd_some s3 (k h3 ?_)
    exact row_in ok.l hrl (by omega) (x := { x with out := x.out ++ ys.take (A.writeN x ys) }) (S3.replace 2 (by simp [rowL]))
theorem ref_open (ok : A.Ok B) (c : Int) (S : SG F0 h0 h (refP b A :: Rs)) {Q : Int → H → Prop}
    (k : ∀ h', SG F0 h0 h' (refP b (A.open' c).2 :: Rs) → Q (A.open' c).1 h') : spateref16_Net_Open (some ⟨b, 0, none⟩) c h Q := by
  unfold spateref16_Net_Open
  refine ref_go ok.l S c (fun hk hc => ?_) (fun n sl rs a hk hc n1 n2 hrl hr ha S' => ?_) (fun n x sl rs a w ib ob hd hk hc n1 n2 hrl hr ha S' => ?_)
  · have e : A.open' c = (1, A) := by unfold AN.open'; rw [hk]
    rw [e] at k
    exact is_bad hc (ite_t rfl (k h S))
  · subst hc
    have e : A.open' (n : Int) = (0, A.put n .fresh) := by unfold AN.open'; rw [hk]; simp
    rw [e] at k
    have hL : ld kL ⟨b, 2, none⟩ h = some sl := varP.ld S' fr_l 0 rfl
    have ht : ld kB (a.add 0) h = some false := ownP.ldF fw_there S' 1 rfl hr rfl ha
    obtain ⟨h2, s2, S2⟩ := ownP.stF fw_there S' 1 rfl hr (n := 7) rfl ha true
    refine is_ok n1 n2 (ite_f rfl (rd_some rfl (rd_some hL (rd_some ha (rd_some ht (ite_f rfl (rd_some rfl (rd_some hL (rd_some ha (rd_some s2 (k h2 ?_)))))))))))
    have m := fun {Ps : List HP} (T : SG F0 h0 h2 Ps) => T.made (Ext.refl h2) (Own.nil u8 h2 _)
    have S3 : SG F0 h0 h2 (rowL Sl.nil Sl.nil Sl.nil Sl.nil .fresh ++ (varP k82 b (rcell A sl) :: ownP k97 sl (rs.set n ⟨true, false, false, Sl.nil, Sl.nil, Sl.nil, Sl.nil⟩) :: rows A rs ++ Rs)) := m (m (m (m S2)))
    have S4 : SG F0 h0 h2 (rowP ⟨true, false, false, Sl.nil, Sl.nil, Sl.nil, Sl.nil⟩ (some .fresh) :: (varP k82 b (rcell A sl) :: ownP k97 sl (rs.set n ⟨true, false, false, Sl.nil, Sl.nil, Sl.nil, Sl.nil⟩) :: rows A rs ++ Rs)) := SG.toand ⟨rfl, rfl, rfl⟩ (SG.fold _ S3)
    have hl := ok.l
    have hc : n < (rows A rs).length := by simp [rows, hrl, hl]; omega
    have S5 := S4.replace (n + 2) (by simp; omega)
    refine ref_in (sl := sl) (rs := rs.set n ⟨true, false, false, Sl.nil, Sl.nil, Sl.nil, Sl.nil⟩) (by simpa using hrl) ?_
    have e2 : (varP k82 b (rcell A sl) :: ownP k97 sl (rs.set n ⟨true, false, false, Sl.nil, Sl.nil, Sl.nil, Sl.nil⟩) :: rows A rs ++ Rs).set (n + 2) (rowP ⟨true, false, false, Sl.nil, Sl.nil, Sl.nil, Sl.nil⟩ (some .fresh)) = varP k82 b (rcell (A.put n .fresh) sl) :: ownP k97 sl (rs.set n ⟨true, false, false, Sl.nil, Sl.nil, Sl.nil, Sl.nil⟩) :: rows (A.put n .fresh) (rs.set n ⟨true, false, false, Sl.nil, Sl.nil, Sl.nil, Sl.nil⟩) ++ Rs := by
      simp only [List.cons_append, List.set_cons_succ]
      rw [List.set_append_left _ _ hc]
      unfold rows
      rw [zipWith_set]
      rfl
    rw [e2] at S5
    exact S5
  · subst hc
    have e : A.open' (n : Int) = (43, A) := by unfold AN.open'; rw [hk]
    rw [e] at k
    have hL : ld kL ⟨b, 2, none⟩ h = some sl := varP.ld S' fr_l 4 rfl
    have ht : ld kB (a.add 0) h = some true := ownP.ldF fw_there S' 5 rfl hr rfl ha
    exact is_ok n1 n2 (ite_f rfl (rd_some rfl (rd_some hL (rd_some ha (rd_some ht (ite_t rfl (k h S)))))))
theorem ref_take (ok : A.Ok B) (c : Int) (S : SG F0 h0 h (refP b A :: Rs)) {Q : Sl × Int → H → Prop}
    (k : ∀ s h', SG F0 h0 h' (refP b (A.take c).2 :: ownP u8 s (A.take c).1.1 :: Rs) → Q (s, (A.take c).1.2) h') : spateref16_Net_Take (some ⟨b, 0, none⟩) c h Q := by
  unfold spateref16_Net_Take
  refine ref_gone ok S c true (fun he _ h' S' => ite_t (by simpa using he) ?_) (fun e => by cases e) (fun n x sl rs a w ib ob hd hk hg hc n2 hrl hr ha h1 S1 => ite_f rfl ?_)
  · rw [AN.take_e he] at k; exact k Sl.nil h' (SG.swap (S'.made (Ext.refl _) (Own.nil _ _ _)))
  · have hg := hg rfl
    subst hc
    have e : A.take (n : Int) = ((x.inb, 0), A.put n { x with inb := [] }) := by unfold AN.take; rw [hk]; simp [hg]
    rw [e] at k
    have hL : ld kL ⟨b, 2, none⟩ h1 = some sl := varP.ld S1 fr_l 4 rfl
    have hw : ld kL (a.add 4) h1 = some ib := ownP.ldF fw_in S1 5 rfl hr rfl ha
    obtain ⟨h2, s2, S2⟩ := ownP.stF fw_in S1 5 rfl hr (n := 7) rfl ha Sl.nil
    refine rd_some rfl (rd_some hL (rd_some ha (rd_some hw (rd_some rfl (rd_some hL (rd_some ha (rd_some s2 (k ib h2 ?_))))))))
    have S3 : SG F0 h0 h2 (ownP u8 Sl.nil [] :: rowL w ib ob hd x ++ (varP k82 b (rcell A sl) :: ownP k97 sl (rs.set n ⟨true, x.closed, x.cut, w, Sl.nil, ob, hd⟩) :: (rows A rs).eraseIdx n ++ Rs)) := S2.made (Ext.refl _) (Own.nil u8 h2 _)
    have S4 := S3.front 2 rfl
    have T : SG F0 h0 h2 (ownP u8 ib x.inb :: (rowL w Sl.nil ob hd { x with inb := [] } ++ (varP k82 b (rcell A sl) :: ownP k97 sl (rs.set n ⟨true, x.closed, x.cut, w, Sl.nil, ob, hd⟩) :: (rows A rs).eraseIdx n ++ Rs))) := S4.perm (List.Perm.cons _ (List.Perm.swap _ _ _))
    have T2 := T.perm (List.perm_append_comm (l₁ := [ownP u8 ib x.inb]))
    have e3 : (rowL w Sl.nil ob hd { x with inb := [] } ++ (varP k82 b (rcell A sl) :: ownP k97 sl (rs.set n ⟨true, x.closed, x.cut, w, Sl.nil, ob, hd⟩) :: (rows A rs).eraseIdx n ++ Rs)) ++ [ownP u8 ib x.inb] = rowL w Sl.nil ob hd { x with inb := [] } ++ (varP k82 b (rcell A sl) :: ownP k97 sl (rs.set n ⟨true, x.closed, x.cut, w, Sl.nil, ob, hd⟩) :: (rows A rs).eraseIdx n ++ (Rs ++ [ownP u8 ib x.inb])) := by simp
    have T3 := row_in ok.l hrl (n := n) (w := w) (ib := Sl.nil) (ob := ob) (hd := hd) (b := b) (by omega) (x := { x with inb := [] }) (Rs := Rs ++ [ownP u8 ib x.inb]) (by rw [← e3]; exact T2)
    exact SG.swap (T3.perm (List.perm_append_comm (l₁ := refP b (A.put n { x with inb := [] }) :: Rs) (l₂ := [ownP u8 ib x.inb])))
end
end Go.Proofs.Ytbdopnhfbjdegaa
