/- One step of both nets, and what both tell: the same. -/
import Derived.Test.YtbdopnhfbjdegaaNetL
namespace Go.Proofs.Ytbdopnhfbjdegaa
open Go Go.Tr
set_option linter.unusedVariables false
theorem fs_kind : Fld k48 (kI .i64) 0 (·.f0) (fun x v => { x with f0 := v }) := (Fld.whole _).fst.iso
theorem fs_c : Fld k48 (kI .i64) 1 (·.f1) (fun x v => { x with f1 := v }) := (Fld.whole _).fst.snd.iso
theorem fs_b : Fld k48 kL 2 (·.f2) (fun x v => { x with f2 := v }) := (Fld.whole _).fst.snd.snd.iso
theorem fs_most : Fld k48 (kI .i64) 3 (·.f3) (fun x v => { x with f3 := v }) := (Fld.whole (kI .i64)).snd.snd.snd.iso
def AN.stepA (A : AN) (x : S48) (ys : List Int) : AN :=
  if x.f0 = 1 then (A.open' x.f1).2 else if x.f0 = 2 then (A.send x.f1 ys).2 else if x.f0 = 3 then (A.bring x.f1 x.f3).2 else if x.f0 = 4 then (A.take x.f1).2
  else if x.f0 = 5 then (A.write x.f1 ys).2 else if x.f0 = 6 then (A.fetch x.f1 x.f3).2 else if x.f0 = 7 then (A.close x.f1).2 else if x.f0 = 8 then (A.cutC x.f1).2 else A
theorem AN.Ok.stepA {A : AN} {B : Nat} (ok : A.Ok B) (x : S48) (ys : List Int) : (A.stepA x ys).Ok (B + 131072) := by
  have m : ∀ {A' : AN}, A'.Ok B → A'.Ok (B + 131072) := fun o => o.mono (by omega)
  unfold AN.stepA
  split
  · exact m (ok.open' _)
  split
  · exact m (ok.send _ _)
  split
  · exact m (ok.bring _ _)
  split
  · exact m (ok.take _)
  split
  · exact m (ok.write _ _)
  split
  · exact ok.fetch _ _
  split
  · exact m (ok.close _)
  split
  · exact m (ok.cutC _)
  · exact m ok
section
variable {h0 h : H} {b r : Nat} {A : AN} {B : Nat} {Rs Ps : List HP}
theorem asked_spec (ok : A.Ok B) (hB : B ≤ 10000000000) (x : S48) {ys : List Int} (R : Rds u8 h0 x.f2 ys) (hy : ys.length ≤ 140737488351232) (S : SS h0 h (netP b A :: refP r A :: Rs)) {Q : Bool → H → Prop}
    (k : ∀ h', SS h0 h' (netP b (A.stepA x ys) :: refP r (A.stepA x ys) :: Rs) → Q true h') : spatelaw16_asked (some ⟨b, 0, none⟩) (some ⟨r, 0, none⟩) x h Q := by
  unfold spatelaw16_asked
  refine SG.var S (K := k48) (x := x) fun q h1 S1 _ => ?_
  have f0 : ∀ {h' : H} {P1 P2 : HP}, SS h0 h' (varP k48 q x :: P1 :: P2 :: Rs) → ld (kI .i64) ⟨q, 0, none⟩ h' = some x.f0 := fun S => varP.ld S fs_kind 0 rfl
  have f1 : ∀ {h' : H} {P1 P2 : HP}, SS h0 h' (varP k48 q x :: P1 :: P2 :: Rs) → ld (kI .i64) ⟨q, 1, none⟩ h' = some x.f1 := fun S => varP.ld S fs_c 0 rfl
  have f2 : ∀ {h' : H} {P1 P2 : HP}, SS h0 h' (varP k48 q x :: P1 :: P2 :: Rs) → ld kL ⟨q, 2, none⟩ h' = some x.f2 := fun S => varP.ld S fs_b 0 rfl
  have f3 : ∀ {h' : H} {P1 P2 : HP}, SS h0 h' (varP k48 q x :: P1 :: P2 :: Rs) → ld (kI .i64) ⟨q, 3, none⟩ h' = some x.f3 := fun S => varP.ld S fs_most 0 rfl
  have fin : ∀ {h' : H} {A' : AN}, A.stepA x ys = A' → SS h0 h' (refP r A' :: varP k48 q x :: netP b A' :: Rs) → Q true h' := fun e S => by
    subst e; exact k _ (((S.front 2 rfl).front 2 rfl).tail)
  refine rd_some (f0 S1) (ite_b (fun c1 => ?_) fun c1 => ite_b (fun c2 => ?_) fun c2 => ite_b (fun c3 => ?_) fun c3 => ite_b (fun c4 => ?_) fun c4 => ite_b (fun c5 => ?_) fun c5 => ite_b (fun c6 => ?_) fun c6 => ite_b (fun c7 => ?_) fun c7 => ite_b (fun c8 => ?_) fun c8 => ?_)
  all_goals try simp only [beq_iff_eq, beq_eq_false_iff_ne, ne_eq] at c1
  all_goals try simp only [beq_iff_eq, beq_eq_false_iff_ne, ne_eq] at c2
  all_goals try simp only [beq_iff_eq, beq_eq_false_iff_ne, ne_eq] at c3
  all_goals try simp only [beq_iff_eq, beq_eq_false_iff_ne, ne_eq] at c4
  all_goals try simp only [beq_iff_eq, beq_eq_false_iff_ne, ne_eq] at c5
  all_goals try simp only [beq_iff_eq, beq_eq_false_iff_ne, ne_eq] at c6
  all_goals try simp only [beq_iff_eq, beq_eq_false_iff_ne, ne_eq] at c7
  all_goals try simp only [beq_iff_eq, beq_eq_false_iff_ne, ne_eq] at c8
  · -- open
    refine rd_some (f1 S1) (rd_some (f1 S1) (SG.go1 S1 1 rfl (open_spec ok x.f1) fun _ h2 S2 => ?_))
    have S2 : SS h0 h2 (varP k48 q x :: netP b (A.open' x.f1).2 :: refP r A :: Rs) := S2
    refine ⟨f1 S2, ref_open ok x.f1 (S2.front 2 rfl) fun h3 S3 => ?_⟩
    rw [beq_self_eq_true]
    exact fin (by unfold AN.stepA; rw [if_pos c1]) S3
  · -- send
    refine rd_some (f2 S1) (lend_spec S1 (R.ext (SS.e S1)) hy fun L h2 hL hLc S2 => jn_i ?_)
    have S2t := S2.tail
    refine rd_some (f1 S2t) (rd_some (f1 S2t) (rd_some (f2 S2t) ?_))
    have RL : Rds u8 h2 ⟨L.a, ys.length, L.cap⟩ ys := by
      have := (ownP.rds S2 0 rfl).pre (n := ys.length) (by simp [full])
      rwa [show (full ys).take ys.length = ys by simp [full]] at this
    refine SG.go1 S2 2 rfl (send_spec ok (c := x.f1) RL hy) fun _ h3 S3 => ?_
    have S3 : SS h0 h3 (ownP u8 L (full ys) :: varP k48 q x :: netP b (A.send x.f1 ys).2 :: refP r A :: Rs) := S3
    refine ⟨f2 S3.tail, f1 S3.tail, ref_send ok (R.ext (SS.e S3)) (fun h' S' => R.ext (SS.e S')) hy (S3.front 3 rfl) fun h4 S4 => ?_⟩
    rw [beq_self_eq_true]
    have S4 : SS h0 h4 (refP r (A.send x.f1 ys).2 :: ownP u8 L (full ys) :: varP k48 q x :: netP b (A.send x.f1 ys).2 :: Rs) := S4
    refine ite_t rfl (rd_some (varP.ld S4 fs_b 2 rfl) (back_spec hL hLc (SG.swap S4) (R.ext (SS.e S4)) hy fun h5 S5 => ?_))
    exact fin (by unfold AN.stepA; rw [if_neg c1, if_pos c2]) S5
  · -- bring
    refine rd_some (f1 S1) (rd_some (f3 S1) (SG.go1 S1 1 rfl (bring_spec ok x.f1 x.f3) fun _ h2 S2 => ?_))
    have S2 : SS h0 h2 (varP k48 q x :: netP b (A.bring x.f1 x.f3).2 :: refP r A :: Rs) := S2
    refine rd_some (f1 S2) (rd_some (f3 S2) (ref_bring ok x.f1 x.f3 (S2.front 2 rfl) fun h3 S3 => jn_i ?_))
    rw [beq_self_eq_true, beq_self_eq_true]
    exact ite_t rfl (fin (by unfold AN.stepA; rw [if_neg c1, if_neg c2, if_pos c3]) S3)
  · -- take
    refine rd_some (f1 S1) (SG.go1 S1 1 rfl (take_spec ok x.f1) fun s h2 S2 => ?_)
    have S2 : SS h0 h2 (ownP u8 s (A.take x.f1).1.1 :: varP k48 q x :: netP b (A.take x.f1).2 :: refP r A :: Rs) := S2
    refine rd_some (f1 S2.tail) (ref_take ok x.f1 (S2.front 3 rfl) fun t h3 S3 => jn_i ?_)
    have S3 : SS h0 h3 (refP r (A.take x.f1).2 :: ownP u8 t (A.take x.f1).1.1 :: ownP u8 s (A.take x.f1).1.1 :: varP k48 q x :: netP b (A.take x.f1).2 :: Rs) := S3
    refine rd_some (ownP.rds S3 2 rfl).b2s (rd_some (ownP.rds S3 1 rfl).b2s ?_)
    rw [beq_self_eq_true, beq_self_eq_true]
    exact ite_t rfl (fin (by unfold AN.stepA; rw [if_neg c1, if_neg c2, if_neg c3, if_pos c4]) (SG.swap (SG.swap S3).tail).tail)
  · -- write
    refine rd_some (f2 S1) (lend_spec S1 (R.ext (SS.e S1)) hy fun L h2 hL hLc S2 => ?_)
    have S2t := S2.tail
    refine rd_some (f1 S2t) ?_
    have RL : Rds u8 h2 ⟨L.a, ys.length, L.cap⟩ ys := by
      have := (ownP.rds S2 0 rfl).pre (n := ys.length) (by simp [full])
      rwa [show (full ys).take ys.length = ys by simp [full]] at this
    refine SG.go1 S2 2 rfl (write_spec ok (c := x.f1) RL hy) fun _ h3 S3 => ?_
    have S3 : SS h0 h3 (ownP u8 L (full ys) :: varP k48 q x :: netP b (A.write x.f1 ys).2 :: refP r A :: Rs) := S3
    refine rd_some (f1 S3.tail) (rd_some (f2 S3.tail) (ref_write ok (R.ext (SS.e S3)) (fun h' S' => R.ext (SS.e S')) hy (S3.front 3 rfl) fun h4 S4 => jn_i ?_))
    have S4 : SS h0 h4 (refP r (A.write x.f1 ys).2 :: ownP u8 L (full ys) :: varP k48 q x :: netP b (A.write x.f1 ys).2 :: Rs) := S4
    rw [beq_self_eq_true, beq_self_eq_true]
    refine ite_t rfl (ite_t rfl (rd_some (varP.ld S4 fs_b 2 rfl) (back_spec hL hLc (SG.swap S4) (R.ext (SS.e S4)) hy fun h5 S5 => ?_)))
    exact fin (by unfold AN.stepA; rw [if_neg c1, if_neg c2, if_neg c3, if_neg c4, if_pos c5]) S5
  · -- fetch
    refine rd_some (f1 S1) (rd_some (f3 S1) (SG.go1 S1 1 rfl (fetch_spec ok hB x.f1 x.f3) fun _ h2 S2 => ?_))
    have S2 : SS h0 h2 (varP k48 q x :: netP b (A.fetch x.f1 x.f3).2 :: refP r A :: Rs) := S2
    refine rd_some (f1 S2) (rd_some (f3 S2) (ref_fetch ok hB x.f1 x.f3 (S2.front 2 rfl) fun h3 S3 => jn_i ?_))
    rw [beq_self_eq_true, beq_self_eq_true]
    exact ite_t rfl (fin (by unfold AN.stepA; rw [if_neg c1, if_neg c2, if_neg c3, if_neg c4, if_neg c5, if_pos c6]) S3)
  · -- close
    refine rd_some (f1 S1) (rd_some (f1 S1) (SG.go1 S1 1 rfl (close_spec ok x.f1) fun _ h2 S2 => ?_))
    have S2 : SS h0 h2 (varP k48 q x :: netP b (A.close x.f1).2 :: refP r A :: Rs) := S2
    refine ⟨f1 S2, ref_close ok x.f1 (S2.front 2 rfl) fun h3 S3 => ?_⟩
    rw [beq_self_eq_true]
    exact fin (by unfold AN.stepA; rw [if_neg c1, if_neg c2, if_neg c3, if_neg c4, if_neg c5, if_neg c6, if_pos c7]) S3
  · -- cut
    refine rd_some (f1 S1) (rd_some (f1 S1) (SG.go1 S1 1 rfl (cut_spec ok x.f1) fun _ h2 S2 => ?_))
    have S2 : SS h0 h2 (varP k48 q x :: netP b (A.cutC x.f1).2 :: refP r A :: Rs) := S2
    refine ⟨f1 S2, ref_cut ok x.f1 (S2.front 2 rfl) fun h3 S3 => ?_⟩
    rw [beq_self_eq_true]
    exact fin (by unfold AN.stepA; rw [if_neg c1, if_neg c2, if_neg c3, if_neg c4, if_neg c5, if_neg c6, if_neg c7, if_pos c8]) S3
  · exact fin (by unfold AN.stepA; rw [if_neg c1, if_neg c2, if_neg c3, if_neg c4, if_neg c5, if_neg c6, if_neg c7, if_neg c8]) (S1.front 2 rfl)
theorem told_spec (ok : A.Ok B) (hB : B ≤ 10000000000) (c : Int) (S : SS h0 h (netP b A :: refP r A :: Rs)) {Q : Bool → H → Prop}
    (k : ∀ h', SS h0 h' (netP b A :: refP r A :: Rs) → Q true h') : spatelaw16_told (some ⟨b, 0, none⟩) (some ⟨r, 0, none⟩) c h Q := by
  unfold spatelaw16_told
  refine SG.go1 S 0 rfl (heard_spec ok hB c) fun s h1 S1 => ?_
  have S1 : SS h0 h1 (ownP u8 s (A.heard c).1 :: netP b A :: refP r A :: Rs) := S1
  refine ref_heard ok hB c (S1.front 2 rfl) fun t h2 S2 => ?_
  have S2 : SS h0 h2 (refP r A :: ownP u8 t (A.heard c).1 :: ownP u8 s (A.heard c).1 :: netP b A :: Rs) := S2
  refine SG.go1 S2 3 rfl (is_spec ok c) fun _ h3 S3 => ?_
  have S3 : SS h0 h3 (refP r A :: ownP u8 t (A.heard c).1 :: ownP u8 s (A.heard c).1 :: netP b A :: Rs) := S3
  refine ref_is ok c S3 fun h4 S4 => ?_
  refine SG.go1 S4 3 rfl (under_spec ok c) fun _ h5 S5 => ?_
  have S5 : SS h0 h5 (refP r A :: ownP u8 t (A.heard c).1 :: ownP u8 s (A.heard c).1 :: netP b A :: Rs) := S5
  refine ref_under ok c S5 (jn_i (rd_some (ownP.rds S5 2 rfl).b2s (rd_some (ownP.rds S5 1 rfl).b2s ?_)))
  simp only [beq_self_eq_true, if_true]
  refine rd_some rfl (rd_some (ref_moved S5) (SG.go1 S5 3 rfl moved_spec fun _ h6 S6 => ?_))
  have S6 : SS h0 h6 (refP r A :: ownP u8 t (A.heard c).1 :: ownP u8 s (A.heard c).1 :: netP b A :: Rs) := S6
  refine ⟨ref_moved S6, ?_⟩
  rw [beq_self_eq_true]
  have S7 := (SG.swap (SG.swap S6).tail).tail
  exact k h6 (SG.swap S7)
end
end Go.Proofs.Ytbdopnhfbjdegaa
