/- The statements' steps. -/
import Derived.Test.YtgmihbchcmjmdaaLkL
namespace Go.Proofs.Ytgmihbchcmjmdaa
open Go Go.Tr
set_option linter.unusedVariables false
abbrev kStep : Kd S52 := k52
theorem ft_kind : Fld kStep (kI .i64) 0 (·.f0) (fun x v => { x with f0 := v }) := (Fld.whole (kI .i64)).fst.iso
theorem ft_task : Fld kStep (kI .i64) 1 (·.f1) (fun x v => { x with f1 := v }) := (Fld.whole (kI .i64)).fst.snd.iso
theorem ft_l : Fld kStep kL 2 (·.f2) (fun x v => { x with f2 := v }) := (Fld.whole kL).snd.snd.iso
namespace AM
/-- What a step does: its kind, its task, at most so many locks. -/
def step (A : AM) (x : S52) (l : List Lk) : AM :=
  if x.f0 = 1 then (A.ask x.f1 (l.take 40)).2 else if x.f0 = 2 then (A.free x.f1).2 else if x.f0 = 3 then (A.quit x.f1).2 else A
theorem Ok.step {A : AM} {B : Nat} (ok : A.Ok B) (x : S52) (l : List Lk) : (A.step x l).Ok (B + 1) := by
  unfold AM.step
  split
  · exact ok.ask _ _
  · split
    · exact (ok.free _).mono (by omega)
    · split
      · exact (ok.quit _).mono (by omega)
      · exact ok.mono (by omega)
end AM
section
variable {h0 h : H} {A : AM} {B : Nat} {Rs : List HP}
theorem AM.told_len (A : AM) (ok : A.Ok B) : A.through.1.length ≤ B := by
  have := thr_told A.queue A.has []
  have := ok.b
  unfold AM.through; simp only; omega
theorem AM.free_len (ok : A.Ok B) (t : Int) : (A.free t).1.1.length ≤ B := by
  unfold AM.free
  split
  · simp
  · exact AM.told_len _ (ok.eraseH _)
theorem AM.quit_len (ok : A.Ok B) (t : Int) : (A.quit t).1.length ≤ B := by
  unfold AM.quit
  split
  · exact AM.told_len _ (ok.eraseH _)
  · split
    · exact AM.told_len _ (ok.eraseQ _)
    · simp
theorem known_spec {Q : Bool → H → Prop} (k : ∀ h', Ext h h' → Q true h') : spatelaw11_known h Q := by
  unfold spatelaw11_known
  have S0 : SS h h [] := SS.nil (Ext.refl h)
  refine new_spec S0 (fun hb => absurd hb (by decide)) fun _ _ m h1 S1 => ?_
  refine jn_c false h1 (fun K hK => ite_f rfl hK) (ite_f rfl ?_)
  have ok0 : (AM.new (Int.toNat 1)).Ok 0 := AM.Ok.new (by decide) (by decide)
  refine bs_own (K := kLk) [⟨0, false⟩] rfl rfl fun x1 h2 o1 hl1 e1 z1 => ?_
  refine (S1.ext e1).go1 0 rfl (ask_spec ok0 (by decide) (t := 3) o1.rds (by decide)) fun v1 h3 S3 => ?_
  refine bs_own (K := kLk) [⟨0, false⟩] rfl rfl fun x2 h4 o2 hl2 e2 z2 => ?_
  refine (S3.ext e2).go1 1 rfl (ask_spec (ok0.ask 3 [⟨0, false⟩]) (by decide) (t := 4) o2.rds (by decide)) fun v2 h5 S5 => ?_
  refine S5.go1 2 rfl (free_spec ((ok0.ask 3 [⟨0, false⟩]).ask 4 [⟨0, false⟩]) (by decide) 3) fun g h6 S6 => ?_
  have S6 : SS h h6 [ownP (kI .i64) g.1 [4], errP g.2 0, errP v2 0, errP v1 0, mgrP m ⟨1, [(4, [⟨0, false⟩])], []⟩] := S6
  have n1 : v1.isNone = true := by rcases errP.is S6 3 rfl with ⟨_, e⟩ | ⟨e, _⟩; rw [e]; rfl; exact absurd rfl e
  have n2 : v2.isNone = true := by rcases errP.is S6 2 rfl with ⟨_, e⟩ | ⟨e, _⟩; rw [e]; rfl; exact absurd rfl e
  have n3 : g.2.isNone = true := by rcases errP.is S6 1 rfl with ⟨_, e⟩ | ⟨e, _⟩; rw [e]; rfl; exact absurd rfl e
  have R := ownP.rds (K := kI .i64) S6 0 rfl
  have okF : (⟨1, [(4, [⟨0, false⟩])], []⟩ : AM).Ok 1 := ⟨by decide, by decide, by decide, by decide⟩
  refine jn_i (ite_t rfl (ite_t rfl (ite_t n1 (ite_t n2 (ite_t n3 (ite_t (by rw [R.len]; rfl) (R.elt0 (i := 0) (by decide) rfl (ite_t rfl ?_))))))))
  refine S6.go1 4 rfl (waits_spec okF (by decide) 4) fun _ h7 S7 => ?_
  exact k h7 (SS.e S7)
theorem step_spec (ok : A.Ok B) (hB : B ≤ 100000000) {m r : Nat} (S : SS h0 h (mgrP m A :: refP r A :: Rs)) (x : S52) {l : List Lk} (R : Rds kLk h0 x.f2 l) (hl : l.length < 1000000000000000) {Q : Bool → H → Prop}
    (k : ∀ h', SS h0 h' (mgrP m (A.step x l) :: refP r (A.step x l) :: Rs) → Q true h') : spatelaw11_step (some ⟨m, 0, none⟩) (some ⟨r, 0, none⟩) x h Q := by
  unfold spatelaw11_step
  refine S.var (K := kStep) fun q h1 S1 _ => ?_
  have hx0 : ld (kI .i64) ⟨q, 0, none⟩ h1 = some x.f0 := varP.ld S1 ft_kind 0 rfl
  have hx1 : ld (kI .i64) ⟨q, 1, none⟩ h1 = some x.f1 := varP.ld S1 ft_task 0 rfl
  have hx2 : ld kL ⟨q, 2, none⟩ h1 = some x.f2 := varP.ld S1 ft_l 0 rfl
  refine rd_some (by rw [add_mk]; exact hx0) ?_
  refine ite_b (fun c1 => ?_) (fun c1 => ite_b (fun c2 => ?_) (fun c2 => ite_b (fun c3 => ?_) (fun c3 => ?_)))
  · have hA : A.step x l = (A.ask x.f1 (l.take 40)).2 := by unfold AM.step; rw [if_pos (by simpa using c1)]
    rw [hA] at k
    have h40 : (l.take 40).length ≤ 40 := by simp; omega
    refine rd_some (by rw [add_mk]; exact hx2) (cut_spec R (by omega) fun s' R' => ?_)
    refine lend_spec S1 (R'.ext (SS.e S1)) (by omega) fun L h2 hL hLc S2 => ?_
    have RL : Rds kLk h2 ⟨L.a, (l.take 40).length, L.cap⟩ (l.take 40) := by
      have := (ownP.rds S2 0 rfl).pre (n := (l.take 40).length) (by rw [full_len]; omega)
      rwa [show (full (l.take 40)).take (l.take 40).length = l.take 40 by simp only [full, List.take_left]] at this
    refine rd_some (by rw [add_mk]; exact varP.ld S2 ft_task 1 rfl) ?_
    refine S2.go1 2 rfl (ask_spec ok hB (t := x.f1) RL (by omega)) fun v h3 S3 => ?_
    have S3 : SS h0 h3 (errP v (A.ask x.f1 (l.take 40)).1.2 :: ownP kLk L (full (l.take 40)) :: varP kStep q x :: mgrP m (A.ask x.f1 (l.take 40)).2 :: refP r A :: Rs) := S3
    refine kept_spec hL hLc S3.swap (fun h' S' => R'.ext (SS.e S')) (by omega) fun h4 S4 => ?_
    refine rd_some (by rw [add_mk]; exact varP.ld S4 ft_task 1 rfl) ?_
    refine S4.go1 3 rfl (rask_spec ok hB (t := x.f1) (R'.ext (SS.e S4)) (by omega)) fun _ h5 S5 => ?_
    have S5 : SS h0 h5 (errP v (A.ask x.f1 (l.take 40)).1.2 :: varP kStep q x :: mgrP m (A.ask x.f1 (l.take 40)).2 :: refP r (A.ask x.f1 (l.take 40)).2 :: Rs) := S5
    refine jn_i (ite_t rfl (ite_t (by simp) (is_spec S5 0 rfl (k h5 S5.tail.tail))))
  · have hA : A.step x l = (A.free x.f1).2 := by unfold AM.step; rw [if_neg (by simpa using c1), if_pos (by simpa using c2)]
    rw [hA] at k
    have hfl := AM.free_len ok x.f1
    refine rd_some (by rw [add_mk]; exact hx1) (S1.go1 1 rfl (free_spec ok (by omega) x.f1) fun g h2 S2 => ?_)
    have S2 : SS h0 h2 (ownP (kI .i64) g.1 (A.free x.f1).1.1 :: errP g.2 (A.free x.f1).1.2 :: varP kStep q x :: mgrP m (A.free x.f1).2 :: refP r A :: Rs) := S2
    refine rd_some (by rw [add_mk]; exact varP.ld S2 ft_task 2 rfl) (S2.go1 4 rfl (rfree_spec ok (by omega) x.f1) fun s h3 S3 => jn_i ?_)
    have S3 : SS h0 h3 (ownP (kI .i64) s (A.free x.f1).1.1 :: ownP (kI .i64) g.1 (A.free x.f1).1.1 :: errP g.2 (A.free x.f1).1.2 :: varP kStep q x :: mgrP m (A.free x.f1).2 :: refP r (A.free x.f1).2 :: Rs) := S3
    refine same_ints (ownP.rds (K := kI .i64) S3 1 rfl) (ownP.rds (K := kI .i64) S3 0 rfl) (by omega) (ite_t rfl (is_spec S3 2 rfl ?_))
    exact k h3 S3.tail.tail.tail.tail
  · have hA : A.step x l = (A.quit x.f1).2 := by unfold AM.step; rw [if_neg (by simpa using c1), if_neg (by simpa using c2), if_pos (by simpa using c3)]
    rw [hA] at k
    have hfl := AM.quit_len ok x.f1
    refine rd_some (by rw [add_mk]; exact hx1) (rd_some (by rw [add_mk]; exact hx1) (S1.go1 1 rfl (quit_spec ok (by omega) x.f1) fun g h2 S2 => ?_))
    have S2 : SS h0 h2 (ownP (kI .i64) g (A.quit x.f1).1 :: varP kStep q x :: mgrP m (A.quit x.f1).2 :: refP r A :: Rs) := S2
    refine ⟨by rw [add_mk]; exact varP.ld S2 ft_task 1 rfl, S2.go1 3 rfl (rquit_spec ok (by omega) x.f1) fun s h3 S3 => ?_⟩
    have S3 : SS h0 h3 (ownP (kI .i64) s (A.quit x.f1).1 :: ownP (kI .i64) g (A.quit x.f1).1 :: varP kStep q x :: mgrP m (A.quit x.f1).2 :: refP r (A.quit x.f1).2 :: Rs) := S3
    exact same_ints (ownP.rds (K := kI .i64) S3 1 rfl) (ownP.rds (K := kI .i64) S3 0 rfl) (by omega) (k h3 S3.tail.tail.tail)
  · have hA : A.step x l = A := by unfold AM.step; rw [if_neg (by simpa using c1), if_neg (by simpa using c2), if_neg (by simpa using c3)]
    rw [hA] at k
    refine ite_b (fun c4 => ?_) (fun c4 => k h1 S1.tail)
    exact rd_some (by rw [add_mk]; exact hx1) (looks_spec ok (by omega) S1.tail x.f1 k)
end
end Go.Proofs.Ytgmihbchcmjmdaa
