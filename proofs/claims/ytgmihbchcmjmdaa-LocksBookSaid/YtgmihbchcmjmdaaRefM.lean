/- The document's manager in memory, and what each of its calls does. -/
import Derived.Test.YtgmihbchcmjmdaaRefP
import Derived.Test.YtgmihbchcmjmdaaLkM4
import Derived.Test.YtgmihbchcmjmdaaG0
import Derived.Test.YtgmihbchcmjmdaaG1
namespace Go.Proofs.Ytgmihbchcmjmdaa
open Go Go.Tr
set_option linter.unusedVariables false
abbrev kRM : Kd S92 := k92
theorem fr_locks : Fld kRM (kI .i64) 0 (·.f0) (fun x v => { x with f0 := v }) := (Fld.whole (kI .i64)).fst.iso
theorem fr_has : Fld kRM kL 1 (·.f1) (fun x v => { x with f1 := v }) := (Fld.whole kL).fst.snd.iso
theorem fr_queue : Fld kRM kL 2 (·.f2) (fun x v => { x with f2 := v }) := (Fld.whole kL).snd.snd.iso
abbrev RR := Int × Sl × List Lk
def rrow (r : RR) : RSet := ⟨r.1, r.2.1⟩
def rabs (r : RR) : C := (r.1, r.2.2)
def sbagP (n : Nat) (rs : List RR) : HP where
  p h F := (∀ r ∈ rs, Own kLk h F r.2.1 (AM.sortL n r.2.2)) ∧ ∀ b, F b → b < h.size
  st := fun ⟨v, l⟩ hs k => ⟨fun r hr => (v r hr).same fun b hb _ => k b hb, fun b hb => Nat.lt_of_lt_of_le (l b hb) hs⟩
  lt := fun ⟨_, l⟩ => l
def refL (b : Nat) (n : Nat) (sh sq : Sl) (RH RQ : List RR) : List HP := [varP kRM b ⟨n, sh, sq⟩, ownP kRS sh (RH.map rrow), ownP kRS sq (RQ.map rrow), sbagP n (RH ++ RQ)]
def refP (b : Nat) (A : AM) : HP := HP.ex fun w : (Sl × Sl) × (List RR × List RR) => HP.and (w.2.1.map rabs = A.has ∧ w.2.2.map rabs = A.queue) (HP.all (refL b A.locks w.1.1 w.1.2 w.2.1 w.2.2))
theorem sortL_le {l : List Lk} (hn : nod l) : ∀ (m : Nat), (AM.sortL m l).length ≤ m
  | 0 => Nat.le_refl _
  | m + 1 => by
    have ih := sortL_le hn m
    rw [sortL_succ, List.length_append, filt_find hn]
    split <;> simp <;> omega
section
variable {F0 : Nat → Prop} {h0 h : H} {b : Nat} {A : AM} {B : Nat} {Rs Ps : List HP}
theorem ref_open (S : SG F0 h0 h (refP b A :: Rs)) : ∃ sh sq RH RQ, RH.map rabs = A.has ∧ RQ.map rabs = A.queue ∧ SG F0 h0 h (refL b A.locks sh sq RH RQ ++ Rs) := by
  obtain ⟨w, S1⟩ := S.unex
  obtain ⟨⟨e1, e2⟩, S2⟩ := S1.unand
  exact ⟨_, _, _, _, e1, e2, S2.flat⟩
theorem ref_close {sh sq : Sl} {RH RQ : List RR} (e1 : RH.map rabs = A.has) (e2 : RQ.map rabs = A.queue) (S : SG F0 h0 h (refL b A.locks sh sq RH RQ ++ Rs)) : SG F0 h0 h (refP b A :: Rs) :=
  SG.toex (P := fun w : (Sl × Sl) × (List RR × List RR) => HP.and (w.2.1.map rabs = A.has ∧ w.2.2.map rabs = A.queue) (HP.all (refL b A.locks w.1.1 w.1.2 w.2.1 w.2.2))) ((sh, sq), (RH, RQ)) (SG.toand ⟨e1, e2⟩ (SG.fold _ S))
theorem sbagP.is (S : SG F0 h0 h Ps) (i : Nat) {n : Nat} {rs : List RR} (hi : Ps[i]? = some (sbagP n rs)) {r : RR} (hr : r ∈ rs) : Rds kLk h r.2.1 (AM.sortL n r.2.2) := by
  obtain ⟨F1, ⟨v, _⟩, _⟩ := S.at i hi
  exact (v r hr).rds
theorem sbagP.sub (S : SG F0 h0 h Ps) (i : Nat) {n : Nat} {rs rs' : List RR} (hi : Ps[i]? = some (sbagP n rs)) (hs : ∀ r ∈ rs', r ∈ rs) : SG F0 h0 h (Ps.set i (sbagP n rs')) :=
  S.imp i hi _ fun F ⟨v, l⟩ => ⟨fun r hr => v r (hs r hr), l⟩
theorem sbagP.add {n : Nat} {s : Sl} {t : Int} {l : List Lk} {rs : List RR} (S : SG F0 h0 h (ownP kLk s (AM.sortL n l) :: sbagP n rs :: Rs)) : SG F0 h0 h (sbagP n ((t, s, l) :: rs) :: Rs) := by
  obtain ⟨F, ⟨F1, _, a, ⟨F2, F3, a2, r, c2, d2⟩, c, d⟩, f⟩ := S
  refine ⟨F, ⟨fun k => F1 k ∨ F2 k, F3, ⟨fun x hx => ?_, fun k hk => ?_⟩, r, fun k hk h3 => ?_, fun k => ?_⟩, f⟩
  · rcases List.mem_cons.1 hx with rfl | hx
    · exact a.1.mono fun _ h => .inl h
    · exact (a2.1 x hx).mono fun _ h => .inr h
  · rcases hk with hk | hk
    · exact a.2 k hk
    · exact a2.2 k hk
  · rcases hk with hk | hk
    · exact c _ hk ((d2 _).2 (.inr h3))
    · exact c2 k hk h3
  · rw [d k, d2 k, or_assoc]
theorem rows_ok (ok : A.Ok B) {RH RQ : List RR} (e1 : RH.map rabs = A.has) (e2 : RQ.map rabs = A.queue) : ∀ x ∈ RH ++ RQ, okSet A.locks x.2.2 = true := by
  intro x hx
  refine ok.ok (rabs x) ?_
  rw [← e1, ← e2, ← List.map_append]
  exact List.mem_map_of_mem hx
theorem rrows_len (ok : A.Ok B) {RH RQ : List RR} (e1 : RH.map rabs = A.has) (e2 : RQ.map rabs = A.queue) : RH.length + RQ.length ≤ B := by
  have := ok.b
  rw [← e1, ← e2] at this
  simpa using this
theorem rfindR (R : List RR) (t : Int) : (R.findIdx? fun r => (rrow r).f0 == t) = findC (R.map rabs) t := by
  unfold findC
  rw [List.findIdx?_map]; rfl
theorem rfind_has (ok : A.Ok B) (hB : B ≤ 1000000000) {sh : Sl} {RH : List RR} {i : Nat} (hi : Ps[i]? = some (ownP kRS sh (RH.map rrow))) {l : List C} (hl : RH.map rabs = l) (hm : l.length ≤ B) (S : SG F0 h0 h Ps) (t : Int) {Q : Int → H → Prop} (k : Q (pl (findC l t)) h) : spateref11_find sh t h Q := by
  subst hl
  rw [List.length_map] at hm
  refine rfind_spec (ownP.rds (K := kRS) S i hi) (by omega) t ?_
  rw [rfindR]; exact k
theorem rhit_spec {n : Nat} (hn : n ≤ 1024) {s : Sl} {RS all : List RR} {r : RR} (R : Rds kRS h s (RS.map rrow)) (hl : RS.length < 4611686018427387904) (hM : ∀ x ∈ all, Rds kLk h x.2.1 (AM.sortL n x.2.2)) (hok : ∀ x ∈ all, okSet n x.2.2 = true) (hr : r ∈ all) (hs : ∀ x ∈ RS, x ∈ all)
    {Q : Bool → H → Prop} (k : ∀ h', Ext h h' → Q (hit (RS.map rabs) r.2.2) h') : spateref11_conflicts s (rrow r) h Q := by
  have hle : ∀ x ∈ all, (AM.sortL n x.2.2).length < 4611686018427387904 := fun x hx => by
    have := sortL_le (okSet_nod (hok x hx)) n
    omega
  refine rconfs_spec (g := rrow) (lx := AM.sortL n r.2.2) (f := fun x : RR => AM.sortL n x.2.2) R hl (hM r hr) (hle r hr) (fun y hy => ⟨hM y (hs y hy), hle y (hs y hy)⟩) fun h' e => ?_
  have k' := k h' e
  have : (RS.any fun y => conf (AM.sortL n y.2.2) (AM.sortL n r.2.2)) = hit (RS.map rabs) r.2.2 := by
    unfold hit
    rw [List.any_map]
    apply Bool.eq_iff_iff.2
    rw [List.any_eq_true, List.any_eq_true]
    constructor
    · rintro ⟨x, hx, hp⟩
      rw [conf_sort (hok x (hs x hx)) (hok r hr), conf_comm] at hp
      exact ⟨x, hx, hp⟩
    · rintro ⟨x, hx, hp⟩
      refine ⟨x, hx, ?_⟩
      rw [conf_sort (hok x (hs x hx)) (hok r hr), conf_comm]
      exact hp
  rw [this]; exact k'
theorem rwithout_spec {s : Sl} {xs : List RSet} (S : SG F0 h0 h Ps) (R : Rds kRS h s xs) (hl : xs.length ≤ 1000000000) {i : Nat} (hi : i < xs.length) {Q : Sl → H → Prop} (k : ∀ s' h', SG F0 h0 h' (ownP kRS s' (xs.eraseIdx i) :: Ps) → Q s' h') : spateref11_without s (i : Int) h Q := by
  unfold spateref11_without
  obtain ⟨x1, hx1, R1, _⟩ := R.slx_hi (n := i) (by omega) (w := 2) rfl
  refine rd_some hx1 (SG.copied (K := kRS) (by decide) S rfl rfl R1 (by simp; omega) (by simp; omega) fun s2 h1 e1 S1 => ?_)
  obtain ⟨x3, hx3, R3, _⟩ := (R.ext e1).slx_lo (n := i + 1) (by omega) (w := 2) rfl
  refine rd_some (by rw [wrap64_id (by omega) (by omega)]; exact hx3) (ownP.app (K := kRS) (by decide) S1 0 rfl R3 (by simp; omega) (by simp; omega) fun s3 h2 S2 => k s3 h2 ?_)
  rw [List.eraseIdx_eq_take_drop_succ]; exact S2
theorem rthrough_spec (ok : A.Ok B) (hB : B ≤ 1000000000) :
    Does h [refP b A] (fun Q => spateref11_Manager_through (some ⟨b, 0, none⟩) h Q) (fun s : Sl => s) (fun s => [refP b A.through.2, ownP (kI .i64) s A.through.1]) := by
  intro F0 h0 Q S k
  show spateref11_Manager_through _ _ _
  obtain ⟨sh, sq, RH, RQ, e1, e2, S⟩ := ref_open S
  have hok := rows_ok ok e1 e2
  have hlen := rrows_len ok e1 e2
  have hn := ok.l2
  unfold spateref11_Manager_through
  have hql : sq.len = RQ.length := by have := ownP.len (K := kRS) S 2 rfl; simpa using this
  refine jn_i (for0 (mk := fun (s : Sl × Sl) i => (s.1, s.2, i)) (s := (Sl.nil, Sl.nil)) (n := RQ.length) (by omega) (fun j s h' => ∃ (sh' : Sl) (RH' RL : List RR) (told : List Int),
      SG F0 h0 h' [varP kRM b ⟨A.locks, sh', sq⟩, ownP kRS sh' (RH'.map rrow), ownP kRS sq (RQ.map rrow), sbagP A.locks (RH ++ RQ), ownP kRS s.2 (RL.map rrow), ownP (kI .i64) s.1 told] ∧
      (∀ x ∈ RH', x ∈ RH ++ RQ) ∧ (∀ x ∈ RL, x ∈ RH ++ RQ) ∧ RH'.length + RL.length = RH.length + j ∧ told.length ≤ j ∧
      thr A.has [] A.queue = ((thr (RH'.map rabs) (RL.map rabs) ((RQ.drop j).map rabs)).1, (thr (RH'.map rabs) (RL.map rabs) ((RQ.drop j).map rabs)).2.1, told ++ (thr (RH'.map rabs) (RL.map rabs) ((RQ.drop j).map rabs)).2.2))
    ⟨sh, RH, [], [], ?_, fun x hx => List.mem_append_left _ hx, by simp, rfl, Nat.le_refl _, ?_⟩ (fun j s h1 K hj hI next done => ?_) (fun s h1 K hI done => ?_))
  · have S1 := S.made (Ext.refl h) (Own.nil kRS h _)
    have S2 := S1.made (Ext.refl h) (Own.nil (kI .i64) h _)
    exact S2.swap.rot.rot
  · rw [e1, List.drop_zero, e2]; rfl
  · obtain ⟨out, left⟩ := s
    obtain ⟨sh', RH', RL, told, S1, hs1, hs2, hl1, hl2, ht⟩ := hI
    unfold spateref11_Manager_through.b1
    have hdr : RQ.drop j = RQ[j] :: RQ.drop (j + 1) := List.drop_eq_getElem_cons hj
    have hrm : RQ[j] ∈ RH ++ RQ := List.mem_append_right _ (List.getElem_mem _)
    rw [hdr, List.map_cons] at ht
    have hq : ld kL ⟨b, 2, none⟩ h1 = some sq := varP.ld S1 fr_queue 0 rfl
    refine rd_some rfl (rd_some (by rw [add_mk]; exact hq) (ite_t (by rw [hql]; exact clt_t hj) (jn_i ?_)))
    refine rd_some rfl (rd_some (by rw [add_mk]; exact hq) ((ownP.rds (K := kRS) S1 2 rfl).elt0 (i := j) (by simpa using hj) rfl ?_))
    rw [List.getElem_map]
    refine S1.cell (K := kRS) (x := rrow RQ[j]) fun q h2 S2 eb => ?_
    refine jn_q (fun a h' => a = (hit (RH'.map rabs) RQ[j].2.2 || hit (RL.map rabs) RQ[j].2.2) ∧ SG F0 h0 h' (varP kRS q (rrow RQ[j]) :: [varP kRM b ⟨A.locks, sh', sq⟩, ownP kRS sh' (RH'.map rrow), ownP kRS sq (RQ.map rrow), sbagP A.locks (RH ++ RQ), ownP kRS left (RL.map rrow), ownP (kI .i64) out told])) (fun K2 hK => ?_) ?_
    · have hv : ld kL ⟨b, 1, none⟩ h2 = some sh' := varP.ld S2 fr_has 1 rfl
      have hw : ld kRS ⟨q, 0, none⟩ h2 = some (rrow RQ[j]) := varP.ld S2 (Fld.whole kRS) 0 rfl
      refine rd_some rfl (rd_some (by rw [add_mk]; exact hv) (rd_some hw ?_))
      refine rhit_spec hn (ownP.rds (K := kRS) S2 2 rfl) (by omega) (fun x hx => sbagP.is S2 4 rfl hx) hok hrm hs1 fun h3 e3 => ?_
      have S3 := S2.ext e3
      refine ite_b (fun c => hK _ _ ⟨by rw [c]; rfl, S3⟩) (fun c => ?_)
      refine rd_some (ld_ext e3 hw) ?_
      refine rhit_spec hn (ownP.rds (K := kRS) S3 5 rfl) (by omega) (fun x hx => sbagP.is S3 4 rfl hx) hok hrm hs2 fun h4 e4 => ?_
      exact hK _ _ ⟨by rw [c, Bool.false_or], S3.ext e4⟩
    · rintro _ h3 ⟨rfl, S3⟩
      have hw : ld kRS ⟨q, 0, none⟩ h3 = some (rrow RQ[j]) := varP.ld S3 (Fld.whole kRS) 0 rfl
      refine ite_b (fun c => ?_) (fun c => ?_)
      · refine rd_some hw (ownP.push (K := kRS) (by decide) S3 5 rfl (rrow RQ[j]) (by simp; omega) (by simp; omega) fun s' h4 S4 => ?_)
        refine next (out, s') h4 ⟨sh', RH', RL ++ [RQ[j]], told, by rw [List.map_append]; exact S4.tail, hs1, ?_, by simp; omega, by omega, ?_⟩
        · intro x hx
          rcases List.mem_append.1 hx with hx | hx
          · exact hs2 x hx
          · obtain rfl := List.mem_singleton.1 hx
            exact hrm
        · rw [thr_hit (c := rabs RQ[j]) c] at ht
          rw [List.map_append]; exact ht
      · have hv : ld kL ⟨b, 1, none⟩ h3 = some sh' := varP.ld S3 fr_has 1 rfl
        refine rd_some rfl (rd_some (by rw [add_mk]; exact hv) (rd_some hw (ownP.push (K := kRS) (by decide) S3 2 rfl (rrow RQ[j]) (by simp; omega) (by simp; omega) fun s' h4 S4 => ?_)))
        obtain ⟨h5, s5, S5, _⟩ := varP.st S4 fr_has 1 rfl s'
        refine rd_some rfl (rd_some (by rw [add_mk]; exact s5) ?_)
        have hv6 : ld (kI .i64) ⟨q, 0, none⟩ h5 = some (rrow RQ[j]).f0 := varP.ld S5 fs_task 0 rfl
        refine rd_some (by rw [add_mk]; exact hv6) (ownP.push (K := kI .i64) (by decide) S5 6 rfl (rrow RQ[j]).f0 (by omega) (by omega) fun o' h6 S6 => ?_)
        refine next (o', left) h6 ⟨s', RH' ++ [RQ[j]], RL, told ++ [(rrow RQ[j]).f0], by rw [List.map_append]; exact S6.tail, ?_, hs2, by simp; omega, by simp; omega, ?_⟩
        · intro x hx
          rcases List.mem_append.1 hx with hx | hx
          · exact hs1 x hx
          · obtain rfl := List.mem_singleton.1 hx
            exact hrm
        · rw [thr_go (c := rabs RQ[j]) c] at ht
          rw [List.map_append, ht]
          simp only [List.append_assoc]; rfl
  · obtain ⟨out, left⟩ := s
    obtain ⟨sh', RH', RL, told, S1, hs1, hs2, hl1, hl2, ht⟩ := hI
    unfold spateref11_Manager_through.b1
    have hq : ld kL ⟨b, 2, none⟩ h1 = some sq := varP.ld S1 fr_queue 0 rfl
    refine rd_some rfl (rd_some (by rw [add_mk]; exact hq) (ite_f (by rw [hql]; exact clt_f (Nat.lt_irrefl _)) (done _ _ ?_)))
    obtain ⟨h2, s2, S2, _⟩ := varP.st S1 fr_queue 0 rfl left
    refine rd_some rfl (rd_some (by rw [add_mk]; exact s2) ?_)
    rw [List.drop_length] at ht
    have hA : A.through = (told, { A with has := RH'.map rabs, queue := RL.map rabs }) := by
      unfold AM.through; rw [ht]; simp [thr]
    refine k _ h2 ?_
    rw [hA]
    have S3 : SG F0 h0 h2 [varP kRM b ⟨A.locks, sh', left⟩, ownP kRS sh' (RH'.map rrow), ownP kRS sq (RQ.map rrow), sbagP A.locks (RH ++ RQ), ownP kRS left (RL.map rrow), ownP (kI .i64) out told] := S2
    have S4 := (S3.front 2 rfl).tail
    have S5 := sbagP.sub S4 2 rfl (rs' := RH' ++ RL) fun r hr => (List.mem_append.1 hr).elim (hs1 r) (hs2 r)
    have S6 : SG F0 h0 h2 (refL b A.locks sh' left RH' RL ++ [ownP (kI .i64) out told]) := S5.perm ((List.Perm.refl _).cons _ |>.trans (List.Perm.cons _ (List.Perm.cons _ (List.Perm.swap _ _ _))))
    exact ref_close (A := { A with has := RH'.map rabs, queue := RL.map rabs }) rfl rfl S6
theorem rthrough_after (ok : A.Ok B) (hB : B ≤ 1000000000) {sh sq : Sl} {RH RQ RH' RQ' : List RR} {A' : AM} (ok' : A'.Ok B) (hl : A'.locks = A.locks) (e1 : RH'.map rabs = A'.has) (e2 : RQ'.map rabs = A'.queue) (hs : ∀ r ∈ RH' ++ RQ', r ∈ RH ++ RQ)
    (S : SG F0 h0 h [varP kRM b ⟨A.locks, sh, sq⟩, ownP kRS sh (RH'.map rrow), ownP kRS sq (RQ'.map rrow), sbagP A.locks (RH ++ RQ)]) {Q : Sl → H → Prop} (k : ∀ s h', SG F0 h0 h' [refP b A'.through.2, ownP (kI .i64) s A'.through.1] → Q s h') : spateref11_Manager_through (some ⟨b, 0, none⟩) h Q := by
  refine rthrough_spec ok' hB (h := h) (b := b) ?_ k
  refine ref_close (Rs := []) (sh := sh) (sq := sq) e1 e2 ?_
  rw [hl]
  exact sbagP.sub S 3 rfl hs
theorem rfree_spec (ok : A.Ok B) (hB : B ≤ 1000000000) (t : Int) :
    Does h [refP b A] (fun Q => spateref11_Manager_Free (some ⟨b, 0, none⟩) t h Q) (fun s : Sl => (s, (A.free t).1.2)) (fun s => [refP b (A.free t).2, ownP (kI .i64) s (A.free t).1.1]) := by
  intro F0 h0 Q S k
  show spateref11_Manager_Free _ _ _ _
  obtain ⟨sh, sq, RH, RQ, e1, e2, S⟩ := ref_open S
  have hlen := rrows_len ok e1 e2
  have hb := ok.b
  unfold spateref11_Manager_Free
  refine rd_some rfl (rd_some (by rw [add_mk]; exact varP.ld S fr_has 0 rfl) ?_)
  refine rfind_has ok hB (i := 1) rfl e1 (by omega) S t ?_
  cases hf : findC A.has t with
  | none =>
    have hA : A.free t = (([], 42), A) := by unfold AM.free; rw [hf]
    rw [hA] at k
    exact ite_t rfl (k Sl.nil h ((ref_close e1 e2 S).made (Ext.refl _) (Own.nil (kI .i64) h _)).swap)
  | some i =>
    have hi := findC_lt hf
    have hA : A.free t = (({ A with has := A.has.eraseIdx i }.through.1, 0), { A with has := A.has.eraseIdx i }.through.2) := by unfold AM.free; rw [hf]
    rw [hA] at k
    have hrl : RH.length = A.has.length := by rw [← e1]; simp
    refine ite_f (by show decide ((i : Int) < 0) = false; rw [decide_eq_false_iff_not]; omega) ?_
    refine rd_some rfl (rd_some (by rw [add_mk]; exact varP.ld S fr_has 0 rfl) ?_)
    refine rwithout_spec S (ownP.rds (K := kRS) S 1 rfl) (i := i) (by rw [List.length_map]; omega) (by rw [List.length_map]; omega) fun s' h2 S2 => ?_
    obtain ⟨h3, s3, S3, _⟩ := varP.st S2 fr_has 1 rfl s'
    refine rd_some rfl (rd_some (by rw [add_mk]; exact s3) ?_)
    refine rthrough_after (F0 := F0) (h0 := h0) ok hB (ok.eraseH i) rfl (RH := RH) (RQ := RQ) (RH' := RH.eraseIdx i) (RQ' := RQ) (sh := s') (sq := sq) (by rw [← e1]; exact (map_erase rabs _ _).symm) e2 (fun r hr => ?_) ?_ fun s h4 S4 => k s h4 S4
    · rcases List.mem_append.1 hr with hr | hr
      · exact List.mem_append_left _ (List.mem_of_mem_eraseIdx hr)
      · exact List.mem_append_right _ hr
    · have S4 : SG F0 h0 h3 [varP kRM b ⟨A.locks, s', sq⟩, ownP kRS s' ((RH.map rrow).eraseIdx i), ownP kRS sq (RQ.map rrow), sbagP A.locks (RH ++ RQ)] := SG.replace S3 1 (by show 1 < 4; omega)
      rw [map_erase] at S4; exact S4
end
end Go.Proofs.Ytgmihbchcmjmdaa
