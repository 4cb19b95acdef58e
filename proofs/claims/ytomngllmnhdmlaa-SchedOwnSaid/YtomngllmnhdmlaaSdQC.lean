/- Plays whose lists lie apart; the lists of the moves made, written over. -/
import Derived.Test.YtomngllmnhdmlaaSdGC
import Derived.Test.YtomngllmnhdmlaaF23C
namespace Go.Proofs.Ytomngllmnhdmlaa
open Go Go.Tr
set_option linter.unusedVariables false
def rowP (r : MR) : HP := HP.all [ownP kLk r.v.f1 r.l, ownP (kI .i64) r.v.f3 r.w]
def playP (p : PLY) : HP := HP.all (ownP kMv p.sl (p.rows.map (·.v)) :: p.rows.map rowP)
def playsP (L : List PLY) : HP := HP.all (L.map playP)
theorem plays_bump (L : List PLY) (n : Nat) : playsP (bump L n) = playsP L := by
  unfold playsP
  congr 1
  apply List.ext_getElem?
  intro i
  rw [List.getElem?_map, List.getElem?_map, bump_at]
  split
  · cases L[i]? <;> rfl
  · rfl
theorem plays_fold : ∀ (l : List Int) (w : WS × Nat), playsP (l.foldl rstep w).1.2 = playsP w.1.2
  | [], w => rfl
  | t :: l, w => by
    rw [List.foldl_cons, plays_fold l]
    unfold rstep
    split
    · exact plays_bump _ _
    · rfl
theorem plays_ok {L : List PLY} (h : ∀ p ∈ L, rowsOk p.rows) : Xok (playsP L) L := fun g F pp p hp => by
  have Sx : SG F g g (L.map playP) := ⟨F, pp, Frm.refl _ _⟩
  obtain ⟨i, hi⟩ := List.getElem?_of_mem (List.mem_map_of_mem (f := playP) hp)
  obtain ⟨F3, pp2, _⟩ := Sx.at i hi
  have Sy : SG F3 g g (ownP kMv p.sl (p.rows.map (·.v)) :: p.rows.map rowP) := ⟨F3, pp2, Frm.refl _ _⟩
  have hz : ∀ r ∈ p.rows, ∃ F4, SG F4 g g [ownP kLk r.v.f1 r.l, ownP (kI .i64) r.v.f3 r.w] := fun r hr => by
    obtain ⟨j, hj⟩ := List.getElem?_of_mem (List.mem_map_of_mem (f := rowP) hr)
    obtain ⟨F4, p3, _⟩ := Sy.at (j + 1) (by rw [List.getElem?_cons_succ]; exact hj)
    exact ⟨F4, F4, p3, Frm.refl _ _⟩
  have hb := h p hp
  exact ⟨ownP.rds Sy 0 rfl, fun r hr => by obtain ⟨F4, Sz⟩ := hz r hr; exact ownP.rds Sz 0 rfl, fun r hr => by obtain ⟨F4, Sz⟩ := hz r hr; exact ownP.rds Sz 1 rfl, hb.1, hb.2⟩
section
variable {F0 : Nat → Prop} {h0 h : H} {Ps Rs : List HP}
theorem rowsP_nil (S : SG F0 h0 h Ps) : SG F0 h0 h (HP.all ([].map rowP) :: Ps) := SG.fold [] S
theorem rowsP_add {r : MR} {rows : List MR} (S : SG F0 h0 h (ownP kLk r.v.f1 r.l :: ownP (kI .i64) r.v.f3 r.w :: HP.all (rows.map rowP) :: Rs)) : SG F0 h0 h (HP.all ((rows ++ [r]).map rowP) :: Rs) := by
  have S1 : SG F0 h0 h (rowP r :: HP.all (rows.map rowP) :: Rs) := SG.fold [ownP kLk r.v.f1 r.l, ownP (kI .i64) r.v.f3 r.w] S
  have S2 := S1.swap.flat
  have e : rows.map rowP ++ (rowP r :: Rs) = (rows ++ [r]).map rowP ++ Rs := by simp
  rw [e] at S2
  exact SG.fold _ S2
end
section
variable {h0 h : H} {Ps : List HP}
/-- Moves apart. -/
theorem twq_spec {src : Sl} {rows0 : List MR} (M : MvRd h0 src rows0) (hn : rows0.length ≤ 2199023255552) (hm : ∀ r ∈ rows0, r.l.length ≤ 8796093022080 ∧ r.w.length ≤ 17592186044160) (S : SS h0 h Ps) {Q : Sl → H → Prop}
    (k : ∀ (s : Sl) (rows : List MR) h', rows.map MR.mv = rows0.map MR.mv → SS h0 h' (ownP kMv s (rows.map (·.v)) :: HP.all (rows.map rowP) :: Ps) → Q s h') : spatelaw12_twin src h Q := by
  unfold spatelaw12_twin
  have hlen := M.r.len
  rw [List.length_map] at hlen
  refine jn_i (for0 (mk := fun (s : Sl) i => (s, i)) (s := Sl.nil) (n := rows0.length) (by omega) (fun j s h' => ∃ rows : List MR, rows.map MR.mv = (rows0.take j).map MR.mv ∧ SS h0 h' (ownP kMv s (rows.map (·.v)) :: HP.all (rows.map rowP) :: Ps)) ⟨[], rfl, (rowsP_nil S).made (Ext.refl h) (Own.nil kMv h _)⟩ (fun j s h1 K hj hI next done => ?_) (fun s h1 K hI done => ?_))
  · obtain ⟨rows, er, S1⟩ := hI
    have hrl : rows.length = j := by
      have := congrArg List.length er
      simp at this; omega
    have hj' : j < (rows0.map (·.v)).length := by rw [List.length_map]; exact hj
    have hr := List.getElem_mem hj
    have hb := hm _ hr
    unfold spatelaw12_twin.b1
    refine ite_t (by rw [hlen]; exact clt_t hj) ((M.r.ext (SS.e S1)).elt0 hj' rfl ?_)
    rw [List.getElem_map]
    refine S1.cell (K := kMv) (x := rows0[j].v) fun q2 h2 S2 _ => ?_
    -- its locks
    refine bs_own (K := kLk) [] rfl rfl fun x2 h3 o3 hl3 e3 z3 => ?_
    have S3 := S2.made e3 (o3.mono fun b hb => by omega)
    refine rd_some (by rw [add_mk]; exact varP.ld S3 fv_l 1 rfl) ?_
    refine ownP.app (K := kLk) (by decide) S3 0 rfl ((M.l _ hr).ext (SS.e S3)) (by simp; omega) (by simp; omega) fun x4 h4 S4 => ?_
    have S4 : SS h0 h4 (ownP kLk x4 ([] ++ rows0[j].l) :: varP kMv q2 rows0[j].v :: ownP kMv s (rows.map (·.v)) :: HP.all (rows.map rowP) :: Ps) := S4
    rw [List.nil_append] at S4
    obtain ⟨h5, hs5, S5, _⟩ := varP.st S4 fv_l 1 rfl x4
    have S5 : SS h0 h5 (ownP kLk x4 rows0[j].l :: varP kMv q2 { rows0[j].v with f1 := x4 } :: ownP kMv s (rows.map (·.v)) :: HP.all (rows.map rowP) :: Ps) := S5
    refine rd_some (by rw [add_mk]; exact hs5) ?_
    -- whom it wakes
    refine bs_own (K := kI .i64) [] rfl rfl fun x5 h6 o6 hl6 e6 z6 => ?_
    have S6 := S5.made e6 (o6.mono fun b hb => by omega)
    have hld6 : ld kL ⟨q2, 3, none⟩ h6 = some ({ rows0[j].v with f1 := x4 } : Mv).f3 := varP.ld S6 fv_w 2 rfl
    have hld6 : ld kL ⟨q2, 3, none⟩ h6 = some rows0[j].v.f3 := hld6
    refine rd_some (by rw [add_mk]; exact hld6) ?_
    refine ownP.app (K := kI .i64) (by decide) S6 0 rfl ((M.w _ hr).ext (SS.e S6)) (by simp; omega) (by simp; omega) fun x7 h7 S7 => ?_
    have S7 : SS h0 h7 (ownP (kI .i64) x7 ([] ++ rows0[j].w) :: ownP kLk x4 rows0[j].l :: varP kMv q2 { rows0[j].v with f1 := x4 } :: ownP kMv s (rows.map (·.v)) :: HP.all (rows.map rowP) :: Ps) := S7
    rw [List.nil_append] at S7
    obtain ⟨h8, hs8, S8, _⟩ := varP.st S7 fv_w 2 rfl x7
    have hld8 : ld kMv ⟨q2, 0, none⟩ h8 = some { rows0[j].v with f1 := x4, f3 := x7 } := varP.ld S8 (Fld.whole kMv) 2 rfl
    refine rd_some (by rw [add_mk]; exact hs8) (rd_some hld8 ?_)
    refine ownP.pushW (K := kMv) (by decide) S8 3 rfl { rows0[j].v with f1 := x4, f3 := x7 } (by simp; omega) (by simp; omega) fun s' h9 S9 => next s' h9 ⟨rows ++ [⟨{ rows0[j].v with f1 := x4, f3 := x7 }, rows0[j].l, rows0[j].w⟩], ?_, ?_⟩
    · rw [List.map_append, er, List.take_add_one, List.getElem?_eq_getElem hj, Option.toList_some, List.map_append]; rfl
    · have S9 : SS h0 h9 (ownP (kI .i64) x7 rows0[j].w :: ownP kLk x4 rows0[j].l :: varP kMv q2 { rows0[j].v with f1 := x4, f3 := x7 } :: ownP kMv s' (rows.map (·.v) ++ [{ rows0[j].v with f1 := x4, f3 := x7 }]) :: HP.all (rows.map rowP) :: Ps) := S9
      have T1 : SS h0 h9 (ownP kLk x4 rows0[j].l :: ownP (kI .i64) x7 rows0[j].w :: HP.all (rows.map rowP) :: ownP kMv s' (rows.map (·.v) ++ [{ rows0[j].v with f1 := x4, f3 := x7 }]) :: Ps) := (((((S9.front 2 rfl).tail).front 3 rfl).front 2 rfl).front 2 rfl).swap
      have T2 := rowsP_add (r := ⟨{ rows0[j].v with f1 := x4, f3 := x7 }, rows0[j].l, rows0[j].w⟩) T1
      rw [List.map_append]
      exact T2.swap
  · obtain ⟨rows, er, S1⟩ := hI
    unfold spatelaw12_twin.b1
    rw [List.take_length] at er
    exact ite_f (by rw [hlen]; exact clt_f (Nat.lt_irrefl _)) (done _ _ (k s rows h1 er S1))
end
def rqL (q : Nat) (W : WS) (Rs : List HP) : List HP := schP q W.1 (W.2.map (·.b)) :: (cells W.2 ++ (playsP W.2 :: Rs))
def rqP (q : Nat) (W : WS) : HP := HP.and (rOk W) (HP.all (schP q W.1 (W.2.map (·.b)) :: (cells W.2 ++ [playsP W.2])))
section
variable {F0 : Nat → Prop} {h0 h : H} {q : Nat} {W : WS} {B N : Nat} {Rs Ps : List HP}
theorem rq_un (S : SG F0 h0 h (rqP q W :: Rs)) : rOk W ∧ SG F0 h0 h (rqL q W Rs) := by
  obtain ⟨r, S⟩ := S.unand
  have S := S.flat
  refine ⟨r, ?_⟩
  unfold rqL
  have e : (schP q W.1 (W.2.map (·.b)) :: (cells W.2 ++ [playsP W.2])) ++ Rs = schP q W.1 (W.2.map (·.b)) :: (cells W.2 ++ (playsP W.2 :: Rs)) := by simp
  rw [e] at S; exact S
theorem rq_re (r : rOk W) (S : SG F0 h0 h (rqL q W Rs)) : SG F0 h0 h (rqP q W :: Rs) := by
  unfold rqL at S
  have e : (schP q W.1 (W.2.map (·.b)) :: (cells W.2 ++ [playsP W.2])) ++ Rs = schP q W.1 (W.2.map (·.b)) :: (cells W.2 ++ (playsP W.2 :: Rs)) := by simp
  rw [← e] at S
  exact SG.toand r (SG.fold _ S)
theorem rq_pick (o : W.Ok B N) (hB : B ≤ 80000000) (hN : N ≤ 1000000000000) (n : Int) (S : SG F0 h0 h (rqP q W :: Rs)) {Q : (Int × Bool) → H → Prop}
    (k0 : readyT W.1.ts = [] → ∀ h', SG F0 h0 h' (rqP q W :: Rs) → Q (0, false) h')
    (k1 : ∀ t : Nat, t < W.2.length → (readyT W.1.ts)[pickI n (readyT W.1.ts).length]? = some (t : Int) → ∀ h', SG F0 h0 h' (rqP q (W.step t) :: Rs) → Q ((t : Int), true) h') :
    sched_Sched_Pick (some ⟨q, 0, none⟩) n h Q := by
  obtain ⟨r, S⟩ := rq_un S
  obtain ⟨A, L⟩ := W
  refine Pick_spec (X := playsP L) o hB hN (plays_ok r) n S (fun hz h' S' => k0 hz h' (rq_re r S')) fun t ht hr h' S' => k1 t ht hr h' (rq_re (rOk_step r t) ?_)
  unfold rqL
  have e : playsP (WS.step (A, L) t).2 = playsP L := plays_bump L t
  rw [e]; exact S'
theorem rq_round (o : W.Ok B N) (hB : B ≤ 79000000) (hN : N ≤ 900000000000) (S : SG F0 h0 h (rqP q W :: Rs)) {Q : Int → H → Prop}
    (k : ∀ h', SG F0 h0 h' (rqP q (roundW W).1 :: Rs) → Q ((roundW W).2 : Nat) h') : sched_Sched_Round (some ⟨q, 0, none⟩) h Q := by
  obtain ⟨r, S⟩ := rq_un S
  obtain ⟨A, L⟩ := W
  refine Round_spec (X := playsP L) o hB hN (plays_ok r) S fun h' _ S' => k h' (rq_re (rOk_fold _ _ r) ?_)
  unfold rqL
  have e : playsP (roundW (A, L)).1.2 = playsP L := plays_fold _ _
  rw [e]; exact S'
theorem rq_wake (o : W.Ok B N) (on : Int) (S : SG F0 h0 h (rqP q W :: Rs)) {Q : Int → H → Prop} (k : ∀ h', SG F0 h0 h' (rqP q (W.wake on) :: Rs) → Q (wakeN W.1.ts on : Nat) h') : sched_Sched_Wake (some ⟨q, 0, none⟩) on h Q := by
  obtain ⟨r, S⟩ := rq_un S
  exact Wake_spec o.a on S fun h' S' => k h' (rq_re (W := W.wake on) r S')
theorem rq_ready (o : W.Ok B N) (S : SG F0 h0 h (rqP q W :: Rs)) {Q : Sl → H → Prop} (k : ∀ s h', SG F0 h0 h' (ownP (kI .i64) s (readyT W.1.ts) :: rqP q W :: Rs) → Q s h') : sched_Sched_Ready (some ⟨q, 0, none⟩) h Q := by
  obtain ⟨r, S⟩ := rq_un S
  refine Ready_spec o.a S fun s h' S' => k s h' ?_
  have S' : SG F0 h0 h' (rqL q W (ownP (kI .i64) s (readyT W.1.ts) :: Rs)) := by
    unfold rqL
    refine S'.perm ?_
    have p1 : (ownP (kI .i64) s (readyT W.1.ts) :: (cells W.2 ++ (playsP W.2 :: Rs))).Perm (cells W.2 ++ (playsP W.2 :: ownP (kI .i64) s (readyT W.1.ts) :: Rs)) := List.perm_middle.symm.trans (List.Perm.append_left _ (List.Perm.swap _ _ _))
    exact (List.Perm.swap _ _ _).trans (p1.cons _)
  exact (rq_re r S').swap
theorem rq_state (o : W.Ok B N) (t : Int) (S : SG F0 h0 h (rqP q W :: Rs)) {Q : Int → H → Prop} (k : ∀ h', SG F0 h0 h' (rqP q W :: Rs) → Q (stAt W.1.ts t) h') : sched_Sched_State (some ⟨q, 0, none⟩) t h Q := by
  obtain ⟨r, S⟩ := rq_un S
  exact State_spec o.a t S fun h' S' => k h' (rq_re r S')
/-- A play added. -/
theorem rq_add (o : W.Ok B N) (hl : W.1.ts.length < 400) {b : Nat} {s : Sl} {rows : List MR} (hr : rowsOk rows) (S : SG F0 h0 h (varP kPl b ⟨s, 0⟩ :: ownP kMv s (rows.map (·.v)) :: HP.all (rows.map rowP) :: rqP q W :: Rs)) {Q : Int → H → Prop}
    (k : ∀ h', SG F0 h0 h' (rqP q (W.add ⟨b, s, 0, rows⟩) :: Rs) → Q (W.1.ts.length : Nat) h') : sched_Sched_Add (some ⟨q, 0, none⟩) (some (tPlay, .pointer (some ⟨b, 0, none⟩))) h Q := by
  obtain ⟨r, S1⟩ := rq_un (S.front 3 rfl)
  refine Add_spec o.a hl (b := b) S1 fun h' S2 => k h' (rq_re (rOk_add r hr) ?_)
  have S2 : SG F0 h0 h' (schP q W.1.add (W.2.map (·.b) ++ [b]) :: (cells W.2 ++ (playsP W.2 :: varP kPl b ⟨s, 0⟩ :: ownP kMv s (rows.map (·.v)) :: HP.all (rows.map rowP) :: Rs))) := S2
  have S3 : SG F0 h0 h' (HP.all (rows.map rowP) :: ownP kMv s (rows.map (·.v)) :: playsP W.2 :: varP kPl b ⟨s, 0⟩ :: schP q W.1.add (W.2.map (·.b) ++ [b]) :: (cells W.2 ++ Rs)) := by
    refine S2.perm ?_
    have p1 : (cells W.2 ++ (playsP W.2 :: varP kPl b ⟨s, 0⟩ :: ownP kMv s (rows.map (·.v)) :: HP.all (rows.map rowP) :: Rs)).Perm (playsP W.2 :: varP kPl b ⟨s, 0⟩ :: ownP kMv s (rows.map (·.v)) :: HP.all (rows.map rowP) :: (cells W.2 ++ Rs)) :=
      (List.perm_append_comm_assoc (cells W.2) [playsP W.2, varP kPl b ⟨s, 0⟩, ownP kMv s (rows.map fun r : MR => r.v), HP.all (rows.map rowP)] Rs)
    refine (p1.cons _).trans ?_
    have p2 : (schP q W.1.add (W.2.map (·.b) ++ [b]) :: [playsP W.2, varP kPl b ⟨s, 0⟩, ownP kMv s (rows.map (·.v)), HP.all (rows.map rowP)]).Perm [HP.all (rows.map rowP), ownP kMv s (rows.map (·.v)), playsP W.2, varP kPl b ⟨s, 0⟩, schP q W.1.add (W.2.map (·.b) ++ [b])] := by
      generalize schP q W.1.add (W.2.map (·.b) ++ [b]) = a
      generalize playsP W.2 = c
      generalize varP kPl b ⟨s, 0⟩ = d
      generalize ownP kMv s (rows.map (·.v)) = e
      generalize HP.all (rows.map rowP) = f
      have q1 : [a, c, d, e, f].Perm ([e, f] ++ [a, c, d]) := List.perm_append_comm (l₁ := [a, c, d])
      have q2 : [a, c, d].Perm ([c, d] ++ [a]) := List.perm_append_comm (l₁ := [a])
      exact (q1.trans (List.Perm.append_left [e, f] q2)).trans (List.Perm.swap _ _ _)
    exact p2.append_right (cells W.2 ++ Rs)
  have S5 : SG F0 h0 h' (playP ⟨b, s, 0, rows⟩ :: playsP W.2 :: varP kPl b ⟨s, 0⟩ :: schP q W.1.add (W.2.map (·.b) ++ [b]) :: (cells W.2 ++ Rs)) := by
    refine SG.fold (ownP kMv s (rows.map (·.v)) :: rows.map rowP) ?_
    exact S3.flat.perm List.perm_middle
  have S6 : SG F0 h0 h' (playsP (W.2 ++ [⟨b, s, 0, rows⟩]) :: varP kPl b ⟨s, 0⟩ :: schP q W.1.add (W.2.map (·.b) ++ [b]) :: (cells W.2 ++ Rs)) := by
    have T := S5.swap.flat
    have e : W.2.map playP ++ (playP ⟨b, s, 0, rows⟩ :: varP kPl b ⟨s, 0⟩ :: schP q W.1.add (W.2.map (·.b) ++ [b]) :: (cells W.2 ++ Rs)) = (W.2 ++ [(⟨b, s, 0, rows⟩ : PLY)]).map playP ++ (varP kPl b ⟨s, 0⟩ :: schP q W.1.add (W.2.map (·.b) ++ [b]) :: (cells W.2 ++ Rs)) := by simp
    rw [e] at T
    exact SG.fold _ T
  unfold rqL
  have e1 : (W.add ⟨b, s, 0, rows⟩).2.map (·.b) = W.2.map (·.b) ++ [b] := by unfold WS.add; rw [List.map_append]; rfl
  have e2 : cells (W.add ⟨b, s, 0, rows⟩).2 = cells W.2 ++ [varP kPl b ⟨s, 0⟩] := by unfold WS.add; rw [cells_append]; rfl
  have e3 : (W.add ⟨b, s, 0, rows⟩).2 = W.2 ++ [⟨b, s, 0, rows⟩] := rfl
  rw [e1, e2, e3]
  refine S6.perm ?_
  generalize playsP (W.2 ++ [⟨b, s, 0, rows⟩]) = m
  generalize varP kPl b ⟨s, 0⟩ = v
  have p1 : (m :: v :: schP q W.1.add (W.2.map (·.b) ++ [b]) :: (cells W.2 ++ Rs)).Perm (schP q W.1.add (W.2.map (·.b) ++ [b]) :: ([v, m] ++ (cells W.2 ++ Rs))) := by
    have q1 : (m :: v :: [schP q W.1.add (W.2.map (·.b) ++ [b])]).Perm (schP q W.1.add (W.2.map (·.b) ++ [b]) :: [v, m]) := by
      generalize schP q W.1.add (W.2.map (·.b) ++ [b]) = a
      exact (List.perm_append_comm (l₁ := [m, v]) (l₂ := [a])).trans ((List.Perm.swap v m []).cons a)
    exact q1.append_right (cells W.2 ++ Rs)
  refine p1.trans (List.Perm.cons _ ?_)
  have p2 := List.perm_append_comm_assoc [v, m] (cells W.2) Rs
  rw [List.append_assoc]
  exact p2
theorem rq_new {n : Int} (S : SG F0 h0 h Rs) {Q : Option Addr × Int → H → Prop} (bad : n < 1 ∨ n > 1024 → Q (none, 1) h) (good : 1 ≤ n → n ≤ 1024 → ∀ q h', SG F0 h0 h' (rqP q (AS.new n.toNat, []) :: Rs) → Q (some ⟨q, 0, none⟩, 0) h') : sched_New n h Q := by
  refine New_spec S bad fun g1 g2 q h' S' => good g1 g2 q h' (rq_re (fun p hp => absurd hp (by simp)) ?_)
  have T : SG F0 h0 h' (playsP [] :: schP q (AS.new n.toNat) [] :: Rs) := SG.fold [] S'
  exact T.swap
theorem dq_spec (o : W.Ok B N) (hB : B ≤ 79000000) (hN : N ≤ 900000000000) (x : Act) (S : SG F0 h0 h (rqP q W :: Rs)) {Q : Unit → H → Prop} (k : ∀ h', SG F0 h0 h' (rqP q (W.act x) :: Rs) → Q () h') : spatelaw12_do (some ⟨q, 0, none⟩) x h Q := by
  unfold spatelaw12_do
  refine S.var (K := kAct) fun b h1 S1 _ => ?_
  have hk : ld (kI .i64) ⟨b, 0, none⟩ h1 = some x.f0 := varP.ld S1 fa_k 0 rfl
  have hn : ld (kI .i64) ⟨b, 1, none⟩ h1 = some x.f1 := varP.ld S1 fa_n 0 rfl
  have S2 := S1.tail
  refine rd_some (by rw [add_mk]; exact hk) (ite_b (fun c => rd_some (by rw [add_mk]; exact hn) ?_) (fun c => ite_b (fun c2 => ?_) (fun c2 => ite_b (fun c3 => rd_some (by rw [add_mk]; exact hn) ?_) (fun c3 => ?_))))
  · have c : x.f0 = 1 := by simpa using c
    unfold WS.act at k
    rw [if_pos c] at k
    refine rq_pick o (by omega) (by omega) x.f1 S2 (fun hz h' S' => ?_) fun t ht hr h' S' => ?_
    · rw [pick_none hz] at k; exact k h' S'
    · rw [hr] at k; exact k h' S'
  · have c : ¬ x.f0 = 1 := by simpa using c
    have c2 : x.f0 = 2 := by simpa using c2
    unfold WS.act at k
    rw [if_neg c, if_pos c2] at k
    exact rq_round o hB hN S2 fun h' S' => k h' S'
  · have c : ¬ x.f0 = 1 := by simpa using c
    have c2 : ¬ x.f0 = 2 := by simpa using c2
    have c3 : x.f0 = 3 := by simpa using c3
    unfold WS.act at k
    rw [if_neg c, if_neg c2, if_pos c3] at k
    exact rq_wake o x.f1 S2 fun h' S' => k h' S'
  · have c : ¬ x.f0 = 1 := by simpa using c
    have c2 : ¬ x.f0 = 2 := by simpa using c2
    have c3 : ¬ x.f0 = 3 := by simpa using c3
    unfold WS.act at k
    rw [if_neg c, if_neg c2, if_neg c3] at k
    exact k h1 S2
end
end Go.Proofs.Ytomngllmnhdmlaa
