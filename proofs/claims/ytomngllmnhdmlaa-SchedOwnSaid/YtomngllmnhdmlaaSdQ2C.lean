/- The lists of the moves made, written over: nobody asks for them again. -/
import Derived.Test.YtomngllmnhdmlaaSdQC
namespace Go.Proofs.Ytomngllmnhdmlaa
open Go Go.Tr
set_option linter.unusedVariables false
section
variable {F0 : Nat → Prop} {h0 h : H} {b : Nat} {sl : Sl} {nx : Int} {vs : List Mv} {G : List HP} {m j i : Nat}
theorem spoil_l {l : List Lk} {P2 : HP} (hi : i < vs.length) (hm : G[m]? = some (ownP kMv sl vs)) (hj : G[j]? = some (varP kPl b ⟨sl, nx⟩)) (hl : l.length < 4611686018427387904)
    (S : SG F0 h0 h (ownP kLk vs[i].f1 l :: P2 :: G)) {Q : Unit → H → Prop} (k : ∀ l' h', l'.length = l.length → SG F0 h0 h' (ownP kLk vs[i].f1 l' :: P2 :: G) → Q () h') : loopE (spatelaw12_spoilt.b3 (some ⟨b, 0, none⟩) (i : Int)) 0 h Q := by
  have one : ∀ (l' : List Lk) (h1 : H), SG F0 h0 h1 (ownP kLk vs[i].f1 l' :: P2 :: G) → ∀ {T : Sl → Prop}, T vs[i].f1 → rd (some (⟨b, 0, none⟩ : Addr)) fun q6 => rd (ld kL (q6.add 0) h1) fun x5 => rd (ixA 4 x5 (i : Int)) fun q7 => rd (ld kL (q7.add 1) h1) T := fun l' h1 S1 T t =>
    rd_some rfl (rd_some (by rw [add_mk]; exact varP.ld S1 fp_ms (j + 2) hj) ((ownP.rds (K := kMv) S1 (m + 2) hm).elt fv_l hi rfl t))
  refine for0 (mk := fun (_ : Unit) i => i) (s := ()) (n := l.length) hl (fun n _ h' => ∃ l' : List Lk, l'.length = l.length ∧ SG F0 h0 h' (ownP kLk vs[i].f1 l' :: P2 :: G)) ⟨l, rfl, S⟩ (fun n _ h1 K hn hI next done => ?_) (fun _ h1 K hI done => ?_)
  · obtain ⟨l', hl', S1⟩ := hI
    have hlen := ownP.len (K := kLk) S1 0 rfl
    unfold spatelaw12_spoilt.b3
    refine one l' h1 S1 (ite_t (by rw [hlen]; exact clt_t (by omega)) (one l' h1 S1 ?_))
    obtain ⟨a, h2, ha, hs, S2⟩ := ownP.set (K := kLk) S1 0 rfl (j := n) (by omega) ⟨-3, false⟩ (n := 2) rfl
    exact rd_some ha (rd_some hs (next () h2 ⟨_, by simpa using hl', S2⟩))
  · obtain ⟨l', hl', S1⟩ := hI
    have hlen := ownP.len (K := kLk) S1 0 rfl
    unfold spatelaw12_spoilt.b3
    exact one l' h1 S1 (ite_f (by rw [hlen]; exact clt_f (by omega)) (done _ _ (k l' h1 hl' S1)))
theorem spoil_w {l : List Int} {P1 : HP} (hi : i < vs.length) (hm : G[m]? = some (ownP kMv sl vs)) (hj : G[j]? = some (varP kPl b ⟨sl, nx⟩)) (hl : l.length < 4611686018427387904)
    (S : SG F0 h0 h (P1 :: ownP (kI .i64) vs[i].f3 l :: G)) {Q : Unit → H → Prop} (k : ∀ l' h', l'.length = l.length → SG F0 h0 h' (P1 :: ownP (kI .i64) vs[i].f3 l' :: G) → Q () h') : loopE (spatelaw12_spoilt.b2 (some ⟨b, 0, none⟩) (i : Int)) 0 h Q := by
  have one : ∀ (l' : List Int) (h1 : H), SG F0 h0 h1 (P1 :: ownP (kI .i64) vs[i].f3 l' :: G) → ∀ {T : Sl → Prop}, T vs[i].f3 → rd (some (⟨b, 0, none⟩ : Addr)) fun q6 => rd (ld kL (q6.add 0) h1) fun x5 => rd (ixA 4 x5 (i : Int)) fun q7 => rd (ld kL (q7.add 3) h1) T := fun l' h1 S1 T t =>
    rd_some rfl (rd_some (by rw [add_mk]; exact varP.ld S1 fp_ms (j + 2) hj) ((ownP.rds (K := kMv) S1 (m + 2) hm).elt fv_w hi rfl t))
  refine for0 (mk := fun (_ : Unit) i => i) (s := ()) (n := l.length) hl (fun n _ h' => ∃ l' : List Int, l'.length = l.length ∧ SG F0 h0 h' (P1 :: ownP (kI .i64) vs[i].f3 l' :: G)) ⟨l, rfl, S⟩ (fun n _ h1 K hn hI next done => ?_) (fun _ h1 K hI done => ?_)
  · obtain ⟨l', hl', S1⟩ := hI
    have hlen := ownP.len (K := kI .i64) S1 1 rfl
    unfold spatelaw12_spoilt.b2
    refine one l' h1 S1 (ite_t (by rw [hlen]; exact clt_t (by omega)) (one l' h1 S1 ?_))
    obtain ⟨a, h2, ha, hs, S2⟩ := ownP.set (K := kI .i64) S1 1 rfl (j := n) (by omega) (-3) (n := 1) rfl
    exact rd_some ha (rd_some hs (next () h2 ⟨_, by simpa using hl', S2⟩))
  · obtain ⟨l', hl', S1⟩ := hI
    have hlen := ownP.len (K := kI .i64) S1 1 rfl
    unfold spatelaw12_spoilt.b2
    exact one l' h1 S1 (ite_f (by rw [hlen]; exact clt_f (by omega)) (done _ _ (k l' h1 hl' S1)))
end
/-- Rows whose first nx may have been written over. -/
structure Spt (nx : Nat) (rows rows' : List MR) : Prop where
  v : rows'.map (·.v) = rows.map (·.v)
  r : ∀ k, nx ≤ k → rows'[k]? = rows[k]?
  o : rowsOk rows → rowsOk rows'
theorem Spt.len {nx : Nat} {rows rows' : List MR} (s : Spt nx rows rows') : rows'.length = rows.length := by have := congrArg List.length s.v; simpa using this
section
variable {F0 : Nat → Prop} {h0 h : H} {q : Nat} {W : WS} {B N : Nat} {Rs Ps : List HP}
/-- One play's rows, gone through. -/
theorem spoil_rows {p : PLY} {E : List HP} {j : Nat} (hj : E[j]? = some (varP kPl p.b ⟨p.sl, (p.nx : Int)⟩)) (hn : p.nx < 4611686018427387904) (ho : rowsOk p.rows)
    (S : SG F0 h0 h (ownP kMv p.sl (p.rows.map (·.v)) :: (p.rows.map rowP ++ E))) {Q : Unit → H → Prop}
    (k : ∀ rows' h', Spt p.nx p.rows rows' → SG F0 h0 h' (ownP kMv p.sl (rows'.map (·.v)) :: (rows'.map rowP ++ E)) → Q () h') : spatelaw12_spoilt (some ⟨p.b, 0, none⟩) h Q := by
  unfold spatelaw12_spoilt
  obtain ⟨vs, hvs⟩ : ∃ vs : List Mv, vs = p.rows.map (·.v) := ⟨_, rfl⟩
  have hvl : vs.length = p.rows.length := by rw [hvs]; simp
  have hsl := ownP.len (K := kMv) S 0 rfl
  rw [List.length_map] at hsl
  have hro := ho.1
  refine for0 (mk := fun (_ : Unit) i => i) (s := ()) (n := min p.nx p.rows.length) (by omega) (fun i _ h' => ∃ rows' : List MR, Spt p.nx p.rows rows' ∧ SG F0 h0 h' (ownP kMv p.sl vs :: (rows'.map rowP ++ E))) ⟨p.rows, ⟨rfl, fun _ _ => rfl, id⟩, by rw [hvs]; exact S⟩ (fun i _ h1 K hi hI next done => ?_) (fun _ h1 K hI done => ?_)
  · obtain ⟨rows', sp, S1⟩ := hI
    have hl' := sp.len
    have hir : i < rows'.length := by omega
    have hjE : (ownP kMv p.sl vs :: (rows'.map rowP ++ E))[1 + (rows'.length + j)]? = some (varP kPl p.b ⟨p.sl, (p.nx : Int)⟩) := by
      rw [Nat.add_comm, List.getElem?_cons_succ, List.getElem?_append_right (by simp), List.length_map, Nat.add_sub_cancel_left]; exact hj
    unfold spatelaw12_spoilt.b1
    refine jn_c' true h1 (fun K2 hK2 => rd_some rfl (rd_some (by rw [add_mk]; exact varP.ld S1 fp_nx _ hjE) (ite_t (by show decide ((i : Int) < (p.nx : Int)) = true; rw [decide_eq_true_eq]; omega) (rd_some rfl (rd_some (by rw [add_mk]; exact varP.ld S1 fp_ms _ hjE) ?_))))) (ite_t rfl ?_)
    · have e : decide ((i : Int) < (p.sl.len : Int)) = true := by rw [decide_eq_true_eq]; omega
      show K2 (decide ((i : Int) < (p.sl.len : Int))) h1
      rw [e]; exact hK2
    -- the row's own parts
    have hri : (ownP kMv p.sl vs :: (rows'.map rowP ++ E))[i + 1]? = some (rowP rows'[i]) := by
      rw [List.getElem?_cons_succ, List.getElem?_append_left (by simpa using hir), List.getElem?_map, List.getElem?_eq_getElem hir]; rfl
    obtain ⟨G, hG⟩ : ∃ G : List HP, G = (ownP kMv p.sl vs :: (rows'.map rowP ++ E)).eraseIdx (i + 1) := ⟨_, rfl⟩
    have S2 : SG F0 h0 h1 (rowP rows'[i] :: G) := by rw [hG]; exact S1.front (i + 1) hri
    have S3 : SG F0 h0 h1 (ownP kLk rows'[i].v.f1 rows'[i].l :: ownP (kI .i64) rows'[i].v.f3 rows'[i].w :: G) := S2.flat
    have hG0 : G[0]? = some (ownP kMv p.sl vs) := by rw [hG]; rfl
    have hGj : ∃ j' : Nat, G[j']? = some (varP kPl p.b ⟨p.sl, (p.nx : Int)⟩) := by
      refine List.getElem?_of_mem ?_
      rw [hG]
      obtain ⟨hb, e⟩ := List.getElem?_eq_some_iff.1 hjE
      exact List.mem_eraseIdx_iff_getElem.2 ⟨1 + (rows'.length + j), hb, by omega, e⟩
    obtain ⟨j', hGj⟩ := hGj
    have hv : vs[i]'(by omega) = rows'[i].v := by
      have h1 : vs[i]? = (rows'.map (·.v))[i]? := by rw [sp.v, hvs]
      rw [List.getElem?_eq_getElem (by omega : i < vs.length), List.getElem?_map, List.getElem?_eq_getElem hir] at h1
      simpa using h1
    have hok := (sp.o ho).2 _ (List.getElem_mem hir)
    refine jn_q (fun (_ : Unit) h' => ∃ rows2 : List MR, Spt p.nx p.rows rows2 ∧ SG F0 h0 h' (ownP kMv p.sl vs :: (rows2.map rowP ++ E))) (fun K2 hK2 => ?_) fun _ h' hI => next () h' hI
    refine jn_q (fun (_ : Unit) h' => ∃ l' : List Lk, l'.length = rows'[i].l.length ∧ SG F0 h0 h' (ownP kLk rows'[i].v.f1 l' :: ownP (kI .i64) rows'[i].v.f3 rows'[i].w :: G)) (fun K3 hK3 => ?_) ?_
    · rw [← hv] at S3 hK3
      exact spoil_l (by omega) hG0 hGj (by omega) S3 fun l' h' hl S' => hK3 () h' ⟨l', hl, S'⟩
    rintro _ h2 ⟨l', hl, S4⟩
    have fin : ∀ (w' : List Int) h', w'.length = rows'[i].w.length → SG F0 h0 h' (ownP kLk rows'[i].v.f1 l' :: ownP (kI .i64) rows'[i].v.f3 w' :: G) → K2 () h' := fun w' h' hw S5 => by
      refine hK2 () h' ⟨rows'.set i ⟨rows'[i].v, l', w'⟩, ⟨?_, fun k hk => ?_, fun o => ⟨by rw [List.length_set]; exact (sp.o o).1, fun r hr => ?_⟩⟩, ?_⟩
      · rw [← sp.v, List.map_set]
        apply List.ext_getElem?
        intro k
        by_cases c : i = k
        · subst c
          rw [List.getElem?_set_self (by simpa using hir), List.getElem?_map, List.getElem?_eq_getElem hir]; rfl
        · rw [List.getElem?_set_ne c]
      · rw [List.getElem?_set_ne (by omega)]; exact sp.r k hk
      · rcases List.mem_or_eq_of_mem_set hr with hr | rfl
        · exact (sp.o o).2 r hr
        · show l'.length ≤ _ ∧ w'.length ≤ _
          omega
      · have S6 : SG F0 h0 h' (rowP ⟨rows'[i].v, l', w'⟩ :: (ownP kMv p.sl vs :: (rows'.map rowP ++ E)).eraseIdx (i + 1)) := by
          rw [← hG]
          exact SG.fold [ownP kLk rows'[i].v.f1 l', ownP (kI .i64) rows'[i].v.f3 w'] S5
        have S7 := SG.unfront (i + 1) (by simp; omega) S6
        rw [List.set_cons_succ, List.set_append_left _ _ (by simpa using hir), ← List.map_set] at S7
        exact S7
    rw [← hv] at S4 fin
    exact spoil_w (by omega) hG0 hGj (by omega) S4 fun w' h' hw S' => fin w' h' hw S'
  · obtain ⟨rows', sp, S1⟩ := hI
    have hl' := sp.len
    have hjE : (ownP kMv p.sl vs :: (rows'.map rowP ++ E))[1 + (rows'.length + j)]? = some (varP kPl p.b ⟨p.sl, (p.nx : Int)⟩) := by
      rw [Nat.add_comm, List.getElem?_cons_succ, List.getElem?_append_right (by simp), List.length_map, Nat.add_sub_cancel_left]; exact hj
    unfold spatelaw12_spoilt.b1
    refine jn_c' false h1 (fun K2 hK2 => rd_some rfl (rd_some (by rw [add_mk]; exact varP.ld S1 fp_nx _ hjE) (ite_b (fun c => rd_some rfl (rd_some (by rw [add_mk]; exact varP.ld S1 fp_ms _ hjE) ?_)) fun _ => hK2))) (ite_f rfl (done _ _ (k rows' h1 sp (by rw [sp.v, ← hvs]; exact S1))))
    have c : decide (((min p.nx p.rows.length : Nat) : Int) < (p.nx : Int)) = true := c
    rw [decide_eq_true_eq] at c
    have e : decide (((min p.nx p.rows.length : Nat) : Int) < (p.sl.len : Int)) = false := by rw [decide_eq_false_iff_not]; omega
    show K2 (decide (((min p.nx p.rows.length : Nat) : Int) < (p.sl.len : Int))) h1
    rw [e]; exact hK2
def WS.spoil (W : WS) (t : Nat) (rows' : List MR) : WS := (W.1, W.2.modify t fun p => { p with rows := rows' })
theorem spoilt_spec {t : Nat} (ht : t < W.2.length) (hn : W.2[t].nx < 4611686018427387904) (S : SG F0 h0 h (rqP q W :: Rs)) {Q : Unit → H → Prop}
    (k : ∀ rows' h', Spt W.2[t].nx W.2[t].rows rows' → SG F0 h0 h' (rqP q (W.spoil t rows') :: Rs) → Q () h') : spatelaw12_spoilt (some ⟨W.2[t].b, 0, none⟩) h Q := by
  obtain ⟨r, S1⟩ := rq_un S
  unfold rqL at S1
  have hcl : (cells W.2).length = W.2.length := by unfold cells; simp
  have pm : (schP q W.1 (W.2.map (·.b)) :: cells W.2 ++ playsP W.2 :: Rs).Perm (playsP W.2 :: (schP q W.1 (W.2.map (·.b)) :: cells W.2 ++ Rs)) := List.perm_middle
  have S2 : SG F0 h0 h (playsP W.2 :: (schP q W.1 (W.2.map (·.b)) :: cells W.2 ++ Rs)) := S1.perm pm
  have S3 := S2.flat
  have hti : (W.2.map playP ++ (schP q W.1 (W.2.map (·.b)) :: cells W.2 ++ Rs))[t]? = some (playP W.2[t]) := by
    rw [List.getElem?_append_left (by simpa using ht), List.getElem?_map, List.getElem?_eq_getElem ht]; rfl
  obtain ⟨E, hE⟩ : ∃ E : List HP, E = (W.2.map playP ++ (schP q W.1 (W.2.map (·.b)) :: cells W.2 ++ Rs)).eraseIdx t := ⟨_, rfl⟩
  have S4 : SG F0 h0 h (playP W.2[t] :: E) := by rw [hE]; exact S3.front t hti
  have S5 : SG F0 h0 h (ownP kMv W.2[t].sl (W.2[t].rows.map (·.v)) :: (W.2[t].rows.map rowP ++ E)) := S4.flat
  have hci : (W.2.map playP ++ (schP q W.1 (W.2.map (·.b)) :: cells W.2 ++ Rs))[W.2.length + (t + 1)]? = some (varP kPl W.2[t].b ⟨W.2[t].sl, (W.2[t].nx : Int)⟩) := by
    rw [List.getElem?_append_right (by simp), List.length_map, Nat.add_sub_cancel_left, List.cons_append, List.getElem?_cons_succ, List.getElem?_append_left (by omega)]
    unfold cells
    rw [List.getElem?_map, List.getElem?_eq_getElem ht]; rfl
  have hEj : ∃ j : Nat, E[j]? = some (varP kPl W.2[t].b ⟨W.2[t].sl, (W.2[t].nx : Int)⟩) := by
    refine List.getElem?_of_mem ?_
    rw [hE]
    obtain ⟨hb, e⟩ := List.getElem?_eq_some_iff.1 hci
    exact List.mem_eraseIdx_iff_getElem.2 ⟨_, hb, by omega, e⟩
  obtain ⟨j, hEj⟩ := hEj
  refine spoil_rows hEj hn (r _ (List.getElem_mem ht)) S5 fun rows' h' sp S6 => k rows' h' sp (rq_re ?_ ?_)
  · intro p hp
    obtain ⟨i, hi⟩ := List.getElem?_of_mem hp
    unfold WS.spoil at hi
    rw [List.getElem?_modify] at hi
    cases hL : W.2[i]? with
    | none => rw [hL] at hi; cases hi
    | some z =>
      rw [hL] at hi
      by_cases c : t = i
      · subst c
        rw [List.getElem?_eq_getElem ht] at hL
        have hi : { z with rows := rows' } = p := by simpa using hi
        rw [← hi]
        exact sp.o (r _ (List.getElem_mem ht))
      · have hi : z = p := by simpa [c] using hi
        rw [← hi]
        exact r _ (List.mem_of_getElem? hL)
  · have S7 : SG F0 h0 h' (playP { W.2[t] with rows := rows' } :: (W.2.map playP ++ (schP q W.1 (W.2.map (·.b)) :: cells W.2 ++ Rs)).eraseIdx t) := by
      rw [← hE]
      exact SG.fold (ownP kMv W.2[t].sl (rows'.map (·.v)) :: rows'.map rowP) S6
    have S8 := SG.unfront t (by simp; omega) S7
    rw [List.set_append_left _ _ (by simpa using ht)] at S8
    have e1 : (W.2.map playP).set t (playP { W.2[t] with rows := rows' }) = (W.spoil t rows').2.map playP := by
      unfold WS.spoil
      apply List.ext_getElem?
      intro i
      rw [List.getElem?_map, List.getElem?_modify]
      by_cases c : t = i
      · subst c
        rw [List.getElem?_set_self (by simpa using ht), List.getElem?_eq_getElem ht]; simp
      · rw [List.getElem?_set_ne c, List.getElem?_map]; cases W.2[i]? <;> simp [c]
    have e2 : (W.spoil t rows').2.map (·.b) = W.2.map (·.b) := by
      unfold WS.spoil
      apply List.ext_getElem?
      intro i
      rw [List.getElem?_map, List.getElem?_modify, List.getElem?_map]
      cases W.2[i]? with
      | none => simp
      | some z => by_cases c : t = i <;> simp [c]
    have e3 : cells (W.spoil t rows').2 = cells W.2 := by
      unfold WS.spoil cells
      apply List.ext_getElem?
      intro i
      rw [List.getElem?_map, List.getElem?_modify, List.getElem?_map]
      cases W.2[i]? with
      | none => simp
      | some z => by_cases c : t = i <;> simp [c]
    rw [e1] at S8
    have S9 : SG F0 h0 h' (playsP (W.spoil t rows').2 :: (schP q W.1 (W.2.map (·.b)) :: cells W.2 ++ Rs)) := SG.fold _ S8
    unfold rqL
    rw [e2, e3]
    have pm2 : (schP q W.1 (W.2.map (·.b)) :: cells W.2 ++ playsP (W.spoil t rows').2 :: Rs).Perm (playsP (W.spoil t rows').2 :: (schP q W.1 (W.2.map (·.b)) :: cells W.2 ++ Rs)) := List.perm_middle
    exact S9.perm pm2.symm
end
/-- Two runs alike but for moves made. -/
def Alike (p p' : PLY) : Prop := p.nx = p'.nx ∧ ∀ k, p.nx ≤ k → (p.rows[k]?).map MR.mv = (p'.rows[k]?).map MR.mv
structure Sm (V W : WS) : Prop where
  a : V.1 = W.1
  l : V.2.length = W.2.length
  p : ∀ (i : Nat) p p', V.2[i]? = some p → W.2[i]? = some p' → Alike p p'
theorem Alike.mv {p p' : PLY} (a : Alike p p') : p.mv = p'.mv := by
  have h := a.2 p.nx (Nat.le_refl _)
  unfold PLY.mv curR
  rw [List.getD_eq_getElem?_getD, List.getD_eq_getElem?_getD, ← a.1]
  cases h1 : p.rows[p.nx]? with
  | none => rw [h1] at h; cases h2 : p'.rows[p.nx]? with
    | none => rfl
    | some y => rw [h2] at h; cases h
  | some x => rw [h1] at h; cases h2 : p'.rows[p.nx]? with
    | none => rw [h2] at h; cases h
    | some y => rw [h2] at h; simpa using h
theorem Sm.mv {V W : WS} (s : Sm V W) (n : Nat) : mvAtL V.2 n = mvAtL W.2 n := by
  unfold mvAtL
  have hl := s.l
  cases hv : V.2[n]? with
  | none =>
    have h1 := List.getElem?_eq_none_iff.1 hv
    rw [List.getElem?_eq_none (by omega)]
  | some x =>
    have h1 := (List.getElem?_eq_some_iff.1 hv).1
    have h2 := List.getElem?_eq_getElem (by omega : n < W.2.length)
    rw [h2]
    exact (s.p n _ _ hv h2).mv
theorem Sm.step {V W : WS} (s : Sm V W) (n : Nat) : Sm (V.step n) (W.step n) := by
  refine ⟨?_, ?_, fun i p p' h1 h2 => ?_⟩
  · show V.1.step n (mvAtL V.2 n) = W.1.step n (mvAtL W.2 n)
    rw [s.a, s.mv]
  · show (bump V.2 n).length = (bump W.2 n).length
    rw [bump_len, bump_len]; exact s.l
  · have h1 : (bump V.2 n)[i]? = some p := h1
    have h2 : (bump W.2 n)[i]? = some p' := h2
    rw [bump_at] at h1 h2
    by_cases c : n = i
    · rw [if_pos c] at h1 h2
      obtain ⟨y, hy, rfl⟩ := Option.map_eq_some_iff.1 h1
      obtain ⟨z, hz, rfl⟩ := Option.map_eq_some_iff.1 h2
      obtain ⟨a1, a2⟩ := s.p i _ _ hy hz
      refine ⟨by show y.nx + 1 = z.nx + 1; omega, fun k hk => a2 k ?_⟩
      have hk : y.nx + 1 ≤ k := hk
      omega
    · rw [if_neg c] at h1 h2
      exact s.p i _ _ h1 h2
theorem Sm.rst {v w : WS × Nat} (s : Sm v.1 w.1) (t : Int) : Sm (rstep v t).1 (rstep w t).1 := by
  unfold rstep
  rw [s.a]
  split
  · exact s.step _
  · exact s
theorem Sm.fold : ∀ (l : List Int) (v w : WS × Nat), Sm v.1 w.1 → Sm (l.foldl rstep v).1 (l.foldl rstep w).1
  | [], v, w, s => s
  | t :: l, v, w, s => by
    rw [List.foldl_cons, List.foldl_cons]
    exact Sm.fold l _ _ (s.rst t)
theorem Sm.act {V W : WS} (s : Sm V W) (x : Act) : Sm (V.act x) (W.act x) := by
  unfold WS.act
  rw [s.a]
  split
  · split
    · exact s.step _
    · exact s
  · split
    · unfold roundW
      rw [s.a]
      exact Sm.fold _ _ _ s
    · split
      · exact ⟨by unfold WS.wake; rw [s.a], s.l, s.p⟩
      · exact s
theorem Sm.add {V W : WS} (s : Sm V W) {p p' : PLY} (e : Alike p p') : Sm (V.add p) (W.add p') := by
  have hl := s.l
  refine ⟨by show V.1.add = W.1.add; rw [s.a], by show (V.2 ++ [p]).length = (W.2 ++ [p']).length; simp [hl], fun i x x' h1 h2 => ?_⟩
  have h1 : (V.2 ++ [p])[i]? = some x := h1
  have h2 : (W.2 ++ [p'])[i]? = some x' := h2
  rcases Nat.lt_or_ge i V.2.length with c | c
  · rw [List.getElem?_append_left c] at h1
    rw [List.getElem?_append_left (by omega)] at h2
    exact s.p i _ _ h1 h2
  · rw [List.getElem?_append_right c] at h1
    rw [List.getElem?_append_right (by omega)] at h2
    have h0 : i - V.2.length = 0 := by
      have := (List.getElem?_eq_some_iff.1 h1).1
      simp at this; omega
    rw [h0] at h1
    rw [← hl, h0] at h2
    obtain rfl := Option.some.inj h1
    obtain rfl := Option.some.inj h2
    exact e
theorem Sm.spoil {V W : WS} (s : Sm V W) {t : Nat} {rows' : List MR} (ht : t < V.2.length) (sp : Spt V.2[t].nx V.2[t].rows rows') : Sm (V.spoil t rows') W := by
  refine ⟨s.a, by unfold WS.spoil; simp [s.l], fun i x x' h1 h2 => ?_⟩
  unfold WS.spoil at h1
  rw [List.getElem?_modify] at h1
  cases hL : V.2[i]? with
  | none => rw [hL] at h1; cases h1
  | some z =>
    rw [hL] at h1
    by_cases c : t = i
    · subst c
      rw [List.getElem?_eq_getElem ht] at hL
      obtain rfl := Option.some.inj hL
      have h1 : { V.2[t] with rows := rows' } = x := by simpa using h1
      obtain ⟨a1, a2⟩ := s.p t _ _ (List.getElem?_eq_getElem ht) h2
      rw [← h1]
      refine ⟨a1, fun k hk => ?_⟩
      show (rows'[k]?).map MR.mv = _
      rw [sp.r k hk]; exact a2 k hk
    · have h1 : z = x := by simpa [c] using h1
      subst h1
      exact s.p i _ _ hL h2
theorem WS.Ok.spoil {W : WS} {B N : Nat} (o : W.Ok B N) (t : Nat) (rows' : List MR) : (W.spoil t rows').Ok B N := by
  refine ⟨o.a, by unfold WS.spoil; simp [o.l], fun p hp => ?_⟩
  obtain ⟨i, hi⟩ := List.getElem?_of_mem hp
  unfold WS.spoil at hi
  rw [List.getElem?_modify] at hi
  cases hL : W.2[i]? with
  | none => rw [hL] at hi; cases hi
  | some z =>
    rw [hL] at hi
    have := o.x z (List.mem_of_getElem? hL)
    by_cases c : t = i
    · have hi : { z with rows := rows' } = p := by simpa [c] using hi
      rw [← hi]; exact this
    · have hi : z = p := by simpa [c] using hi
      rw [← hi]; exact this
theorem ptrs_spoil (W : WS) (t : Nat) (rows' : List MR) : ptrs (W.spoil t rows').2 = ptrs W.2 := by
  unfold WS.spoil ptrs
  apply List.ext_getElem?
  intro i
  rw [List.getElem?_map, List.getElem?_modify, List.getElem?_map]
  cases W.2[i]? with
  | none => simp
  | some z => by_cases c : t = i <;> simp [c]
end Go.Proofs.Ytomngllmnhdmlaa
