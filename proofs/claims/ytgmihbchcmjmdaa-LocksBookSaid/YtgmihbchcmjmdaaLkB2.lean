/- Told sets written over and grown (LocksBook). -/
import Derived.Test.YtgmihbchcmjmdaaLkB
import Derived.Test.YtgmihbchcmjmdaaLkK
namespace Go.Proofs.Ytgmihbchcmjmdaa
open Go Go.Tr
set_option linter.unusedVariables false
def wL (i k : Nat) : Lk := ⟨1000 * i + k, ((i % 2 : Nat) : Int) == 0⟩
def gL (i k : Nat) : Lk := ⟨0 - 1000 * i - k - 1, false⟩
theorem rem2 (i : Nat) : remI (i : Int) 2 = some ((i % 2 : Nat) : Int) := by
  unfold remI
  rw [if_neg (by decide)]
  congr 1
theorem eL1 (i k : Nat) (hi : i ≤ 3000) (hk : k ≤ 4000) : S31.mk (IntKind.i64.wrap (IntKind.i64.wrap (1000 * (i : Int)) + (k : Int))) (((i % 2 : Nat) : Int) == 0) = wL i k := by
  rw [wrap_int (n := 1000 * (i : Int)) rfl (by omega) (by omega), wrap_int (n := 1000 * (i : Int) + (k : Int)) rfl (by omega) (by omega)]
  rfl
theorem eL2 (i k : Nat) (hi : i ≤ 3000) (hk : k ≤ 4000) : S31.mk (IntKind.i64.wrap (IntKind.i64.wrap (IntKind.i64.wrap (0 - IntKind.i64.wrap (1000 * (i : Int))) - (k : Int)) - 1)) false = gL i k := by
  rw [wrap_int (n := 1000 * (i : Int)) rfl (by omega) (by omega), wrap_int (n := 0 - 1000 * (i : Int)) rfl (by omega) (by omega), wrap_int (n := 0 - 1000 * (i : Int) - (k : Int)) rfl (by omega) (by omega), wrap_int (n := 0 - 1000 * (i : Int) - (k : Int) - 1) rfl (by omega) (by omega)]
  rfl
section
variable {F0 : Nat → Prop} {h0 h : H} {Rs : List HP} {R : List (GR Lk)} {s m : Sl}
theorem glocks_write {p3 : Nat} {R0 : List (GR Lk)} (hx : ∀ (j : Nat) (hj : j < R0.length), R0[j].xs.length ≤ 3000) (hl : R0.length ≤ 3000) (w : Wr wL R0 R p3 0) (hp : p3 < R.length) (S : SG F0 h0 h (ownP kL s (R0.map (·.ss)) :: tellP kLk R :: Rs)) {Q : Unit → H → Prop}
    (kq : ∀ R' h', Wr wL R0 R' (p3 + 1) 0 → SG F0 h0 h' (ownP kL s (R0.map (·.ss)) :: tellP kLk R' :: Rs) → Q () h') : loopE (spatelaw2_GrownLocks.b6 s (p3 : Int)) 0 h Q := by
  have hn := w.n
  have hp0 : p3 < R0.length := by omega
  have hp' : p3 < (R0.map (·.ss)).length := by rw [List.length_map]; exact hp0
  have hxp := hx p3 hp0
  refine for0 (mk := fun (_ : Unit) i => i) (s := ()) (n := R0[p3].xs.length) (by omega) (fun k _ h' => ∃ R', Wr wL R0 R' p3 k ∧ SG F0 h0 h' (ownP kL s (R0.map (·.ss)) :: tellP kLk R' :: Rs)) ⟨R, w, S⟩ (fun k _ h1 K hk hI next done => ?_) (fun _ h1 K hI done => ?_)
  · obtain ⟨R', w', S1⟩ := hI
    have hn' := w'.n
    have hpR : p3 < R'.length := by omega
    have a := w'.a p3 hpR hp0
    have RL := ownP.rds (K := kL) S1 0 rfl
    have RR := tellP.rds S1 1 rfl hpR
    have hlen : R0[p3].ss.len = R0[p3].xs.length := by rw [← a.1, RR.len, a.2.1]
    unfold spatelaw2_GrownLocks.b6
    refine RL.elt0 hp' rfl ?_
    rw [List.getElem_map]
    refine ite_t (by rw [hlen]; exact clt_t hk) (RL.elt0 hp' rfl ?_)
    rw [List.getElem_map]
    obtain ⟨q, h2, e1, e2, S2⟩ := tellP.set S1 1 rfl hpR (k := k) (by rw [a.2.1]; exact hk) (wL p3 k) (n := 2) rfl
    rw [a.1] at e1
    refine rd_some (rem2 p3) ?_
    rw [eL1 p3 k (by omega) (by omega)]
    exact rd_some e1 (rd_some e2 (next () h2 ⟨_, w'.step hpR (by rw [a.2.1]; exact hk), S2⟩))
  · obtain ⟨R', w', S1⟩ := hI
    have hn' := w'.n
    have hpR : p3 < R'.length := by omega
    have a := w'.a p3 hpR hp0
    have RL := ownP.rds (K := kL) S1 0 rfl
    have RR := tellP.rds S1 1 rfl hpR
    have hlen : R0[p3].ss.len = R0[p3].xs.length := by rw [← a.1, RR.len, a.2.1]
    unfold spatelaw2_GrownLocks.b6
    refine RL.elt0 hp' rfl ?_
    rw [List.getElem_map]
    exact ite_f (by rw [hlen]; exact clt_f (Nat.lt_irrefl _)) (done _ _ (kq R' h1 (w'.next hp0 rfl) S1))
theorem glocks_push {p6 : Nat} (h6 : p6 < 40) {R0 : List (GR Lk)} (hx : ∀ (j : Nat) (hj : j < R0.length), R0[j].xs.length ≤ 3000) (hl : R0.length ≤ 3000) (w : Gw gL R0 R p6 0) (S : SG F0 h0 h (ownP kL s (R0.map (·.ss)) :: ownP kL m (R.map (·.ms)) :: bookP kLk R :: Rs)) {Q : Unit → H → Prop}
    (kq : ∀ R' h', Gw gL R0 R' (p6 + 1) 0 → SG F0 h0 h' (ownP kL s (R0.map (·.ss)) :: ownP kL m (R'.map (·.ms)) :: bookP kLk R' :: Rs) → Q () h') : loopE (spatelaw2_GrownLocks.b4 s m (p6 : Int)) 0 h Q := by
  have hs := ownP.len (K := kL) S 0 rfl
  rw [List.length_map] at hs
  refine for0 (mk := fun (_ : Unit) i => i) (s := ()) (n := R0.length) (by omega) (fun i _ h' => ∃ R', Gw gL R0 R' p6 i ∧ SG F0 h0 h' (ownP kL s (R0.map (·.ss)) :: ownP kL m (R'.map (·.ms)) :: bookP kLk R' :: Rs)) ⟨R, w, S⟩ (fun i _ h1 K hi hI next done => ?_) (fun _ h1 K hI done => ?_)
  · obtain ⟨R', w', S1⟩ := hI
    have hn' := w'.n
    have hiR : i < R'.length := by omega
    have hi' : i < (R'.map (·.ms)).length := by rw [List.length_map]; exact hiR
    have a := w'.a i hiR hi
    have hxi := hx i hi
    unfold spatelaw2_GrownLocks.b4
    refine ite_t (by rw [hs]; exact clt_t hi) ((ownP.rds (K := kL) S1 1 rfl).elt0 hi' rfl ?_)
    rw [List.getElem_map]
    rw [eL2 i p6 (by omega) (by omega)]
    have hz : R'[i].zs.length ≤ 3040 := by
      rw [a.2.2]; simp; omega
    refine bookP.push (K := kLk) (by decide) S1 2 rfl hiR (gL i p6) (by omega) (by omega) fun s' h2 S2 => ?_
    have S2 : SG F0 h0 h2 (ownP kL s (R0.map (·.ss)) :: ownP kL m (R'.map (·.ms)) :: bookP kLk (R'.set i { R'[i] with ms := s', zs := R'[i].zs ++ [gL i p6] }) :: Rs) := S2
    obtain ⟨q, h3, e1, e2, S3⟩ := ownP.set (K := kL) S2 1 rfl hi' s' (n := 1) rfl
    refine rd_some e1 (rd_some e2 (next () h3 ⟨_, w'.step hiR s', ?_⟩))
    have e : (R'.map (·.ms)).set i s' = (R'.set i { R'[i] with ms := s', zs := R'[i].zs ++ [gL i p6] }).map (·.ms) := by rw [List.map_set]
    have S3 : SG F0 h0 h3 (ownP kL s (R0.map (·.ss)) :: ownP kL m ((R'.map (·.ms)).set i s') :: bookP kLk (R'.set i { R'[i] with ms := s', zs := R'[i].zs ++ [gL i p6] }) :: Rs) := S3
    rw [e] at S3; exact S3
  · obtain ⟨R', w', S1⟩ := hI
    unfold spatelaw2_GrownLocks.b4
    exact ite_f (by rw [hs]; exact clt_f (Nat.lt_irrefl _)) (done _ _ (kq R' h1 (w'.next rfl) S1))
theorem glocks_look {p8 : Nat} {R0 : List (GR Lk)} (hx : ∀ (j : Nat) (hj : j < R0.length), R0[j].xs = (List.range R0[j].xs.length).map (wL j) ∧ R0[j].xs.length ≤ 3000) (hl : R0.length ≤ 3000) (w : Gw gL R0 R 40 0) (hp : p8 < R0.length) (S : SG F0 h0 h (ownP kL s (R0.map (·.ss)) :: ownP kL m (R.map (·.ms)) :: bookP kLk R :: Rs)) {Q : Unit ⊕ Bool → H → Prop}
    (kq : ∀ h', SG F0 h0 h' (ownP kL s (R0.map (·.ss)) :: ownP kL m (R.map (·.ms)) :: bookP kLk R :: Rs) → Q (.inl ()) h') : loopE (spatelaw2_GrownLocks.b2 s m (p8 : Int) (R0[p8].xs.length : Int)) 0 h Q := by
  have hn := w.n
  have hpR : p8 < R.length := by omega
  have a := w.a p8 hpR hp
  have hxp := hx p8 hp
  rw [if_neg (Nat.not_lt_zero _)] at a
  have hp1 : p8 < (R0.map (·.ss)).length := by rw [List.length_map]; exact hp
  have hp2 : p8 < (R.map (·.ms)).length := by rw [List.length_map]; exact hpR
  have hz : R[p8].zs.length = R0[p8].xs.length + 40 := by rw [a.2.2]; simp
  refine for0 (mk := fun (_ : Unit) i => i) (s := ()) (n := R0[p8].xs.length + 40) (by omega) (fun k _ h' => SG F0 h0 h' (ownP kL s (R0.map (·.ss)) :: ownP kL m (R.map (·.ms)) :: bookP kLk R :: Rs)) S (fun k _ h1 K hk S1 next done => ?_) (fun _ h1 K S1 done => ?_)
  · unfold spatelaw2_GrownLocks.b2
    have e1 : IntKind.i64.wrap ((R0[p8].xs.length : Int) + 40) = ((R0[p8].xs.length + 40 : Nat) : Int) := wrap_int (by omega) (by omega) (by omega)
    rw [e1]
    refine ite_t (clt_t hk) (rd_some (rem2 p8) ?_)
    rw [eL1 p8 k (by omega) (by omega)]
    refine S1.cell (K := kLk) (x := wL p8 k) fun q h2 S2 _ => ?_
    have hk2 : k < R[p8].zs.length := by omega
    have v2 : R[p8].zs[k] = if k < R0[p8].xs.length then wL p8 k else gL p8 (k - R0[p8].xs.length) := by
      have : ∀ (l : List Lk) (hl : k < l.length), l = R0[p8].xs ++ (List.range 40).map (gL p8) → l[k] = if k < R0[p8].xs.length then wL p8 k else gL p8 (k - R0[p8].xs.length) := by
        rintro _ hl rfl
        split
        · rename_i hkn
          rw [List.getElem_append_left hkn]
          have : ∀ (l : List Lk) (hl : k < l.length), l = (List.range R0[p8].xs.length).map (wL p8) → l[k] = wL p8 k := by rintro _ hl rfl; simp
          exact this _ hkn hxp.1
        · rw [List.getElem_append_right (by omega)]; simp
      exact this _ hk2 a.2.2
    refine jn_q (fun _ h' => SG F0 h0 h' (varP kLk q (if k < R0[p8].xs.length then wL p8 k else gL p8 (k - R0[p8].xs.length)) :: ownP kL s (R0.map (·.ss)) :: ownP kL m (R.map (·.ms)) :: bookP kLk R :: Rs)) (fun K5 hK5 => ?_) ?_
    · refine ite_b (fun c => ?_) (fun c => ?_)
      · have c : ¬ k < R0[p8].xs.length := by
          have c : decide ((k : Int) ≥ (R0[p8].xs.length : Int)) = true := c
          rw [decide_eq_true_eq] at c; omega
        have e5 : IntKind.i64.wrap ((k : Int) - (R0[p8].xs.length : Int)) = ((k - R0[p8].xs.length : Nat) : Int) := wrap_int (by omega) (by omega) (by omega)
        rw [e5, eL2 p8 (k - R0[p8].xs.length) (by omega) (by omega)]
        obtain ⟨h3, hs, S3⟩ := varP.st S2 (Fld.whole kLk) 0 rfl (gL p8 (k - R0[p8].xs.length))
        refine rd_some hs (hK5 () h3 ?_)
        rw [if_neg c]; exact S3.1
      · have c : k < R0[p8].xs.length := by
          have c : decide ((k : Int) ≥ (R0[p8].xs.length : Int)) = false := c
          rw [decide_eq_false_iff_not] at c; omega
        refine hK5 () h2 ?_
        rw [if_pos c]; exact S2
    · rintro _ h3 S3
      have RL := ownP.rds (K := kL) S3 1 rfl
      have RM := ownP.rds (K := kL) S3 2 rfl
      have R1 := bookP.rds1 S3 3 rfl hpR
      have R2 := bookP.rds2 S3 3 rfl hpR
      have hv : ld kLk ⟨q, 0, none⟩ h3 = some (if k < R0[p8].xs.length then wL p8 k else gL p8 (k - R0[p8].xs.length)) := varP.ld S3 (Fld.whole kLk) 0 rfl
      refine jn_c false h3 (fun K2 hK2 => ?_) (ite_f rfl (next () _ S3.tail))
      refine RM.elt0 hp2 rfl ?_
      rw [List.getElem_map]
      refine R2.elt0 hk2 rfl (rd_some hv ?_)
      rw [v2]
      refine ite_f (by rw [eq32_self]; rfl) (ite_b (fun c => ?_) (fun c => hK2))
      have c : k < R0[p8].xs.length := by
        have c : decide ((k : Int) < (R0[p8].xs.length : Int)) = true := c
        rw [decide_eq_true_eq] at c; omega
      refine RL.elt0 hp1 rfl ?_
      rw [List.getElem_map, ← a.1]
      have hk1 : k < R[p8].xs.length := by rw [a.2.1]; exact c
      have v1 : R[p8].xs[k] = wL p8 k := by
        have : ∀ (l : List Lk) (hl : k < l.length), l = (List.range R0[p8].xs.length).map (wL p8) → l[k] = wL p8 k := by rintro _ hl rfl; simp
        exact this _ hk1 (by rw [a.2.1]; exact hxp.1)
      refine R1.elt0 hk1 rfl (rd_some hv ?_)
      rw [v1, if_pos c, eq32_self]; exact hK2
  · unfold spatelaw2_GrownLocks.b2
    have e1 : IntKind.i64.wrap ((R0[p8].xs.length : Int) + 40) = ((R0[p8].xs.length + 40 : Nat) : Int) := wrap_int (by omega) (by omega) (by omega)
    rw [e1]
    exact ite_f (clt_f (Nat.lt_irrefl _)) (done _ _ (kq h1 S1))
theorem grownLocks_spec (hx : ∀ r ∈ R, r.xs.length ≤ 3000) (hl : R.length ≤ 3000) (S : SG F0 h0 h (ownP kL s (R.map (·.ss)) :: tellP kLk R :: Rs)) {Q : Bool → H → Prop} (kq : ∀ h', SG F0 h0 h' Rs → Q true h') : spatelaw2_GrownLocks s h Q := by
  unfold spatelaw2_GrownLocks
  have hs := ownP.len (K := kL) S 0 rfl
  rw [List.length_map] at hs
  have hx' : ∀ (j : Nat) (hj : j < R.length), R[j].xs.length ≤ 3000 := fun j hj => hx _ (List.getElem_mem hj)
  refine jn_i (for0 (mk := fun (_ : Unit) i => i) (s := ()) (n := R.length) (by omega) (fun i _ h' => ∃ R', Wr wL R R' i 0 ∧ SG F0 h0 h' (ownP kL s (R.map (·.ss)) :: tellP kLk R' :: Rs)) ⟨R, Wr.start, S⟩ (fun i _ h1 K hi hI next done => ?_) (fun _ h1 K hI done => ?_))
  · obtain ⟨R', w, S1⟩ := hI
    unfold spatelaw2_GrownLocks.b5
    exact ite_t (by rw [hs]; exact clt_t hi) (jn_i (glocks_write hx' hl w (by rw [w.n]; exact hi) S1 fun R2 h2 w2 S2 => next () h2 ⟨R2, w2, S2⟩))
  · obtain ⟨R', w, S1⟩ := hI
    unfold spatelaw2_GrownLocks.b5
    refine ite_f (by rw [hs]; exact clt_f (Nat.lt_irrefl _)) (done _ _ ?_)
    have hn := w.n
    have S2 : SG F0 h0 h1 (tellP kLk (fresh R') :: ownP kL s (R.map (·.ss)) :: Rs) := by
      have e : tellP kLk (fresh R') = tellP kLk R' := by unfold tellP fresh; rw [List.map_map]; rfl
      rw [e]; exact S1.swap
    have S3 := bookP.start S2 (by
      intro r hr
      unfold fresh at hr
      obtain ⟨x, _, rfl⟩ := List.mem_map.1 hr
      exact ⟨rfl, rfl⟩)
    have S3 := S3.swap
    refine SG.copied (K := kL) (by decide) S3 rfl rfl (ownP.rds (K := kL) S3 0 rfl) (by simp; omega) (by simp; omega) fun m h2 e2 S4 => ?_
    have ef1 : (fresh R').map (·.ms) = R.map (·.ss) := by rw [← w.ss]; unfold fresh; rw [List.map_map]; rfl
    have ef2 : (fresh R').map (·.ss) = R.map (·.ss) := by rw [← w.ss]; unfold fresh; rw [List.map_map]; rfl
    have hfl : (fresh R').length = R.length := by unfold fresh; simp [hn]
    have S5 : SG F0 h0 h2 (ownP kL s ((fresh R').map (·.ss)) :: ownP kL m ((fresh R').map (·.ms)) :: bookP kLk (fresh R') :: Rs) := by rw [ef1, ef2]; exact S4.swap
    have hfx : ∀ (j : Nat) (hj : j < (fresh R').length), (fresh R')[j].xs = (List.range (fresh R')[j].xs.length).map (wL j) ∧ (fresh R')[j].xs.length ≤ 3000 := by
      intro j hj
      have hj' : j < R'.length := by simpa [fresh] using hj
      have e : (fresh R')[j].xs = R'[j].xs := by simp [fresh]
      rw [e]
      have a := w.a j hj' (by omega)
      rw [a.2.1]
      exact ⟨a.2.2.1 (by omega), hx' j (by omega)⟩
    refine jn_i (for0 (mk := fun (_ : Unit) i => i) (s := ()) (n := 40) (by omega) (fun k _ h' => ∃ R2, Gw gL (fresh R') R2 k 0 ∧ SG F0 h0 h' (ownP kL s ((fresh R').map (·.ss)) :: ownP kL m (R2.map (·.ms)) :: bookP kLk R2 :: Rs)) ⟨fresh R', Gw.start, S5⟩ (fun k _ h3 K hk hI next done => ?_) (fun _ h3 K hI done => ?_))
    · obtain ⟨R2, w2, S6⟩ := hI
      unfold spatelaw2_GrownLocks.b3
      exact ite_t (clt_t hk) (jn_i (glocks_push hk (fun j hj => (hfx j hj).2) (by omega) w2 S6 fun R3 h4 w3 S7 => next () h4 ⟨R3, w3, S7⟩))
    · obtain ⟨R2, w2, S6⟩ := hI
      unfold spatelaw2_GrownLocks.b3
      refine ite_f rfl (done _ _ (jn_i ?_))
      refine for0 (mk := fun (_ : Unit) i => i) (s := ()) (n := R.length) (by omega) (fun i _ h' => SG F0 h0 h' (ownP kL s ((fresh R').map (·.ss)) :: ownP kL m (R2.map (·.ms)) :: bookP kLk R2 :: Rs)) S6 (fun i _ h4 K hi S6 next done => ?_) (fun _ h4 K S6 done => ?_)
      · unfold spatelaw2_GrownLocks.b1
        have hi1 : i < (fresh R').length := by omega
        have hi2 : i < ((fresh R').map (·.ss)).length := by rw [List.length_map]; exact hi1
        refine ite_t (by rw [hs]; exact clt_t hi) (jn_i ((ownP.rds (K := kL) S6 0 rfl).elt0 hi2 rfl ?_))
        rw [List.getElem_map]
        have hn2 := w2.n
        have a := w2.a i (by omega) hi1
        have hln : (fresh R')[i].ss.len = (fresh R')[i].xs.length := by
          rw [← a.1, (bookP.rds1 S6 2 rfl (j := i) (by omega)).len, a.2.1]
        rw [hln]
        exact glocks_look hfx (by omega) w2 hi1 S6 fun h5 S7 => next () h5 S7
      · unfold spatelaw2_GrownLocks.b1
        exact ite_f (by rw [hs]; exact clt_f (Nat.lt_irrefl _)) (done _ _ (kq h4 S6.tail.tail.tail))
end
end Go.Proofs.Ytgmihbchcmjmdaa
