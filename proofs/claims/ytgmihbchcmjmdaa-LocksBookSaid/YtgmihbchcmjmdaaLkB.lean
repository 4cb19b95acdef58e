/- Told rows written over and grown (LocksBook). -/
import Derived.Test.YtgmihbchcmjmdaaGrow
import Derived.Test.YtgmihbchcmjmdaaLkL2
import Derived.Test.YtgmihbchcmjmdaaG8
import Derived.Test.YtgmihbchcmjmdaaG9
namespace Go.Proofs.Ytgmihbchcmjmdaa
open Go Go.Tr
set_option linter.unusedVariables false
section
variable {α : Type} {f g : Nat → Nat → α} {R0 R : List (GR α)} {i k : Nat}
structure Wr (f : Nat → Nat → α) (R0 R : List (GR α)) (i k : Nat) : Prop where
  n : R.length = R0.length
  a : ∀ (j : Nat) (h1 : j < R.length) (h0 : j < R0.length), R[j].ss = R0[j].ss ∧ R[j].xs.length = R0[j].xs.length ∧ (j < i → R[j].xs = (List.range R0[j].xs.length).map (f j)) ∧ (j = i → R[j].xs.take k = (List.range k).map (f j))
theorem Wr.start : Wr f R0 R0 0 0 := ⟨rfl, fun j h1 h0 => ⟨rfl, rfl, fun h => absurd h (Nat.not_lt_zero _), fun _ => by simp⟩⟩
theorem Wr.step (w : Wr f R0 R i k) (hi : i < R.length) (hk : k < R[i].xs.length) : Wr f R0 (R.set i { R[i] with xs := R[i].xs.set k (f i k) }) i (k + 1) := by
  refine ⟨by simp [w.n], fun j h1 h0 => ?_⟩
  have h1' : j < R.length := by simpa using h1
  have a := w.a j h1' h0
  by_cases e : i = j
  · subst e
    rw [List.getElem_set_self]
    refine ⟨a.1, by simp [a.2.1], fun h => absurd h (Nat.lt_irrefl _), fun _ => ?_⟩
    rw [List.take_add_one, List.getElem?_set_self hk, List.take_set_of_le (Nat.le_refl _), a.2.2.2 rfl, List.range_succ, List.map_append]; rfl
  · rw [List.getElem_set_ne e]
    exact ⟨a.1, a.2.1, a.2.2.1, fun h => absurd h.symm e⟩
theorem Wr.next (w : Wr f R0 R i k) (hi : i < R0.length) (hk : k = R0[i].xs.length) : Wr f R0 R (i + 1) 0 := by
  refine ⟨w.n, fun j h1 h0 => ?_⟩
  have a := w.a j h1 h0
  refine ⟨a.1, a.2.1, fun h => ?_, fun _ => by simp⟩
  by_cases e : j = i
  · subst e
    have := a.2.2.2 rfl
    rw [hk, List.take_of_length_le (by rw [a.2.1]; exact Nat.le_refl _)] at this
    exact this
  · exact a.2.2.1 (by omega)
theorem Wr.ss (w : Wr f R0 R i k) : R.map (·.ss) = R0.map (·.ss) := by
  apply List.ext_getElem (by simp [w.n])
  intro j h1 h2
  rw [List.getElem_map, List.getElem_map]
  exact (w.a j (by simpa using h1) (by simpa using h2)).1
structure Gw (g : Nat → Nat → α) (R0 R : List (GR α)) (k i : Nat) : Prop where
  n : R.length = R0.length
  a : ∀ (j : Nat) (h1 : j < R.length) (h0 : j < R0.length), R[j].ss = R0[j].ss ∧ R[j].xs = R0[j].xs ∧ R[j].zs = R0[j].xs ++ (List.range (if j < i then k + 1 else k)).map (g j)
theorem Gw.step (w : Gw g R0 R k i) (hi : i < R.length) (s' : Sl) : Gw g R0 (R.set i { R[i] with ms := s', zs := R[i].zs ++ [g i k] }) k (i + 1) := by
  refine ⟨by simp [w.n], fun j h1 h0 => ?_⟩
  have h1' : j < R.length := by simpa using h1
  have a := w.a j h1' h0
  by_cases e : i = j
  · subst e
    rw [List.getElem_set_self]
    refine ⟨a.1, a.2.1, ?_⟩
    rw [if_pos (Nat.lt_succ_self _)]
    rw [if_neg (Nat.lt_irrefl _)] at a
    rw [a.2.2, List.range_succ, List.map_append, List.append_assoc]; rfl
  · rw [List.getElem_set_ne e]
    refine ⟨a.1, a.2.1, ?_⟩
    rw [a.2.2]
    congr 3
    split <;> split <;> omega
theorem Gw.next (w : Gw g R0 R k i) (hi : i = R0.length) : Gw g R0 R (k + 1) 0 := by
  refine ⟨w.n, fun j h1 h0 => ?_⟩
  have a := w.a j h1 h0
  refine ⟨a.1, a.2.1, ?_⟩
  rw [if_pos (by omega)] at a
  rw [if_neg (Nat.not_lt_zero _)]; exact a.2.2
def fresh (R : List (GR α)) : List (GR α) := R.map fun r => ⟨r.ss, r.ss, r.xs, r.xs⟩
theorem Gw.start : Gw g (fresh R) (fresh R) 0 0 := by
  refine ⟨rfl, fun j h1 h0 => ⟨rfl, rfl, ?_⟩⟩
  simp [fresh]
theorem Gw.ss (w : Gw g R0 R k i) : R.map (·.ss) = R0.map (·.ss) := by
  apply List.ext_getElem (by simp [w.n])
  intro j h1 h2
  rw [List.getElem_map, List.getElem_map]
  exact (w.a j (by simpa using h1) (by simpa using h2)).1
end
theorem wrap_int {n m : Int} (e : n = m) (h1 : -9000000000 ≤ m) (h2 : m ≤ 9000000000) : IntKind.i64.wrap n = m := by subst e; exact wrap64_id (by omega) (by omega)
def wI (i k : Nat) : Int := 1000 * i + k
def gI (i k : Nat) : Int := 0 - 1000 * i - k - 1
section
variable {F0 : Nat → Prop} {h0 h : H} {Rs : List HP} {R : List (GR Int)} {s m : Sl}
theorem gints_write {p3 : Nat} {R0 : List (GR Int)} (hx : ∀ (j : Nat) (hj : j < R0.length), R0[j].xs.length ≤ 3000) (hl : R0.length ≤ 3000) (w : Wr wI R0 R p3 0) (hp : p3 < R.length) (S : SG F0 h0 h (ownP kL s (R0.map (·.ss)) :: tellP (kI .i64) R :: Rs)) {Q : Unit → H → Prop}
    (kq : ∀ R' h', Wr wI R0 R' (p3 + 1) 0 → SG F0 h0 h' (ownP kL s (R0.map (·.ss)) :: tellP (kI .i64) R' :: Rs) → Q () h') : loopE (spatelaw2_GrownInts.b6 s (p3 : Int)) 0 h Q := by
  have hn := w.n
  have hp0 : p3 < R0.length := by omega
  have hp' : p3 < (R0.map (·.ss)).length := by rw [List.length_map]; exact hp0
  have hxp := hx p3 hp0
  refine for0 (mk := fun (_ : Unit) i => i) (s := ()) (n := R0[p3].xs.length) (by omega) (fun k _ h' => ∃ R', Wr wI R0 R' p3 k ∧ SG F0 h0 h' (ownP kL s (R0.map (·.ss)) :: tellP (kI .i64) R' :: Rs)) ⟨R, w, S⟩ (fun k _ h1 K hk hI next done => ?_) (fun _ h1 K hI done => ?_)
  · obtain ⟨R', w', S1⟩ := hI
    have hn' := w'.n
    have hpR : p3 < R'.length := by omega
    have a := w'.a p3 hpR hp0
    have RL := ownP.rds (K := kL) S1 0 rfl
    have RR := tellP.rds S1 1 rfl hpR
    have hlen : R0[p3].ss.len = R0[p3].xs.length := by rw [← a.1, RR.len, a.2.1]
    unfold spatelaw2_GrownInts.b6
    refine RL.elt0 hp' rfl ?_
    rw [List.getElem_map]
    refine ite_t (by rw [hlen]; exact clt_t hk) (RL.elt0 hp' rfl ?_)
    rw [List.getElem_map]
    obtain ⟨q, h2, e1, e2, S2⟩ := tellP.set S1 1 rfl hpR (k := k) (by rw [a.2.1]; exact hk) (wI p3 k) (n := 1) rfl
    rw [a.1] at e1
    have e3 : IntKind.i64.wrap (IntKind.i64.wrap (1000 * (p3 : Int)) + (k : Int)) = wI p3 k := by
      rw [wrap_int (n := 1000 * (p3 : Int)) rfl (by omega) (by omega)]
      exact wrap_int rfl (by unfold wI; omega) (by unfold wI; omega)
    rw [e3]
    exact rd_some e1 (rd_some e2 (next () h2 ⟨_, w'.step hpR (by rw [a.2.1]; exact hk), S2⟩))
  · obtain ⟨R', w', S1⟩ := hI
    have hn' := w'.n
    have hpR : p3 < R'.length := by omega
    have a := w'.a p3 hpR hp0
    have RL := ownP.rds (K := kL) S1 0 rfl
    have RR := tellP.rds S1 1 rfl hpR
    have hlen : R0[p3].ss.len = R0[p3].xs.length := by rw [← a.1, RR.len, a.2.1]
    unfold spatelaw2_GrownInts.b6
    refine RL.elt0 hp' rfl ?_
    rw [List.getElem_map]
    exact ite_f (by rw [hlen]; exact clt_f (Nat.lt_irrefl _)) (done _ _ (kq R' h1 (w'.next hp0 rfl) S1))
theorem gints_push {p6 : Nat} (h6 : p6 < 40) {R0 : List (GR Int)} (hx : ∀ (j : Nat) (hj : j < R0.length), R0[j].xs.length ≤ 3000) (hl : R0.length ≤ 3000) (w : Gw gI R0 R p6 0) (S : SG F0 h0 h (ownP kL s (R0.map (·.ss)) :: ownP kL m (R.map (·.ms)) :: bookP (kI .i64) R :: Rs)) {Q : Unit → H → Prop}
    (kq : ∀ R' h', Gw gI R0 R' (p6 + 1) 0 → SG F0 h0 h' (ownP kL s (R0.map (·.ss)) :: ownP kL m (R'.map (·.ms)) :: bookP (kI .i64) R' :: Rs) → Q () h') : loopE (spatelaw2_GrownInts.b4 s m (p6 : Int)) 0 h Q := by
  have hs := ownP.len (K := kL) S 0 rfl
  rw [List.length_map] at hs
  refine for0 (mk := fun (_ : Unit) i => i) (s := ()) (n := R0.length) (by omega) (fun i _ h' => ∃ R', Gw gI R0 R' p6 i ∧ SG F0 h0 h' (ownP kL s (R0.map (·.ss)) :: ownP kL m (R'.map (·.ms)) :: bookP (kI .i64) R' :: Rs)) ⟨R, w, S⟩ (fun i _ h1 K hi hI next done => ?_) (fun _ h1 K hI done => ?_)
  · obtain ⟨R', w', S1⟩ := hI
    have hn' := w'.n
    have hiR : i < R'.length := by omega
    have hi' : i < (R'.map (·.ms)).length := by rw [List.length_map]; exact hiR
    have a := w'.a i hiR hi
    have hxi := hx i hi
    unfold spatelaw2_GrownInts.b4
    refine ite_t (by rw [hs]; exact clt_t hi) ((ownP.rds (K := kL) S1 1 rfl).elt0 hi' rfl ?_)
    rw [List.getElem_map]
    have e3 : IntKind.i64.wrap (IntKind.i64.wrap (IntKind.i64.wrap (0 - IntKind.i64.wrap (1000 * (i : Int))) - (p6 : Int)) - 1) = gI i p6 := by
      rw [wrap_int (n := 1000 * (i : Int)) rfl (by omega) (by omega), wrap_int (n := 0 - 1000 * (i : Int)) rfl (by omega) (by omega), wrap_int (n := 0 - 1000 * (i : Int) - (p6 : Int)) rfl (by omega) (by omega)]
      exact wrap_int rfl (by unfold gI; omega) (by unfold gI; omega)
    rw [e3]
    have hz : R'[i].zs.length ≤ 3040 := by
      rw [a.2.2]; simp; omega
    refine bookP.push (K := kI .i64) (by decide) S1 2 rfl hiR (gI i p6) (by omega) (by omega) fun s' h2 S2 => ?_
    have S2 : SG F0 h0 h2 (ownP kL s (R0.map (·.ss)) :: ownP kL m (R'.map (·.ms)) :: bookP (kI .i64) (R'.set i { R'[i] with ms := s', zs := R'[i].zs ++ [gI i p6] }) :: Rs) := S2
    obtain ⟨q, h3, e1, e2, S3⟩ := ownP.set (K := kL) S2 1 rfl hi' s' (n := 1) rfl
    refine rd_some e1 (rd_some e2 (next () h3 ⟨_, w'.step hiR s', ?_⟩))
    have e : (R'.map (·.ms)).set i s' = (R'.set i { R'[i] with ms := s', zs := R'[i].zs ++ [gI i p6] }).map (·.ms) := by rw [List.map_set]
    have S3 : SG F0 h0 h3 (ownP kL s (R0.map (·.ss)) :: ownP kL m ((R'.map (·.ms)).set i s') :: bookP (kI .i64) (R'.set i { R'[i] with ms := s', zs := R'[i].zs ++ [gI i p6] }) :: Rs) := S3
    rw [e] at S3; exact S3
  · obtain ⟨R', w', S1⟩ := hI
    unfold spatelaw2_GrownInts.b4
    exact ite_f (by rw [hs]; exact clt_f (Nat.lt_irrefl _)) (done _ _ (kq R' h1 (w'.next rfl) S1))
theorem gints_look {p8 : Nat} {R0 : List (GR Int)} (hx : ∀ (j : Nat) (hj : j < R0.length), R0[j].xs = (List.range R0[j].xs.length).map (wI j) ∧ R0[j].xs.length ≤ 3000) (hl : R0.length ≤ 3000) (w : Gw gI R0 R 40 0) (hp : p8 < R0.length) (S : SG F0 h0 h (ownP kL s (R0.map (·.ss)) :: ownP kL m (R.map (·.ms)) :: bookP (kI .i64) R :: Rs)) {Q : Unit ⊕ Bool → H → Prop}
    (kq : Q (.inl ()) h) : loopE (spatelaw2_GrownInts.b2 s m (p8 : Int) (R0[p8].xs.length : Int)) 0 h Q := by
  have hn := w.n
  have hpR : p8 < R.length := by omega
  have a := w.a p8 hpR hp
  have hxp := hx p8 hp
  rw [if_neg (Nat.not_lt_zero _)] at a
  have hp1 : p8 < (R0.map (·.ss)).length := by rw [List.length_map]; exact hp
  have hp2 : p8 < (R.map (·.ms)).length := by rw [List.length_map]; exact hpR
  have RL := ownP.rds (K := kL) S 0 rfl
  have RM := ownP.rds (K := kL) S 1 rfl
  have R1 := bookP.rds1 S 2 rfl hpR
  have R2 := bookP.rds2 S 2 rfl hpR
  have hz : R[p8].zs.length = R0[p8].xs.length + 40 := by rw [a.2.2]; simp
  refine for0 (mk := fun (_ : Unit) i => i) (s := ()) (n := R0[p8].xs.length + 40) (by omega) (fun k _ h' => h' = h) rfl (fun k _ h1 K hk e next done => ?_) (fun _ h1 K e done => ?_)
  · subst e
    unfold spatelaw2_GrownInts.b2
    have e1 : IntKind.i64.wrap ((R0[p8].xs.length : Int) + 40) = ((R0[p8].xs.length + 40 : Nat) : Int) := wrap_int (by omega) (by omega) (by omega)
    rw [e1]
    refine ite_t (clt_t hk) (jn_c false h1 (fun K2 hK2 => ?_) (ite_f rfl (next () _ rfl)))
    have ew : IntKind.i64.wrap (IntKind.i64.wrap (1000 * (p8 : Int)) + (k : Int)) = wI p8 k := by
      rw [wrap_int (n := 1000 * (p8 : Int)) rfl (by omega) (by omega)]
      exact wrap_int rfl (by unfold wI; omega) (by unfold wI; omega)
    by_cases hkn : k < R0[p8].xs.length
    · refine ite_t (clt_t hkn) (RL.elt0 hp1 rfl ?_)
      rw [List.getElem_map, ← a.1]
      have hk1 : k < R[p8].xs.length := by rw [a.2.1]; exact hkn
      have v1 : R[p8].xs[k] = wI p8 k := by
        have : ∀ (l : List Int) (hl : k < l.length), l = (List.range R0[p8].xs.length).map (wI p8) → l[k] = wI p8 k := by rintro _ hl rfl; simp
        exact this _ hk1 (by rw [a.2.1]; exact hxp.1)
      have hk2 : k < R[p8].zs.length := by omega
      have v2 : R[p8].zs[k] = wI p8 k := by
        have : ∀ (l : List Int) (hl : k < l.length), l = R0[p8].xs ++ (List.range 40).map (gI p8) → l[k] = wI p8 k := by
          rintro _ hl rfl
          rw [List.getElem_append_left hkn]
          have : ∀ (l : List Int) (hl : k < l.length), l = (List.range R0[p8].xs.length).map (wI p8) → l[k] = wI p8 k := by rintro _ hl rfl; simp
          exact this _ hkn hxp.1
        exact this _ hk2 a.2.2
      refine R1.elt0 hk1 rfl (ite_f (by rw [v1, ew]; simp) (RM.elt0 hp2 rfl ?_))
      rw [List.getElem_map]
      refine R2.elt0 hk2 rfl (ite_f (by rw [v2, ew]; simp) (ite_f (by rw [decide_eq_false_iff_not]; omega) hK2))
    · refine ite_f (clt_f hkn) (ite_t (by rw [decide_eq_true_eq]; omega) (RM.elt0 hp2 rfl ?_))
      rw [List.getElem_map]
      have hk2 : k < R[p8].zs.length := by omega
      have v2 : R[p8].zs[k] = gI p8 (k - R0[p8].xs.length) := by
        have : ∀ (l : List Int) (hl : k < l.length), l = R0[p8].xs ++ (List.range 40).map (gI p8) → l[k] = gI p8 (k - R0[p8].xs.length) := by
          rintro _ hl rfl
          rw [List.getElem_append_right (by omega)]; simp
        exact this _ hk2 a.2.2
      have e5 : IntKind.i64.wrap (IntKind.i64.wrap (IntKind.i64.wrap (0 - IntKind.i64.wrap (1000 * (p8 : Int))) - IntKind.i64.wrap ((k : Int) - (R0[p8].xs.length : Int))) - 1) = gI p8 (k - R0[p8].xs.length) := by
        rw [wrap_int (n := 1000 * (p8 : Int)) rfl (by omega) (by omega), wrap_int (n := 0 - 1000 * (p8 : Int)) rfl (by omega) (by omega), wrap_int (n := (k : Int) - (R0[p8].xs.length : Int)) rfl (by omega) (by omega), wrap_int (n := 0 - 1000 * (p8 : Int) - ((k : Int) - (R0[p8].xs.length : Int))) rfl (by omega) (by omega)]
        exact wrap_int (by unfold gI; omega) (by unfold gI; omega) (by unfold gI; omega)
      refine R2.elt0 hk2 rfl ?_
      rw [v2, e5]
      have : (gI p8 (k - R0[p8].xs.length) != gI p8 (k - R0[p8].xs.length)) = false := by simp
      rw [this]; exact hK2
  · subst e
    unfold spatelaw2_GrownInts.b2
    have e1 : IntKind.i64.wrap ((R0[p8].xs.length : Int) + 40) = ((R0[p8].xs.length + 40 : Nat) : Int) := wrap_int (by omega) (by omega) (by omega)
    rw [e1]
    exact ite_f (clt_f (Nat.lt_irrefl _)) (done _ _ kq)
theorem grownInts_spec (hx : ∀ r ∈ R, r.xs.length ≤ 3000) (hl : R.length ≤ 3000) (S : SG F0 h0 h (ownP kL s (R.map (·.ss)) :: tellP (kI .i64) R :: Rs)) {Q : Bool → H → Prop} (kq : ∀ h', SG F0 h0 h' Rs → Q true h') : spatelaw2_GrownInts s h Q := by
  unfold spatelaw2_GrownInts
  have hs := ownP.len (K := kL) S 0 rfl
  rw [List.length_map] at hs
  have hx' : ∀ (j : Nat) (hj : j < R.length), R[j].xs.length ≤ 3000 := fun j hj => hx _ (List.getElem_mem hj)
  refine jn_i (for0 (mk := fun (_ : Unit) i => i) (s := ()) (n := R.length) (by omega) (fun i _ h' => ∃ R', Wr wI R R' i 0 ∧ SG F0 h0 h' (ownP kL s (R.map (·.ss)) :: tellP (kI .i64) R' :: Rs)) ⟨R, Wr.start, S⟩ (fun i _ h1 K hi hI next done => ?_) (fun _ h1 K hI done => ?_))
  · obtain ⟨R', w, S1⟩ := hI
    unfold spatelaw2_GrownInts.b5
    exact ite_t (by rw [hs]; exact clt_t hi) (jn_i (gints_write hx' hl w (by rw [w.n]; exact hi) S1 fun R2 h2 w2 S2 => next () h2 ⟨R2, w2, S2⟩))
  · obtain ⟨R', w, S1⟩ := hI
    unfold spatelaw2_GrownInts.b5
    refine ite_f (by rw [hs]; exact clt_f (Nat.lt_irrefl _)) (done _ _ ?_)
    have hn := w.n
    have S2 : SG F0 h0 h1 (tellP (kI .i64) (fresh R') :: ownP kL s (R.map (·.ss)) :: Rs) := by
      have e : tellP (kI .i64) (fresh R') = tellP (kI .i64) R' := by unfold tellP fresh; rw [List.map_map]; rfl
      rw [e]; exact S1.swap
    have S3 := bookP.start S2 (by
      intro r hr
      unfold fresh at hr
      obtain ⟨x, _, rfl⟩ := List.mem_map.1 hr
      exact ⟨rfl, rfl⟩)
    have S3 := S3.swap
    refine SG.copied (K := kL) (by decide) S3 rfl rfl (ownP.rds (K := kL) S3 0 rfl) (by simp; omega) (by simp; omega) fun m h2 e2 S4 => ?_
    have ef1 : (fresh R').map (·.ms) = R.map (·.ss) := by rw [← w.ss]; unfold fresh; rw [List.map_map]; rfl
    have ef2 : (fresh R').map (·.ss) = R.map (·.ss) := by rw [← w.ss]; unfold fresh; rw [List.map_map]; rfl
    have hfl : (fresh R').length = R.length := by unfold fresh; simp [hn]
    have S5 : SG F0 h0 h2 (ownP kL s ((fresh R').map (·.ss)) :: ownP kL m ((fresh R').map (·.ms)) :: bookP (kI .i64) (fresh R') :: Rs) := by rw [ef1, ef2]; exact S4.swap
    have hfx : ∀ (j : Nat) (hj : j < (fresh R').length), (fresh R')[j].xs = (List.range (fresh R')[j].xs.length).map (wI j) ∧ (fresh R')[j].xs.length ≤ 3000 := by
      intro j hj
      have hj' : j < R'.length := by simpa [fresh] using hj
      have e : (fresh R')[j].xs = R'[j].xs := by simp [fresh]
      rw [e]
      have a := w.a j hj' (by omega)
      rw [a.2.1]
      exact ⟨a.2.2.1 (by omega), hx' j (by omega)⟩
    refine jn_i (for0 (mk := fun (_ : Unit) i => i) (s := ()) (n := 40) (by omega) (fun k _ h' => ∃ R2, Gw gI (fresh R') R2 k 0 ∧ SG F0 h0 h' (ownP kL s ((fresh R').map (·.ss)) :: ownP kL m (R2.map (·.ms)) :: bookP (kI .i64) R2 :: Rs)) ⟨fresh R', Gw.start, S5⟩ (fun k _ h3 K hk hI next done => ?_) (fun _ h3 K hI done => ?_))
    · obtain ⟨R2, w2, S6⟩ := hI
      unfold spatelaw2_GrownInts.b3
      exact ite_t (clt_t hk) (jn_i (gints_push hk (fun j hj => (hfx j hj).2) (by omega) w2 S6 fun R3 h4 w3 S7 => next () h4 ⟨R3, w3, S7⟩))
    · obtain ⟨R2, w2, S6⟩ := hI
      unfold spatelaw2_GrownInts.b3
      refine ite_f rfl (done _ _ (jn_i ?_))
      refine for0 (mk := fun (_ : Unit) i => i) (s := ()) (n := R.length) (by omega) (fun i _ h' => h' = h3) rfl (fun i _ h4 K hi e next done => ?_) (fun _ h4 K e done => ?_)
      · subst e
        unfold spatelaw2_GrownInts.b1
        have hi1 : i < (fresh R').length := by omega
        have hi2 : i < ((fresh R').map (·.ss)).length := by rw [List.length_map]; exact hi1
        refine ite_t (by rw [hs]; exact clt_t hi) (jn_i ((ownP.rds (K := kL) S6 0 rfl).elt0 hi2 rfl ?_))
        rw [List.getElem_map]
        have hn2 := w2.n
        have a := w2.a i (by omega) hi1
        have hln : (fresh R')[i].ss.len = (fresh R')[i].xs.length := by
          rw [← a.1, (bookP.rds1 S6 2 rfl (j := i) (by omega)).len, a.2.1]
        rw [hln]
        exact gints_look hfx (by omega) w2 hi1 S6 (next () _ rfl)
      · subst e
        unfold spatelaw2_GrownInts.b1
        exact ite_f (by rw [hs]; exact clt_f (Nat.lt_irrefl _)) (done _ _ (kq h4 S6.tail.tail.tail))
end
end Go.Proofs.Ytgmihbchcmjmdaa
