/- The asks in memory: what the statements' looks at them answer. -/
import Derived.Test.YtgmihbchcmjmdaaLkJ
import Derived.Test.YtgmihbchcmjmdaaLkL2
import Derived.Test.YtgmihbchcmjmdaaG0
import Derived.Test.YtgmihbchcmjmdaaG1
namespace Go.Proofs.Ytgmihbchcmjmdaa
open Go Go.Tr
set_option linter.unusedVariables false
abbrev kAsk : Kd S34 := k34
theorem fq_task : Fld kAsk (kI .i64) 0 (·.f0) (fun x v => { x with f0 := v }) := (Fld.whole (kI .i64)).fst.iso
theorem fq_l : Fld kAsk kL 1 (·.f1) (fun x v => { x with f1 := v }) := (Fld.whole kL).fst.snd.iso
theorem fq_g : Fld kAsk kB 2 (·.f2) (fun x v => { x with f2 := v }) := (Fld.whole kB).snd.snd.iso
def arow (a : AK) : S34 := ⟨a.t, a.s, a.g⟩
def abagP (Ls : List AK) : HP where
  p h F := (∀ a ∈ Ls, Own kLk h F a.s a.l) ∧ ∀ b, F b → b < h.size
  st := fun ⟨v, l⟩ hs k => ⟨fun r hr => (v r hr).same fun b hb _ => k b hb, fun b hb => Nat.lt_of_lt_of_le (l b hb) hs⟩
  lt := fun ⟨_, l⟩ => l
structure RdA (h : H) (s : Sl) (Ls : List AK) : Prop where
  rows : Rds kAsk h s (Ls.map arow)
  sets : ∀ a ∈ Ls, Rds kLk h a.s a.l
  n : Ls.length ≤ 1000000
  m : ∀ a ∈ Ls, a.l.length ≤ 1000000
section
variable {F0 : Nat → Prop} {h0 h : H} {Ps Rs : List HP} {s : Sl} {Ls : List AK}
theorem abagP.is (S : SG F0 h0 h Ps) (i : Nat) (hi : Ps[i]? = some (abagP Ls)) {a : AK} (ha : a ∈ Ls) : Rds kLk h a.s a.l := by
  obtain ⟨F1, ⟨v, _⟩, _⟩ := S.at i hi
  exact (v a ha).rds
theorem abagP.sub (S : SG F0 h0 h Ps) (i : Nat) {Ls' : List AK} (hi : Ps[i]? = some (abagP Ls)) (hs : ∀ a ∈ Ls', ∃ b ∈ Ls, b.s = a.s ∧ b.l = a.l) : SG F0 h0 h (Ps.set i (abagP Ls')) :=
  S.imp i hi _ fun F ⟨v, l⟩ => ⟨fun a ha => by obtain ⟨b, hb, e1, e2⟩ := hs a ha; rw [← e1, ← e2]; exact v b hb, l⟩
theorem abagP.add {a : AK} (S : SG F0 h0 h (ownP kLk a.s a.l :: abagP Ls :: Rs)) : SG F0 h0 h (abagP (Ls ++ [a]) :: Rs) := by
  obtain ⟨F, ⟨F1, _, o, ⟨F2, F3, a2, r, c2, d2⟩, c, d⟩, f⟩ := S
  refine ⟨F, ⟨fun k => F1 k ∨ F2 k, F3, ⟨fun x hx => ?_, fun k hk => ?_⟩, r, fun k hk h3 => ?_, fun k => ?_⟩, f⟩
  · rcases List.mem_append.1 hx with hx | hx
    · exact (a2.1 x hx).mono fun _ h => .inr h
    · obtain rfl := List.mem_singleton.1 hx
      exact o.1.mono fun _ h => .inl h
  · rcases hk with hk | hk
    · exact o.2 k hk
    · exact a2.2 k hk
  · rcases hk with hk | hk
    · exact c _ hk ((d2 _).2 (.inr h3))
    · exact c2 k hk h3
  · rw [d k, d2 k, or_assoc]
theorem rdA (S : SG F0 h0 h Ps) (i j : Nat) (hi : Ps[i]? = some (ownP kAsk s (Ls.map arow))) (hj : Ps[j]? = some (abagP Ls)) (n : Ls.length ≤ 1000000) (m : ∀ a ∈ Ls, a.l.length ≤ 1000000) : RdA h s Ls :=
  ⟨ownP.rds S i hi, fun _ ha => abagP.is S j hj ha, n, m⟩
theorem lconf_spec {a b : Sl} {la lb : List Lk} (Ra : Rds kLk h a la) (Rb : Rds kLk h b lb) (h1 : la.length < 4611686018427387904) (h2 : lb.length < 4611686018427387904) {Q : Bool → H → Prop} (k : Q (conf la lb) h) : spatelaw11_conflict a b h Q := by
  unfold spatelaw11_conflict
  refine jn_i ?_
  refine for0 (mk := fun (_ : Unit) i => i) (s := ()) h1 (fun j _ g => g = h ∧ ((la.take j).any fun x => lb.any (tst x)) = false) ⟨rfl, by simp⟩ (fun j _ g K hj hI next done => ?_) (fun _ g K hI done => ?_)
  · obtain ⟨rfl, hI⟩ := hI
    unfold spatelaw11_conflict.b1
    refine ite_t (by rw [Ra.len]; exact clt_t hj) (jn_i ?_)
    refine for0 (mk := fun (_ : Unit) i => i) (s := ()) h2 (fun i _ g' => g' = g ∧ ((lb.take i).any (tst la[j])) = false) ⟨rfl, by simp⟩ (fun i _ g' K2 hi hI2 next2 done2 => ?_) (fun _ g' K2 hI2 done2 => ?_)
    · obtain ⟨rfl, hI2⟩ := hI2
      unfold spatelaw11_conflict.b2
      refine ite_t (by rw [Rb.len]; exact clt_t hi) ?_
      refine jn_c (tst la[j] lb[i]) g' (fun K3 hK => ?_) ?_
      · unfold tst at hK
        refine Ra.elt fk_n hj rfl (Rb.elt fk_n hi rfl ?_)
        refine ite_b (fun c => ?_) (fun c => ?_)
        · rw [c, Bool.true_and] at hK
          refine Ra.elt fk_s hj rfl (ite_b (fun c2 => ?_) fun c2 => ?_)
          · rw [c2, Bool.true_and] at hK
            exact Rb.elt fk_s hi rfl hK
          · rw [c2, Bool.false_and] at hK
            exact hK
        · rw [c, Bool.false_and] at hK
          exact hK
      · refine ite_b (fun c => ?_) (fun c => ?_)
        · refine done2 _ _ (done _ _ ?_)
          have : conf la lb = true := List.any_eq_true.2 ⟨_, List.getElem_mem hj, List.any_eq_true.2 ⟨_, List.getElem_mem hi, c⟩⟩
          rw [this] at k; exact k
        · exact next2 () _ ⟨rfl, by rw [any_take _ hi, hI2, c]; rfl⟩
    · obtain ⟨rfl, hI2⟩ := hI2
      unfold spatelaw11_conflict.b2
      refine ite_f (by rw [Rb.len]; exact clt_f (Nat.lt_irrefl _)) (done2 _ _ ?_)
      refine next () _ ⟨rfl, ?_⟩
      rw [List.take_length] at hI2
      rw [any_take _ hj, hI, hI2]; rfl
  · obtain ⟨rfl, hI⟩ := hI
    unfold spatelaw11_conflict.b1
    refine ite_f (by rw [Ra.len]; exact clt_f (Nat.lt_irrefl _)) (done _ _ ?_)
    rw [List.take_length] at hI
    rw [conf_tst, hI] at k; exact k
def posT (Ls : List AK) (t : Int) : Option Nat := Ls.findIdx? fun a => a.t == t
theorem afind_spec (R : Rds kAsk h s (Ls.map arow)) (hl : Ls.length ≤ 1000000) (t : Int) {Q : Int → H → Prop} (k : Q (pl (posT Ls t)) h) : spatelaw11_find s t h Q := by
  unfold spatelaw11_find
  unfold posT at k
  refine jn_i ?_
  have hlen := R.len
  rw [List.length_map] at hlen
  refine for0 (mk := fun (_ : Unit) i => i) (s := ()) (n := Ls.length) (by omega) (fun j _ g' => g' = h ∧ ∀ x ∈ Ls.take j, (x.t == t) = false) ⟨rfl, by simp⟩ (fun j _ g' K hj hI next done => ?_) (fun _ g' K hI done => ?_)
  · obtain ⟨rfl, hI⟩ := hI
    unfold spatelaw11_find.b1
    refine ite_t (by rw [hlen]; exact clt_t hj) (R.elt fq_task (i := j) (by rw [List.length_map]; exact hj) rfl ?_)
    rw [List.getElem_map]
    refine ite_b (fun c => ?_) (fun c => ?_)
    · refine done _ _ ?_
      have : (Ls.findIdx? fun c => c.t == t) = some j := by
        rw [List.findIdx?_eq_some_iff_getElem]
        refine ⟨hj, c, fun i hi => ?_⟩
        have := hI Ls[i] (by rw [List.mem_take_iff_getElem]; exact ⟨i, by omega, rfl⟩)
        simp only [this]; simp
      rw [this] at k; exact k
    · refine next () _ ⟨rfl, fun x hx => ?_⟩
      rw [List.take_add_one, List.getElem?_eq_getElem hj] at hx
      simp only [Option.toList_some, List.mem_append, List.mem_singleton] at hx
      rcases hx with hx | rfl
      · exact hI x hx
      · exact c
  · obtain ⟨rfl, hI⟩ := hI
    unfold spatelaw11_find.b1
    refine ite_f (by rw [hlen]; exact clt_f (Nat.lt_irrefl _)) (done _ _ ?_)
    have : (Ls.findIdx? fun c => c.t == t) = none := by
      rw [List.findIdx?_eq_none_iff]
      intro x hx
      exact hI x (by rw [List.take_length]; exact hx)
    rw [this] at k; exact k
/-- The witness that stops the ask at place i. -/
def Wit (Ls : List AK) (i k : Nat) : Prop := ∃ a b, Ls[i]? = some a ∧ Ls[k]? = some b ∧ k ≠ i ∧ conf a.l b.l = true ∧ (b.g = true ∨ k < i)
structure Fair (Ls : List AK) : Prop where
  j1 : ∀ (i k : Nat) (a b : AK), Ls[i]? = some a → Ls[k]? = some b → i ≠ k → a.g = true → b.g = true → conf a.l b.l = false
  j2 : ∀ (i : Nat) (a : AK), Ls[i]? = some a → a.g = false → ∃ k, k < Ls.length ∧ Wit Ls i k
theorem fair_spec (R : RdA h s Ls) (J : Fair Ls) {Q : Bool → H → Prop} (kq : Q true h) : spatelaw11_fair s h Q := by
  unfold spatelaw11_fair
  have hlen := R.rows.len
  rw [List.length_map] at hlen
  have hn := R.n
  refine jn_i (for0 (mk := fun (_ : Unit) i => i) (s := ()) (n := Ls.length) (by omega) (fun j _ g => g = h) rfl (fun i _ g K hi e next done => ?_) (fun _ g K e done => ?_))
  · subst e
    have ei : Ls[i]? = some Ls[i] := List.getElem?_eq_getElem hi
    have hi' : i < (Ls.map arow).length := by rw [List.length_map]; exact hi
    unfold spatelaw11_fair.b1
    refine ite_t (by rw [hlen]; exact clt_t hi) (jn_i (jn_q (fun st g' => g' = g ∧ ∀ k', k' < Ls.length → Wit Ls i k' → st = true) (fun K3 hK3 => ?_) ?_))
    · refine for0 (mk := fun (st : Bool) i => (st, i)) (s := false) (n := Ls.length) (by omega) (fun k st g' => g' = g ∧ ∀ k', k' < k → Wit Ls i k' → st = true) ⟨rfl, fun k' h => absurd h (Nat.not_lt_zero _)⟩ (fun k st g' K2 hk hI next2 done2 => ?_) (fun st g' K2 hI done2 => ?_)
      · obtain ⟨rfl, hI⟩ := hI
        have ek : Ls[k]? = some Ls[k] := List.getElem?_eq_getElem hk
        have hk' : k < (Ls.map arow).length := by rw [List.length_map]; exact hk
        unfold spatelaw11_fair.b2
        have go : ∀ st' : Bool, (st = true → st' = true) → (Wit Ls i k → st' = true) → K2 (.inl (st', IntKind.i64.wrap ((k : Int) + 1))) g' := fun st' h1 h2 => next2 st' g' ⟨rfl, fun k' hk' w => by
          rcases Nat.lt_or_ge k' k with h | h
          · exact h1 (hI k' h w)
          · obtain rfl : k' = k := by omega
            exact h2 w⟩
        refine ite_t (by rw [hlen]; exact clt_t hk) (jn_i (jn_c (decide (i = k) || !(conf Ls[i].l Ls[k].l)) g' (fun K6 hK6 => ite_b (fun c => ?_) (fun c => ?_)) (ite_b (fun c => ?_) (fun c => ?_))))
        · have c : i = k := by
            have c : ((i : Int) == (k : Int)) = true := c
            rw [beq_iff_eq] at c; omega
          rw [decide_eq_true c, Bool.true_or] at hK6; exact hK6
        · have c : i ≠ k := by
            have c : ((i : Int) == (k : Int)) = false := c
            rw [beq_eq_false_iff_ne] at c; omega
          rw [decide_eq_false c, Bool.false_or] at hK6
          refine R.rows.elt fq_l hi' rfl (R.rows.elt fq_l hk' rfl ?_)
          rw [List.getElem_map, List.getElem_map]
          have m1 := R.m _ (List.getElem_mem hi)
          have m2 := R.m _ (List.getElem_mem hk)
          exact lconf_spec (R.sets _ (List.getElem_mem hi)) (R.sets _ (List.getElem_mem hk)) (by omega) (by omega) hK6
        · refine go st id fun w => ?_
          obtain ⟨a, b, e1, e2, hne, hc, _⟩ := w
          rw [ei] at e1; rw [ek] at e2; cases e1; cases e2
          rw [hc, Bool.or_eq_true, decide_eq_true_eq] at c
          rcases c with c | c
          · exact absurd c.symm hne
          · cases c
        · rw [Bool.or_eq_false_iff, decide_eq_false_iff_not, Bool.not_eq_false'] at c
          refine jn_c (Ls[i].g && Ls[k].g) g' (fun K7 hK7 => R.rows.elt fq_g hi' rfl ?_) (ite_b (fun c2 => ?_) (fun c2 => ?_))
          · rw [List.getElem_map]
            refine ite_b (fun c2 => ?_) (fun c2 => ?_)
            · have c2 : Ls[i].g = true := c2
              rw [c2, Bool.true_and] at hK7
              refine R.rows.elt fq_g hk' rfl ?_
              rw [List.getElem_map]; exact hK7
            · have c2 : Ls[i].g = false := c2
              rw [c2, Bool.false_and] at hK7; exact hK7
          · exfalso
            rw [Bool.and_eq_true] at c2
            have := J.j1 i k _ _ ei ek c.1 c2.1 c2.2
            rw [c.2] at this; cases this
          · refine ite_b (fun c3 => go true (fun _ => rfl) fun _ => rfl) (fun c3 => R.rows.elt fq_g hk' rfl ?_)
            rw [List.getElem_map]
            refine ite_b (fun c4 => go true (fun _ => rfl) fun _ => rfl) (fun c4 => ?_)
            have c4 : Ls[k].g = false := c4
            refine ite_b (fun c5 => R.rows.elt fq_g hk' rfl ?_) (fun c5 => ?_)
            · rw [List.getElem_map]
              refine go _ (fun e => ?_) fun _ => ?_
              · have c3 : st = false := c3
                rw [c3] at e; cases e
              · show (!Ls[k].g) = true
                rw [c4]; rfl
            · refine go false (fun e => ?_) fun w => ?_
              · have c3 : st = false := c3
                rw [c3] at e; cases e
              · obtain ⟨a, b, e1, e2, hne, hc, hw⟩ := w
                rw [ek] at e2; cases e2
                rcases hw with hw | hw
                · rw [c4] at hw; cases hw
                · have c5 : decide ((k : Int) < (i : Int)) = false := c5
                  rw [decide_eq_false_iff_not] at c5; omega
      · obtain ⟨rfl, hI⟩ := hI
        unfold spatelaw11_fair.b2
        exact ite_f (by rw [hlen]; exact clt_f (Nat.lt_irrefl _)) (done2 _ _ (hK3 _ _ ⟨rfl, hI⟩))
    · rintro st g' ⟨rfl, hst⟩
      refine jn_c false g' (fun K4 hK4 => R.rows.elt fq_g hi' rfl ?_) (ite_f rfl (next () _ rfl))
      rw [List.getElem_map]
      refine ite_b (fun c => ?_) (fun c => hK4)
      have c : Ls[i].g = false := by
        have c : (!Ls[i].g) = true := c
        simpa using c
      obtain ⟨k', hk', w⟩ := J.j2 i _ ei c
      rw [hst k' hk' w]; exact hK4
  · subst e
    unfold spatelaw11_fair.b1
    exact ite_f (by rw [hlen]; exact clt_f (Nat.lt_irrefl _)) (done _ _ kq)
theorem Rel.fair {A : AM} (R : Rel A Ls) : Fair Ls := by
  have hp : Nc (held Ls) := (R.h.pairwise_iff (R := fun a b : C => conf a.2 b.2 = false) (fun {x y} e => by rw [conf_comm]; exact e)).2 R.pw
  refine ⟨fun i k a b ha hb hne ga gb => ?_, fun i a ha ga => ?_⟩
  · unfold Nc held at hp
    rw [List.pairwise_map, List.pairwise_filter, List.pairwise_iff_getElem] at hp
    obtain ⟨hi, rfl⟩ := List.getElem?_eq_some_iff.1 ha
    obtain ⟨hk, rfl⟩ := List.getElem?_eq_some_iff.1 hb
    rcases Nat.lt_or_gt_of_ne hne with h | h
    · exact hp i k hi hk h ga gb
    · rw [conf_comm]; exact hp k i hk hi h gb ga
  · obtain ⟨hi, rfl⟩ := List.getElem?_eq_some_iff.1 ha
    have e : wait Ls = wait (Ls.take i) ++ Ls[i].c :: wait (Ls.drop (i + 1)) := by
      unfold wait
      conv => lhs; rw [← List.take_append_drop i Ls, List.drop_eq_getElem_cons hi]
      rw [List.filter_append, List.filter_cons_of_pos (by rw [ga]; rfl), List.map_append, List.map_cons]
    have hf := R.fq (wait (Ls.take i)).length (by rw [← R.q, e]; simp)
    have e2 : ∀ (h : (wait (Ls.take i)).length < A.queue.length), A.queue[(wait (Ls.take i)).length] = Ls[i].c := by
      intro h
      simp only [← R.q, e]
      rw [List.getElem_append_right (Nat.le_refl _)]; simp
    have e3 : A.queue.take (wait (Ls.take i)).length = wait (Ls.take i) := by
      rw [← R.q, e, List.take_left' rfl]
    rw [e2, e3, Bool.or_eq_true] at hf
    rcases hf with hf | hf
    · unfold hit at hf
      obtain ⟨c, hc, p⟩ := List.any_eq_true.1 hf
      have hc := R.h.mem_iff.2 hc
      unfold held at hc
      obtain ⟨b, hb, rfl⟩ := List.mem_map.1 hc
      obtain ⟨hb, gb⟩ := List.mem_filter.1 hb
      obtain ⟨k, hk, rfl⟩ := List.getElem_of_mem hb
      refine ⟨k, hk, _, _, List.getElem?_eq_getElem hi, List.getElem?_eq_getElem hk, fun e => ?_, p, .inl gb⟩
      subst e
      rw [ga] at gb; cases gb
    · unfold hit at hf
      obtain ⟨c, hc, p⟩ := List.any_eq_true.1 hf
      unfold wait at hc
      obtain ⟨b, hb, rfl⟩ := List.mem_map.1 hc
      obtain ⟨hb, gb⟩ := List.mem_filter.1 hb
      obtain ⟨k, hk, rfl⟩ := List.mem_take_iff_getElem.1 hb
      have hk2 : k < i ∧ k < Ls.length := by omega
      exact ⟨k, hk2.2, _, _, List.getElem?_eq_getElem hi, List.getElem?_eq_getElem hk2.2, by omega, p, .inr hk2.1⟩
end
end Go.Proofs.Ytgmihbchcmjmdaa
