/- LocksWide: one turn over the heap. -/
import Derived.Test.YtgmihbchcmjmdaaLawWide
import Derived.Test.YtgmihbchcmjmdaaLkW4
namespace Go.Proofs.Ytgmihbchcmjmdaa
open Go Go.Tr
set_option linter.unusedVariables false
section
variable {F0 : Nat → Prop} {h0 h : H} {Rs : List HP} {s : Sl} {Ls : List AK}
theorem ite_iff {b : Bool} {p : Prop} (h : b = true ↔ p) : b = false ↔ ¬ p := by cases b <;> simp_all
/-- Is the ask at place i stopped? -/
theorem wide_stop {p9 : Option Addr} {p20 : Int} {p22 p24 : Sl} {L : List AK} (R : RdA h s L) (hm : ∀ a ∈ L, Ris a.l ∧ a.l.length ≤ 1024) {i : Nat} (hi : i < L.length) {Q : Bool → H → Prop}
    (kq : ∀ st : Bool, (st = true ↔ ∃ j b, L[j]? = some b ∧ j ≠ i ∧ (b.g = true ∨ j < i) ∧ conf b.l L[i].l = true) → Q st h) : loopE (spatelaw11_LocksWide.b3 p9 s p20 p22 p24 (i : Int)) (false, 0) h Q := by
  have hlen := R.rows.len
  rw [List.length_map] at hlen
  have hn := R.n
  have hi' : i < (L.map arow).length := by rw [List.length_map]; exact hi
  refine for0 (mk := fun (st : Bool) i => (st, i)) (s := false) (n := L.length) (by omega) (fun k st g => g = h ∧ (st = true ↔ ∃ j b, j < k ∧ L[j]? = some b ∧ j ≠ i ∧ (b.g = true ∨ j < i) ∧ conf b.l L[i].l = true)) ⟨rfl, by simp⟩ (fun k st g K hk hI next done => ?_) (fun st g K hI done => ?_)
  · obtain ⟨rfl, hI⟩ := hI
    have hk' : k < (L.map arow).length := by rw [List.length_map]; exact hk
    unfold spatelaw11_LocksWide.b3
    refine ite_t (by rw [hlen]; exact clt_t hk) ?_
    have go : ∀ x : Bool, (x = true ↔ st = true ∨ (k ≠ i ∧ (L[k].g = true ∨ k < i) ∧ conf L[k].l L[i].l = true)) → (x = true ↔ ∃ j b, j < k + 1 ∧ L[j]? = some b ∧ j ≠ i ∧ (b.g = true ∨ j < i) ∧ conf b.l L[i].l = true) := by
      intro x hx
      rw [hx, hI]
      constructor
      · rintro (⟨j, b, h1, h2⟩ | h1)
        · exact ⟨j, b, by omega, h2⟩
        · exact ⟨k, L[k], by omega, List.getElem?_eq_getElem hk, h1⟩
      · rintro ⟨j, b, h1, h2, h3⟩
        rcases Nat.lt_or_ge j k with h | h
        · exact .inl ⟨j, b, h, h2, h3⟩
        · obtain rfl : j = k := by omega
          rw [List.getElem?_eq_getElem hk] at h2
          cases h2
          exact .inr h3
    refine jn_q (fun x g' => g' = g ∧ (x = true ↔ st = true ∨ (k ≠ i ∧ (L[k].g = true ∨ k < i) ∧ conf L[k].l L[i].l = true))) (fun K2 hK2 => ?_) ?_
    · have mk := hm _ (List.getElem_mem hk)
      have mi := hm _ (List.getElem_mem hi)
      refine ite_b (fun c => hK2 _ _ ⟨rfl, ?_⟩) (fun c => ite_b (fun c2 => ?_) (fun c2 => hK2 _ _ ⟨rfl, ?_⟩))
      · have c : st = true := c
        simp [c]
      · have c : st = false := c
        have hne : k ≠ i := by
          have c2 : ((i : Int) != (k : Int)) = true := c2
          rw [bne_iff_ne] at c2; omega
        refine R.rows.elt fq_g hk' rfl ?_
        rw [List.getElem_map]
        refine ite_b (fun c3 => ?_) (fun c3 => ite_b (fun c4 => ?_) (fun c4 => hK2 _ _ ⟨rfl, ?_⟩))
        · have c3 : L[k].g = true := c3
          refine R.rows.elt fq_l hk' rfl (R.rows.elt fq_l hi' rfl ?_)
          rw [List.getElem_map, List.getElem_map]
          refine meets_spec (R.sets _ (List.getElem_mem hk)) (R.sets _ (List.getElem_mem hi)) mk.1 mi.1 (by omega) (by omega) (hK2 _ _ ⟨rfl, ?_⟩)
          simp [c, hne, c3]
        · have c3 : L[k].g = false := c3
          have c4 : k < i := by
            have c4 : decide ((k : Int) < (i : Int)) = true := c4
            rw [decide_eq_true_eq] at c4; omega
          refine R.rows.elt fq_l hk' rfl (R.rows.elt fq_l hi' rfl ?_)
          rw [List.getElem_map, List.getElem_map]
          refine meets_spec (R.sets _ (List.getElem_mem hk)) (R.sets _ (List.getElem_mem hi)) mk.1 mi.1 (by omega) (by omega) (hK2 _ _ ⟨rfl, ?_⟩)
          simp [c, hne, c3, c4]
        · have c3 : L[k].g = false := c3
          have c4 : ¬ k < i := by
            have c4 : decide ((k : Int) < (i : Int)) = false := c4
            rw [decide_eq_false_iff_not] at c4; omega
          simp [c, c3, c4]
      · have c : st = false := c
        have hne : k = i := by
          have c2 : ((i : Int) != (k : Int)) = false := c2
          simp at c2; omega
        simp [c, hne]
    · rintro x g' ⟨rfl, hx⟩
      exact next x g' ⟨rfl, go x hx⟩
  · obtain ⟨rfl, hI⟩ := hI
    unfold spatelaw11_LocksWide.b3
    refine ite_f (by rw [hlen]; exact clt_f (Nat.lt_irrefl _)) (done _ _ (kq st ?_))
    rw [hI]
    constructor
    · rintro ⟨j, b, _, h⟩; exact ⟨j, b, h⟩
    · rintro ⟨j, b, h, h2⟩; exact ⟨j, b, (List.getElem?_eq_some_iff.1 h).1, h, h2⟩
theorem map_set' {α β : Type _} (f : α → β) (l : List α) (i : Nat) (a : α) : (l.set i a).map f = (l.map f).set i (f a) := by
  rw [List.map_set]
/-- Who is granted, told as it was wanted. -/
theorem wide_want {p9 : Option Addr} {p20 : Int} {p22 : Sl} {H0 Q0 : List C} (hn : (Ls.map (·.t)).Nodup) (hl : Ls.length ≤ 1000) (hm : ∀ a ∈ Ls, Ris a.l ∧ a.l.length ≤ 1024) (hh : (held Ls).Perm H0) (hq : wait Ls = Q0)
    (S : SG F0 h0 h (ownP kAsk s (Ls.map arow) :: abagP Ls :: Rs)) {Q : Sl → H → Prop}
    (kq : ∀ w h', SG F0 h0 h' (ownP (kI .i64) w (thr H0 [] Q0).2.2 :: ownP kAsk s ((Ls.map (mkd (thr H0 [] Q0).2.2)).map arow) :: abagP (Ls.map (mkd (thr H0 [] Q0).2.2)) :: Rs) → Q w h') : loopE (spatelaw11_LocksWide.b2 p9 s p20 p22) (Sl.nil, 0) h Q := by
  have hlen := ownP.len S 0 rfl
  rw [List.length_map] at hlen
  have S0 : SG F0 h0 h (ownP (kI .i64) Sl.nil [] :: ownP kAsk s ((cur Ls 0 []).map arow) :: abagP (cur Ls 0 []) :: Rs) := by
    have e : cur Ls 0 [] = Ls := by unfold cur; simp
    rw [e]
    exact S.made (Ext.refl h) (Own.nil (kI .i64) h _)
  refine for0 (mk := fun (w : Sl) i => (w, i)) (s := Sl.nil) (n := Ls.length) (by omega) (fun i w h' => ∃ T has left, WJ H0 Q0 Ls i T has left ∧ T.length ≤ i ∧ SG F0 h0 h' (ownP (kI .i64) w T :: ownP kAsk s ((cur Ls i T).map arow) :: abagP (cur Ls i T) :: Rs)) ⟨[], H0, [], WJ.start hh hq, Nat.le_refl _, S0⟩ (fun i w h1 K hi hI next done => ?_) (fun w h1 K hI done => ?_)
  · obtain ⟨T, has, left, J, hT, S1⟩ := hI
    unfold spatelaw11_LocksWide.b2
    have hcl : (cur Ls i T).length = Ls.length := cur_len (by omega)
    have hic : i < (cur Ls i T).length := by omega
    have hic' : i < ((cur Ls i T).map arow).length := by rw [List.length_map]; exact hic
    have hat : (cur Ls i T)[i] = Ls[i] := by
      have := cur_at (T := T) hi
      rw [List.getElem?_eq_getElem hic] at this
      exact Option.some.inj this
    have hmc : ∀ a ∈ cur Ls i T, Ris a.l ∧ a.l.length ≤ 1024 := by
      intro a ha
      unfold cur at ha
      rcases List.mem_append.1 ha with ha | ha
      · obtain ⟨b, hb, rfl⟩ := List.mem_map.1 ha
        have : (mkd T b).l = b.l := by unfold mkd; split <;> rfl
        rw [this]; exact hm b (List.mem_of_mem_take hb)
      · exact hm a (List.mem_of_mem_drop ha)
    have RA : RdA h1 s (cur Ls i T) := rdA S1 1 2 rfl rfl (by omega) fun a ha => by have := (hmc a ha).2; omega
    refine ite_t (by rw [hlen]; exact clt_t hi) (jn_q (fun w' h' => ∃ T' has' left', WJ H0 Q0 Ls (i + 1) T' has' left' ∧ T'.length ≤ i + 1 ∧ SG F0 h0 h' (ownP (kI .i64) w' T' :: ownP kAsk s ((cur Ls (i + 1) T').map arow) :: abagP (cur Ls (i + 1) T') :: Rs)) (fun K2 hK2 => ?_) fun w' h2 hI => next w' h2 hI)
    refine RA.rows.elt fq_g hic' rfl ?_
    rw [List.getElem_map, hat]
    refine ite_b (fun c => ?_) (fun c => jn_i ?_)
    · have c : Ls[i].g = true := c
      refine hK2 _ _ ⟨T, has, left, J.had hn hi c, by omega, ?_⟩
      rw [J.same hn hi]; exact S1
    · have c : Ls[i].g = false := c
      refine wide_stop RA hmc hic fun st hst => ?_
      rw [hat, J.stop hi c] at hst
      refine ite_b (fun c2 => ?_) (fun c2 => ?_)
      · have c2 : st = false := by simpa using c2
        have hh : (hit has Ls[i].c.2 || hit left Ls[i].c.2) = false := by
          cases hx : (hit has Ls[i].c.2 || hit left Ls[i].c.2) with
          | false => rfl
          | true => rw [hst.2 hx] at c2; cases c2
        obtain ⟨q, hq'⟩ := ownP.ix S1 1 (K := kAsk) rfl hic' (n := 3) rfl
        obtain ⟨h4, hs4, S4⟩ := ownP.stF fq_g S1 1 rfl (List.getElem?_eq_getElem hic') rfl hq' true
        refine rd_some hq' (rd_some hs4 ?_)
        have e : ((cur Ls i T).map arow).set i { ((cur Ls i T).map arow)[i] with f2 := true } = (cur Ls (i + 1) (T ++ [Ls[i].t])).map arow := by
          rw [cur_go J hn hi, map_set', List.getElem_map, hat]; rfl
        rw [e] at S4
        have S4 : SG F0 h0 h4 (ownP (kI .i64) w T :: ownP kAsk s ((cur Ls (i + 1) (T ++ [Ls[i].t])).map arow) :: abagP (cur Ls i T) :: Rs) := S4
        have S5 : SG F0 h0 h4 (ownP (kI .i64) w T :: ownP kAsk s ((cur Ls (i + 1) (T ++ [Ls[i].t])).map arow) :: abagP (cur Ls (i + 1) (T ++ [Ls[i].t])) :: Rs) := abagP.sub S4 2 rfl fun a ha => by
          rw [cur_go J hn hi] at ha
          rcases List.mem_or_eq_of_mem_set ha with ha | rfl
          · exact ⟨a, ha, rfl, rfl⟩
          · exact ⟨(cur Ls i T)[i], List.getElem_mem hic, by rw [hat], by rw [hat]⟩
        have hic2 : i < ((cur Ls (i + 1) (T ++ [Ls[i].t])).map arow).length := by rw [List.length_map, cur_len (by omega)]; exact hi
        refine (ownP.rds (K := kAsk) S5 1 rfl).elt fq_task hic2 rfl ?_
        have e2 : ((cur Ls (i + 1) (T ++ [Ls[i].t])).map arow)[i].f0 = Ls[i].t := by
          have : ∀ (l : List AK) (hl : i < (l.map arow).length), l = (cur Ls i T).set i { Ls[i] with g := true } → (l.map arow)[i].f0 = Ls[i].t := by
            rintro _ hl rfl
            rw [List.getElem_map, List.getElem_set_self]; rfl
          exact this _ hic2 (cur_go J hn hi)
        rw [e2]
        refine ownP.push (K := kI .i64) (by decide) S5 0 rfl Ls[i].t (by omega) (by omega) fun w' h6 S6 => hK2 w' h6 ⟨_, _, _, J.go hn hi c hh, by simp; omega, S6⟩
      · have c2 : st = true := by simpa using c2
        refine hK2 _ _ ⟨T, has, _, J.hit hn hi c (hst.1 c2), by omega, ?_⟩
        rw [J.same hn hi]; exact S1
  · obtain ⟨T, has, left, J, hT, S1⟩ := hI
    unfold spatelaw11_LocksWide.b2
    refine ite_f (by rw [hlen]; exact clt_f (Nat.lt_irrefl _)) (done _ _ (kq w h1 ?_))
    have e := J.e
    rw [List.drop_length] at e
    have e2 : (thr H0 [] Q0).2.2 = T := by rw [e]; simp [wait, thr]
    have e3 : cur Ls Ls.length T = Ls.map (mkd T) := by unfold cur; simp
    rw [e2, ← e3]; exact S1
end
end Go.Proofs.Ytgmihbchcmjmdaa
