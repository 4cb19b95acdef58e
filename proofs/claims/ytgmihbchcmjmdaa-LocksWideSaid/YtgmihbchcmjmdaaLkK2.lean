/- The asks in memory: who waits, one less, those told marked. -/
import Derived.Test.YtgmihbchcmjmdaaLkK
import Derived.Test.YtgmihbchcmjmdaaG1
namespace Go.Proofs.Ytgmihbchcmjmdaa
open Go Go.Tr
set_option linter.unusedVariables false
section
variable {F0 : Nat → Prop} {h0 h : H} {Ps Rs : List HP} {s : Sl} {Ls : List AK}
theorem aqueue_spec (S : SG F0 h0 h Ps) (i : Nat) (hi : Ps[i]? = some (ownP kAsk s (Ls.map arow))) (hl : Ls.length ≤ 1000000) {Q : Sl → H → Prop} (k : ∀ s' h', SG F0 h0 h' (ownP (kI .i64) s' ((wait Ls).map (·.1)) :: Ps) → Q s' h') : spatelaw11_queue s h Q := by
  unfold spatelaw11_queue
  have hlen := ownP.len S i hi
  rw [List.length_map] at hlen
  refine jn_i (for0 (mk := fun (s : Sl) i => (s, i)) (s := Sl.nil) (n := Ls.length) (by omega) (fun j s' h' => SG F0 h0 h' (ownP (kI .i64) s' ((wait (Ls.take j)).map (·.1)) :: Ps)) (S.made (Ext.refl h) (Own.nil (kI .i64) h _)) (fun j s' h' K hj S1 next done => ?_) (fun s' h' K S1 done => ?_))
  · unfold spatelaw11_queue.b1
    have R := ownP.rds S1 (i + 1) (by rw [List.getElem?_cons_succ]; exact hi)
    have hj' : j < (Ls.map arow).length := by rw [List.length_map]; exact hj
    have hw : wait (Ls.take (j + 1)) = wait (Ls.take j) ++ if Ls[j].g then [] else [Ls[j].c] := by
      unfold wait
      rw [List.take_add_one, List.getElem?_eq_getElem hj, Option.toList_some, List.filter_append, List.map_append]
      congr 1
      cases hg : Ls[j].g <;> simp [hg]
    have hwl : ((wait (Ls.take j)).map (·.1)).length ≤ Ls.length := by
      unfold wait
      rw [List.length_map, List.length_map]
      exact Nat.le_trans (List.length_filter_le _ _) (by simp; omega)
    refine ite_t (by rw [hlen]; exact clt_t hj) (jn_i (R.elt fq_g hj' rfl ?_))
    rw [List.getElem_map]
    refine ite_b (fun c => ?_) (fun c => ?_)
    · have c : Ls[j].g = false := by
        have c : (!Ls[j].g) = true := c
        simpa using c
      refine R.elt fq_task hj' rfl ?_
      rw [List.getElem_map]
      refine ownP.push (K := kI .i64) (by decide) S1 0 rfl Ls[j].t (by omega) (by omega) fun o' h6 S6 => next o' h6 ?_
      rw [hw, c, List.map_append]; exact S6
    · have c : Ls[j].g = true := by
        have c : (!Ls[j].g) = false := c
        simpa using c
      refine next s' h' ?_
      rw [hw, c]; simpa using S1
  · unfold spatelaw11_queue.b1
    refine ite_f (by rw [hlen]; exact clt_f (Nat.lt_irrefl _)) (done _ _ (k s' h' ?_))
    rw [List.take_length] at S1; exact S1
theorem awithout_spec {xs : List S34} (S : SG F0 h0 h Ps) (R : Rds kAsk h s xs) (hl : xs.length ≤ 1000000) {i : Nat} (hi : i < xs.length) {Q : Sl → H → Prop} (k : ∀ s' h', SG F0 h0 h' (ownP kAsk s' (xs.eraseIdx i) :: Ps) → Q s' h') : spatelaw11_without s (i : Int) h Q := by
  unfold spatelaw11_without
  obtain ⟨x1, hx1, R1, _⟩ := R.slx_hi (n := i) (by omega) (w := 3) rfl
  refine rd_some hx1 (SG.copied (K := kAsk) (by decide) S rfl rfl R1 (by simp; omega) (by simp; omega) fun s2 h1 e1 S1 => ?_)
  obtain ⟨x3, hx3, R3, _⟩ := (R.ext e1).slx_lo (n := i + 1) (by omega) (w := 3) rfl
  refine rd_some (by rw [wrap64_id (by omega) (by omega)]; exact hx3) (ownP.app (K := kAsk) (by decide) S1 0 rfl R3 (by simp; omega) (by simp; omega) fun s3 h2 S2 => k s3 h2 ?_)
  rw [List.eraseIdx_eq_take_drop_succ]; exact S2
theorem posT_at (hn : (Ls.map (·.t)).Nodup) {i : Nat} (hi : i < Ls.length) : posT Ls Ls[i].t = some i := by
  unfold posT
  rw [List.findIdx?_eq_some_iff_getElem]
  refine ⟨hi, by simp, fun j hj => ?_⟩
  rw [List.nodup_iff_pairwise_ne, List.pairwise_map, List.pairwise_iff_getElem] at hn
  have := hn j i (by omega) hi hj
  simpa using this
theorem posT_mk (T : List Int) (u : Int) : posT (Ls.map (mkd T)) u = posT Ls u := by
  unfold posT
  rw [List.findIdx?_map]
  congr 1
  funext a
  simp only [Function.comp, mk_t]
theorem pos_inc (hn : (Ls.map (·.t)).Nodup) {T : List Int} (hs : T.Sublist (Ls.map (·.t))) : T.Pairwise fun u v => ∀ i k, posT Ls u = some i → posT Ls v = some k → i < k := by
  refine List.Pairwise.sublist hs ?_
  rw [List.pairwise_map, List.pairwise_iff_getElem]
  intro i k hi hk h i' k' e1 e2
  rw [posT_at hn hi] at e1
  rw [posT_at hn hk] at e2
  cases e1; cases e2; exact h
theorem grant_spec {ts : Sl} {T : List Int} (S : SG F0 h0 h (ownP kAsk s (Ls.map arow) :: abagP Ls :: ownP (kI .i64) ts T :: Rs)) (hn : (Ls.map (·.t)).Nodup) (hs : T.Sublist ((Ls.filter fun a => !a.g).map (·.t))) (hl : Ls.length ≤ 1000000) (hm : ∀ a ∈ Ls, a.l.length ≤ 1000000)
    (J : Fair (Ls.map (mkd T))) {Q : Bool → H → Prop} (kq : ∀ h', SG F0 h0 h' (ownP kAsk s ((Ls.map (mkd T)).map arow) :: abagP (Ls.map (mkd T)) :: ownP (kI .i64) ts T :: Rs) → Q true h') : spatelaw11_grant s ts h Q := by
  unfold spatelaw11_grant
  have hs2 : T.Sublist (Ls.map (·.t)) := hs.trans (List.Sublist.map _ List.filter_sublist)
  have hTl : T.length ≤ Ls.length := by have := hs2.length_le; simpa using this
  have hTn : T.Nodup := hn.sublist hs2
  have hinc := pos_inc hn hs2
  have htl : ts.len = T.length := ownP.len (K := kI .i64) S 2 rfl
  have hmk0 : Ls.map (mkd (T.take 0)) = Ls := by
    rw [List.take_zero]
    conv => rhs; rw [← List.map_id Ls]
    congr 1
  refine jn_i (for0 (mk := fun (l : Int) i => (l, i)) (s := -1) (n := T.length) (by omega) (fun j l h' => SG F0 h0 h' (ownP kAsk s ((Ls.map (mkd (T.take j))).map arow) :: abagP Ls :: ownP (kI .i64) ts T :: Rs) ∧ (l = -1 ∨ ∃ (i k : Nat) (hi : i < T.length), i < j ∧ posT Ls T[i] = some k ∧ l = k)) ⟨by rw [hmk0]; exact S, .inl rfl⟩ (fun j l h' K hj hI next done => ?_) (fun l h' K hI done => ?_))
  · obtain ⟨S1, hlast⟩ := hI
    unfold spatelaw11_grant.b1
    have R := ownP.rds (K := kAsk) S1 0 rfl
    refine ite_t (by rw [htl]; exact clt_t hj) ((ownP.rds (K := kI .i64) S1 2 rfl).elt0 hj rfl ?_)
    refine afind_spec R (by rw [List.length_map]; exact hl) T[j] ?_
    rw [posT_mk]
    -- who is told waits
    obtain ⟨a, ha, hat⟩ := List.mem_map.1 (hs.subset (List.getElem_mem hj))
    obtain ⟨ha, hag⟩ := List.mem_filter.1 ha
    obtain ⟨k, hk, rfl⟩ := List.getElem_of_mem ha
    have hat : Ls[k].t = T[j] := hat
    have hp : posT Ls T[j] = some k := by rw [← hat]; exact posT_at hn hk
    rw [hp]
    have hk' : k < ((Ls.map (mkd (T.take j))).map arow).length := by rw [List.length_map, List.length_map]; exact hk
    have hnot : T[j] ∉ T.take j := by
      intro hmem
      obtain ⟨i, hi, e⟩ := List.mem_take_iff_getElem.1 hmem
      rw [List.nodup_iff_pairwise_ne, List.pairwise_iff_getElem] at hTn
      exact hTn i j (by omega) hj (by omega) e
    have hg : (mkd (T.take j) Ls[k]).g = false := by
      rw [mk_g, hat]
      have : Ls[k].g = false := by simpa using hag
      rw [this]; simpa using hnot
    refine jn_c false h' (fun K2 hK => ite_f (by show decide ((k : Int) < 0) = false; rw [decide_eq_false_iff_not]; omega) (R.elt fq_g hk' rfl ?_)) (ite_f rfl ?_)
    · rw [List.getElem_map, List.getElem_map]
      refine ite_f hg ?_
      have : decide (pl (some k) ≤ l) = false := by
        rw [decide_eq_false_iff_not]
        rcases hlast with rfl | ⟨i, k', hi, hij, hpi, rfl⟩
        · show ¬ (k : Int) ≤ -1; omega
        · have h1 := List.pairwise_iff_getElem.1 hinc i j hi hj hij k' k hpi hp
          show ¬ (k : Int) ≤ k'; omega
      rw [this]; exact hK
    · obtain ⟨q, hq⟩ := ownP.ix S1 0 (K := kAsk) rfl hk' (n := 3) rfl
      obtain ⟨h4, hst, S4⟩ := ownP.stF fq_g S1 0 rfl (List.getElem?_eq_getElem hk') rfl hq true
      refine rd_some hq (rd_some hst (next _ h4 ⟨?_, .inr ⟨j, k, hj, by omega, hp, rfl⟩⟩))
      have e : (((Ls.map (mkd (T.take j))).map arow).set k { ((Ls.map (mkd (T.take j))).map arow)[k] with f2 := true }) = (Ls.map (mkd (T.take (j + 1)))).map arow := by
        apply List.ext_getElem?
        intro m
        have htk : T.take (j + 1) = T.take j ++ [T[j]] := by rw [List.take_add_one, List.getElem?_eq_getElem hj]; rfl
        by_cases hmk : k = m
        · subst hmk
          rw [List.getElem?_set_self hk', List.getElem?_map, List.getElem?_map, List.getElem?_eq_getElem hk, List.getElem_map, List.getElem_map]
          simp only [Option.map_some, Option.some.injEq]
          have h1 : Ls[k].t ∈ T.take (j + 1) := by rw [htk, hat]; exact List.mem_append_right _ (List.mem_singleton.2 rfl)
          have h2 : Ls[k].t ∉ T.take j := by rw [hat]; exact hnot
          unfold mkd arow
          rw [if_pos h1, if_neg h2]
        · rw [List.getElem?_set_ne hmk, List.getElem?_map, List.getElem?_map, List.getElem?_map, List.getElem?_map]
          rcases Nat.lt_or_ge m Ls.length with hml | hml
          · rw [List.getElem?_eq_getElem hml]
            simp only [Option.map_some, Option.some.injEq]
            have hne : Ls[m].t ≠ T[j] := fun e => by
              have := posT_at hn hml
              rw [e, hp] at this
              exact hmk (by simpa using this)
            have : (Ls[m].t ∈ T.take (j + 1)) = (Ls[m].t ∈ T.take j) := by
              apply propext
              rw [htk, List.mem_append, List.mem_singleton]
              exact ⟨fun h => h.resolve_right hne, .inl⟩
            unfold mkd
            simp only [this]
          · rw [List.getElem?_eq_none hml]; rfl
      have S5 : SG F0 h0 h4 (ownP kAsk s (((Ls.map (mkd (T.take j))).map arow).set k { ((Ls.map (mkd (T.take j))).map arow)[k] with f2 := true }) :: abagP Ls :: ownP (kI .i64) ts T :: Rs) := S4
      rw [e] at S5; exact S5
  · obtain ⟨S1, _⟩ := hI
    unfold spatelaw11_grant.b1
    refine ite_f (by rw [htl]; exact clt_f (Nat.lt_irrefl _)) (done _ _ ?_)
    rw [List.take_length] at S1
    have S2 : SG F0 h0 h' (ownP kAsk s ((Ls.map (mkd T)).map arow) :: abagP (Ls.map (mkd T)) :: ownP (kI .i64) ts T :: Rs) := abagP.sub S1 1 rfl fun a ha => by
      obtain ⟨b, hb, rfl⟩ := List.mem_map.1 ha
      refine ⟨b, hb, ?_, ?_⟩ <;> (unfold mkd; split <;> rfl)
    have hm' : ∀ a ∈ Ls.map (mkd T), a.l.length ≤ 1000000 := fun a ha => by
      obtain ⟨b, hb, rfl⟩ := List.mem_map.1 ha
      have : (mkd T b).l = b.l := by unfold mkd; split <;> rfl
      rw [this]; exact hm b hb
    exact fair_spec (rdA S2 0 1 rfl rfl (by rw [List.length_map]; exact hl) hm') J (kq h' S2)
end
end Go.Proofs.Ytgmihbchcmjmdaa
