/- What the looks say of each ask. -/
import Derived.Test.YtgmihbchcmjmdaaLkK2
import Derived.Test.YtgmihbchcmjmdaaLawEnds
namespace Go.Proofs.Ytgmihbchcmjmdaa
open Go Go.Tr
set_option linter.unusedVariables false
theorem findC_mem {l : List C} (hn : (l.map (·.1)).Nodup) {c : C} (hc : c ∈ l) : ∃ i, findC l c.1 = some i ∧ l[i]? = some c := by
  obtain ⟨i, hi, rfl⟩ := List.getElem_of_mem hc
  refine ⟨i, ?_, List.getElem?_eq_getElem hi⟩
  unfold findC
  rw [List.findIdx?_eq_some_iff_getElem]
  refine ⟨hi, by simp, fun j hj => ?_⟩
  rw [List.nodup_iff_pairwise_ne, List.pairwise_map, List.pairwise_iff_getElem] at hn
  have := hn j i (by omega) hi hj
  simpa using this
section
variable {A : AM} {Ls : List AK} {B : Nat}
theorem uniq (hn : (Ls.map (·.t)).Nodup) {a b : AK} (ha : a ∈ Ls) (hb : b ∈ Ls) (e : a.t = b.t) : a = b := by
  obtain ⟨i, hi, rfl⟩ := List.getElem_of_mem ha
  obtain ⟨k, hk, rfl⟩ := List.getElem_of_mem hb
  have h1 := posT_at hn hi
  have h2 := posT_at hn hk
  rw [e, h2] at h1
  have : k = i := by simpa using h1
  subst this; rfl
theorem Rel.hasNod (R : Rel A Ls) : (A.has.map (·.1)).Nodup := by
  refine (R.h.map (·.1)).nodup_iff.1 ?_
  have : (held Ls).map (·.1) = (Ls.filter fun a => a.g).map (·.t) := by unfold held; rw [List.map_map]; rfl
  rw [this]
  exact R.nd.sublist (List.Sublist.map _ List.filter_sublist)
theorem Rel.noQueue (R : Rel A Ls) {a : AK} (ha : a ∈ Ls) (hg : a.g = true) : A.waits a.t = false := by
  unfold AM.waits
  rw [findC_isSome, List.any_eq_false]
  intro c hc e
  rw [← R.q] at hc
  unfold wait at hc
  obtain ⟨b, hb, rfl⟩ := List.mem_map.1 hc
  obtain ⟨hb, gb⟩ := List.mem_filter.1 hb
  have e : b.t = a.t := by
    have e : (b.c.1 == a.t) = true := e
    rw [beq_iff_eq] at e; exact e
  have := uniq R.nd hb ha e
  subst this
  rw [hg] at gb; cases gb
theorem Rel.noHas (R : Rel A Ls) {a : AK} (ha : a ∈ Ls) (hg : a.g = false) : findC A.has a.t = none := by
  cases h : findC A.has a.t with
  | none => rfl
  | some i =>
    exfalso
    have : (A.has.any fun c => c.1 == a.t) = true := by rw [← findC_isSome, h]; rfl
    obtain ⟨c, hc, e⟩ := List.any_eq_true.1 this
    have hc := R.h.mem_iff.2 hc
    unfold held at hc
    obtain ⟨b, hb, rfl⟩ := List.mem_map.1 hc
    obtain ⟨hb, gb⟩ := List.mem_filter.1 hb
    have e : b.t = a.t := by
      have e : (b.c.1 == a.t) = true := e
      rw [beq_iff_eq] at e; exact e
    have := uniq R.nd hb ha e
    subst this
    rw [hg] at gb; cases gb
theorem Rel.hasC (R : Rel A Ls) {a : AK} (ha : a ∈ Ls) (hg : a.g = true) : ∃ i, findC A.has a.t = some i ∧ A.has[i]? = some a.c := by
  refine findC_mem R.hasNod (c := a.c) (R.h.mem_iff.1 ?_)
  unfold held
  exact List.mem_map_of_mem (List.mem_filter.2 ⟨ha, hg⟩)
theorem Rel.hasG (R : Rel A Ls) {a : AK} (ha : a ∈ Ls) (hg : a.g = true) : A.hasL a.t = AM.sortL A.locks a.l := by
  obtain ⟨i, h1, h2⟩ := R.hasC ha hg
  unfold AM.hasL
  rw [h1]; simp only [h2]; rfl
theorem Rel.hasW (R : Rel A Ls) {a : AK} (ha : a ∈ Ls) (hg : a.g = false) : A.hasL a.t = [] ∧ A.waits a.t = true := by
  refine ⟨by unfold AM.hasL; rw [R.noHas ha hg], ?_⟩
  unfold AM.waits
  rw [findC_isSome, List.any_eq_true]
  refine ⟨a.c, ?_, by show (a.t == a.t) = true; simp⟩
  rw [← R.q]
  unfold wait
  exact List.mem_map_of_mem (List.mem_filter.2 ⟨ha, by rw [hg]; rfl⟩)
theorem Rel.okS (R : Rel A Ls) (ok : A.Ok B) {a : AK} (ha : a ∈ Ls) : okSet A.locks a.l = true :=
  ok.ok a.c (List.mem_append.2 (R.mem.1 (List.mem_map_of_mem ha)))
end
section
variable {F0 : Nat → Prop} {h0 h : H} {Rs : List HP} {s : Sl} {Ls : List AK} {A : AM} {B : Nat}
theorem says_spec (ok : A.Ok B) (hB : B ≤ 100000000) (R : Rel A Ls) (hl : Ls.length ≤ 1000000) (hm : ∀ a ∈ Ls, a.l.length ≤ 1000000) {m : Nat} (S : SG F0 h0 h (mgrP m A :: ownP kAsk s (Ls.map arow) :: abagP Ls :: Rs)) {Q : Bool → H → Prop}
    (kq : ∀ h', SG F0 h0 h' (mgrP m A :: ownP kAsk s (Ls.map arow) :: abagP Ls :: Rs) → Q true h') : spatelaw11_says (some ⟨m, 0, none⟩) s h Q := by
  unfold spatelaw11_says
  have hlen := ownP.len (K := kAsk) S 1 rfl
  rw [List.length_map] at hlen
  refine jn_i (for0 (mk := fun (_ : Unit) i => i) (s := ()) (n := Ls.length) (by omega) (fun j _ h' => SG F0 h0 h' (mgrP m A :: ownP kAsk s (Ls.map arow) :: abagP Ls :: Rs)) S (fun i _ h1 K hi S1 next done => ?_) (fun _ h1 K S1 done => ?_))
  · unfold spatelaw11_says.b1
    have hi' : i < (Ls.map arow).length := by rw [List.length_map]; exact hi
    have ha : Ls[i] ∈ Ls := List.getElem_mem hi
    have hok := R.okS ok ha
    have hso := ok_sort hok
    have hml := hm _ ha
    refine ite_t (by rw [hlen]; exact clt_t hi) (jn_i ((ownP.rds (K := kAsk) S1 1 rfl).elt fq_task hi' rfl ?_))
    rw [List.getElem_map]
    refine S1.go1 0 rfl (has_spec ok (by omega) Ls[i].t) fun hs h2 S2 => ?_
    have S2 : SG F0 h0 h2 (ownP kLk hs (A.hasL Ls[i].t) :: mgrP m A :: ownP kAsk s (Ls.map arow) :: abagP Ls :: Rs) := S2
    have zl : hs.len = (A.hasL Ls[i].t).length := ownP.len (K := kLk) S2 0 rfl
    refine jn_q (fun v h' => v = false ∧ SG F0 h0 h' (ownP kLk hs (A.hasL Ls[i].t) :: mgrP m A :: ownP kAsk s (Ls.map arow) :: abagP Ls :: Rs)) (fun K3 hK3 => ?_) ?_
    · have R2 := ownP.rds (K := kAsk) S2 2 rfl
      refine R2.elt fq_task hi' rfl ?_
      obtain ⟨q, hq, hx⟩ := R2.ix hi' (n := 3) rfl
      refine rd_some hq (rd_some (ld_fld fq_g hx) ?_)
      rw [List.getElem_map]
      refine S2.go1 1 rfl (waits_spec ok (by omega) Ls[i].t) fun _ h3 S3 => ?_
      have S3 : SG F0 h0 h3 (ownP kLk hs (A.hasL Ls[i].t) :: mgrP m A :: ownP kAsk s (Ls.map arow) :: abagP Ls :: Rs) := S3
      have R3 := ownP.rds (K := kAsk) S3 2 rfl
      obtain ⟨q', hq', hx'⟩ := R3.ix hi' (n := 3) rfl
      have hqq : q' = q := by rw [hq] at hq'; exact (Option.some.inj hq').symm
      subst hqq
      rw [List.getElem_map] at hx'
      refine ⟨ld_fld fq_g hx', ?_⟩
      have hw : A.waits Ls[i].t = !Ls[i].g := by
        cases hg : Ls[i].g with
        | true => rw [R.noQueue ha hg]; rfl
        | false => rw [(R.hasW ha hg).2]; rfl
      have hp : decide (((hs.len : Nat) : Int) > 0) = Ls[i].g := by
        rw [zl, AM.has_pos ok]
        cases hg : Ls[i].g with
        | true => obtain ⟨x, hx, _⟩ := R.hasC ha hg; rw [hx]; rfl
        | false => rw [R.noHas ha hg]; rfl
      refine ite_f (by rw [hw]; show ((!Ls[i].g) == Ls[i].g) = false; cases Ls[i].g <;> rfl) (R3.elt fq_g hi' rfl ?_)
      rw [List.getElem_map, hp]
      refine hK3 _ _ ⟨?_, S3⟩
      show (!(Ls[i].g == Ls[i].g)) = false
      rw [beq_self_eq_true]; rfl
    · rintro _ h3 ⟨rfl, S3⟩
      have R3 := ownP.rds (K := kAsk) S3 2 rfl
      have RH := ownP.rds (K := kLk) S3 0 rfl
      refine ite_f rfl (jn_c false h3 (fun K4 hK4 => R3.elt fq_g hi' rfl ?_) (ite_f rfl ?_))
      · rw [List.getElem_map]
        refine ite_b (fun c => R3.elt fq_l hi' rfl ?_) (fun c => hK4)
        have c : Ls[i].g = true := c
        rw [List.getElem_map]
        have hx := (abagP.is S3 3 rfl ha).len
        have e : ((hs.len : Int) != (Ls[i].s.len : Int)) = false := by rw [zl, hx, R.hasG ha c, hso.2.1]; simp
        show K4 ((hs.len : Int) != (Ls[i].s.len : Int)) h3
        rw [e]; exact hK4
      · have hss := sortL_len2 ok Ls[i].t
        refine for0 (mk := fun (_ : Unit) i => i) (s := ()) (n := (A.hasL Ls[i].t).length) (by omega) (fun k _ h' => h' = h3) rfl (fun k _ h4 K2 hk e next2 done2 => ?_) (fun _ h4 K2 e done2 => ?_)
        · subst e
          unfold spatelaw11_says.b2
          have hg : Ls[i].g = true := by
            cases hg : Ls[i].g with
            | true => rfl
            | false => rw [(R.hasW ha hg).1] at hk; exact absurd hk (Nat.not_lt_zero _)
          have eH := R.hasG ha hg
          have hmem : (A.hasL Ls[i].t)[k] ∈ Ls[i].l := by
            have h1 : ∀ x ∈ A.hasL Ls[i].t, x ∈ Ls[i].l := by rw [eH]; exact fun x hx => (sortL_mem.1 hx).1
            exact h1 _ (List.getElem_mem hk)
          have RS := abagP.is S3 3 rfl ha
          refine ite_t (by rw [zl]; exact clt_t hk) (jn_i (jn_c true h4 (fun K6 hK6 => ?_) ?_))
          · have hk1 : (Ls[i].l.any fun y => eq32 y (A.hasL Ls[i].t)[k]) = true := List.any_eq_true.2 ⟨_, hmem, eq32_self _⟩
            refine for0 (mk := fun (st : Bool) i => (st, i)) (s := false) (n := Ls[i].l.length) (by omega) (fun j st h' => h' = h4 ∧ st = (Ls[i].l.take j).any fun y => eq32 y (A.hasL Ls[i].t)[k]) ⟨rfl, rfl⟩ (fun j st h5 K7 hj hI next3 done3 => ?_) (fun st h5 K7 hI done3 => ?_)
            · obtain ⟨rfl, rfl⟩ := hI
              unfold spatelaw11_says.b3
              refine R3.elt fq_l hi' rfl ?_
              rw [List.getElem_map]
              refine ite_t (by show decide ((j : Int) < (Ls[i].s.len : Int)) = true; rw [RS.len]; exact clt_t hj) (jn_c ((Ls[i].l.take (j + 1)).any fun y => eq32 y (A.hasL Ls[i].t)[k]) h5 (fun K8 hK8 => ?_) (next3 _ _ ⟨rfl, rfl⟩))
              rw [any_take _ hj] at hK8
              refine ite_b (fun c => ?_) (fun c => ?_)
              · have c : ((Ls[i].l.take j).any fun y => eq32 y (A.hasL Ls[i].t)[k]) = true := c
                rw [c, Bool.true_or] at hK8; exact hK8
              · have c : ((Ls[i].l.take j).any fun y => eq32 y (A.hasL Ls[i].t)[k]) = false := c
                rw [c, Bool.false_or] at hK8
                refine R3.elt fq_l hi' rfl ?_
                rw [List.getElem_map]
                exact RS.elt0 hj rfl (RH.elt0 hk rfl hK8)
            · obtain ⟨rfl, rfl⟩ := hI
              unfold spatelaw11_says.b3
              refine R3.elt fq_l hi' rfl ?_
              rw [List.getElem_map]
              refine ite_f (by show decide (((Ls[i].l.length : Nat) : Int) < (Ls[i].s.len : Int)) = false; rw [RS.len]; exact clt_f (Nat.lt_irrefl _)) (done3 _ _ ?_)
              rw [List.take_length, hk1]; exact hK6
          · refine jn_c false h4 (fun K6 hK6 => ite_f rfl ?_) (ite_f rfl (next2 () _ rfl))
            refine ite_b (fun c => ?_) (fun c => hK6)
            have hk0 : 0 < k := by rw [decide_eq_true_eq] at c; omega
            have ew : IntKind.i64.wrap ((k : Int) - 1) = ((k - 1 : Nat) : Int) := by rw [wrap64_id (by omega) (by omega)]; omega
            rw [ew]
            refine RH.elt fk_n (i := k - 1) (by omega) rfl (RH.elt fk_n hk rfl ?_)
            have hlt : ¬ (A.hasL Ls[i].t)[k - 1].f0 ≥ (A.hasL Ls[i].t)[k].f0 := by
              have h1 : ∀ (l : List Lk), l = AM.sortL A.locks Ls[i].l → ∀ (h1 : k - 1 < l.length) (h2 : k < l.length), ¬ l[k - 1].f0 ≥ l[k].f0 := by
                rintro _ rfl g1 g2
                have a1 := List.pairwise_iff_getElem.1 (sortL_pw Ls[i].l A.locks) (k - 1) k g1 g2 (by omega)
                have a2 := hso.1 (k - 1) (by omega)
                simp only [show k - 1 + 1 = k by omega] at a2
                omega
              exact h1 _ eH (by omega) hk
            rw [decide_eq_false hlt]; exact hK6
        · subst e
          unfold spatelaw11_says.b2
          exact ite_f (by rw [zl]; exact clt_f (Nat.lt_irrefl _)) (done2 _ _ (next () _ S3.tail))
  · unfold spatelaw11_says.b1
    exact ite_f (by rw [hlen]; exact clt_f (Nat.lt_irrefl _)) (done _ _ (kq h1 S1))
end
end Go.Proofs.Ytgmihbchcmjmdaa
