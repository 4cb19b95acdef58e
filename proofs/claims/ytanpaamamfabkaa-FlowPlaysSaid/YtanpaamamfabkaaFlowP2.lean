/- The program's flow: its boxes, and what Toward, Pass and Take do. -/
import Derived.Test.YtanpaamamfabkaaFlowP
namespace Go.Proofs.Ytanpaamamfabkaa
open Go Go.Tr
set_option linter.unusedVariables false

theorem mod_two {a n : Nat} (hn : 0 < n) (h : a < 2 * n) : a % n = if a < n then a else a - n := by
  split
  · exact Nat.mod_eq_of_lt (by assumption)
  · rw [Nat.mod_eq_sub_mod (by omega)]; exact Nat.mod_eq_of_lt (by omega)
theorem remI_nat {a n : Nat} (hn : 0 < n) : remI (a : Int) (n : Int) = some ((a % n : Nat) : Int) := by
  unfold remI
  rw [if_neg (by omega)]
  congr 1

theorem toward_bad {A : AF} {s : Int} (h : s < 0 ∨ (A.qs.length : Int) ≤ s) : A.toward s = (0, 1) := by
  unfold AF.toward
  split
  · rfl
  · unfold AF.towardQ
    rw [List.getElem?_eq_none (by omega)]
theorem toward_good {A : AF} {i : Nat} (hi : i < A.qs.length) : A.toward (i : Int) = match A.qs[i] with
    | ([], _) => (0, 44)
    | (x :: _, to) => if x.f0 then ((to : Int), 0) else (routeA x.f1 A.bs.length, 0) := by
  unfold AF.toward
  rw [if_neg (by omega)]
  unfold AF.towardQ
  rw [Int.toNat_natCast, List.getElem?_eq_getElem hi]
  rcases A.qs[i] with ⟨l, to⟩
  cases l <;> rfl

theorem toward_spec {h : H} {p : Addr} {A : AF} {F : Nat → Prop} (R : FRep h p A F) (s : Int) {Q : (Int × Int) → H → Prop} (k : ∀ h', Ext h h' → Q (A.toward s) h') : flow_Flow_Toward (some p) s h Q := by
  have R0 := R
  obtain ⟨ok, own, bF, bq, bb, cq, cb, R, rfl⟩ := R
  unfold flow_Flow_Toward
  rcases source_cases A s with hs | ⟨i, rfl, hi⟩
  · refine of_bad R hs (ite_t rfl ?_)
    rw [toward_bad hs] at k
    exact k h (Ext.refl h)
  · rw [toward_good hi] at k
    refine of_good R hi (ite_f rfl ?_)
    have hi' : i < cq.length := by rw [R.ql]; exact hi
    have hlq := Arr.ld fq_items R.q hi' (o := i * 2 + 0) rfl
    have hlt := Arr.ld fq_to R.q hi' (o := i * 2 + 1) rfl
    obtain ⟨oq, eq⟩ := R.qr i _ _ (List.getElem?_eq_getElem hi') (List.getElem?_eq_getElem hi)
    have hx := ok.qx i _ (List.getElem?_eq_getElem hi)
    have hlen := oq.len
    refine rd_some rfl (rd_some hlq ?_)
    generalize A.qs[i] = q at *
    obtain ⟨l, to⟩ := q
    cases l with
    | nil =>
      refine ite_t (by simp at hlen; simp [hlen]) ?_
      exact k h (Ext.refl h)
    | cons x r =>
      obtain ⟨a1, g1, g2⟩ := oq.get fi_mark (i := 0) (by simp)
      obtain ⟨a2, g3, g4⟩ := oq.get fi_key (i := 0) (by simp)
      simp only [List.getElem_cons_zero] at g2 g4
      refine ite_f (by simp at hlen; simp [hlen]; omega) (rd_some rfl (rd_some hlq (rd_some g1 (rd_some g2 ?_))))
      simp only at k
      refine ite_b (fun e => ?_) (fun e => ?_)
      · rw [if_pos e] at k
        refine rd_some rfl (rd_some hlt ?_)
        rw [eq]; exact k h (Ext.refl h)
      · rw [if_neg (by rw [e]; simp)] at k
        refine rd_some rfl (rd_some hlq (rd_some g3 (rd_some g4 (route_spec R0 x.f1 (by have := hx x (by simp); omega) fun h' e' => ?_))))
        exact k h' e'

section
variable {h : H} {p : Addr} {A : AF} {own : Nat → Option Tag} {bF bq bb : Nat} {cq : List S78} {cb : List S61}
theorem boxput_spec (R : FOwn h p A own bF bq bb cq cb) (ok : A.Ok) {j : Nat} (hj : j < A.bs.length) (m : Msg) (hlt : (A.bs[j]).length < A.most) {Q : Unit → H → Prop}
    (k : ∀ h' cb', FOwn h' p { A with bs := A.bs.set j (A.bs[j] ++ [m]) } own bF bq bb cq cb' → Fr (fun b => own b ≠ none) h h' → Q () h') : flow_box_put (some ⟨bb, j * 3, none⟩) m h Q := by
  unfold flow_box_put
  refine al_var fun b1 h1 hb1 V1 e1 hs1 => ?_
  have R1 := R.frame e1.1 fun b hb => e1.2 b (R.lt b hb)
  have hj' : j < cb.length := by rw [R.bl]; exact hj
  have B := R1.br j _ _ (List.getElem?_eq_getElem hj') (List.getElem?_eq_getElem hj)
  obtain ⟨br, ms, fst, hc, hown, hA, hml, hf, hll, hms⟩ := B.h
  have l0 := Arr.ld fb_ring R1.b hj' (o := j * 3 + 0) rfl
  have l1 := Arr.ld fb_first R1.b hj' (o := j * 3 + 1) rfl
  have l2 := Arr.ld fb_many R1.b hj' (o := j * 3 + 2) rfl
  rw [hc] at l0 l1 l2
  simp only at l0 l1 l2
  have h64 := ok.m64
  have hidx := Nat.mod_lt (fst + (A.bs[j]).length) (show 0 < A.most by omega)
  refine rd_some rfl (rd_some l0 (rd_some rfl (rd_some l1 (rd_some rfl (rd_some l2 (rd_some rfl (rd_some l0 ?_)))))))
  have hw : IntKind.i64.wrap ((fst : Int) + ((A.bs[j]).length : Int)) = ((fst + (A.bs[j]).length : Nat) : Int) := by rw [wrap64_id (by omega) (by omega)]; omega
  rw [hw]
  refine rd_some (remI_nat (n := A.most) (by omega)) (rd_some (V1.ld (Fld.whole k82)) (rd_some (ixA_arr hidx) ?_))
  obtain ⟨h2, s2, A2, O2⟩ := hA.st (Fld.whole k82) (i := (fst + (A.bs[j]).length) % A.most) (by rw [hml]; exact hidx) (o := (fst + (A.bs[j]).length) % A.most * 5) rfl m
  refine rd_some s2 ?_
  have hne : br ≠ bb := fun e => by rw [e, R.ob] at hown; cases hown
  have hb2 : Arr k61 h2 bb cb := R1.b.same (O2.2 _ (Ne.symm hne))
  have l2' := Arr.ld fb_many hb2 hj' (o := j * 3 + 2) rfl
  obtain ⟨h3, s3, A3, O3⟩ := hb2.st fb_many hj' (o := j * 3 + 2) rfl (IntKind.i64.wrap (((A.bs[j]).length : Int) + 1))
  rw [hc] at l2' A3
  refine rd_some rfl (rd_some l2' (rd_some rfl (rd_some s3 ?_)))
  have hw2 : IntKind.i64.wrap (((A.bs[j]).length : Int) + 1) = (((A.bs[j] ++ [m]).length : Nat) : Int) := by rw [wrap64_id (by omega) (by omega)]; simp
  rw [hw2] at A3
  have key := R1.setb (h' := h3) (j := j) (l' := A.bs[j] ++ [m]) (by rw [O3.1, O2.1]; exact Nat.le_refl _) (fun b hb hn hn2 => by rw [O3.2 b hn2, O2.2 b (fun e => hn (by rw [e]; exact hown))]) A3
    ⟨br, _, fst, rfl, hown, A2.same (O3.2 _ hne), by simpa using hml, hf, by simp; omega, fun i hi => by
      simp at hi
      by_cases e : i = (A.bs[j]).length
      · subst e
        rw [List.getElem?_set_self (by rw [hml]; exact hidx)]
        simp
      · have hi2 : i < (A.bs[j]).length := by omega
        rw [List.getElem?_append_left hi2, ← hms i hi2, List.getElem?_set_ne]
        rw [mod_two (by omega) (by omega), mod_two (by omega) (by omega)]
        split <;> split <;> omega⟩
  refine k h3 _ key ⟨by rw [O3.1, O2.1]; exact e1.1, fun b hb hn => ?_⟩
  have hn' : own b = none := by simpa using hn
  rw [O3.2 b (fun e => by rw [e, R.ob] at hn'; cases hn'), O2.2 b (fun e => by rw [e, hown] at hn'; cases hn'), e1.2 b hb]

theorem boxtake_spec (R : FOwn h p A own bF bq bb cq cb) (ok : A.Ok) {j : Nat} (hj : j < A.bs.length) {m : Msg} {r : List Msg} (hm : A.bs[j] = m :: r) {Q : S82 → H → Prop}
    (k : ∀ h' cb', FOwn h' p { A with bs := A.bs.set j r } own bF bq bb cq cb' → Fr (fun b => own b ≠ none) h h' → Q m h') : flow_box_take (some ⟨bb, j * 3, none⟩) h Q := by
  unfold flow_box_take
  refine al_var fun b1 h1 hb1 V1 e1 hs1 => ?_
  have R1 := R.frame e1.1 fun b hb => e1.2 b (R.lt b hb)
  have hj' : j < cb.length := by rw [R.bl]; exact hj
  have B := R1.br j _ _ (List.getElem?_eq_getElem hj') (List.getElem?_eq_getElem hj)
  obtain ⟨br, ms, fst, hc, hown, hA, hml, hf, hll, hms⟩ := B.h
  rw [hm] at hc hll hms
  have l0 := Arr.ld fb_ring R1.b hj' (o := j * 3 + 0) rfl
  have l1 := Arr.ld fb_first R1.b hj' (o := j * 3 + 1) rfl
  rw [hc] at l0 l1
  simp only at l0 l1
  have h64 := ok.m64
  have hf' : fst < ms.length := by rw [hml]; exact hf
  have hm0 : ms[fst] = m := by
    have := hms 0 (by simp)
    rw [Nat.add_zero, Nat.mod_eq_of_lt hf, List.getElem?_eq_getElem hf'] at this
    simpa using this
  refine rd_some rfl (rd_some l0 (rd_some rfl (rd_some l1 (rd_some (ixA_arr hf) ?_))))
  have lm := hA.ld (Fld.whole k82) hf' (o := fst * 5) rfl
  rw [hm0] at lm
  refine rd_some lm (al_var fun b2 h2 hb2 V2 e2 hs2 => ?_)
  obtain ⟨h3, s3, V3, O3⟩ := V2.st (Fld.whole k82) m
  refine rd_some s3 ?_
  have R3 : FOwn h3 p A own bF bq bb cq cb := R1.frame (by rw [O3.1]; exact e2.1) fun b hb => by
    have := R1.lt b hb
    rw [O3.2 b (by omega), e2.2 b this]
  have hA3 : Arr k82 h3 br ms := by
    have := R1.lt br (by rw [hown]; simp)
    exact hA.same (by rw [O3.2 br (by omega), e2.2 br this])
  have l0' := Arr.ld fb_ring R3.b hj' (o := j * 3 + 0) rfl
  have l1' := Arr.ld fb_first R3.b hj' (o := j * 3 + 1) rfl
  rw [hc] at l0' l1'
  simp only at l0' l1'
  obtain ⟨h4, s4, A4, O4⟩ := hA3.st (Fld.whole k82) hf' (o := fst * 5) rfl (S82.mk 0 z32)
  refine rd_some rfl (rd_some l0' (rd_some rfl (rd_some l1' (rd_some (ixA_arr hf) (rd_some s4 ?_)))))
  have hne : br ≠ bb := fun e => by rw [e, R.ob] at hown; cases hown
  have hb4 : Arr k61 h4 bb cb := R3.b.same (O4.2 _ (Ne.symm hne))
  have l0'' := Arr.ld fb_ring hb4 hj' (o := j * 3 + 0) rfl
  have l1'' := Arr.ld fb_first hb4 hj' (o := j * 3 + 1) rfl
  have l2'' := Arr.ld fb_many hb4 hj' (o := j * 3 + 2) rfl
  rw [hc] at l0'' l1''
  simp only at l0'' l1''
  have hw : IntKind.i64.wrap ((fst : Int) + 1) = ((fst + 1 : Nat) : Int) := by rw [wrap64_id (by omega) (by omega)]; omega
  refine rd_some rfl (rd_some l1'' (rd_some rfl (rd_some l0'' ?_)))
  rw [hw]
  refine rd_some (remI_nat (n := A.most) (by omega)) ?_
  obtain ⟨h5, s5, A5, O5⟩ := hb4.st fb_first hj' (o := j * 3 + 1) rfl (((fst + 1) % A.most : Nat) : Int)
  refine rd_some rfl (rd_some s5 ?_)
  have hj5 : j < (cb.set j { cb[j] with f1 := (((fst + 1) % A.most : Nat) : Int) }).length := by simpa using hj'
  have l2 := Arr.ld fb_many A5 hj5 (o := j * 3 + 2) rfl
  simp only [List.getElem_set_self] at l2
  rw [hc] at l2
  simp only at l2
  have hw2 : IntKind.i64.wrap (((m :: r).length : Int) - 1) = (r.length : Int) := by
    simp at hll
    have hL : ((m :: r).length : Int) = r.length + 1 := by simp
    rw [hL]
    exact (wrap64_id (by omega) (by omega)).trans (by omega)
  refine rd_some rfl (rd_some l2 ?_)
  rw [hw2]
  obtain ⟨h6, s6, A6, O6⟩ := A5.st fb_many hj5 (o := j * 3 + 2) rfl (r.length : Int)
  simp only [List.getElem_set_self, List.set_set] at A6
  rw [hc] at A6
  simp only at A6
  refine rd_some rfl (rd_some s6 ?_)
  have hbb := R1.lt bb (by rw [R.ob]; simp)
  have hbr := R1.lt br (by rw [hown]; simp)
  have V6 : Var k82 h6 b2 m := V3.same (by rw [O6.2 b2 (by omega), O5.2 b2 (by omega), O4.2 b2 (by omega)])
  have V6' : Var k82 h6 b1 z82 := V1.same (by rw [O6.2 b1 (by have := R.lt bb (by rw [R.ob]; simp); omega), O5.2 b1 (by have := R.lt bb (by rw [R.ob]; simp); omega), O4.2 b1 (by have := R.lt br (by rw [hown]; simp); omega), O3.2 b1 (by omega), e2.2 b1 (by omega)])
  obtain ⟨h7, s7, V7, O7⟩ := V6'.st (Fld.whole k82) m
  refine rd_some (V6.ld (Fld.whole k82)) (rd_some s7 (rd_some (V7.ld (Fld.whole k82)) ?_))
  have hb1' : h.size ≤ b1 := by omega
  have fin : ∀ b, b < h.size → b ≠ bb → b ≠ br → h7[b]? = h[b]? := fun b hb n1 n2 => by
    rw [O7.2 b (by omega), O6.2 b n1, O5.2 b n1, O4.2 b n2, O3.2 b (by omega), e2.2 b (by omega), e1.2 b hb]
  have fin1 : ∀ b, b < h1.size → own b ≠ some (.r j) → b ≠ bb → b ≠ b1 → h7[b]? = h1[b]? := fun b hb n1 n2 n3 => by
    rw [O7.2 b n3, O6.2 b n2, O5.2 b n2, O4.2 b (fun e => n1 (by rw [e]; exact hown)), O3.2 b (by omega), e2.2 b hb]
  have hr2 : r.length < A.most := by simp at hll; omega
  have hbbh := R.lt bb (by rw [R.ob]; simp)
  have hbrh := R.lt br (by rw [hown]; simp)
  have hsz : h7.size = h2.size := by rw [O7.1, O6.1, O5.1, O4.1, O3.1]
  have key := R.setb (h' := h7) (j := j) (l' := r) (by rw [hsz]; exact Nat.le_trans e1.1 e2.1) (fun b hb n1 n2 => fin b hb n2 (fun e => n1 (by rw [e]; exact hown)))
    (A6.same (O7.2 bb (by omega)))
    ⟨br, _, (fst + 1) % A.most, rfl, hown, A4.same (by rw [O7.2 br (by omega), O6.2 br hne, O5.2 br hne]), by simpa using hml, Nat.mod_lt _ (by omega), by omega, fun i hi => by
      have h3 := hms (i + 1) (by simp; omega)
      rw [List.getElem?_cons_succ] at h3
      rw [← h3]
      have e1 : ((fst + 1) % A.most + i) % A.most = (fst + (i + 1)) % A.most := by rw [Nat.mod_add_mod]; congr 1; omega
      rw [e1, List.getElem?_set_ne]
      rw [mod_two (by omega) (by omega)]
      split <;> omega⟩
  refine k h7 _ key ⟨by rw [hsz]; exact Nat.le_trans e1.1 e2.1, fun b hb hn => ?_⟩
  have hn' : own b = none := by simpa using hn
  exact fin b hb (fun e => by rw [e, R.ob] at hn'; cases hn') (fun e => by rw [e, hown] at hn'; cases hn')
end
end Go.Proofs.Ytanpaamamfabkaa
