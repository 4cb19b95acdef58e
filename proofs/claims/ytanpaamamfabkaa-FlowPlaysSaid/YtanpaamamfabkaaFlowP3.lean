/- The program's flow: Pass, Take, the looks. -/
import Derived.Test.YtanpaamamfabkaaFlowP2
namespace Go.Proofs.Ytanpaamamfabkaa
open Go Go.Tr
set_option linter.unusedVariables false

section
variable {h : H} {p : Addr} {A : AF} {own : Nat → Option Tag} {bF bq bb : Nat} {cq : List S78} {cb : List S61}
theorem quo4 (n : Int) : ∃ x, quoI .i64 n 4 = some x := by
  unfold quoI; rw [if_neg (by decide)]; exact ⟨_, rfl⟩
theorem shift_spec' (R : FOwn h p A own bF bq bb cq cb) {i : Nat} {x : Item} {r : List Item} (h64 : r.length + 1 ≤ 65536) (hi : i < A.qs.length) {to : Nat} (hq : A.qs[i] = (x :: r, to)) {Q : Unit → H → Prop}
    (k : ∀ h' own' cq', FOwn h' p { A with qs := A.qs.set i (r, 0) } own' bF bq bb cq' cb → Fr (fun b => own b ≠ none) h h' → (∀ b, own' b ≠ none → own b ≠ none ∨ h.size ≤ b) → Q () h') : flow_queue_shift (some ⟨bq, i * 2, none⟩) h Q := by
  unfold flow_queue_shift
  have hi' : i < cq.length := by rw [R.ql]; exact hi
  have hlq := Arr.ld fq_items R.q hi' (o := i * 2 + 0) rfl
  obtain ⟨oq, eq⟩ := R.qr i _ _ (List.getElem?_eq_getElem hi') (List.getElem?_eq_getElem hi)
  rw [hq] at oq eq
  obtain ⟨a, h1, b, g1, g2, o1, O1, hb⟩ := oq.set0 (i := 0) (by simp) (S32.mk false ⟨#[]⟩ 0 0)
  simp only [List.set_cons_zero] at o1
  have hbq : bq ≠ b := fun e => by rw [← e, R.oq] at hb; cases hb
  have A1 : Arr k78 h1 bq cq := R.q.same (O1.2 _ hbq)
  have hlq1 := Arr.ld fq_items A1 hi' (o := i * 2 + 0) rfl
  obtain ⟨s', hs', o2, _⟩ := slx_lo o1 (k := 1) (by simp)
  simp only [List.drop_succ_cons, List.drop_zero] at o2
  obtain ⟨h2, st2, A2, O2⟩ := A1.st fq_items hi' (o := i * 2 + 0) rfl s'
  have hi2 : i < (cq.set i { cq[i] with f0 := s' }).length := by simpa using hi'
  obtain ⟨h3, st3, A3, O3⟩ := A2.st fq_to hi2 (o := i * 2 + 1) rfl 0
  simp only [List.getElem_set_self, List.set_set] at A3
  have hi3 : i < (cq.set i ({ cq[i] with f0 := s', f1 := 0 } : S78)).length := by simpa using hi'
  have hlq3 := Arr.ld fq_items A3 hi3 (o := i * 2 + 0) rfl
  simp only [List.getElem_set_self] at hlq3
  have o3 : Own k32 h3 (fun b => own b = some (.q i)) s' r := o2.same fun b' hb' _ => by
    have : b' ≠ bq := fun e => by rw [e, R.oq] at hb'; cases hb'
    rw [O3.2 b' this, O2.2 b' this]
  have hlen := o3.len
  have hsz3 : h3.size = h.size := by rw [O3.1, O2.1, O1.1]
  have keep3 : ∀ b', b' < h.size → own b' ≠ some (.q i) → b' ≠ bq → h3[b']? = h[b']? := fun b' _ n1 n2 => by
    rw [O3.2 b' n2, O2.2 b' n2, O1.2 b' (fun e => n1 (by rw [e]; exact hb))]
  refine rd_some rfl (rd_some hlq (rd_some g1 (rd_some g2 (rd_some rfl (rd_some hlq1 (rd_some hs' (rd_some rfl (rd_some st2 (rd_some rfl (rd_some st3 (rd_some rfl (rd_some hlq3 (rd_some rfl (rd_some hlq3 ?_))))))))))))))
  obtain ⟨x6, hx6⟩ := quo4 (s'.cap : Int)
  refine rd_some hx6 (ite_b (fun _ => ?_) (fun _ => ?_))
  · refine rd_some rfl (rd_some hlq3 ?_)
    show mk k32.n 40 33 (k32.enc z32) (s'.len : Int) (s'.len : Int) h3 _
    rw [hlen]
    refine mk_own (by decide) (by omega) (by omega) fun s8 h4 e8 o8 a8 e4 hs4 => ?_
    have A4 : Arr k78 h4 bq _ := A3.same (e4.2 bq (Blk.lt A3))
    have hlq4 := Arr.ld fq_items A4 hi3 (o := i * 2 + 0) rfl
    simp only [List.getElem_set_self] at hlq4
    obtain ⟨h5, c5, o5, f5, hs5⟩ := cpy_own o8 (o3.ext e4) (by simp)
    have A5 : Arr k78 h5 bq _ := A4.same (f5.2 bq (Blk.lt A4) (fun e => by have := Blk.lt A3; omega))
    obtain ⟨h6, st6, A6, O6⟩ := A5.st fq_items hi3 (o := i * 2 + 0) rfl s8
    simp only [List.getElem_set_self, List.set_set] at A6
    refine rd_some rfl (rd_some hlq4 (rd_some c5 (rd_some rfl (rd_some st6 ?_))))
    have hbqlt := Blk.lt A3
    have keep6 : ∀ b', b' < h.size → own b' ≠ some (.q i) → b' ≠ bq → h6[b']? = h[b']? := fun b' hb' n1 n2 => by
      rw [O6.2 b' n2, f5.2 b' (by omega) (by omega), e4.2 b' (by omega), keep3 b' hb' n1 n2]
    have key := R.setq (h' := h6) (own' := fun b => if b = h3.size then some (.q i) else own b) (i := i) (c' := ⟨s8, 0⟩) (q' := (r, 0)) (by rw [O6.1]; omega) keep6 A6
      ((o5.same fun b' hb' _ => O6.2 b' (by omega)).mono fun b' hb' => by rw [if_pos hb']) rfl (fun b' hb' => by have := R.lt b' hb'; rw [if_neg (by omega)]) (fun b' hb' => by
        rw [O6.1]
        by_cases e : b' = h3.size
        · omega
        · rw [if_neg e] at hb'; have := R.lt b' hb'; omega)
    refine k h6 _ _ key ⟨by rw [O6.1]; omega, fun b' hb' hn => ?_⟩ fun b' hb' => ?_
    · have hn' : own b' = none := by simpa using hn
      exact keep6 b' hb' (by rw [hn']; simp) (fun e => by rw [e, R.oq] at hn'; cases hn')
    · by_cases e : b' = h3.size
      · right; omega
      · rw [if_neg e] at hb'; exact .inl hb'
  · have key := R.setq (h' := h3) (own' := own) (i := i) (c' := ⟨s', 0⟩) (q' := (r, 0)) (by omega) keep3 A3 o3 rfl (fun _ _ => rfl) (fun b' hb' => by rw [hsz3]; exact R.lt b' hb')
    refine k h3 _ _ key ⟨by omega, fun b' hb' hn => ?_⟩ fun b' hb' => .inl hb'
    have hn' : own b' = none := by simpa using hn
    exact keep3 b' hb' (by rw [hn']; simp) (fun e => by rw [e, R.oq] at hn'; cases hn')
theorem shift_spec (R : FOwn h p A own bF bq bb cq cb) (ok : A.Ok) {i : Nat} (hi : i < A.qs.length) {x : Item} {r : List Item} {to : Nat} (hq : A.qs[i] = (x :: r, to)) {Q : Unit → H → Prop}
    (k : ∀ h' own' cq', FOwn h' p { A with qs := A.qs.set i (r, 0) } own' bF bq bb cq' cb → Fr (fun b => own b ≠ none) h h' → (∀ b, own' b ≠ none → own b ≠ none ∨ h.size ≤ b) → Q () h') : flow_queue_shift (some ⟨bq, i * 2, none⟩) h Q := by
  have h64 := (ok.ql i _ (List.getElem?_eq_getElem hi)).1
  rw [hq] at h64
  exact shift_spec' R (by simpa using h64) hi hq k
end

theorem pass_bad {A : AF} {s : Int} (h : s < 0 ∨ (A.qs.length : Int) ≤ s) : A.pass s = ((0, 1), A) := by
  unfold AF.pass
  split
  · rfl
  · have := toward_bad h
    unfold AF.toward at this
    rw [if_neg (by assumption)] at this
    unfold AF.passQ
    rw [this]
    rfl
theorem pass_spec {h : H} {p : Addr} {A : AF} {F : Nat → Prop} (R : FRep h p A F) (s : Int) {Q : (Int × Int) → H → Prop} (k : ∀ h' F', FRep h' p (A.pass s).2 F' → Frm F F' h h' → Q (A.pass s).1 h') : flow_Flow_Pass (some p) s h Q := by
  have okP := R.ok.pass s
  unfold flow_Flow_Pass
  refine jn_i (toward_spec R s fun h1 e1 => ?_)
  have R1 := R.ext e1
  rcases source_cases A s with hs | ⟨i, rfl, hi⟩
  · rw [toward_bad hs]
    rw [pass_bad hs] at k
    exact ite_t rfl (k h1 _ R1 (Frm.ext e1))
  · have ht : A.toward (i : Int) = A.towardQ i := by unfold AF.toward; rw [if_neg (by omega)]; rfl
    have hp : A.pass (i : Int) = A.passQ i := by unfold AF.pass; rw [if_neg (by omega)]; rfl
    rw [hp] at k okP
    rw [toward_good hi] at ht ⊢
    have hqi : A.qs[i]? = some A.qs[i] := List.getElem?_eq_getElem hi
    have hqq := R.ok.ql i _ hqi
    unfold AF.passQ at k okP
    rw [← ht] at k okP
    simp only [hqi] at k okP
    rcases hqe : A.qs[i] with ⟨l, to⟩
    rw [hqe] at k okP hqq
    cases l with
    | nil => exact ite_t rfl (k h1 _ R1 (Frm.ext e1))
    | cons x r =>
      simp only at k okP ⊢
      -- the box
      have hj : ∃ j : Nat, j < A.bs.length ∧ (if x.f0 = true then ((to : Int), (0 : Int)) else (routeA x.f1 A.bs.length, 0)) = ((j : Int), 0) ∧ (x.f0 = true → j = to) := by
        cases hx : x.f0 with
        | true => exact ⟨to, by simpa using hqq.2, rfl, fun _ => rfl⟩
        | false =>
          have := routeA_range x.f1 (m := A.bs.length) (by have := R.ok.b1; omega)
          exact ⟨(routeA x.f1 A.bs.length).toNat, by omega, by simp; omega, fun e => by cases e⟩
      obtain ⟨j, hjl, hje, hjm⟩ := hj
      rw [hje] at k okP ⊢
      have hbj : A.bs[j]? = some A.bs[j] := List.getElem?_eq_getElem hjl
      simp only [Int.toNat_natCast, hbj, bne_self_eq_false, Bool.false_eq_true, if_false] at k okP
      refine ite_f rfl ?_
      have okA := R.ok
      have R1' := R1
      obtain ⟨ok, own, bF, bq, bb, cq, cb, R1, rfl⟩ := R1
      have hi' : i < cq.length := by rw [R1.ql]; exact hi
      have hj' : j < cb.length := by rw [R1.bl]; exact hjl
      have B := R1.br j _ _ (List.getElem?_eq_getElem hj') hbj
      obtain ⟨br, ms, fst, hc, hown, hA, hml, hf, hll, hms⟩ := B.h
      have l0 := Arr.ld fb_ring R1.b hj' (o := j * 3 + 0) rfl
      have l2 := Arr.ld fb_many R1.b hj' (o := j * 3 + 2) rfl
      rw [hc] at l0 l2
      simp only at l0 l2
      refine rd_some rfl (rd_some R1.ldb (rd_some (ixA_arr hjl) (rd_some rfl (rd_some R1.ldq (rd_some (ixA_arr hi) (rd_some l2 (rd_some l0 ?_)))))))
      refine ite_b (fun e => ?_) (fun e => ?_)
      · rw [if_pos (by simp at e; omega)] at k
        exact k h1 _ R1' (Frm.ext e1)
      · have hnf : (A.bs[j]).length ≠ A.most := by simp at e; omega
        rw [if_neg hnf] at k okP
        have hlq := Arr.ld fq_items R1.q hi' (o := i * 2 + 0) rfl
        obtain ⟨oq, eq⟩ := R1.qr i _ _ (List.getElem?_eq_getElem hi') (List.getElem?_eq_getElem hi)
        rw [hqe] at oq eq
        obtain ⟨a1, g1, g2⟩ := oq.get0 (i := 0) (by simp)
        simp only [List.getElem_cons_zero] at g2
        refine rd_some hlq (rd_some g1 (rd_some g2 (boxput_spec R1 okA hjl _ (by omega) fun h4 cb' R4 f4 => ?_)))
        have hlq4 := Arr.ld fq_items R4.q hi' (o := i * 2 + 0) rfl
        obtain ⟨oq4, eq4⟩ := R4.qr i _ _ (List.getElem?_eq_getElem hi') (List.getElem?_eq_getElem hi)
        rw [hqe] at oq4 eq4
        obtain ⟨a2, g3, g4⟩ := oq4.get fi_mark (i := 0) (by simp)
        simp only [List.getElem_cons_zero] at g4
        refine rd_some hlq4 (rd_some g3 (rd_some g4 ?_))
        have ok4 : AF.Ok { A with bs := A.bs.set j (A.bs[j] ++ [⟨(i : Int), x⟩]) } := okA.addBox hbj (by have := okA.bl _ _ hbj; omega) _
        have frm4 : Frm (fun b => own b ≠ none) (fun b => own b ≠ none) h h4 := (Frm.ext e1).trans ⟨f4.1, f4.2, fun _ h => .inl h⟩
        have fin : ∀ (A' : AF) (h' : H) own' cq', A'.Ok → FOwn h' p A' own' bF bq bb cq' cb' → Fr (fun b => own b ≠ none) h4 h' → (∀ b, own' b ≠ none → own b ≠ none ∨ h4.size ≤ b) → FRep h' p A' (fun b => own' b ≠ none) ∧ Frm (fun b => own b ≠ none) (fun b => own' b ≠ none) h h' := fun A' h' own' cq' o' R' f' n' =>
          ⟨⟨o', _, _, _, _, _, _, R', rfl⟩, frm4.trans ⟨f'.1, f'.2, n'⟩⟩
        cases hx : x.f0 with
        | false =>
          refine ite_t rfl (shift_spec R4 ok4 hi hqe fun h5 own' cq' R5 f5 n5 => ?_)
          have ho : AF.onward A.bs.length (x :: r, to) = (r, 0) := by simp [AF.onward, hx]
          rw [ho] at k okP
          obtain ⟨z1, z2⟩ := fin _ h5 own' cq' okP R5 f5 n5
          exact k h5 _ z1 z2
        | true =>
          have hto : j = to := hjm hx
          refine ite_f rfl ?_
          have hlt := Arr.ld fq_to R4.q hi' (o := i * 2 + 1) rfl
          obtain ⟨h5, st5, A5, O5⟩ := R4.q.st fq_to hi' (o := i * 2 + 1) rfl (((to + 1 : Nat) : Int))
          have hw : IntKind.i64.wrap (cq[i].f1 + 1) = ((to + 1 : Nat) : Int) := by
            rw [eq4]
            have := R.ok.b8
            have := hqq.2
            simp only at this ⊢
            exact (wrap64_id (by omega) (by omega)).trans (by omega)
          refine rd_some hlt ?_
          rw [hw]
          refine rd_some st5 ?_
          have hi5 : i < (cq.set i { cq[i] with f1 := ((to + 1 : Nat) : Int) }).length := by simpa using hi'
          have hlt5 := Arr.ld fq_to A5 hi5 (o := i * 2 + 1) rfl
          simp only [List.getElem_set_self] at hlt5
          have hbq : ∀ b', own b' = some (.q i) → b' ≠ bq := fun b' hb' e => by rw [e, R1.oq] at hb'; cases hb'
          have R5 := R4.setq (h' := h5) (own' := own) (i := i) (c' := { cq[i] with f1 := ((to + 1 : Nat) : Int) }) (q' := (x :: r, to + 1)) (by rw [O5.1]; exact Nat.le_refl _) (fun b' _ _ n => O5.2 b' n) A5
            (oq4.same fun b' hb' _ => O5.2 b' (hbq b' hb')) rfl (fun _ _ => rfl) (fun b' hb' => by rw [O5.1]; exact R4.lt b' hb')
          have f5 : Fr (fun b => own b ≠ none) h4 h5 := Fr.only O5 (by show own bq ≠ none; rw [R1.oq]; simp)
          refine rd_some hlt5 (rd_some rfl (rd_some R5.ldb ?_))
          refine ite_b (fun e => ?_) (fun e => ?_)
          · have ho : AF.onward A.bs.length (x :: r, to) = (x :: r, to + 1) := by
              simp at e
              simp [AF.onward, hx]; omega
            rw [ho] at k okP
            obtain ⟨z1, z2⟩ := fin _ h5 own _ okP R5 f5 (fun _ h => .inl h)
            exact k h5 _ z1 z2
          · have hge : ¬ (to + 1 < A.bs.length) := by simp at e; omega
            have ho : AF.onward A.bs.length (x :: r, to) = (r, 0) := by simp [AF.onward, hx, hge]
            rw [ho] at k okP
            have hi6 : i < (A.qs.set i (x :: r, to + 1)).length := by simpa using hi
            refine shift_spec' R5 (by simp at hqq; omega) hi6 (x := x) (r := r) (to := to + 1) (by simp) fun h6 own' cq' R6 f6 n6 => ?_
            simp only [List.set_set] at R6
            obtain ⟨z1, z2⟩ := fin _ h6 own' cq' okP R6 (f5.trans f6 (fun _ _ h => h)) (fun b hb => (n6 b hb).imp id fun h => by rw [O5.1] at h; exact h)
            exact k h6 _ z1 z2
end Go.Proofs.Ytanpaamamfabkaa
