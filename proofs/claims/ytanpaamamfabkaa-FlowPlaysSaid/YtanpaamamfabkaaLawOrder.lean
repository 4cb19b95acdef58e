/- FlowOrder, over the heap. -/
import Derived.Test.YtanpaamamfabkaaFlowI
import Derived.Test.YtanpaamamfabkaaG5
namespace Go.Proofs.Ytanpaamamfabkaa
open Go Go.Tr
set_option linter.unusedVariables false
theorem gs_kind : Fld k34 (kI .i64) 0 (·.f0) (fun x v => { x with f0 := v }) := ⟨by decide, fun _ => rfl, fun _ _ => rfl⟩
theorem gs_a : Fld k34 (kI .i64) 1 (·.f1) (fun x v => { x with f1 := v }) := ⟨by decide, fun _ => rfl, fun _ _ => rfl⟩
theorem gs_item : Fld k34 k32 2 (·.f2) (fun x v => { x with f2 := v }) := ⟨by decide, fun _ => rfl, fun _ _ => rfl⟩
def flowP (p : Addr) (A : AF) : HP where
  p h F := FRep h p A F
  st := fun R hs e => R.frame hs fun b hb _ => e b hb
  lt := fun R => R.lt
theorem putP {h0 h : H} {Ps : List HP} {p : Addr} {A : AF} (S : SS h0 h Ps) (i : Nat) (hi : Ps[i]? = some (flowP p A)) (s : Int) (x : Item) {Q : Int → H → Prop} (k : ∀ h', SS h0 h' (Ps.set i (flowP p (A.put s x).2)) → Q (A.put s x).1 h') : flow_Flow_Put (some p) s x h Q := by
  obtain ⟨F, R, back⟩ := S.at i hi
  exact put_spec R s x fun h' F' R' f => k h' (back _ h' F' R' f)
theorem passP {h0 h : H} {Ps : List HP} {p : Addr} {A : AF} (S : SS h0 h Ps) (i : Nat) (hi : Ps[i]? = some (flowP p A)) (s : Int) {Q : (Int × Int) → H → Prop} (k : ∀ h', SS h0 h' (Ps.set i (flowP p (A.pass s).2)) → Q (A.pass s).1 h') : flow_Flow_Pass (some p) s h Q := by
  obtain ⟨F, R, back⟩ := S.at i hi
  exact pass_spec R s fun h' F' R' f => k h' (back _ h' F' R' f)
theorem takeP {h0 h : H} {Ps : List HP} {p : Addr} {A : AF} (S : SS h0 h Ps) (i : Nat) (hi : Ps[i]? = some (flowP p A)) (s : Int) {Q : (Int × S32 × Int) → H → Prop} (k : ∀ h', SS h0 h' (Ps.set i (flowP p (A.take s).2)) → Q (A.take s).1 h') : flow_Flow_Take (some p) s h Q := by
  obtain ⟨F, R, back⟩ := S.at i hi
  exact take_spec R s fun h' F' R' f => k h' (back _ h' F' R' f)
theorem emptyP {h0 h : H} {Ps : List HP} {p : Addr} {A : AF} (S : SS h0 h Ps) (i : Nat) (hi : Ps[i]? = some (flowP p A)) {Q : Bool → H → Prop} (k : ∀ h', SS h0 h' Ps → Q A.empty h') : flow_Flow_Empty (some p) h Q := by
  obtain ⟨F, R, back⟩ := S.at i hi
  exact empty_spec R fun h' e => k h' (S.ext e)

/-- What the script does: the flow, what was put, what was taken. -/
structure OS (h0 h : H) (p : Addr) (sp st : Sl) (n m : Nat) (A : AF) (P : List (List Item)) (T : List (List Tk)) (k : Nat) : Prop where
  S : SS h0 h [gridP k51 st T, gridP k32 sp P, flowP p A]
  o : OInv A P T k
  n : A.qs.length = n
  m : A.bs.length = m

theorem take_ok {A : AF} {j : Nat} {m : Msg} {r : List Msg} (h : A.bs[j]? = some (m :: r)) : (A.take (j : Int)).1.2.2 = 0 := by
  unfold AF.take AF.takeQ
  rw [if_neg (by omega), Int.toNat_natCast, h]
theorem OInv.tl {A : AF} {P : List (List Item)} {T : List (List Tk)} {k : Nat} (o : OInv A P T k) (j : Nat) (t : List Tk) (h : T[j]? = some t) : t.length ≤ 8 * k := by
  have := le_sum (T.map (·.length)) j t.length (by rw [List.getElem?_map, h]; rfl)
  have w := o.w
  unfold took at w
  omega

theorem order_script {h0 h8 : H} {p : Addr} {n m : Nat} {sp st sc : Sl} {xs : List S34} (hsc : Rds k34 h0 sc xs) (hlen : xs.length ≤ 5000) {A0 : AF} {P0 : List (List Item)} {T0 : List (List Tk)} (O : OS h0 h8 p sp st n m A0 P0 T0 0) (a1 a2 : Int) {Q : Unit → H → Prop}
    (k : ∀ h9 A P T, OS h0 h9 p sp st n m A P T xs.length → Q () h9) : loopE (spatelaw15_FlowOrder.b6 a1 a2 sc (some p) sp st) 0 h8 Q := by
  refine loopE_rule (fun μ s h' => ∃ (i : Nat) (A : AF) (P : List (List Item)) (T : List (List Tk)), s = (i : Int) ∧ i ≤ xs.length ∧ μ = xs.length - i ∧ OS h0 h' p sp st n m A P T i) xs.length ⟨0, A0, P0, T0, rfl, Nat.zero_le _, rfl, O⟩ ?_
  rintro μ s h4 K ⟨i, A, P, T, rfl, hi, rfl, O⟩ kl kr
  have hl := hsc.len
  unfold spatelaw15_FlowOrder.b6
  refine ite_b (fun c => ?_) (fun c => ?_)
  rotate_left
  · have : i = xs.length := by simp at c; omega
    subst this
    exact kr _ _ (k _ _ _ _ O)
  have hi' : i < xs.length := by simp at c; omega
  have next : ∀ h' A' P' T', OS h0 h' p sp st n m A' P' T' (i + 1) → K (.inl (IntKind.i64.wrap ((i : Int) + 1))) h' := fun h' A' P' T' O' =>
    kl (xs.length - (i + 1)) _ _ (by omega) ⟨i + 1, A', P', T', (wrap64_id (by omega) (by omega)).trans (by omega), by omega, rfl, O'⟩
  obtain ⟨a, ha, hla⟩ := hsc.ix hi' (n := 6) rfl
  refine jn_i (rd_some ha (rd_some (ld_ext O.S.e hla) (O.S.cell (x := xs[i]) fun b h10 S10 _ => ?_)))
  generalize xs[i] = x at *
  have o := O.o
  refine rd_some (varP.ld S10 gs_kind 0 rfl) ?_
  refine ite_b (fun c1 => ?_) fun c1 => ite_b (fun c2 => ?_) fun c2 => ite_b (fun c3 => ?_) fun c3 => ?_
  · -- put
    refine rd_some (varP.ld S10 gs_a 0 rfl) (rd_some (varP.ld S10 gs_item 0 rfl) (putP S10 3 rfl x.f1 x.f2 fun h33 S33 => ?_))
    refine ite_b (fun c4 => ?_) (fun c4 => ?_)
    · have hz : (A.put x.f1 x.f2).1 = 0 := by simpa using c4
      obtain ⟨i', q, hs, hq, hm, he⟩ := put_some hz
      have hiP : i' < P.length := by rw [o.lenP]; exact (List.getElem?_eq_some_iff.1 hq).1
      have hP := List.getElem?_eq_getElem hiP
      have hpl := o.pl _ _ hP
      have S33' : SS h0 h33 [varP k34 b x, gridP k51 st T, gridP k32 sp P, flowP p (A.put x.f1 x.f2).2] := S33
      obtain ⟨q8, c8, hq8, hc8, _⟩ := gridP.get S33' 2 rfl hiP
      refine rd_some (x := (i' : Int)) (by rw [← hs]; exact varP.ld S33' gs_a 0 rfl) (rd_some (x := (i' : Int)) (by rw [← hs]; exact varP.ld S33' gs_a 0 rfl) (rd_some hq8 (rd_some hc8 (rd_some (varP.ld S33' gs_item 0 rfl) ?_))))
      refine gridP.app (K := k32) (by decide) S33' 2 rfl hiP x.f2 hq8 hc8 (by omega) (by omega) fun c' h35 S35 => ?_
      have S35' : SS h0 h35 [varP k34 b x, gridP k51 st T, gridM k32 sp i' c' (P.set i' (P[i'] ++ [x.f2])), flowP p (A.put x.f1 x.f2).2] := S35
      obtain ⟨q9, h36, hq9, hs9, S36⟩ := gridM.st S35' 2 rfl (by simpa using hiP)
      refine ⟨by rw [← hs]; exact varP.ld S35' gs_a 0 rfl, rd_some hq9 (rd_some hs9 ?_)⟩
      have S36' : SS h0 h36 [varP k34 b x, gridP k51 st T, gridP k32 sp (P.set i' (P[i'] ++ [x.f2])), flowP p (A.put x.f1 x.f2).2] := S36
      rw [he] at S36'
      exact next _ _ _ _ ⟨S36'.tail, o.put hq hP hm (by rw [← hs]; exact he), by simp [O.n], O.m⟩
    · have hz : (A.put x.f1 x.f2).1 ≠ 0 := by simpa using c4
      rw [put_none hz] at S33
      exact next _ _ _ _ ⟨SG.tail S33, o.more, O.n, O.m⟩
  · -- pass
    refine rd_some (varP.ld S10 gs_a 0 rfl) (passP S10 3 rfl x.f1 fun h37 S37 => ?_)
    have O' := o.pass x.f1
    exact next _ _ _ _ ⟨SG.tail S37, O'.more, by rw [← O'.lenP, o.lenP, O.n], by rw [← O'.lenT, o.lenT, O.m]⟩
  · -- take
    refine rd_some (varP.ld S10 gs_a 0 rfl) (takeP S10 3 rfl x.f1 fun h38 S38 => ?_)
    have S38' : SS h0 h38 [varP k34 b x, gridP k51 st T, gridP k32 sp P, flowP p (A.take x.f1).2] := S38
    refine S38'.cell (K := k32) (x := (A.take x.f1).1.2.1) fun b2 h40 S40 _ => ?_
    rcases take_cases A x.f1 with ⟨hg, he⟩ | ⟨j, ms, r, hs, hb, hr, he⟩
    · refine ite_f (by simpa using hg) ?_
      rw [he] at S40
      exact next _ _ _ _ ⟨S40.tail.tail, o.more, O.n, O.m⟩
    · rw [hr] at S40 ⊢
      have hjT : j < T.length := by rw [o.lenT]; exact (List.getElem?_eq_some_iff.1 hb).1
      have hT := List.getElem?_eq_getElem hjT
      have htl := o.tl _ _ hT
      obtain ⟨q8, c8, hq8, hc8, _⟩ := gridP.get S40 2 rfl hjT
      refine ite_t rfl (rd_some (x := (j : Int)) (by rw [← hs]; exact varP.ld S40 gs_a 1 rfl) (rd_some (x := (j : Int)) (by rw [← hs]; exact varP.ld S40 gs_a 1 rfl) (rd_some hq8 (rd_some hc8 (rd_some (varP.ld S40 (Fld.whole k32) 0 rfl) ?_)))))
      refine gridP.app (K := k51) (by decide) S40 2 rfl hjT (⟨ms.f0, ms.f1⟩ : Tk) hq8 hc8 (by omega) (by omega) fun c' h35 S35 => ?_
      have S35' : SS h0 h35 [varP k32 b2 ms.f1, varP k34 b x, gridM k51 st j c' (T.set j (T[j] ++ [⟨ms.f0, ms.f1⟩])), gridP k32 sp P, flowP p (A.take x.f1).2] := S35
      obtain ⟨q9, h36, hq9, hs9, S36⟩ := gridM.st S35' 2 rfl (by simpa using hjT)
      refine ⟨by rw [← hs]; exact varP.ld S35' gs_a 1 rfl, rd_some hq9 (rd_some hs9 ?_)⟩
      have S36' : SS h0 h36 [varP k32 b2 ms.f1, varP k34 b x, gridP k51 st (T.set j (T[j] ++ [⟨ms.f0, ms.f1⟩])), gridP k32 sp P, flowP p (A.take x.f1).2] := S36
      rw [he] at S36'
      exact next _ _ _ _ ⟨S36'.tail.tail, (o.take hb hT (by rw [← hs]; exact he)).more, O.n, by simp [O.m]⟩
  · exact next _ _ _ _ ⟨S10.tail, o.more, O.n, O.m⟩

/-- The rest is passed and taken. -/
theorem order_rest {h0 h9 : H} {p : Addr} {n m : Nat} {sp st sc : Sl} {N : Nat} (hl : sc.len = N) (hN : N ≤ 5000) {A0 : AF} {P : List (List Item)} {T0 : List (List Tk)} (O : OS h0 h9 p sp st n m A0 P T0 N) (hn : n ≤ 8) (hm : m ≤ 8) {Q : Unit ⊕ Bool → H → Prop}
    (k : ∀ h10 A T, OS h0 h10 p sp st n m A P T N → A.empty = true → Q (.inl ()) h10) : loopE (spatelaw15_FlowOrder.b3 (n : Int) (m : Int) sc (some p) sp st) 0 h9 Q := by
  refine loopE_rule (fun μ s h' => ∃ (c : Nat) (A : AF) (T : List (List Tk)), s = (c : Int) ∧ c ≤ took T ∧ μ = 8 * N - took T ∧ OS h0 h' p sp st n m A P T N) (8 * N - took T0) ⟨0, A0, T0, rfl, Nat.zero_le _, rfl, O⟩ ?_
  rintro μ s h4 K ⟨c, A, T, rfl, hc, rfl, O⟩ kl kr
  unfold spatelaw15_FlowOrder.b3
  refine emptyP O.S 2 rfl fun h16 S16 => ?_
  have hw := O.o.w
  refine ite_b (fun ce => ?_) (fun ce => kr _ _ (k _ A T ⟨S16, O.o, O.n, O.m⟩ (by simpa using ce)))
  have hne : A.empty = false := by simpa using ce
  have hw1 : IntKind.i64.wrap (20 * (sc.len : Int)) = 20 * (N : Int) := by rw [hl]; exact wrap64_id (by omega) (by omega)
  have hw2 : IntKind.i64.wrap (20 * (N : Int) + 100) = 20 * (N : Int) + 100 := wrap64_id (by omega) (by omega)
  refine jn_i (ite_f (by rw [hw1, hw2]; simp; omega) (jn_i ?_))
  -- each source is passed
  refine loopE_rule (fun μ s h' => ∃ (i : Nat) (B : AF), s = (i : Int) ∧ i ≤ n ∧ μ = n - i ∧ OS h0 h' p sp st n m B P T N ∧ (anyBox B ∨ ∃ (i' : Nat) (q : List Item × Nat), i ≤ i' ∧ B.qs[i']? = some q ∧ q.1 ≠ [])) n
    ⟨0, A, rfl, Nat.zero_le _, rfl, ⟨S16, O.o, O.n, O.m⟩, (not_empty hne).imp id fun ⟨i, q, h1, h2⟩ => ⟨i, q, Nat.zero_le _, h1, h2⟩⟩ ?_
  rintro μ s h5 K5 ⟨i, B, rfl, hi, rfl, OB, hB⟩ kl5 kr5
  unfold spatelaw15_FlowOrder.b5
  refine ite_b (fun ci => ?_) (fun ci => kr5 _ _ ?_)
  · have hi' : i < n := by simp at ci; omega
    refine passP OB.S 2 rfl (i : Int) fun h27 S27 => ?_
    have o' := OB.o.pass (i : Int)
    refine kl5 (n - (i + 1)) _ _ (by omega) ⟨i + 1, (B.pass (i : Int)).2, (wrap64_id (by omega) (by omega)).trans (by omega), by omega, rfl, ⟨S27, o', by rw [← o'.lenP, OB.o.lenP, OB.n], by rw [← o'.lenT, OB.o.lenT, OB.m]⟩, ?_⟩
    rcases hB with hB | ⟨i', q, hii, hq, hqe⟩
    · exact .inl (hB.pass OB.o.ok _)
    · rcases Nat.lt_or_ge i i' with hlt | hge
      · exact .inr ⟨i', q, hlt, by rw [pass_keeps OB.o.ok (by omega)]; exact hq, hqe⟩
      · have : i' = i := by omega
        subst this
        exact .inl (pass_brings OB.o.ok hq hqe)
  · have hie : i = n := by simp at ci; omega
    have hB' : anyBox B := by
      rcases hB with hB | ⟨i', q, hii, hq, hqe⟩
      · exact hB
      · have := (List.getElem?_eq_some_iff.1 hq).1
        have := OB.n
        omega
    -- each operator takes
    refine loopE_rule (fun μ s h' => ∃ (j : Nat) (C : AF) (T' : List (List Tk)), s = (j : Int) ∧ j ≤ m ∧ μ = m - j ∧ OS h0 h' p sp st n m C P T' N ∧ (took T < took T' ∨ (took T' = took T ∧ ∃ (j' : Nat) (b : List Msg), j ≤ j' ∧ C.bs[j']? = some b ∧ b ≠ []))) m
      ⟨0, B, T, rfl, Nat.zero_le _, rfl, OB, .inr ⟨rfl, by obtain ⟨j, b, h1, h2⟩ := hB'; exact ⟨j, b, Nat.zero_le _, h1, h2⟩⟩⟩ ?_
    rintro μ s h6 K6 ⟨j, C, T', rfl, hj, rfl, OC, hC⟩ kl6 kr6
    unfold spatelaw15_FlowOrder.b4
    refine ite_b (fun cj => ?_) (fun cj => kr6 _ _ ?_)
    · have hj' : j < m := by simp at cj; omega
      have hwj : IntKind.i64.wrap ((j : Int) + 1) = ((j + 1 : Nat) : Int) := (wrap64_id (by omega) (by omega)).trans (by omega)
      refine jn_i (takeP OC.S 2 rfl (j : Int) fun h20 S20 => ?_)
      refine SG.cell (K := k32) (x := (C.take (j : Int)).1.2.1) S20 fun b h22 S22 _ => ?_
      rcases take_cases C (j : Int) with ⟨hg, he⟩ | ⟨j', ms, r, hs, hb, hr, he⟩
      · refine ite_f (by simpa using hg) ?_
        rw [he] at S22
        rw [hwj]
        refine kl6 (m - (j + 1)) _ _ (by omega) ⟨j + 1, C, T', rfl, by omega, rfl, ⟨SG.tail S22, OC.o, OC.n, OC.m⟩, hC.imp id fun ⟨e, j', b, h1, h2, h3⟩ => ⟨e, j', b, ?_, h2, h3⟩⟩
        rcases Nat.lt_or_ge j j' with hlt | hge
        · exact hlt
        · have : j' = j := by omega
          subst this
          cases b with
          | nil => exact absurd rfl h3
          | cons x r => exact absurd (take_ok h2) hg
      · obtain rfl : j = j' := by omega
        have S22' : SS h0 h22 [varP k32 b (C.take (j : Int)).1.2.1, gridP k51 st T', gridP k32 sp P, flowP p (C.take (j : Int)).2] := S22
        rw [hr] at S22' ⊢
        have hjT : j < T'.length := by rw [OC.o.lenT]; exact (List.getElem?_eq_some_iff.1 hb).1
        have hT := List.getElem?_eq_getElem hjT
        have htl := OC.o.tl _ _ hT
        obtain ⟨q8, c8, hq8, hc8, _⟩ := gridP.get S22' 1 rfl hjT
        refine ite_t rfl (rd_some hq8 (rd_some hc8 (rd_some (varP.ld S22' (Fld.whole k32) 0 rfl) ?_)))
        refine gridP.app (K := k51) (by decide) S22' 1 rfl hjT (⟨ms.f0, ms.f1⟩ : Tk) hq8 hc8 (by omega) (by omega) fun c' h35 S35 => ?_
        have S35' : SS h0 h35 [varP k32 b ms.f1, gridM k51 st j c' (T'.set j (T'[j] ++ [⟨ms.f0, ms.f1⟩])), gridP k32 sp P, flowP p (C.take (j : Int)).2] := S35
        obtain ⟨q9, h36, hq9, hs9, S36⟩ := gridM.st S35' 1 rfl (by simpa using hjT)
        refine rd_some hq9 (rd_some hs9 ?_)
        have S36' : SS h0 h36 [varP k32 b ms.f1, gridP k51 st (T'.set j (T'[j] ++ [⟨ms.f0, ms.f1⟩])), gridP k32 sp P, flowP p (C.take (j : Int)).2] := S36
        rw [he] at S36'
        rw [hwj]
        have htk := took_take hT (⟨ms.f0, ms.f1⟩ : Tk)
        refine kl6 (m - (j + 1)) _ _ (by omega) ⟨j + 1, _, _, rfl, by omega, rfl, ⟨S36'.tail, OC.o.take hb hT he, OC.n, by simp [OC.m]⟩, .inl ?_⟩
        rw [htk]
        rcases hC with h | ⟨h, _⟩ <;> omega
    · have hje : j = m := by simp at cj; omega
      have hT : took T < took T' := by
        rcases hC with h | ⟨_, j', b, h1, h2, h3⟩
        · exact h
        · have := (List.getElem?_eq_some_iff.1 h2).1
          have := OC.m
          omega
      have hw' := OC.o.w
      exact kl (8 * N - took T') _ _ (by omega) ⟨c + 1, C, T', (wrap64_id (by omega) (by omega)).trans (by omega), by omega, rfl, OC⟩

theorem order_looks {h0 h10 : H} {p : Addr} {n m : Nat} {sp st : Sl} {N : Nat} (hN : N ≤ 5000) {A : AF} {P : List (List Item)} {T : List (List Tk)} (O : OS h0 h10 p sp st n m A P T N) (he : A.empty = true) (hn : n ≤ 8) (hm : m ≤ 8) {Q : Unit ⊕ Bool → H → Prop}
    (k : ∀ h11, Ext h0 h11 → Q (.inl ()) h11) : loopE (spatelaw15_FlowOrder.b1 (n : Int) (m : Int) (some p) sp st) 0 h10 Q := by
  refine loopE_rule (fun μ s h' => ∃ (j : Nat), s = (j : Int) ∧ j ≤ m ∧ μ = m - j ∧ OS h0 h' p sp st n m A P T N) m ⟨0, rfl, Nat.zero_le _, rfl, O⟩ ?_
  rintro μ s h4 K ⟨j, rfl, hj, rfl, O4⟩ kl kr
  unfold spatelaw15_FlowOrder.b1
  refine ite_b (fun cj => ?_) (fun cj => kr _ _ (k _ O4.S.e))
  have hj' : j < m := by simp at cj; omega
  refine jn_i (loopE_rule (fun μ s h' => ∃ (i : Nat), s = (i : Int) ∧ i ≤ n ∧ μ = n - i ∧ OS h0 h' p sp st n m A P T N) n ⟨0, rfl, Nat.zero_le _, rfl, O4⟩ ?_)
  rintro μ s h5 K5 ⟨i, rfl, hi, rfl, O5⟩ kl5 kr5
  unfold spatelaw15_FlowOrder.b2
  refine ite_b (fun ci => ?_) (fun ci => kr5 _ _ ?_)
  · have hi' : i < n := by simp at ci; omega
    have o := O5.o
    have hiP : i < P.length := by rw [o.lenP, O5.n]; exact hi'
    have hjT : j < T.length := by rw [o.lenT, O5.m]; exact hj'
    obtain ⟨q1, c1, hq1, hc1, _, o1⟩ := gridP.get O5.S 1 rfl hiP
    obtain ⟨q2, c2, hq2, hc2, _, o2⟩ := gridP.get O5.S 0 rfl hjT
    obtain ⟨F, R, _⟩ := O5.S.at 2 (P := flowP p A) rfl
    have hp := o.pl _ _ (List.getElem?_eq_getElem hiP)
    have ht := o.tl _ _ (List.getElem?_eq_getElem hjT)
    refine rd_some hq1 (rd_some hc1 (rd_some hq2 (rd_some hc2 (inOrder_spec R o1 o2 (o.kz _ _ (List.getElem?_eq_getElem hiP)) i j (o.done he (List.getElem?_eq_getElem hiP) (List.getElem?_eq_getElem hjT)) (by omega) (by omega) fun h13 e13 => ite_f rfl ?_))))
    exact kl5 (n - (i + 1)) _ _ (by omega) ⟨i + 1, (wrap64_id (by omega) (by omega)).trans (by omega), by omega, rfl, ⟨O5.S.ext e13, o, O5.n, O5.m⟩⟩
  · exact kl (m - (j + 1)) _ _ (by omega) ⟨j + 1, (wrap64_id (by omega) (by omega)).trans (by omega), by omega, rfl, O5⟩

theorem order_true (a0 a1 a2 : Int) (sc : Sl) (xs : List S34) (h : H) (hsc : Rds k34 h sc xs) (hw : ∀ y ∈ xs, w34 y) (hlen : xs.length ≤ maxLen) : spatelaw15_FlowOrder a0 a1 a2 sc h fun r h' => r = true ∧ Ext h h' := by
  unfold spatelaw15_FlowOrder
  have hl := hsc.len
  refine known_spec h fun h1 e1 => ite_f rfl ?_
  refine ite_b (fun _ => ⟨rfl, e1⟩) fun hbig => ?_
  have hbig' : xs.length ≤ 5000 := by simp at hbig; omega
  refine small_spec h1 a0 8 (by decide) (by decide) fun n n1 n8 => ?_
  refine small_spec h1 a1 8 (by decide) (by decide) fun m m1 m8 => ?_
  refine small_spec h1 a2 64 (by decide) (by decide) fun k k1 k4 => ?_
  refine new_spec n m k (fun hb => by omega) fun n' m' k' p h3 F3 q1 q2 q3 _ _ _ _ _ _ R3 n3 x3 => ?_
  obtain rfl : n = n' := by omega
  obtain rfl : m = m' := by omega
  obtain rfl : k = k' := by omega
  refine jn_i (ite_f rfl (ite_f rfl ?_))
  have S3 : SS h h3 [flowP p (AF.new n m k)] := (SS.nil e1).add (P := flowP p _) R3 x3 n3
  refine S3.grid k32 (by omega) (by omega) fun sp h7 S7 _ => ?_
  refine S7.grid k51 (by omega) (by omega) fun st h8 S8 _ => ?_
  have O8 : OS h h8 p sp st n m (AF.new n m k) (List.replicate n []) (List.replicate m []) 0 := ⟨S8, OInv.new n1 (by omega) m1 (by omega) k1 (by omega), by simp [AF.new], by simp [AF.new]⟩
  refine jn_i (order_script hsc hbig' O8 _ _ fun h9 A P T O9 => ?_)
  refine jn_i (order_rest hl hbig' O9 (by omega) (by omega) fun h10 A' T' O10 he => ?_)
  refine jn_i (order_looks hbig' O10 he (by omega) (by omega) fun h11 e11 => ⟨rfl, e11⟩)
end Go.Proofs.Ytanpaamamfabkaa
