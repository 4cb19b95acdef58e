/- The program's flow in memory: how it lies there, and what each of its calls does. -/
import Derived.Test.YtanpaamamfabkaaSep
import Derived.Test.YtanpaamamfabkaaFlowA
import Derived.Test.YtanpaamamfabkaaG0
import Derived.Test.YtanpaamamfabkaaG1
import Derived.Test.YtanpaamamfabkaaG2
namespace Go.Proofs.Ytanpaamamfabkaa
open Go Go.Tr
set_option linter.unusedVariables false

/-! fields -/
theorem fq_items : Fld k78 kL 0 (·.f0) (fun x v => { x with f0 := v }) := ⟨by decide, fun _ => rfl, fun _ _ => rfl⟩
theorem fq_to : Fld k78 (kI .i64) 1 (·.f1) (fun x v => { x with f1 := v }) := ⟨by decide, fun _ => rfl, fun _ _ => rfl⟩
theorem fb_ring : Fld k61 kL 0 (·.f0) (fun x v => { x with f0 := v }) := ⟨by decide, fun _ => rfl, fun _ _ => rfl⟩
theorem fb_first : Fld k61 (kI .i64) 1 (·.f1) (fun x v => { x with f1 := v }) := ⟨by decide, fun _ => rfl, fun _ _ => rfl⟩
theorem fb_many : Fld k61 (kI .i64) 2 (·.f2) (fun x v => { x with f2 := v }) := ⟨by decide, fun _ => rfl, fun _ _ => rfl⟩
theorem ff_queues : Fld k58 kL 0 (·.f0) (fun x v => { x with f0 := v }) := ⟨by decide, fun _ => rfl, fun _ _ => rfl⟩
theorem ff_boxes : Fld k58 kL 1 (·.f1) (fun x v => { x with f1 := v }) := ⟨by decide, fun _ => rfl, fun _ _ => rfl⟩
theorem fi_mark : Fld k32 kB 0 (·.f0) (fun x v => { x with f0 := v }) := ⟨by decide, fun _ => rfl, fun _ _ => rfl⟩
theorem fi_key : Fld k32 kS 1 (·.f1) (fun x v => { x with f1 := v }) := ⟨by decide, fun _ => rfl, fun _ _ => rfl⟩
theorem fi_time : Fld k32 (kI .i64) 2 (·.f2) (fun x v => { x with f2 := v }) := ⟨by decide, fun _ => rfl, fun _ _ => rfl⟩
theorem fi_value : Fld k32 (kI .i64) 3 (·.f3) (fun x v => { x with f3 := v }) := ⟨by decide, fun _ => rfl, fun _ _ => rfl⟩
theorem fm_source : Fld k82 (kI .i64) 0 (·.f0) (fun x v => { x with f0 := v }) := ⟨by decide, fun _ => rfl, fun _ _ => rfl⟩
theorem fm_item : Fld k82 k32 1 (·.f1) (fun x v => { x with f1 := v }) := ⟨by decide, fun _ => rfl, fun _ _ => rfl⟩

/-! what is whose -/
inductive Tag where
  | f | qa | ba | q (i : Nat) | r (j : Nat)
  deriving DecidableEq
structure BRep (h : H) (F : Nat → Prop) (most : Nat) (c : S61) (l : List Msg) : Prop where
  h : ∃ br ms fst, c = ⟨⟨some ⟨br, 0, none⟩, most, most⟩, ((fst : Nat) : Int), ((l.length : Nat) : Int)⟩ ∧ F br ∧ Arr k82 h br ms ∧ ms.length = most ∧ fst < most ∧ l.length ≤ most ∧ ∀ i, i < l.length → ms[(fst + i) % most]? = l[i]?
theorem BRep.same {h h' : H} {F : Nat → Prop} {m : Nat} {c : S61} {l : List Msg} (R : BRep h F m c l) (e : ∀ b, F b → b < h.size → h'[b]? = h[b]?) : BRep h' F m c l := by
  obtain ⟨br, ms, fst, h1, h2, h3, h4⟩ := R.h
  exact ⟨br, ms, fst, h1, h2, h3.same (e br h2 (Blk.lt h3)), h4⟩

/-- The program's flow at p shows A; the blocks that own names are its own. -/
structure FOwn (h : H) (p : Addr) (A : AF) (own : Nat → Option Tag) (bF bq bb : Nat) (cq : List S78) (cb : List S61) : Prop where
  p : p = ⟨bF, 0, none⟩
  of : own bF = some .f
  oq : own bq = some .qa
  ob : own bb = some .ba
  lt : ∀ b, own b ≠ none → b < h.size
  f : Var k58 h bF ⟨⟨some ⟨bq, 0, none⟩, A.qs.length, A.qs.length⟩, ⟨some ⟨bb, 0, none⟩, A.bs.length, A.bs.length⟩⟩
  q : Arr k78 h bq cq
  ql : cq.length = A.qs.length
  qr : ∀ (i : Nat) (c : S78) (q : List Item × Nat), cq[i]? = some c → A.qs[i]? = some q → Own k32 h (fun b => own b = some (.q i)) c.f0 q.1 ∧ c.f1 = q.2
  b : Arr k61 h bb cb
  bl : cb.length = A.bs.length
  br : ∀ (j : Nat) (c : S61) (l : List Msg), cb[j]? = some c → A.bs[j]? = some l → BRep h (fun b => own b = some (.r j)) A.most c l
structure FRep (h : H) (p : Addr) (A : AF) (F : Nat → Prop) : Prop where
  ok : A.Ok
  h : ∃ own bF bq bb cq cb, FOwn h p A own bF bq bb cq cb ∧ F = fun b => own b ≠ none

theorem FOwn.frame {h h' : H} {p : Addr} {A : AF} {own : Nat → Option Tag} {bF bq bb : Nat} {cq : List S78} {cb : List S61} (R : FOwn h p A own bF bq bb cq cb) (hs : h.size ≤ h'.size) (e : ∀ b, own b ≠ none → h'[b]? = h[b]?) : FOwn h' p A own bF bq bb cq cb where
  p := R.p
  of := R.of
  oq := R.oq
  ob := R.ob
  lt b hb := Nat.lt_of_lt_of_le (R.lt b hb) hs
  f := R.f.same (e _ (by rw [R.of]; simp))
  q := R.q.same (e _ (by rw [R.oq]; simp))
  ql := R.ql
  qr i c q h1 h2 := ⟨(R.qr i c q h1 h2).1.same fun b hb _ => e b (by rw [hb]; simp), (R.qr i c q h1 h2).2⟩
  b := R.b.same (e _ (by rw [R.ob]; simp))
  bl := R.bl
  br j c l h1 h2 := (R.br j c l h1 h2).same fun b hb _ => e b (by rw [hb]; simp)
theorem FRep.frame {h h' : H} {p : Addr} {A : AF} {F : Nat → Prop} (R : FRep h p A F) (hs : h.size ≤ h'.size) (e : ∀ b, F b → b < h.size → h'[b]? = h[b]?) : FRep h' p A F := by
  obtain ⟨ok, own, bF, bq, bb, cq, cb, R, rfl⟩ := R
  exact ⟨ok, own, bF, bq, bb, cq, cb, R.frame hs fun b hb => e b hb (R.lt b hb), rfl⟩
theorem FRep.ext {h h' : H} {p : Addr} {A : AF} {F : Nat → Prop} (R : FRep h p A F) (e : Ext h h') : FRep h' p A F := R.frame e.1 fun b _ hb => e.2 b hb
theorem FRep.lt {h : H} {p : Addr} {A : AF} {F : Nat → Prop} (R : FRep h p A F) : ∀ b, F b → b < h.size := by
  obtain ⟨ok, own, bF, bq, bb, cq, cb, R, rfl⟩ := R
  exact R.lt

section
variable {h : H} {p : Addr} {A : AF} {own : Nat → Option Tag} {bF bq bb : Nat} {cq : List S78} {cb : List S61}
theorem FOwn.ldq (R : FOwn h p A own bF bq bb cq cb) : ld kL (p.add 0) h = some ⟨some ⟨bq, 0, none⟩, A.qs.length, A.qs.length⟩ := by
  rw [R.p, add_mk]; exact R.f.ld ff_queues
theorem FOwn.ldb (R : FOwn h p A own bF bq bb cq cb) : ld kL (p.add 1) h = some ⟨some ⟨bb, 0, none⟩, A.bs.length, A.bs.length⟩ := by
  rw [R.p, add_mk]; exact R.f.ld ff_boxes
theorem ixA_arr {b n i : Nat} {size : Nat} (hi : i < n) : ixA size ⟨some ⟨b, 0, none⟩, n, n⟩ (i : Int) = some ⟨b, i * size, none⟩ := by
  unfold ixA
  simp only
  rw [if_pos (by omega)]
  simp
/-- A source that there is. -/
theorem of_good (R : FOwn h p A own bF bq bb cq cb) {i : Nat} (hi : i < A.qs.length) {Q : (Option Addr × Int) → H → Prop} (k : Q (some ⟨bq, i * 2, none⟩, 0) h) : flow_Flow_of (some p) (i : Int) h Q := by
  unfold flow_Flow_of
  refine jn_i (ite_f (by simp) (rd_some rfl (rd_some R.ldq ?_)))
  exact ite_f (by simp; omega) (rd_some rfl (rd_some R.ldq (rd_some (ixA_arr hi) k)))
theorem of_bad (R : FOwn h p A own bF bq bb cq cb) {s : Int} (hs : s < 0 ∨ (A.qs.length : Int) ≤ s) {Q : (Option Addr × Int) → H → Prop} (k : Q (none, 1) h) : flow_Flow_of (some p) s h Q := by
  unfold flow_Flow_of
  refine jn_i (ite_b (fun _ => ite_t rfl k) fun h0 => rd_some rfl (rd_some R.ldq (ite_t ?_ k)))
  simp at h0 ⊢; omega
end

/-! the hash and the route -/
theorem hash_spec (key : ByteArray) (h : H) (hk : key.size < 9223372036854775808) {Q : Int → H → Prop} (k : ∀ h', Ext h h' → Q (hashA key) h') : table_Hash key h Q := by
  unfold table_Hash
  refine jn_i (s2b_own hk fun s' h' o e hs => ?_)
  have hl := o.len
  have hb : (bytesI key).length = key.size := by simp [bytesI]
  refine loopE_rule (fun n s h'' => h'' = h' ∧ ∃ i : Nat, s.2 = (i : Int) ∧ i ≤ key.size ∧ n = key.size - i ∧ s.1 = ((bytesI key).take i).foldl hashStep 14695981039346656037) key.size ⟨rfl, 0, rfl, by omega, by omega, rfl⟩ ?_
  rintro n ⟨a, i⟩ h'' K ⟨rfl, i, rfl, hi, rfl, ha⟩ kl kr
  simp only at ha
  subst ha
  unfold table_Hash.b1
  by_cases hlt : i < key.size
  · obtain ⟨ad, h1, h2⟩ := o.get0 (i := i) (by omega)
    refine ite_t (by simp; omega) (rd_some h1 (rd_some h2 (kl (key.size - (i + 1)) _ _ (by omega) ⟨rfl, i + 1, ?_, by omega, by omega, ?_⟩)))
    · simp only
      rw [wrap64_id (by omega) (by omega)]; omega
    · simp only
      rw [List.take_succ_eq_append_getElem (by omega), List.foldl_append]
      rfl
  · refine ite_f (by simp; omega) (kr _ _ ?_)
    rw [List.take_of_length_le (by omega)]
    exact k _ e
theorem route_spec {h : H} {p : Addr} {A : AF} {F : Nat → Prop} (R : FRep h p A F) (key : ByteArray) (hk : key.size < 9223372036854775808) {Q : Int → H → Prop} (k : ∀ h', Ext h h' → Q (routeA key A.bs.length) h') : flow_Flow_Route (some p) key h Q := by
  obtain ⟨ok, own, bF, bq, bb, cq, cb, R, rfl⟩ := R
  unfold flow_Flow_Route
  refine rd_some rfl (rd_some R.ldb (hash_spec key h hk fun h' e => ⟨ld_ext e R.ldb, ?_⟩))
  have hb := ok.b1
  have hb8 := ok.b8
  have hr := routeA_range key (m := A.bs.length) (by omega)
  have hw : IntKind.u64.wrap (A.bs.length : Int) = A.bs.length := wrapu64_id (by omega) (by omega)
  refine rd_some (x := (IntKind.u64.wrap (hashA key * 11400714819323198485)).fdiv 4294967296) ?_ (rd_some (x := routeA key A.bs.length) ?_ ?_)
  · unfold shrI; rw [if_neg (by decide)]; rfl
  · unfold remI
    simp only [hw]
    rw [if_neg (by omega)]; rfl
  · rw [wrap64_id (by omega) (by omega)]; exact k _ e

/-! what a call leaves -/
section
variable {h h' : H} {p : Addr} {A : AF} {own own' : Nat → Option Tag} {bF bq bb : Nat} {cq : List S78} {cb : List S61}
theorem FOwn.setq (R : FOwn h p A own bF bq bb cq cb) {i : Nat} {c' : S78} {q' : List Item × Nat} (hs : h.size ≤ h'.size) (hk : ∀ b, b < h.size → own b ≠ some (.q i) → b ≠ bq → h'[b]? = h[b]?)
    (h1 : Arr k78 h' bq (cq.set i c')) (h2 : Own k32 h' (fun b => own' b = some (.q i)) c'.f0 q'.1) (h3 : c'.f1 = q'.2) (h4 : ∀ b, own b ≠ none → own' b = own b) (h5 : ∀ b, own' b ≠ none → b < h'.size) :
    FOwn h' p { A with qs := A.qs.set i q' } own' bF bq bb (cq.set i c') cb where
  p := R.p
  of := by rw [h4 _ (by rw [R.of]; simp), R.of]
  oq := by rw [h4 _ (by rw [R.oq]; simp), R.oq]
  ob := by rw [h4 _ (by rw [R.ob]; simp), R.ob]
  lt := h5
  f := by
    have hne : bF ≠ bq := fun e => by have := R.of; rw [e, R.oq] at this; cases this
    simpa using R.f.same (hk _ (R.lt _ (by rw [R.of]; simp)) (by rw [R.of]; simp) hne)
  q := h1
  ql := by simp [R.ql]
  qr j c q hc hq := by
    rcases getElem?_set_cases hc with ⟨rfl, rfl⟩ | ⟨hj, hc⟩
    · rcases getElem?_set_cases hq with ⟨_, rfl⟩ | ⟨hj, _⟩
      · exact ⟨h2, h3⟩
      · exact absurd rfl hj
    · rcases getElem?_set_cases hq with ⟨e, _⟩ | ⟨_, hq⟩
      · exact absurd e hj
      · obtain ⟨o, e⟩ := R.qr j c q hc hq
        refine ⟨(o.same fun b hb hlt => hk b hlt ?_ ?_).mono fun b hb => ?_, e⟩
        · rw [hb]; simp [hj]
        · intro e; rw [e, R.oq] at hb; cases hb
        · rw [h4 b (by rw [hb]; simp), hb]
  b := by
    have hne : bb ≠ bq := fun e => by have := R.ob; rw [e, R.oq] at this; cases this
    exact R.b.same (hk _ (R.lt _ (by rw [R.ob]; simp)) (by rw [R.ob]; simp) hne)
  bl := R.bl
  br j c l hc hl := by
    have r : BRep h' (fun b => own b = some (.r j)) A.most c l := (R.br j c l hc hl).same fun b hb hlt => hk b hlt (by rw [hb]; simp) (fun e => by rw [e, R.oq] at hb; cases hb)
    · obtain ⟨br, ms, fst, g1, g2, g3⟩ := r.h
      exact ⟨br, ms, fst, g1, by rw [h4 br (by rw [g2]; simp), g2], g3⟩
theorem FOwn.setb (R : FOwn h p A own bF bq bb cq cb) {j : Nat} {c' : S61} {l' : List Msg} (hs : h.size ≤ h'.size) (hk : ∀ b, b < h.size → own b ≠ some (.r j) → b ≠ bb → h'[b]? = h[b]?)
    (h1 : Arr k61 h' bb (cb.set j c')) (h2 : BRep h' (fun b => own b = some (.r j)) A.most c' l') :
    FOwn h' p { A with bs := A.bs.set j l' } own bF bq bb cq (cb.set j c') where
  p := R.p
  of := R.of
  oq := R.oq
  ob := R.ob
  lt b hb := Nat.lt_of_lt_of_le (R.lt b hb) hs
  f := by
    have hne : bF ≠ bb := fun e => by have := R.of; rw [e, R.ob] at this; cases this
    simpa using R.f.same (hk _ (R.lt _ (by rw [R.of]; simp)) (by rw [R.of]; simp) hne)
  q := by
    have hne : bq ≠ bb := fun e => by have := R.oq; rw [e, R.ob] at this; cases this
    exact R.q.same (hk _ (R.lt _ (by rw [R.oq]; simp)) (by rw [R.oq]; simp) hne)
  ql := R.ql
  qr i c q hc hq := by
    obtain ⟨o, e⟩ := R.qr i c q hc hq
    refine ⟨o.same fun b hb hlt => hk b hlt ?_ ?_, e⟩
    · rw [hb]; simp
    · intro e; rw [e, R.ob] at hb; cases hb
  b := h1
  bl := by simp [R.bl]
  br i c l hc hl := by
    rcases getElem?_set_cases hc with ⟨rfl, rfl⟩ | ⟨hj, hc⟩
    · rcases getElem?_set_cases hl with ⟨_, rfl⟩ | ⟨hj, _⟩
      · exact h2
      · exact absurd rfl hj
    · rcases getElem?_set_cases hl with ⟨e, _⟩ | ⟨_, hl⟩
      · exact absurd e hj
      · refine (R.br i c l hc hl).same fun b hb hlt => hk b hlt ?_ ?_
        · rw [hb]; simp [hj]
        · intro e; rw [e, R.ob] at hb; cases hb
end

theorem source_cases (A : AF) (s : Int) : (s < 0 ∨ (A.qs.length : Int) ≤ s) ∨ ∃ i : Nat, s = (i : Int) ∧ i < A.qs.length := by
  by_cases h0 : s < 0
  · exact .inl (.inl h0)
  · by_cases h1 : (A.qs.length : Int) ≤ s
    · exact .inl (.inr h1)
    · exact .inr ⟨s.toNat, by omega, by omega⟩
theorem put_bad {A : AF} {s : Int} (x : Item) (h : s < 0 ∨ (A.qs.length : Int) ≤ s) : A.put s x = (1, A) := by
  unfold AF.put
  split
  · rfl
  · unfold AF.putQ
    rw [List.getElem?_eq_none (by omega)]
theorem put_good {A : AF} {i : Nat} (x : Item) (hi : i < A.qs.length) : A.put (i : Int) x = if mayA x != 0 then (mayA x, A) else if (A.qs[i]).1.length = 65536 then (2, A) else (0, { A with qs := A.qs.set i ((A.qs[i]).1 ++ [x], (A.qs[i]).2) }) := by
  unfold AF.put
  rw [if_neg (by omega)]
  unfold AF.putQ
  rw [Int.toNat_natCast, List.getElem?_eq_getElem hi]

theorem put_spec {h : H} {p : Addr} {A : AF} {F : Nat → Prop} (R : FRep h p A F) (s : Int) (x : Item) {Q : Int → H → Prop} (k : ∀ h' F', FRep h' p (A.put s x).2 F' → Frm F F' h h' → Q (A.put s x).1 h') : flow_Flow_Put (some p) s x h Q := by
  have okA := R.ok
  unfold flow_Flow_Put
  refine al_var fun b1 h1 hb1 V1 e1 hs1 => ?_
  have R1 := R.ext e1
  rcases source_cases A s with hs | ⟨i, rfl, hi⟩
  · have hp := put_bad x hs
    rw [hp] at k
    obtain ⟨ok, own, bF, bq, bb, cq, cb, R', rfl⟩ := R1
    refine of_bad R' hs (ite_t rfl ?_)
    exact k h1 _ (R.ext e1) (Frm.ext e1)
  · have hp := put_good x hi
    have R2 := R1
    obtain ⟨ok, own, bF, bq, bb, cq, cb, R', rfl⟩ := R1
    refine of_good R' hi (ite_f rfl ?_)
    have hm := V1.ld fi_mark
    have hkey := V1.ld fi_key
    have ht := V1.ld fi_time
    have hv := V1.ld fi_value
    have kA : ∀ e, mayA x = e → e ≠ 0 → Q e h1 := by
      intro e he hne
      have : (mayA x != 0) = true := by rw [he]; simpa using hne
      rw [hp, this] at k
      simp only [if_true] at k
      rw [he] at k
      exact k h1 _ R2 (Frm.ext e1)
    -- the key
    refine jn_c (!x.f0 && (isEmp x.f1 || decide ((x.f1.size : Int) > 32))) h1 (fun K hK => ?_) ?_
    · refine rd_some hm ?_
      refine ite_b (fun e => ?_) (fun e => ?_)
      · rw [e, Bool.true_and] at hK
        refine rd_some hkey (ite_b (fun e2 => ?_) (fun e2 => rd_some hkey ?_))
        · have : isEmp x.f1 = true := e2
          rw [this, Bool.true_or] at hK; exact hK
        · have : isEmp x.f1 = false := e2
          rw [this, Bool.false_or] at hK; exact hK
      · rw [e, Bool.false_and] at hK; exact hK
    refine ite_b (fun e => kA 21 (by unfold mayA; rw [if_pos e]) (by decide)) (fun n1 => ?_)
    -- the time
    refine jn_c (decide (x.f2 < -1152921504606846976) || decide (x.f2 > 1152921504606846976)) h1 (fun K hK => ?_) ?_
    · refine rd_some ht ?_
      refine ite_b (fun e => ?_) (fun e => rd_some ht ?_)
      · rw [e, Bool.true_or] at hK; exact hK
      · rw [e, Bool.false_or] at hK; exact hK
    refine ite_b (fun e => kA 22 (by unfold mayA; rw [if_neg (by rw [n1]; simp), if_pos e]) (by decide)) (fun n2 => ?_)
    -- a mark bears nothing
    refine jn_c (x.f0 && (!isEmp x.f1 || x.f3 != 0)) h1 (fun K hK => ?_) ?_
    · refine rd_some hm ?_
      refine ite_b (fun e => ?_) (fun e => ?_)
      · rw [e, Bool.true_and] at hK
        refine rd_some hkey (ite_b (fun e2 => ?_) (fun e2 => rd_some hv ?_))
        · have : (!isEmp x.f1) = true := e2
          rw [this, Bool.true_or] at hK; exact hK
        · have : (!isEmp x.f1) = false := e2
          rw [this, Bool.false_or] at hK; exact hK
      · rw [e, Bool.false_and] at hK; exact hK
    refine ite_b (fun e => kA 16 (by unfold mayA; rw [if_neg (by rw [n1]; simp), if_neg (by rw [n2]; simp), if_pos e]) (by decide)) (fun n3 => ?_)
    have hmay : mayA x = 0 := by unfold mayA; rw [if_neg (by rw [n1]; simp), if_neg (by rw [n2]; simp), if_neg (by rw [n3]; simp)]
    rw [hp, hmay] at k
    simp only [bne_self_eq_false, Bool.false_eq_true, if_false] at k
    -- the queue
    have hi' : i < cq.length := by rw [R'.ql]; exact hi
    have hlq := Arr.ld fq_items R'.q hi' (o := i * 2 + 0) rfl
    obtain ⟨oq, eq⟩ := R'.qr i _ _ (List.getElem?_eq_getElem hi') (List.getElem?_eq_getElem hi)
    have hlen := oq.len
    have h64 := okA.ql i _ (List.getElem?_eq_getElem hi)
    refine rd_some rfl (rd_some hlq (ite_b (fun e => ?_) (fun n4 => ?_)))
    · rw [if_pos (by simp at e; omega)] at k
      exact k h1 _ R2 (Frm.ext e1)
    · rw [if_neg (by simp at n4; omega)] at k
      refine rd_some rfl (rd_some hlq (rd_some (V1.ld (Fld.whole k32)) (bs_own (K := k32) [x] (by simp [encs]) rfl fun s4 h6 o4 hl4 e6 hs6 => ?_)))
      have hle : (A.qs[i]).1.length < 65536 := by simp at n4; omega
      refine ap_own (by decide) (oq.ext e6) o4.rdAll o4.len (by simp; omega) (by simp; omega) fun s5 h7 o5 f7 => ?_
      have R6 := R'.frame e6.1 fun b hb => e6.2 b (R'.lt b hb)
      have hq7 : Arr k78 h7 bq cq := R6.q.same (f7.2 _ (R6.lt _ (by rw [R6.oq]; simp)) (fun (e : own bq = some (.q i)) => by rw [R6.oq] at e; cases e))
      obtain ⟨h8, hst, A8, O8⟩ := hq7.st fq_items hi' (o := i * 2 + 0) rfl s5
      refine rd_some rfl (rd_some hst ?_)
      have hb7 : bq < h6.size := R6.lt _ (by rw [R6.oq]; simp)
      have hne7 : ∀ b, (own b = some (.q i) ∨ b = h6.size) → b ≠ bq := by
        rintro b (hb | hb) e
        · rw [e, R6.oq] at hb; cases hb
        · omega
      have key := R6.setq (h' := h8) (own' := fun b => if b = h6.size ∧ b < h7.size then some (.q i) else own b) (i := i) (c' := { cq[i] with f0 := s5 }) (q' := ((A.qs[i]).1 ++ [x], (A.qs[i]).2))
        (by rw [O8.1]; exact f7.1) (fun b hb hn hn2 => (O8.2 b hn2).trans (f7.2 b hb hn)) A8
        ((o5.same fun b hb hlt => O8.2 b (hne7 b hb)).monoL fun b hb hlt => by
          rw [O8.1] at hlt
          rcases hb with hb | hb
          · have := R6.lt b (by rw [hb]; simp)
            rw [if_neg (by omega)]; exact hb
          · rw [if_pos ⟨hb, hlt⟩])
        eq (fun b hb => by have := R6.lt b hb; rw [if_neg (by omega)])
        (fun b hb => by
          rw [O8.1]
          by_cases e : b = h6.size ∧ b < h7.size
          · exact e.2
          · rw [if_neg e] at hb
            have := R6.lt b hb; have := f7.1; omega)
      refine k h8 _ ⟨by have := okA.put (i : Int) x; rw [hp, hmay] at this; simp only [bne_self_eq_false, Bool.false_eq_true, if_false] at this; rw [if_neg (by omega)] at this; exact this, _, bF, bq, bb, _, cb, key, rfl⟩ ?_
      refine ⟨by rw [O8.1]; have := f7.1; have := e6.1; have := e1.1; omega, fun b hb hn => ?_, fun b hb => ?_⟩
      · have hb1 : b < h1.size := by have := e1.1; omega
        have hb6 : b < h6.size := by have := e6.1; omega
        have hn' : own b = none := by simpa using hn
        rw [O8.2 b (fun e => by rw [e, R6.oq] at hn'; cases hn'), f7.2 b hb6 (fun (e : own b = some (.q i)) => by rw [hn'] at e; cases e), e6.2 b hb1, e1.2 b hb]
      · by_cases e : b = h6.size ∧ b < h7.size
        · right; have := e6.1; have := e1.1; omega
        · rw [if_neg e] at hb; exact .inl hb
end Go.Proofs.Ytanpaamamfabkaa
