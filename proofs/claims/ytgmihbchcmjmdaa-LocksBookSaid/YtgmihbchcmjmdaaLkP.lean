/- The looks that the code's manager takes: a task's place, whether sets conflict. They read, and make new cells; nothing else. -/
import Derived.Test.YtgmihbchcmjmdaaLkA
namespace Go.Proofs.Ytgmihbchcmjmdaa
open Go Go.Tr
set_option linter.unusedVariables false
theorem fl_task : Fld kClaim (kI .i64) 0 (·.f0) (fun x v => { x with f0 := v }) := (Fld.whole (kI .i64)).fst.iso
theorem fl_set : Fld kClaim kM 1 (·.f1) (fun x v => { x with f1 := v }) := (Fld.whole kM).snd.iso
theorem fm_locks : Fld kMgr (kI .i64) 0 (·.f0) (fun x v => { x with f0 := v }) := (Fld.whole (kI .i64)).fst.iso
theorem fm_has : Fld kMgr kL 1 (·.f1) (fun x v => { x with f1 := v }) := (Fld.whole kL).fst.snd.iso
theorem fm_queue : Fld kMgr kL 2 (·.f2) (fun x v => { x with f2 := v }) := (Fld.whole kL).snd.snd.iso
theorem fk_n : Fld kLk (kI .i64) 0 (·.f0) (fun x v => { x with f0 := v }) := (Fld.whole (kI .i64)).fst.iso
theorem fk_s : Fld kLk kB 1 (·.f1) (fun x v => { x with f1 := v }) := (Fld.whole kB).snd.iso
def pl : Option Nat → Int
  | none => -1
  | some i => i
theorem pl_neg (o : Option Nat) : decide (pl o ≥ 0) = o.isSome := by
  cases o with
  | none => rfl
  | some i => simp [pl]
section
variable {h : H}
theorem indexf_spec {ι : Type} {g : ι → Claim} {s : Sl} {xs : List ι} {fv : FV} {p : ι → Bool} (R : Rds kClaim h s (xs.map g)) (hl : xs.length < 4611686018427387904)
    (call : ∀ (h1 : H) (x : ι), x ∈ xs → Ext h h1 → ∀ Q : Value → H → Prop, (∀ h2, Ext h1 h2 → Q (.bool (p x)) h2) → apF Try.prog fv [kClaim.val (g x)] h1 Q)
    {Q : Int → H → Prop} (k : ∀ h', Ext h h' → Q (pl (xs.findIdx? p)) h') : slices_IndexFunc___locks_claim_locks_claim_ s fv h Q := by
  unfold slices_IndexFunc___locks_claim_locks_claim_
  refine jn_i ?_
  have hlen := R.len
  rw [List.length_map] at hlen
  refine loopE_rule (fun n i h' => ∃ j : Nat, i = j ∧ n + j = xs.length ∧ Ext h h' ∧ ∀ x ∈ xs.take j, p x = false) xs.length ⟨0, rfl, rfl, Ext.refl _, by simp⟩ ?_
  rintro n _ h1 K ⟨j, rfl, hn, e, hf⟩ next done
  unfold slices_IndexFunc___locks_claim_locks_claim_.b1
  refine ite_b (fun hc => ?_) (fun hc => ?_)
  · have hj : j < xs.length := by rw [decide_eq_true_eq] at hc; omega
    obtain ⟨a, h1', h2'⟩ := (R.ext e).ix (i := j) (by rw [List.length_map]; exact hj) (n := 2) rfl
    rw [List.getElem_map] at h2'
    refine rd_some h1' (rd_some h2' (call h1 xs[j] (List.getElem_mem _) e _ fun h2 e2 => ⟨_, rfl, ?_⟩))
    refine ite_b (fun hp => ?_) (fun hp => ?_)
    · have : xs.findIdx? p = some j := by
        rw [List.findIdx?_eq_some_iff_getElem]
        refine ⟨hj, hp, fun i hi => ?_⟩
        have := hf xs[i] (by rw [List.mem_take_iff_getElem]; exact ⟨i, by omega, rfl⟩)
        simp [this]
      have k' := k h2 (e.trans e2)
      rw [this] at k'
      exact done _ _ k'
    · refine next (n - 1) _ _ (by omega) ⟨j + 1, ?_, by omega, e.trans e2, fun x hx => ?_⟩
      · rw [wrap64_id (by omega) (by omega)]; rfl
      · rw [List.take_add_one, List.getElem?_eq_getElem hj] at hx
        simp only [Option.toList_some, List.mem_append, List.mem_singleton] at hx
        rcases hx with hx | rfl
        · exact hf x hx
        · exact hp
  · have hj : j = xs.length := by rw [decide_eq_false_iff_not] at hc; omega
    refine done _ _ ?_
    have : xs.findIdx? p = none := by
      rw [List.findIdx?_eq_none_iff]
      intro x hx
      exact hf x (by rw [hj, List.take_length]; exact hx)
    have k' := k h1 e
    rw [this] at k'
    exact k'
theorem find1_spec {c : Claim} {a : Addr} {t : Int} (ha : ld (kI .i64) a h = some t) {Q : Bool → H → Prop} (k : ∀ h', Ext h h' → Q (c.f0 == t) h') : locks_find_1 c a h Q := by
  unfold locks_find_1
  refine al_var fun b h1 eb V e z => ?_
  refine rd_some (by rw [add_mk]; exact V.ld fl_task) (rd_some (ld_ext e ha) (k h1 e))
theorem find_spec {ι : Type} {g : ι → Claim} {s : Sl} {xs : List ι} (R : Rds kClaim h s (xs.map g)) (hl : xs.length < 4611686018427387904) (t : Int) {Q : Int → H → Prop} (k : ∀ h', Ext h h' → Q (pl (xs.findIdx? fun c => (g c).f0 == t)) h') : locks_find s t h Q := by
  unfold locks_find
  refine al_var fun b h1 eb V e z => ?_
  refine indexf_spec (R.ext e) hl (p := fun c => (g c).f0 == t) (fun h2 x hx e2 Q k2 => ?_) fun h2 e2 => k h2 (e.trans e2)
  obtain ⟨f, hf, hn, hb⟩ := func_find1
  refine ⟨nFind1, [], _, f, rfl, hf, hn, hb, ?_⟩
  refine CallsH.mono (locks_find_1.sound (a0 := g x) (f0 := ⟨b, 0, none⟩) (Q := fun v h' => Q (.bool v) h') (find1_spec (ld_ext e2 (V.ld (Fld.whole (kI .i64)))) fun h3 e3 => k2 h3 e3)) ?_
  rintro v h' ⟨x, rfl, q⟩
  exact q
/-! ### a set against a set -/
def unseen : Nat → Array Nat → Nat
  | 0, _ => 0
  | n + 1, s => unseen n s + if s.contains n then 0 else 1
theorem unseen_push : ∀ (n : Nat) (s : Array Nat) (i : Nat), unseen n (s.push i) ≤ unseen n s ∧ (i < n → i ∉ s → unseen n (s.push i) < unseen n s)
  | 0, s, i => ⟨Nat.le_refl _, fun h => absurd h (Nat.not_lt_zero _)⟩
  | n + 1, s, i => by
    have ih := unseen_push n s i
    unfold unseen
    by_cases e : i = n
    · subst e
      have h1 : (s.push i).contains i = true := by simp
      rw [h1]
      refine ⟨by have := ih.1; simp; omega, fun _ hs => ?_⟩
      have h2 : s.contains i = false := by simpa using hs
      rw [h2]
      have := ih.1
      simp; omega
    · have h1 : (s.push i).contains n = s.contains n := by
        cases h : s.contains n with
        | true => simp at h ⊢; exact .inl h
        | false => simp at h ⊢; exact ⟨h, fun x => e x.symm⟩
      rw [h1]
      refine ⟨by have := ih.1; omega, fun hlt hs => ?_⟩
      have := ih.2 (by omega) hs
      omega
/-- What one entry says. -/
def ag1 (o : MI) (x : Int × Int) : Bool := alk o x.1 != 0 && !(arr2eq (ar2 x.2 (alk o x.1)) (ar2 1 1))
theorem against_spec {c o : Claim} {bc bo : Nat} {mc mo : MI} (hc : c.f1 = some bc) (ho : o.f1 = some bo) (Mc : MapIs h bc mc) (Mo : MapIs h bo mo) {Q : Bool → H → Prop} (k : ∀ h', Ext h h' → Q (mc.any (ag1 mo)) h') : _locks_claim_against c o h Q := by
  unfold _locks_claim_against
  refine al_var fun b1 h1 eb1 V1 e1 z1 => al_var fun b2 h2 eb2 V2 e2 z2 => jn_i ?_
  have hx : ld kM ⟨b1, 1, none⟩ h2 = some (some bc) := by rw [← hc]; exact ld_ext e2 (V1.ld fl_set)
  have hy : ld kM ⟨b2, 1, none⟩ h2 = some (some bo) := by rw [← ho]; exact V2.ld fl_set
  refine rd_some (by rw [add_mk]; exact hx) (rng_spec (MapIs.ext Mc (e1.trans e2)) fun it h3 I0 => ?_)
  refine loopE_rule (fun n s h' => ∃ seen : Array Nat, Iter h2 bc mc it seen h' ∧ n = unseen mc.length seen ∧ ∀ i ∈ seen, ∀ x, mc[i]? = some x → ag1 mo x = false) _ ⟨#[], I0, rfl, by simp⟩ ?_
  rintro n s h4 K ⟨seen, I, rfl, hs⟩ next done
  unfold _locks_claim_against.b1
  refine nxt_spec I (fun i x h5 hi hns I5 E5 => ?_) fun hall => ?_
  · refine ite_t rfl ⟨x, E5, ?_⟩
    obtain ⟨y, hlk⟩ := MapIs.look (MapIs.ext Mo ((e1.trans e2).trans I5.e)) x.1
    refine rd_some (by rw [add_mk]; exact ld_ext I5.e hy) (rd_some hlk ?_)
    refine jn_c (ag1 mo x) h5 (fun K2 hK => ?_) ?_
    · unfold ag1 at hK
      refine ite_b (fun hp => ?_) (fun hp => ?_)
      · rw [hp, Bool.true_and] at hK; exact hK
      · rw [hp, Bool.false_and] at hK; exact hK
    · refine ite_b (fun hp => ?_) (fun hp => ?_)
      · have : mc.any (ag1 mo) = true := List.any_eq_true.2 ⟨x, List.mem_of_getElem? hi, hp⟩
        have k' := k h5 ((e1.trans e2).trans I5.e)
        rw [this] at k'
        exact done _ _ k'
      · refine next _ _ _ ((unseen_push _ _ _).2 (List.getElem?_eq_some_iff.1 hi).1 hns) ⟨_, I5, rfl, fun j hj z hz => ?_⟩
        rcases Array.mem_push.1 hj with hj | rfl
        · exact hs j hj z hz
        · rw [hi] at hz; cases hz; exact hp
  · refine ite_f rfl (done _ _ ?_)
    have : mc.any (ag1 mo) = false := by
      rw [List.any_eq_false]
      intro x hx
      obtain ⟨i, hi, rfl⟩ := List.getElem_of_mem hx
      rw [hs i (hall i hi) _ (List.getElem?_eq_getElem hi)]; simp
    have k' := k h4 ((e1.trans e2).trans I.e)
    rw [this] at k'
    exact k'
theorem contains_spec {ι : Type} {g : ι → Claim} {s : Sl} {xs : List ι} {c : Claim} {bc : Nat} {mc : MI} (R : Rds kClaim h s (xs.map g)) (hl : xs.length < 4611686018427387904) (hc : c.f1 = some bc) (Mc : MapIs h bc mc) {f : ι → MI} (Mo : ∀ x ∈ xs, ∃ bo, (g x).f1 = some bo ∧ MapIs h bo (f x))
    {Q : Bool → H → Prop} (k : ∀ h', Ext h h' → Q (xs.any fun x => mc.any (ag1 (f x))) h') : slices_ContainsFunc___locks_claim_locks_claim_ s (some ⟨Fn.func nAgainst, List.toArray [kClaim.val c], List.toArray []⟩ : FV) h Q := by
  unfold slices_ContainsFunc___locks_claim_locks_claim_
  refine indexf_spec R hl (p := fun x => mc.any (ag1 (f x))) (fun h2 x hx e2 Q k2 => ?_) fun h2 e2 => ?_
  · obtain ⟨fn, hf, hn, hb⟩ := func_against
    obtain ⟨bo, ho, Mo⟩ := Mo x hx
    refine ⟨nAgainst, [kClaim.val c], [], fn, rfl, hf, hn, hb, ?_⟩
    refine CallsH.mono (_locks_claim_against.sound (a0 := c) (a1 := g x) (Q := fun v h' => Q (.bool v) h') (against_spec hc ho (MapIs.ext Mc e2) (MapIs.ext Mo e2) fun h3 e3 => k2 h3 e3)) ?_
    rintro v h' ⟨x, rfl, q⟩
    exact q
  · have k' := k h2 e2
    rw [pl_neg, List.findIdx?_isSome]
    exact k'
end
/-! ### the same, of sets -/
theorem alk_setm {l : List Lk} (n : Int) : alk (setm l) n = match l.find? (fun y => n == y.f0) with | some y => how y | none => 0 := by
  unfold alk
  have key : (fnd (setm l) n).map (·.2) = (l.find? (fun y => n == y.f0)).map how := by
    induction l with
    | nil => rfl
    | cons x l ih =>
      unfold setm at ih ⊢
      rw [List.map_cons, List.find?_cons]
      unfold fnd
      cases hb : n == x.f0 with
      | true => simp
      | false =>
        simp only [Bool.false_eq_true, if_false, Option.map_map]
        rw [← ih]
        rfl
  cases h1 : fnd (setm l) n <;> cases h2 : l.find? (fun y => n == y.f0) <;> rw [h1, h2] at key <;> simp at key ⊢
  exact key
theorem how_ne (x : Lk) : (how x != 0) = true := by unfold how; cases x.f1 <;> rfl
theorem how_11 (x y : Lk) : arr2eq (ar2 (how x) (how y)) (ar2 1 1) = (x.f1 && y.f1) := by unfold how; cases x.f1 <;> cases y.f1 <;> rfl
theorem any_find {l : List Lk} (hn : nod l) (n : Int) (p : Lk → Bool) : (l.any fun y => n == y.f0 && p y) = match l.find? (fun y => n == y.f0) with | some y => p y | none => false := by
  induction l with
  | nil => rfl
  | cons x l ih =>
    have hn' := List.nodup_cons.1 (by simpa [nod] using hn : (x.f0 :: l.map (·.f0)).Nodup)
    rw [List.any_cons, List.find?_cons]
    cases hb : n == x.f0 with
    | true =>
      have hb' : n = x.f0 := by simpa using hb
      have : (l.any fun y => n == y.f0 && p y) = false := by
        rw [List.any_eq_false]
        intro y hy
        have : n ≠ y.f0 := fun e => hn'.1 (by rw [← hb', e]; exact List.mem_map_of_mem hy)
        simp [this]
      rw [this]; simp
    | false => rw [Bool.false_and, Bool.false_or, ih hn'.2]
theorem any_setm (a : List Lk) (f : Int × Int → Bool) : (setm a).any f = a.any fun x => f (x.f0, how x) := by unfold setm; rw [List.any_map]; rfl
theorem conf_ag (a b : List Lk) (hb : nod b) : (setm a).any (ag1 (setm b)) = conf a b := by
  unfold conf
  rw [any_setm]
  congr 1
  funext x
  rw [any_find hb x.f0 (fun y => !(x.f1 && y.f1))]
  unfold ag1
  rw [alk_setm]
  cases l : b.find? (fun y => x.f0 == y.f0) with
  | none => simp
  | some y => simp only [how_ne, how_11, Bool.true_and]
end Go.Proofs.Ytgmihbchcmjmdaa
