/- The code's manager in memory, and what each of its calls does. -/
import Derived.Test.YtgmihbchcmjmdaaLkD
import Derived.Test.YtgmihbchcmjmdaaHand
namespace Go.Proofs.Ytgmihbchcmjmdaa
open Go Go.Tr
set_option linter.unusedVariables false
abbrev CR := Int × Nat × List Lk
def row (r : CR) : Claim := ⟨r.1, some r.2.1⟩
def abs (r : CR) : C := (r.1, r.2.2)
/-- The maps of those rows; nobody writes them any more. -/
def bagP (rs : List CR) : HP where
  p h F := (∀ r ∈ rs, MapIs h r.2.1 (setm r.2.2) ∧ F r.2.1) ∧ ∀ b, F b → b < h.size
  st := fun ⟨v, l⟩ hs k => ⟨fun r hr => ⟨(k _ (v r hr).2).trans (v r hr).1, (v r hr).2⟩, fun b hb => Nat.lt_of_lt_of_le (l b hb) hs⟩
  lt := fun ⟨_, l⟩ => l
def mgrL (b : Nat) (n : Nat) (sh sq : Sl) (RH RQ : List CR) : List HP := [varP kMgr b ⟨n, sh, sq⟩, ownP kClaim sh (RH.map row), ownP kClaim sq (RQ.map row), bagP (RH ++ RQ)]
def mgrP (b : Nat) (A : AM) : HP := HP.ex fun w : (Sl × Sl) × (List CR × List CR) => HP.and (w.2.1.map abs = A.has ∧ w.2.2.map abs = A.queue) (HP.all (mgrL b A.locks w.1.1 w.1.2 w.2.1 w.2.2))
/-- An error that wraps a number; 0: none. -/
def errP (v : IF) (n : Int) : HP where
  p h F := (n = 0 ∧ v = none ∧ ∀ b, ¬ F b) ∨ (n ≠ 0 ∧ ∃ pb t, v = some (tRef, .pointer (some ⟨pb, 0, none⟩)) ∧ Var kRefd h pb ⟨t, some (tErrno, .int .i64 n)⟩ ∧ F = fun k => k = pb)
  st := fun x hs k => x.imp (fun y => y) fun ⟨h1, pb, t, h2, h3, h4⟩ => ⟨h1, pb, t, h2, h3.same (k pb (by rw [h4])), h4⟩
  lt := fun x b hb => by
    rcases x with ⟨_, _, x⟩ | ⟨_, pb, t, _, V, rfl⟩
    · exact absurd hb (x b)
    · have hb : b = pb := hb
      rw [hb]; exact Blk.lt V
section
variable {F0 : Nat → Prop} {h0 h : H} {b : Nat} {A : AM} {B : Nat} {Rs Ps : List HP}
theorem mgr_open (S : SG F0 h0 h (mgrP b A :: Rs)) : ∃ sh sq RH RQ, RH.map abs = A.has ∧ RQ.map abs = A.queue ∧ SG F0 h0 h (mgrL b A.locks sh sq RH RQ ++ Rs) := by
  obtain ⟨w, S1⟩ := S.unex
  obtain ⟨⟨e1, e2⟩, S2⟩ := S1.unand
  exact ⟨_, _, _, _, e1, e2, S2.flat⟩
theorem mgr_close {sh sq : Sl} {RH RQ : List CR} (e1 : RH.map abs = A.has) (e2 : RQ.map abs = A.queue) (S : SG F0 h0 h (mgrL b A.locks sh sq RH RQ ++ Rs)) : SG F0 h0 h (mgrP b A :: Rs) :=
  SG.toex (P := fun w : (Sl × Sl) × (List CR × List CR) => HP.and (w.2.1.map abs = A.has ∧ w.2.2.map abs = A.queue) (HP.all (mgrL b A.locks w.1.1 w.1.2 w.2.1 w.2.2))) ((sh, sq), (RH, RQ)) (SG.toand ⟨e1, e2⟩ (SG.fold _ S))
theorem bagP.is (S : SG F0 h0 h Ps) (i : Nat) {rs : List CR} (hi : Ps[i]? = some (bagP rs)) {r : CR} (hr : r ∈ rs) : MapIs h r.2.1 (setm r.2.2) := by
  obtain ⟨F1, ⟨v, _⟩, _⟩ := S.at i hi
  exact (v r hr).1
theorem bagP.sub (S : SG F0 h0 h Ps) (i : Nat) {rs rs' : List CR} (hi : Ps[i]? = some (bagP rs)) (hs : ∀ r ∈ rs', r ∈ rs) : SG F0 h0 h (Ps.set i (bagP rs')) :=
  S.imp i hi _ fun F ⟨v, l⟩ => ⟨fun r hr => v r (hs r hr), l⟩
/-- One more map. -/
theorem bagP.add {m : Nat} {t : Int} {l : List Lk} {rs : List CR} (S : SG F0 h0 h (mapP m (setm l) :: bagP rs :: Rs)) : SG F0 h0 h (bagP ((t, m, l) :: rs) :: Rs) := by
  obtain ⟨F, ⟨F1, _, a, ⟨F2, F3, a2, r, c2, d2⟩, c, d⟩, f⟩ := S
  have l1 := (mapP m (setm l)).lt a
  obtain ⟨a, rfl⟩ := a
  refine ⟨F, ⟨fun k => k = m ∨ F2 k, F3, ⟨fun x hx => ?_, fun k hk => ?_⟩, r, fun k hk h3 => ?_, fun k => ?_⟩, f⟩
  · rcases List.mem_cons.1 hx with rfl | hx
    · exact ⟨a, .inl rfl⟩
    · exact ⟨(a2.1 x hx).1, .inr (a2.1 x hx).2⟩
  · rcases hk with rfl | hk
    · exact l1 _ rfl
    · exact a2.2 k hk
  · rcases hk with rfl | hk
    · exact c _ rfl ((d2 _).2 (.inr h3))
    · exact c2 k hk h3
  · rw [d k, d2 k, or_assoc]
theorem ownP.push {α : Type} {K : Kd α} (hK : 0 < K.n) (S : SG F0 h0 h Ps) (i : Nat) {s : Sl} {xs : List α} (hi : Ps[i]? = some (ownP K s xs)) (x : α) {bytes : Nat} {t t' : TypeId} {z : α} (hb : (2 * (xs.length + 1) + 192) * bytes ≤ 281474976710656) (hb2 : xs.length + 1 < 4611686018427387904) {Q : Sl → H → Prop}
    (k : ∀ s' h', SG F0 h0 h' (Ps.set i (ownP K s' (xs ++ [x]))) → Q s' h') : bs t' 1 (K.enc x) h fun y h1 => ap K.n bytes t (K.enc z) s y h1 Q :=
  bs_own (K := K) [x] (by simp [encs]) rfl fun y h1 o1 hl1 e1 z1 => ownP.app hK (S.ext e1) i hi o1.rds (by simpa using hb) (by simpa using hb2) k
theorem findR (R : List CR) (t : Int) : (R.findIdx? fun r => (row r).f0 == t) = findC (R.map abs) t := by
  unfold findC
  rw [List.findIdx?_map]; rfl
/-- Does one of those stand against it? -/
theorem hit_spec {s : Sl} {RS all : List CR} {r : CR} (R : Rds kClaim h s (RS.map row)) (hl : RS.length < 4611686018427387904) (hM : ∀ x ∈ all, MapIs h x.2.1 (setm x.2.2)) (hn : ∀ x ∈ all, nod x.2.2) (hr : r ∈ all) (hs : ∀ x ∈ RS, x ∈ all)
    {Q : Bool → H → Prop} (k : ∀ h', Ext h h' → Q (hit (RS.map abs) r.2.2) h') : slices_ContainsFunc___locks_claim_locks_claim_ s (some ⟨Fn.func nAgainst, List.toArray [kClaim.val (row r)], List.toArray []⟩ : FV) h Q := by
  refine contains_spec R hl (c := row r) rfl (hM r hr) (f := fun x => setm x.2.2) (fun x hx => ⟨_, rfl, hM x (hs x hx)⟩) fun h' e => ?_
  have k' := k h' e
  have : (RS.any fun x => (setm r.2.2).any (ag1 (setm x.2.2))) = hit (RS.map abs) r.2.2 := by
    unfold hit
    rw [List.any_map]
    apply Bool.eq_iff_iff.2
    rw [List.any_eq_true, List.any_eq_true]
    constructor
    · rintro ⟨x, hx, hp⟩
      rw [conf_ag _ _ (hn x (hs x hx))] at hp
      exact ⟨x, hx, hp⟩
    · rintro ⟨x, hx, hp⟩
      refine ⟨x, hx, ?_⟩
      rw [conf_ag _ _ (hn x (hs x hx))]
      exact hp
  rw [this]; exact k'
end
/-! ### one set more -/
theorem fnd_none : ∀ {m : MI} {n : Int}, (∀ x ∈ m, x.1 ≠ n) → fnd m n = none
  | [], n, h => rfl
  | x :: m, n, h => by
    unfold fnd
    have h1 : (n == x.1) = false := by rw [beq_eq_false_iff_ne]; exact fun e => h x List.mem_cons_self e.symm
    rw [h1, fnd_none fun y hy => h y (List.mem_cons_of_mem _ hy)]; rfl
theorem fnd_last : ∀ {m : MI} {n v : Int}, (∀ x ∈ m, x.1 ≠ n) → fnd (m ++ [(n, v)]) n = some (m.length, v)
  | [], n, v, h => by simp [fnd]
  | x :: m, n, v, h => by
    rw [List.cons_append]
    unfold fnd
    have h1 : (n == x.1) = false := by rw [beq_eq_false_iff_ne]; exact fun e => h x List.mem_cons_self e.symm
    rw [h1, fnd_last fun y hy => h y (List.mem_cons_of_mem _ hy)]; rfl
theorem aup_new {m : MI} {n : Int} (h : ∀ x ∈ m, x.1 ≠ n) (v : Int) : aup m n v = m ++ [(n, v)] := by unfold aup; rw [fnd_none h]
theorem aup_last {m : MI} {n : Int} (h : ∀ x ∈ m, x.1 ≠ n) (v w : Int) : aup (m ++ [(n, v)]) n w = m ++ [(n, w)] := by
  unfold aup; rw [fnd_last h]; simp
theorem alk_ne {l : List Lk} {n : Int} : (alk (setm l) n != 0) = l.any fun y => n == y.f0 := by
  rw [alk_setm]
  cases hf : l.find? (fun y => n == y.f0) with
  | none =>
    rw [List.find?_eq_none] at hf
    have : (l.any fun y => n == y.f0) = false := by rw [List.any_eq_false]; exact hf
    rw [this]; rfl
  | some y =>
    have : (l.any fun y => n == y.f0) = true := List.any_eq_true.2 ⟨y, List.mem_of_find?_eq_some hf, by simpa using List.find?_some hf⟩
    rw [this]; exact how_ne y
section
variable {h : H}
theorem set_spec {mb : Nat} {m : Nat} {s : Sl} {l : List Lk} (hm : ld (kI .i64) ⟨mb, 0, none⟩ h = some (m : Int)) (R : Rds kLk h s l) (hl : l.length < 4611686018427387904) {Q : Option Nat × IF → H → Prop}
    (k1 : okSet m l = true → ∀ b h', SS h h' [mapP b (setm l)] → Q (some b, none) h') (k2 : okSet m l = false → ∀ r h', Ext h h' → Q (r, some (tErrno, .int .i64 1)) h') : locks_Manager_set (some ⟨mb, 0, none⟩) s h Q := by
  unfold locks_Manager_set
  have hlen := R.len
  refine (SS.nil (Ext.refl h)).newmap fun b h1 e1 S1 => jn_i ?_
  refine loopE_rule (fun n i h' => ∃ j : Nat, i = j ∧ n + j = l.length ∧ SS h h' [mapP b (setm (l.take j))] ∧ nod (l.take j) ∧ ∀ x ∈ l.take j, 0 ≤ x.f0 ∧ x.f0 < m) l.length ⟨0, rfl, rfl, S1, by simp [nod], by simp⟩ ?_
  rintro n _ h2 K ⟨j, rfl, hn, S2, hd, hr⟩ next done
  unfold locks_Manager_set.b1
  refine ite_b (fun hc => ?_) (fun hc => ?_)
  · have hj : j < l.length := by rw [decide_eq_true_eq] at hc; omega
    obtain ⟨a, ha, hx⟩ := (R.ext (SS.e S2)).ix (i := j) hj (n := 2) rfl
    refine jn_i (rd_some ha (rd_some hx (S2.cell fun q h3 S3 e3 => ?_)))
    have hxn : ld (kI .i64) ⟨q, 0, none⟩ h3 = some (l[j].f0) := varP.ld S3 fk_n 0 rfl
    have hxs : ld kB ⟨q, 1, none⟩ h3 = some (l[j].f1) := varP.ld S3 fk_s 0 rfl
    have hmm := ld_ext (SS.e S3) hm
    obtain ⟨y, hlk⟩ := MapIs.look (mapP.is S3 1 rfl) l[j].f0
    refine jn_c (decide (l[j].f0 < 0) || decide (l[j].f0 ≥ m) || (l.take j).any fun y => l[j].f0 == y.f0) h3 (fun K2 hK => ?_) ?_
    · refine rd_some hxn (ite_b (fun c => ?_) (fun c => ?_))
      · rw [c, Bool.true_or, Bool.true_or] at hK; exact hK
      · rw [c, Bool.false_or] at hK
        refine rd_some hxn (rd_some rfl (rd_some hmm (ite_b (fun c => ?_) (fun c => ?_))))
        · rw [c, Bool.true_or] at hK; exact hK
        · rw [c, Bool.false_or] at hK
          refine rd_some hxn (rd_some hlk ?_)
          rw [alk_ne]; exact hK
    · have hmem : l[j] ∈ l := List.getElem_mem _
      have htk : l.take (j + 1) = l.take j ++ [l[j]] := by rw [List.take_add_one, List.getElem?_eq_getElem hj]; rfl
      refine ite_b (fun c => ?_) (fun c => ?_)
      · refine done _ _ (k2 ?_ _ _ (SS.e S3))
        cases hok : okSet m l with
        | false => rfl
        | true =>
          exfalso
          unfold okSet at hok
          simp only [Bool.and_eq_true, List.all_eq_true, decide_eq_true_eq] at hok
          have h1 := hok.1.2 _ hmem
          simp only [Bool.or_eq_true, decide_eq_true_eq, List.any_eq_true, beq_iff_eq] at c
          rcases c with (c | c) | ⟨z, hz, e⟩
          · omega
          · omega
          · have h2 : nod (l.take (j + 1)) := by
              have : (l.map (·.f0)).Nodup := hok.2
              unfold nod
              rw [List.map_take]
              exact this.sublist (List.take_sublist _ _)
            rw [htk] at h2
            unfold nod at h2
            rw [List.map_append, List.nodup_append] at h2
            exact h2.2.2 z.f0 (List.mem_map_of_mem hz) l[j].f0 (by simp) e.symm
      · simp only [Bool.or_eq_false_iff, decide_eq_false_iff_not, List.any_eq_false, beq_iff_eq] at c
        have hnew : ∀ x ∈ setm (l.take j), x.1 ≠ l[j].f0 := by
          intro x hx e
          unfold setm at hx
          obtain ⟨y, hy, rfl⟩ := List.mem_map.1 hx
          exact c.2 y hy e.symm
        refine rd_some hxn ?_
        obtain ⟨h4, u4, S4⟩ := mapP.up S3 1 rfl l[j].f0 2
        rw [aup_new hnew] at S4
        refine rd_some u4 (rd_some (varP.ld S4 fk_s 0 rfl) ?_)
        have fin : ∀ h5, SS h h5 [mapP b (setm (l.take j) ++ [(l[j].f0, how l[j])])] → K (.inl (IntKind.i64.wrap ((j : Int) + 1))) h5 := fun h5 S5 => by
          refine next (n - 1) _ _ (by omega) ⟨j + 1, ?_, by omega, ?_, ?_, fun x hx => ?_⟩
          · rw [wrap64_id (by omega) (by omega)]; rfl
          · rw [htk]; unfold setm at S5 ⊢; rw [List.map_append]; exact S5
          · rw [htk]; unfold nod at hd ⊢
            rw [List.map_append, List.nodup_append]
            refine ⟨hd, by simp, fun a ha b' hb' => ?_⟩
            obtain ⟨y, hy, rfl⟩ := List.mem_map.1 ha
            simp at hb'; subst hb'
            exact fun e => c.2 y hy e.symm
          · rw [htk] at hx
            rcases List.mem_append.1 hx with hx | hx
            · exact hr x hx
            · obtain rfl := List.mem_singleton.1 hx
              omega
        refine ite_b (fun c2 => ?_) (fun c2 => ?_)
        · refine rd_some (varP.ld S4 fk_n 0 rfl) ?_
          obtain ⟨h5, u5, S5⟩ := mapP.up S4 1 rfl l[j].f0 1
          rw [aup_last hnew] at S5
          refine rd_some u5 (fin h5 ?_)
          have : how l[j] = 1 := by unfold how; rw [if_pos c2]
          rw [this]; exact S5.tail
        · refine fin h4 ?_
          have : how l[j] = 2 := by unfold how; rw [if_neg (by rw [c2]; simp)]
          rw [this]; exact S4.tail
  · have hj : j = l.length := by rw [decide_eq_false_iff_not] at hc; omega
    subst hj
    rw [List.take_length] at S2 hd hr
    refine done _ _ (rd_some (mapP.is S2 0 rfl).len ?_)
    have hml : (setm l).length = l.length := by unfold setm; simp
    rw [hml]
    refine ite_b (fun c => ?_) (fun c => ?_)
    · refine k2 ?_ _ _ (SS.e S2)
      have : l = [] := by
        have c' : (l.length : Int) = 0 := by simpa using c
        exact List.length_eq_zero_iff.1 (by omega)
      rw [this]; rfl
    · refine k1 ?_ _ _ S2
      unfold okSet
      have : l.isEmpty = false := by
        cases l with
        | nil => simp at c
        | cons x l => rfl
      rw [this]
      simp only [Bool.not_false, Bool.true_and, Bool.and_eq_true, List.all_eq_true, decide_eq_true_eq]
      exact ⟨hr, hd⟩
end
end Go.Proofs.Ytgmihbchcmjmdaa
