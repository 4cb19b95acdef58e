/- NetMany, over the heap. -/
import Derived.Test.YtbdopnhfbjdegaaNetN
import Derived.Test.YtbdopnhfbjdegaaG3
namespace Go.Proofs.Ytbdopnhfbjdegaa
open Go Go.Tr
set_option linter.unusedVariables false
set_option maxRecDepth 100000
/-- The connections below c are open, with their bytes sent. -/
structure Opn (c n long : Nat) (A : AN) : Prop where
  i : A.i = 7
  o : A.o = 5
  l : A.cs.length = 65
  lg : long ≤ 60
  x : ∀ d, 1 ≤ d → d < c → A.cs[d]? = some (some (stc long d (0, 0, 0)))
  no : ∀ d, (d < 1 ∨ c ≤ d) → d < 65 → A.cs[d]? = some none
  m : A.moved = 0
theorem stc0 (long d : Nat) : stc long d (0, 0, 0) = ⟨bl d long, [], [], [], false, false⟩ := by unfold stc; simp
theorem Opn.ok {c n long : Nat} {A : AN} (v : Opn c n long A) : A.Ok 60 := by
  refine ⟨v.l, by rw [v.i]; omega, by rw [v.i]; omega, by rw [v.o]; omega, by rw [v.o]; omega, fun d x hx => ?_⟩
  have hd : d < 65 := by have := (List.getElem?_eq_some_iff.1 hx).1; have := v.l; omega
  by_cases h : d < 1 ∨ c ≤ d
  · rw [v.no d h hd] at hx; simp at hx
  · rw [v.x d (by omega) (by omega), stc0] at hx
    simp at hx; subst hx
    have := v.lg
    simp [bl_len]; omega
theorem Opn.next {c n long : Nat} {A : AN} (v : Opn c n long A) (h1 : 1 ≤ c) (h2 : c ≤ 64) : ∃ A1 A2 : AN, A.open' c = (0, A1) ∧ A1.send c (bl c long) = (0, A2) ∧ A1.Ok 60 ∧ Opn (c + 1) n long A2 := by
  have lk : A.look (c : Int) = .none := by
    unfold AN.look
    rw [if_neg (by omega), Int.toNat_natCast, v.no c (.inr (Nat.le_refl _)) (by omega)]
  have e1 : A.open' c = (0, A.put c .fresh) := by unfold AN.open'; rw [lk]; simp
  have ok1 := v.ok.open' c
  rw [e1] at ok1
  have lk1 : (A.put c .fresh).look (c : Int) = .some c .fresh := look_at h1 h2 (put_at (by rw [v.l]; omega) _)
  have hlg := v.lg
  have e2 : (A.put c .fresh).send c (bl c long) = (0, (A.put c .fresh).put c (stc long c (0, 0, 0))) := by
    unfold AN.send
    rw [lk1, stc0]
    simp [AN.gone, AC.fresh, bl_len]
    omega
  refine ⟨_, _, e1, e2, ok1, v.i, v.o, by simp [AN.put, v.l], hlg, fun d hd1 hd2 => ?_, fun d hd hd2 => ?_, v.m⟩
  · show ((A.cs.set c _).set c _)[d]? = _
    rw [List.set_set]
    by_cases e : c = d
    · subst e; rw [List.getElem?_set_self (by rw [v.l]; omega)]
    · rw [List.getElem?_set_ne e]; exact v.x d hd1 (by omega)
  · show ((A.cs.set c _).set c _)[d]? = _
    rw [List.set_set, List.getElem?_set_ne (by omega)]
    exact v.no d (by omega) hd2
theorem Opn.inv {n long : Nat} {A : AN} (v : Opn (n + 1) n long A) (hn : n ≤ 64) : Inv n long (List.replicate (n + 1) (0, 0, 0)) A := by
  have z : ∀ k, sumT (List.replicate k (0, 0, 0)) = 0 := by intro k; simp [sumT]
  refine ⟨v.i, v.o, v.l, by simp, hn, v.lg, fun c t hc ht => ?_, fun c x hx => ?_, fun c t ht => ?_, by rw [v.m, z]; rfl, by rw [z]; omega⟩
  · rw [List.getElem?_replicate] at ht
    split at ht
    · simp at ht; subst ht; exact v.x c hc (by omega)
    · cases ht
  · have hd : c < 65 := by have := (List.getElem?_eq_some_iff.1 hx).1; have := v.l; omega
    by_cases h : c < 1 ∨ n + 1 ≤ c
    · rw [v.no c h hd] at hx; simp at hx
    · omega
  · rw [List.getElem?_replicate] at ht
    split at ht
    · simp at ht; subst ht
      show 0 ≤ long ∧ 0 ≤ 0 ∧ 0 ≤ long ∧ 0 ≤ 0 + 5
      omega
    · cases ht
theorem Opn.zero (n long : Nat) (hl : long ≤ 60) : Opn 1 n long (.new 7 5) := by
  refine ⟨rfl, rfl, by simp [AN.new], hl, fun d h1 h2 => by omega, fun d _ h => ?_, rfl⟩
  simp only [AN.new]
  rw [List.getElem?_replicate, if_pos h]
/-- All of it, in memory. -/
structure Mem (n long : Nat) (ts : List Tri) (xss : List (List Int)) (os : List Int) : Prop where
  t0 : ts[0]? = some (0, 0, 0)
  xl : xss.length = n + 1
  ol : os.length = n + 1
  x : ∀ (c : Nat) (t : Tri), 1 ≤ c → ts[c]? = some t → xss[c]? = some ((bl c long).take t.1)
  o : ∀ (c : Nat) (t : Tri), 1 ≤ c → ts[c]? = some t → os[c]? = some (t.2.1 : Int)
theorem Mem.next {n long c : Nat} {ts : List Tri} {xss : List (List Int)} {os : List Int} {t u : Tri} (M : Mem n long ts xss os) (hc : 1 ≤ c) (hcn : c ≤ n) (htl : ts.length = n + 1) : Mem n long (ts.set c u) (xss.set c ((bl c long).take u.1)) (os.set c (u.2.1 : Int)) := by
  refine ⟨by rw [List.getElem?_set_ne (by omega)]; exact M.t0, by simp [M.xl], by simp [M.ol], fun d w hd hw => ?_, fun d w hd hw => ?_⟩
  · by_cases e : c = d
    · subst e
      rw [List.getElem?_set_self (by rw [htl]; omega)] at hw
      simp at hw; subst hw
      rw [List.getElem?_set_self (by rw [M.xl]; omega)]
    · rw [List.getElem?_set_ne e] at hw ⊢; exact M.x d w hd hw
  · by_cases e : c = d
    · subst e
      rw [List.getElem?_set_self (by rw [htl]; omega)] at hw
      simp at hw; subst hw
      rw [List.getElem?_set_self (by rw [M.ol]; omega)]
    · rw [List.getElem?_set_ne e] at hw ⊢; exact M.o d w hd hw
section
variable {h0 h : H} {p : Nat} {sx so : Sl} {n long piece : Nat}
abbrev Parts (p : Nat) (sx so : Sl) (xss : List (List Int)) (os : List Int) (A : AN) : List HP := [ownP (kI .i64) so os, gridP u8 sx xss, netP p A]
/-- One turn of one connection, over the heap. -/
theorem turn_spec {c : Nat} {ts : List Tri} {xss : List (List Int)} {os : List Int} {A : AN} {t : Tri} (v : Inv n long ts A) (M : Mem n long ts xss os) (hc : 1 ≤ c) (hcn : c ≤ n) (ht : ts[c]? = some t) (hp : piece ≤ 9) (S : SS h0 h (Parts p sx so xss os A)) (k : Int) {K : Int ⊕ (Unit ⊕ Bool) → H → Prop}
    (kl : ∀ (xss' : List (List Int)) (os' : List Int) (A' : AN) (h' : H), Inv n long (ts.set c (nextT long piece t)) A' → Mem n long (ts.set c (nextT long piece t)) xss' os' → SS h0 h' (Parts p sx so xss' os' A') → K (.inl ((c : Int) - 1)) h') :
    spatelaw16_NetMany.b4 (n : Int) (long : Int) (piece : Int) (some ⟨p, 0, none⟩) sx so k (c : Int) h K := by
  unfold spatelaw16_NetMany.b4
  have c1 : decide ((c : Int) ≥ 1) = true := by rw [decide_eq_true_eq]; omega
  refine ite_t c1 ?_
  obtain ⟨A1, A2, A3, A4, e1, e2, e3, e4, ok1, ok2, ok3, v4⟩ := v.turn hc ht hp
  have hlg := v.lg
  have hn64 := v.n64
  have g := v.g c t ht
  refine SG.go1 S 2 rfl (bring_spec v.ok c piece) fun _ h1 S1 => ?_
  rw [e1] at S1
  refine SG.go1 S1 2 rfl (take_spec ok1 c) fun s h2 S2 => ?_
  rw [e2] at S2 ⊢
  have S2 : SS h0 h2 [ownP u8 s (((bl c long).drop t.1).take (kb long piece t)), ownP (kI .i64) so os, gridP u8 sx xss, netP p A2] := S2
  refine ite_f rfl ?_
  have hx := M.x c t hc ht
  obtain ⟨hxl, hxe⟩ := List.getElem?_eq_some_iff.1 hx
  obtain ⟨q, r, hq, hr, _, or⟩ := gridP.get (K := u8) S2 2 rfl (j := c) hxl
  refine rd_some hq (rd_some hr ?_)
  refine gridP.apps (K := u8) (by decide) S2 2 rfl hxl hq hr (ownP.rds S2 0 rfl) (by rw [hxe]; simp [bl_len]; omega) (by rw [hxe]; simp [bl_len]; omega) fun r' h3 S3 => ?_
  obtain ⟨q', h4, hq', hs', S4⟩ := gridM.st S3 2 rfl (j := c) (by simp; omega)
  refine rd_some hq' (rd_some hs' ?_)
  have exs : xss.set c (xss[c] ++ ((bl c long).drop t.1).take (kb long piece t)) = xss.set c ((bl c long).take (nextT long piece t).1) := by
    rw [hxe, take_drop_add]; rfl
  rw [exs] at S4
  have S4 : SS h0 h4 [ownP (kI .i64) so os, gridP u8 sx (xss.set c ((bl c long).take (nextT long piece t).1)), netP p A2] := SG.tail S4
  have ho := M.o c t hc ht
  obtain ⟨hol, hoe⟩ := List.getElem?_eq_some_iff.1 ho
  obtain ⟨a, ha, hla⟩ := ownP.get (K := kI .i64) S4 0 rfl (j := c) hol (n := 1) rfl
  rw [hoe] at hla
  have ec : IntKind.i64.wrap ((c : Int) + 100) = (c : Int) + 100 := wrap64_id (by omega) (by omega)
  rw [ec]
  refine rd_some ha (rd_some hla (bytes_spec S4 _ (by omega) fun y h5 e5 S5 => ⟨ld_ext e5 hla, ?_⟩))
  have Ry := ownP.rds S5 0 rfl
  have hle : t.2.1 ≤ (bl ((c : Int) + 100) long).length := by rw [bl_len]; exact g.2.2.1
  obtain ⟨z, hz, Rz, _⟩ := Ry.slx_lo hle (w := 1) rfl
  refine rd_some hz ?_
  refine SG.go1 S5 3 rfl (write_spec ok2 (c := c) Rz (by simp [bl_len]; omega)) fun _ h6 S6 => ?_
  rw [e3] at S6 ⊢
  refine ite_f rfl ?_
  have S6 : SS h0 h6 [ownP u8 y (bl ((c : Int) + 100) long), ownP (kI .i64) so os, gridP u8 sx (xss.set c ((bl c long).take (nextT long piece t).1)), netP p A3] := S6
  have S6 := SG.tail S6
  obtain ⟨a', ha', hla'⟩ := ownP.get (K := kI .i64) S6 0 rfl (j := c) hol (n := 1) rfl
  rw [hoe] at hla'
  have en : IntKind.i64.wrap ((t.2.1 : Int) + ((kw long t : Nat) : Int)) = ((nextT long piece t).2.1 : Int) := by
    have k1 : kw long t ≤ 5 := by unfold kw; omega
    have := g.2.2.1
    rw [wrap64_id (by omega) (by omega)]; unfold nextT; simp only; omega
  obtain ⟨a'', h7, ha'', hs7, S7⟩ := ownP.set (K := kI .i64) S6 0 rfl (j := c) hol ((nextT long piece t).2.1 : Int) (n := 1) rfl
  refine rd_some ha' (rd_some hla' (rd_some ha'' ?_))
  simp only
  rw [en]
  refine rd_some hs7 ?_
  refine SG.go1 S7 2 rfl (fetch_spec ok3 (by omega) c piece) fun _ h8 S8 => ?_
  rw [e4] at S8
  have el : IntKind.i64.wrap ((c : Int) - 1) = (c : Int) - 1 := wrap64_id (by omega) (by omega)
  rw [el]
  exact kl _ _ A4 h8 v4 (M.next (t := t) hc hcn v.tl) S8
/-- So far each connection at least. -/
def Far (long : Nat) (ts : List Tri) (f : Nat → Nat) : Prop := ∀ (c : Nat) (t : Tri), 1 ≤ c → ts[c]? = some t → min (f c) long ≤ t.1 ∧ min (f c) long ≤ t.2.2
theorem sum_all {long : Nat} : ∀ (ts : List Tri), (∀ t ∈ ts, t.1 = long ∧ t.2.2 = long) → sumT ts = ts.length * (2 * long)
  | [], _ => by simp [sumT]
  | t :: ts, h => by
    have h1 := h t List.mem_cons_self
    have h2 := sum_all ts fun u hu => h u (List.mem_cons_of_mem _ hu)
    have e : sumT (t :: ts) = (t.1 + t.2.2) + sumT ts := by simp [sumT]
    rw [e, h2, h1.1, h1.2, List.length_cons, Nat.add_mul]; omega
/-- The connections from c on are neither cut nor closed. -/
structure Last (c n long M : Nat) (A : AN) : Prop where
  ok : A.Ok 60
  x : ∀ d, c ≤ d → d ≤ n → ∃ x, A.cs[d]? = some (some x) ∧ AN.gone x = false ∧ x.cut = false
  m : A.moved = (M : Int)
theorem many_true (a0 a1 a2 : Int) (h : H) : spatelaw16_NetMany a0 a1 a2 h fun r h' => r = true ∧ Ext h h' := by
  unfold spatelaw16_NetMany
  have S0 : SS h h [] := SS.nil (Ext.refl h)
  refine small_spec a0 64 (by decide) (by decide) fun n n0 n1 => small_spec a1 60 (by decide) (by decide) fun long l0 l1 => small_spec a2 9 (by decide) (by decide) fun piece p0 p1 => ?_
  obtain ⟨n, rfl⟩ := Int.eq_ofNat_of_zero_le n0
  obtain ⟨long, rfl⟩ := Int.eq_ofNat_of_zero_le l0
  obtain ⟨piece, rfl⟩ := Int.eq_ofNat_of_zero_le p0
  have en : IntKind.i64.wrap (1 + (n : Int)) = ((n + 1 : Nat) : Int) := (wrap64_id (by omega) (by omega)).trans (by omega)
  have ep : IntKind.i64.wrap (1 + (piece : Int)) = ((piece + 1 : Nat) : Int) := (wrap64_id (by omega) (by omega)).trans (by omega)
  rw [en, ep]
  obtain ⟨N, hN⟩ : ∃ N, n + 1 = N := ⟨_, rfl⟩
  obtain ⟨pc, hpc⟩ : ∃ pc, piece + 1 = pc := ⟨_, rfl⟩
  rw [hN, hpc]
  have hn1 : 1 ≤ N := by omega
  have hn2 : N ≤ 64 := by omega
  have hp1 : 1 ≤ pc := by omega
  have hp2 : pc ≤ 9 := by omega
  have hlg : long ≤ 59 := by omega
  clear hN hpc en ep n0 n1 l0 l1 p0 p1
  refine new_good S0 (i := 7) (o := 5) (by decide) (by decide) (by decide) (by decide) fun p h1 e1 S1 => ?_
  refine jn_i (ite_f rfl (ite_f rfl (jn_i ?_)))
  refine loopE_rule (fun μ s h' => ∃ (c : Nat) (A : AN), s = (c : Int) ∧ 1 ≤ c ∧ c ≤ N + 1 ∧ μ = N + 1 - c ∧ Opn c N long A ∧ SS h h' [netP p A]) N ⟨1, _, rfl, by omega, by omega, by omega, Opn.zero N long (by omega), S1⟩ ?_
  rintro μ s h' K ⟨c, A, rfl, hc, hcN, rfl, v, S⟩ kl kr
  unfold spatelaw16_NetMany.b5
  by_cases hcc : c ≤ N
  · have c1 : decide ((c : Int) ≤ (N : Int)) = true := by rw [decide_eq_true_eq]; omega
    obtain ⟨A1, A2, e1, e2, ok1, v2⟩ := v.next hc (by omega)
    refine ite_t c1 (jn_i ?_)
    refine SG.go1 S 0 rfl (open_spec v.ok c) fun _ h2 S2 => ?_
    rw [e1] at S2 ⊢
    refine ite_f rfl (bytes_spec S2 _ (by omega) fun s h3 e3 S3 => ?_)
    refine SG.go1 S3 1 rfl (send_spec ok1 (c := c) (ownP.rds S3 0 rfl) (by rw [bl_len]; omega)) fun _ h4 S4 => ?_
    rw [e2] at S4 ⊢
    exact ite_f rfl (kl (N + 1 - (c + 1)) _ _ (by omega) ⟨c + 1, A2, (wrap64_id (by omega) (by omega)).trans (by omega), by omega, by omega, rfl, v2, SG.tail S4⟩)
  · obtain rfl : c = N + 1 := by omega
    have c1 : decide ((((N + 1 : Nat)) : Int) ≤ (N : Int)) = false := by rw [decide_eq_false_iff_not]; omega
    refine ite_f c1 (kr _ _ ?_)
    have w1 : IntKind.i64.wrap ((N : Int) + 1) = ((N + 1 : Nat) : Int) := (wrap64_id (by omega) (by omega)).trans (by omega)
    simp only [sumK]
    rw [w1]
    refine SG.grid (t := 29) (bytes := 24) u8 S (n := N + 1) (by omega) (by omega) fun sx h2 S2 e2 => ?_
    refine SG.own (K := kI .i64) (n := N + 1) (z := 0) (by decide) S2 (by omega) (by omega) fun so h3 S3 => jn_i ?_
    have v0 := v.inv hn2
    have M0 : Mem N long (List.replicate (N + 1) (0, 0, 0)) (List.replicate (N + 1) []) (List.replicate (N + 1) 0) := by
      refine ⟨by simp [List.getElem?_replicate], by simp, by simp, fun c t _ ht => ?_, fun c t _ ht => ?_⟩
      · rw [List.getElem?_replicate] at ht ⊢
        split at ht
        · rename_i hlt; simp at ht; subst ht; simp [hlt]
        · cases ht
      · rw [List.getElem?_replicate] at ht ⊢
        split at ht
        · rename_i hlt; simp at ht; subst ht; simp [hlt]
        · cases ht
    have F0 : Far long (List.replicate (N + 1) (0, 0, 0)) (fun _ => 0) := fun c t _ ht => ⟨Nat.le_trans (Nat.min_le_left _ _) (Nat.zero_le _), Nat.le_trans (Nat.min_le_left _ _) (Nat.zero_le _)⟩
    refine loopE_rule (fun μ s h' => ∃ (k : Nat) (ts : List Tri) (xss : List (List Int)) (os : List Int) (A : AN), s = (k : Int) ∧ k ≤ 70 ∧ μ = 70 - k ∧ Inv N long ts A ∧ Mem N long ts xss os ∧ Far long ts (fun _ => k) ∧ SS h h' (Parts p sx so xss os A)) 70 ⟨0, _, _, _, A, rfl, by omega, by omega, v0, M0, F0, S3⟩ ?_
    rintro μ s h4 K ⟨k, ts, xss, os, A, rfl, hk, rfl, v, M, F, S⟩ kl kr
    unfold spatelaw16_NetMany.b3
    by_cases hkk : k < 70
    · have c2 : decide ((k : Int) < 70) = true := by rw [decide_eq_true_eq]; omega
      refine ite_t c2 (jn_i ?_)
      refine loopE_rule (fun μ s h' => ∃ (c : Nat) (ts : List Tri) (xss : List (List Int)) (os : List Int) (A : AN), s = (c : Int) ∧ c ≤ N ∧ μ = c ∧ Inv N long ts A ∧ Mem N long ts xss os ∧ Far long ts (fun d => if c < d then k + 1 else k) ∧ SS h h' (Parts p sx so xss os A)) N ⟨N, ts, xss, os, A, rfl, by omega, rfl, v, M, fun c t hc ht => by
        have := (List.getElem?_eq_some_iff.1 ht).1
        have := v.tl
        have hF := F c t hc ht
        simp only at hF ⊢
        rw [if_neg (by omega)]; exact hF, S⟩ ?_
      rintro c s h5 K2 ⟨_, ts, xss, os, A, rfl, hcN, rfl, v, M, F, S⟩ kl2 kr2
      by_cases hc0 : 1 ≤ c
      · have hct : c < ts.length := by rw [v.tl]; omega
        refine turn_spec v M hc0 hcN (List.getElem?_eq_getElem hct) hp2 S _ fun xss' os' A' h6 v' M' S' => ?_
        have e : (c : Int) - 1 = ((c - 1 : Nat) : Int) := by omega
        rw [e]
        refine kl2 (c - 1) _ _ (by omega) ⟨c - 1, _, xss', os', A', rfl, by omega, rfl, v', M', fun d t hd ht => ?_, S'⟩
        simp only
        by_cases ed : c = d
        · subst ed
          rw [List.getElem?_set_self hct] at ht
          simp at ht; subst ht
          rw [if_pos (by omega)]
          have hF := F c _ hc0 (List.getElem?_eq_getElem hct)
          simp only at hF
          rw [if_neg (by omega)] at hF
          exact nextT_more hp1 (v.g c _ (List.getElem?_eq_getElem hct)) hF.1 hF.2
        · rw [List.getElem?_set_ne ed] at ht
          have hF := F d t hd ht
          simp only at hF
          by_cases e3 : c < d
          · rw [if_pos (by omega)]; rw [if_pos e3] at hF; exact hF
          · rw [if_neg (by omega)]; rw [if_neg e3] at hF; exact hF
      · obtain rfl : c = 0 := by omega
        unfold spatelaw16_NetMany.b4
        have c3 : decide (((0 : Nat) : Int) ≥ 1) = false := by decide
        refine ite_f c3 (kr2 _ _ (kl (70 - (k + 1)) _ _ (by omega) ⟨k + 1, ts, xss, os, A, (wrap64_id (by omega) (by omega)).trans (by omega), by omega, rfl, v, M, fun d t hd ht => ?_, S⟩))
        have hF := F d t hd ht
        simp only at hF
        rw [if_pos (by omega)] at hF; exact hF
    · obtain rfl : k = 70 := by omega
      have c2 : decide (((70 : Nat) : Int) < 70) = false := by decide
      refine ite_f c2 (kr _ _ (jn_i ?_))
      have all : ∀ (c : Nat) (t : Tri), 1 ≤ c → ts[c]? = some t → t.1 = long ∧ t.2.2 = long ∧ t.2.1 = long := by
        intro c t hc ht
        have hF := F c t hc ht
        have g := v.g c t ht
        unfold good at g
        simp only at hF
        omega
      refine loopE_rule (fun μ s h' => ∃ (c : Nat), s = (c : Int) ∧ 1 ≤ c ∧ c ≤ N + 1 ∧ μ = N + 1 - c ∧ SS h h' (Parts p sx so xss os A)) N ⟨1, rfl, by omega, by omega, by omega, S⟩ ?_
      rintro μ s h5 K2 ⟨c, rfl, hc, hcN, rfl, S5⟩ kl2 kr2
      unfold spatelaw16_NetMany.b2
      by_cases hcc : c ≤ N
      · have c3 : decide ((c : Int) ≤ (N : Int)) = true := by rw [decide_eq_true_eq]; omega
        have hct : c < ts.length := by rw [v.tl]; omega
        have ht := List.getElem?_eq_getElem hct
        obtain ⟨a1, a2, a3⟩ := all c _ hc ht
        have lk := look_at hc (by omega) (v.x c _ hc ht)
        have hh : A.heard (c : Int) = (bl ((c : Int) + 100) long, false) := by
          unfold AN.heard
          rw [lk]
          unfold stc
          simp only [a2]
          rw [List.take_of_length_le (by rw [bl_len]; omega)]
          rfl
        refine ite_t c3 (SG.go1 S5 2 rfl (heard_spec v.ok (by omega) c) fun s h6 S6 => ?_)
        rw [hh] at S6 ⊢
        have S6 : SS h h6 (ownP u8 s (bl ((c : Int) + 100) long) :: Parts p sx so xss os A) := S6
        have hx := M.x c _ hc ht
        rw [a1, List.take_of_length_le (by rw [bl_len]; omega)] at hx
        obtain ⟨hxl, hxe⟩ := List.getElem?_eq_some_iff.1 hx
        obtain ⟨q, r, hq, hr, _, or⟩ := gridP.get (K := u8) S6 2 rfl (j := c) hxl
        rw [hxe] at or
        refine jn_q (fun a h' => a = false ∧ SS h h' (Parts p sx so xss os A)) (fun K10 hK => ?_) ?_
        · refine rd_some hq (rd_some hr (rd_some or.rds.b2s ?_))
          refine bytes_spec S6 _ (by omega) fun s2 h7 e7 S7 => ⟨(or.ext e7).rds.b2s, ld_ext e7 hr, rd_some (ownP.rds S7 0 rfl).b2s ?_⟩
          refine ite_f (by simp) (rd_some (ownP.rds S7 1 rfl).b2s ?_)
          rw [wrap64_id (n := (c : Int) + 100) (by omega) (by omega)]
          refine bytes_spec S7 _ (by omega) fun s3 h8 e8 S8 => ⟨(ownP.rds S8 2 rfl).b2s, rd_some (ownP.rds S8 0 rfl).b2s (ite_f (by simp) ?_)⟩
          exact hK _ _ ⟨rfl, SG.tail (SG.tail (SG.tail S8))⟩
        · rintro _ h7 ⟨rfl, S7⟩
          exact ite_f rfl (kl2 (N + 1 - (c + 1)) _ _ (by omega) ⟨c + 1, (wrap64_id (by omega) (by omega)).trans (by omega), by omega, by omega, rfl, S7⟩)
      · obtain rfl : c = N + 1 := by omega
        have c3 : decide (((N + 1 : Nat) : Int) ≤ (N : Int)) = false := by rw [decide_eq_false_iff_not]; omega
        refine ite_f c3 (kr2 _ _ ?_)
        -- how many bytes
        have hsum : sumT ts = N * (2 * long) := by
          have htl := v.tl
          cases hts : ts with
          | nil => rw [hts] at htl; cases htl
          | cons t0 rest =>
            rw [hts] at htl
            have h00 := M.t0
            rw [hts] at h00
            simp at h00 htl
            have := sum_all rest fun t ht => by
              obtain ⟨d, hd⟩ := List.mem_iff_getElem?.1 ht
              have := all (d + 1) t (by omega) (by rw [hts]; simpa using hd)
              exact ⟨this.1, this.2.1⟩
            have e : sumT (t0 :: rest) = (t0.1 + t0.2.2) + sumT rest := by simp [sumT]
            rw [e, this, h00, htl]; simp
        have hbig : N * (2 * long) ≤ 64 * (2 * 59) := Nat.mul_le_mul hn2 (Nat.mul_le_mul_left 2 hlg)
        have hM : A.moved = ((N * (2 * long) : Nat) : Int) := by rw [v.m, hsum]
        generalize hT : N * (2 * long) = T at *
        refine SG.go1 S5 2 rfl moved_spec fun _ h6 S6 => ?_
        rw [hM]
        have S6 : SS h h6 (netP p A :: [ownP (kI .i64) so os, gridP u8 sx xss]) := SG.front S6 2 rfl
        have S6 := SG.tail (S6.rot.perm (List.Perm.refl _)) |> fun (T0 : SS h h6 [gridP u8 sx xss, netP p A]) => SG.tail T0
        have L0 : Last 1 N long T A := ⟨v.ok, fun d hd1 hd2 => by
          have hdt : d < ts.length := by rw [v.tl]; omega
          exact ⟨_, v.x d _ hd1 (List.getElem?_eq_getElem hdt), rfl, rfl⟩, hM⟩
        refine jn_i ?_
        refine loopE_rule (fun μ s h' => ∃ (c : Nat) (A : AN), s = (c : Int) ∧ 1 ≤ c ∧ c ≤ N + 1 ∧ μ = N + 1 - c ∧ Last c N long T A ∧ SS h h' [netP p A]) N ⟨1, A, rfl, by omega, by omega, by omega, L0, S6⟩ ?_
        rintro μ s h7 K3 ⟨c, A, rfl, hc, hcN, rfl, L, S7⟩ kl3 kr3
        unfold spatelaw16_NetMany.b1
        by_cases hcc : c ≤ N
        · have c4 : decide ((c : Int) ≤ (N : Int)) = true := by rw [decide_eq_true_eq]; omega
          obtain ⟨x, hx, hg, hcut⟩ := L.x c (Nat.le_refl _) hcc
          have lk := look_at hc (by omega) hx
          have hl65 := L.ok.l
          have e1 : A.close c = (0, A.put c { x with closed := true, way := [], inb := [] }) := by unfold AN.close; rw [lk]; simp [hg]
          have ok1 := L.ok.close c
          rw [e1] at ok1
          refine ite_t c4 (SG.go1 S7 0 rfl (close_spec L.ok c) fun _ h8 S8 => ?_)
          rw [e1] at S8 ⊢
          have S8 : SS h h8 [netP p (A.put c { x with closed := true, way := [], inb := [] })] := S8
          have lk1 : (A.put c { x with closed := true, way := [], inb := [] }).look c = .some c { x with closed := true, way := [], inb := [] } := look_at hc (by omega) (put_at (by omega) _)
          have e2 : (A.put c { x with closed := true, way := [], inb := [] }).cutC c = (0, (A.put c { x with closed := true, way := [], inb := [] }).put c { x with closed := true, way := [], inb := [], cut := true, out := [] }) := by
            unfold AN.cutC; rw [lk1]; simp [hcut]
          have ok2 := ok1.cutC c
          rw [e2] at ok2
          have hr : remI (c : Int) 2 = some ((c : Int).tmod 2) := by unfold remI; rw [if_neg (by decide)]
          refine jn_q (fun a h' => a = 0 ∧ ∃ y : AC, (A.put c y).Ok 60 ∧ SS h h' [netP p (A.put c y)]) (fun K7 hK => rd_some hr (ite_b (fun _ => ?_) (fun _ => hK _ _ ⟨rfl, _, ok1, S8⟩))) ?_
          · refine SG.go1 S8 0 rfl (cut_spec ok1 c) fun _ h9 S9 => ?_
            rw [e2] at S9 ⊢
            have e3 : (A.put c { x with closed := true, way := [], inb := [] }).put c { x with closed := true, way := [], inb := [], cut := true, out := [] } = A.put c { x with closed := true, way := [], inb := [], cut := true, out := [] } := by
              unfold AN.put; simp only [List.set_set]
            have S9 : SS h h9 [netP p ((A.put c { x with closed := true, way := [], inb := [] }).put c { x with closed := true, way := [], inb := [], cut := true, out := [] })] := S9
            rw [e3] at S9 ok2
            exact hK _ _ ⟨rfl, _, ok2, S9⟩
          · rintro _ h9 ⟨rfl, y, ok3, S9⟩
            have lk3 : (A.put c y).look c = .some c y := look_at hc (by omega) (put_at (by omega) _)
            have e4 : (A.put c y).open' c = (43, A.put c y) := by unfold AN.open'; rw [lk3]
            refine jn_q (fun a h' => a = false ∧ SS h h' [netP p (A.put c y)]) (fun K8 hK => ite_f rfl (SG.go1 S9 0 rfl (open_spec ok3 c) fun _ h10 S10 => ?_)) ?_
            · rw [e4] at S10 ⊢
              exact hK _ _ ⟨rfl, S10⟩
            · rintro _ h10 ⟨rfl, S10⟩
              refine ite_f rfl (kl3 (N + 1 - (c + 1)) _ _ (by omega) ⟨c + 1, _, (wrap64_id (by omega) (by omega)).trans (by omega), by omega, by omega, rfl, ⟨ok3, fun d hd1 hd2 => ?_, L.m⟩, S10⟩)
              obtain ⟨z, hz, hz2⟩ := L.x d (by omega) hd2
              exact ⟨z, by simp only [AN.put]; rw [List.getElem?_set_ne (by omega)]; exact hz, hz2⟩
        · obtain rfl : c = N + 1 := by omega
          have c4 : decide (((N + 1 : Nat) : Int) ≤ (N : Int)) = false := by rw [decide_eq_false_iff_not]; omega
          refine ite_f c4 (kr3 _ _ (jn_i ?_))
          have ew : IntKind.i64.wrap (IntKind.i64.wrap (2 * (N : Int)) * (long : Int)) = (T : Int) := by
            rw [wrap64_id (n := 2 * (N : Int)) (by omega) (by omega)]
            have e5 : 2 * (N : Int) * (long : Int) = (T : Int) := by
              rw [← hT, Int.natCast_mul, Int.natCast_mul, Int.mul_comm 2 (N : Int), Int.mul_assoc]; rfl
            rw [e5, wrap64_id (by omega) (by omega)]
          rw [ew]
          refine ite_t (by simp) (SG.go1 S7 0 rfl moved_spec fun _ h8 S8 => ?_)
          rw [L.m]
          refine ite_t (by simp) (ite_b (fun _ => ?_) (fun _ => ?_))
          · exact head_spec S8 fun h9 S9 => ⟨rfl, SS.e S9⟩
          · have e6 : A.open' 65 = (1, A) := by
              unfold AN.open' AN.look
              rw [if_pos (.inr (by decide))]
            refine SG.go1 S8 0 rfl (open_spec L.ok 65) fun _ h9 S9 => ?_
            rw [e6] at S9 ⊢
            exact ite_t rfl (head_spec S9 fun h10 S10 => ⟨rfl, SS.e S10⟩)
end
end Go.Proofs.Ytbdopnhfbjdegaa
