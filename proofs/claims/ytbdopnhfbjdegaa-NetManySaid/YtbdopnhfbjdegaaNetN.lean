/- NetMany, as lists: each connection's part of the way. -/
import Derived.Test.YtbdopnhfbjdegaaNetD
import Derived.Test.YtbdopnhfbjdegaaG1
namespace Go.Proofs.Ytbdopnhfbjdegaa
open Go Go.Tr
set_option linter.unusedVariables false
/-- A connection's bytes, so many. -/
def bl (c : Int) (n : Nat) : List Int := (List.range n).map fun (i : Nat) => IntKind.u8.wrap (IntKind.i64.wrap (IntKind.i64.wrap (c * 7) + IntKind.i64.wrap ((i : Int) * (i : Int))))
theorem bl_len (c : Int) (n : Nat) : (bl c n).length = n := by simp [bl]
theorem bl_succ (c : Int) (n : Nat) : bl c (n + 1) = bl c n ++ [IntKind.u8.wrap (IntKind.i64.wrap (IntKind.i64.wrap (c * 7) + IntKind.i64.wrap ((n : Int) * (n : Int))))] := by simp [bl, List.range_succ]
section
variable {F0 : Nat → Prop} {h0 h : H} {Rs Ps : List HP}
theorem bytes_spec (S : SG F0 h0 h Rs) (c : Int) {n : Nat} (hn : n ≤ 1000) {Q : Sl → H → Prop} (k : ∀ s h', Ext h h' → SG F0 h0 h' (ownP u8 s (bl c n) :: Rs) → Q s h') : spatelaw16_bytes c (n : Int) h Q := by
  unfold spatelaw16_bytes
  refine jn_i ?_
  have S0 : SS h h [ownP u8 Sl.nil (bl c 0)] := SG.made (SS.nil (Ext.refl h)) (Ext.refl h) (Own.nil u8 h _)
  refine loopE_rule (fun μ s h' => ∃ i : Nat, s.2 = (i : Int) ∧ i ≤ n ∧ μ = n - i ∧ SS h h' [ownP u8 s.1 (bl c i)]) n ⟨0, rfl, by omega, by omega, S0⟩ ?_
  rintro μ ⟨s, t⟩ h' K ⟨i, ht, hi, rfl, S1⟩ kl kr
  simp only at ht S1
  subst ht
  unfold spatelaw16_bytes.b1
  by_cases hlt : i < n
  · have c1 : decide ((i : Int) < (n : Int)) = true := by rw [decide_eq_true_eq]; omega
    refine ite_t c1 ?_
    refine bs_own (K := u8) [IntKind.u8.wrap (IntKind.i64.wrap (IntKind.i64.wrap (c * 7) + IntKind.i64.wrap ((i : Int) * (i : Int))))] rfl rfl fun x1 h2 ox hlx e2 z2 => ?_
    refine ownP.app (K := u8) (by decide) (SG.ext S1 e2) 0 rfl ox.rds (by rw [bl_len]; simp; omega) (by rw [bl_len]; simp; omega) fun s' h3 S3 => ?_
    refine kl (n - (i + 1)) _ _ (by omega) ⟨i + 1, (wrap64_id (by omega) (by omega)).trans (by omega), by omega, rfl, ?_⟩
    rw [bl_succ]; exact S3
  · obtain rfl : i = n := by omega
    have c1 : decide ((i : Int) < (i : Int)) = false := by rw [decide_eq_false_iff_not]; omega
    exact ite_f c1 (kr _ _ (k s h' (SS.e S1) (SG.flat (S.take_in S1))))
/-- A row grown by a slice. -/
theorem gridP.apps {α : Type} {K : Kd α} (hK : 0 < K.n) (S : SG F0 h0 h Ps) (i : Nat) {s : Sl} {xss : List (List α)} (hi : Ps[i]? = some (gridP K s xss)) {j : Nat} (hj : j < xss.length) {q : Addr} {c x : Sl} {ys : List α}
    (hq : ixA 1 s (j : Int) = some q) (hc : ld kL q h = some c) (R : Rds K h x ys) {bytes : Nat} {t : TypeId} {z : α} (hb : (2 * (xss[j].length + ys.length) + 192) * bytes ≤ 281474976710656) (hb2 : xss[j].length + ys.length < 4611686018427387904) {Q : Sl → H → Prop}
    (k : ∀ c' h1, SG F0 h0 h1 (Ps.set i (gridM K s j c' (xss.set j (xss[j] ++ ys)))) → Q c' h1) :
    ap K.n bytes t (K.enc z) c x h Q := by
  obtain ⟨F1, ⟨G, ss, g, rfl⟩, back⟩ := S.at i hi
  have hj' : j < ss.length := by rw [g.len]; exact hj
  obtain ⟨a, h1, h2⟩ := g.outer.get0 hj'
  obtain rfl : a = q := by
    have h1' : ixA 1 s (j : Int) = some a := h1
    rw [hq] at h1'; exact (Option.some.inj h1').symm
  obtain rfl : c = ss[j] := by rw [hc] at h2; exact Option.some.inj h2
  have row := g.rows j _ _ (List.getElem?_eq_getElem hj') (List.getElem?_eq_getElem hj)
  refine ap_own hK row R.rdAll R.len hb hb2 fun c' h35 o2 f2 => ?_
  refine k c' h35 (back _ h35 (fun b => (if b = h.size ∧ h.size < h35.size then some (some j) else G b) ≠ none) ⟨fun b => if b = h.size ∧ h.size < h35.size then some (some j) else G b, ss, ⟨?_, by rw [g.len]; simp, by simp [g.len], ?_, ?_⟩, rfl⟩ ⟨f2.1, ?_, ?_⟩)
  · have o : Own kL h35 (fun b => G b = some none) s ss := g.outer.same fun b hb hlt => f2.2 b hlt (fun h => by have h' : G b = some (some j) := h; rw [hb] at h'; cases h')
    refine o.mono fun b hb => ?_
    have := g.lt b (by rw [hb]; simp)
    rw [if_neg (fun e => by omega)]; exact hb
  · intro i' c1 xs hc1 hxs
    rcases Nat.decEq i' j with hne | rfl
    · rw [List.getElem?_set_ne (Ne.symm hne)] at hc1 hxs
      have o := g.rows i' c1 xs hc1 hxs
      have o' : Own K h35 (fun b => G b = some (some i')) c1 xs := o.same fun b hb hlt => f2.2 b hlt (fun h => by have h' : G b = some (some j) := h; rw [hb] at h'; exact hne (by simpa using h'))
      refine o'.mono fun b hb => ?_
      have := g.lt b (by rw [hb]; simp)
      rw [if_neg (fun e => by omega)]; exact hb
    · rw [List.getElem?_set_self hj'] at hc1
      rw [List.getElem?_set_self hj] at hxs
      cases hc1; cases hxs
      refine o2.monoL fun b hb hlt => ?_
      rcases hb with hb | hb
      · by_cases e : b = h.size ∧ h.size < h35.size
        · rw [if_pos e]
        · rw [if_neg e]; exact hb
      · rw [if_pos ⟨hb, by omega⟩]
  · intro b hb
    by_cases e : b = h.size ∧ h.size < h35.size
    · omega
    · rw [if_neg e] at hb
      have := g.lt b hb
      have := f2.1
      omega
  · intro b hlt hn
    exact f2.2 b hlt (fun h => hn (by show G b ≠ none; rw [h]; simp))
  · intro b hb
    by_cases e : b = h.size ∧ h.size < h35.size
    · right; rw [e.1]; exact Nat.le_refl _
    · left; show G b ≠ none; have hb' : (if b = h.size ∧ h.size < h35.size then some (some j) else G b) ≠ none := hb; rw [if_neg e] at hb'; exact hb'
end
/-! each connection's way: a bytes taken, w written, f fetched -/
abbrev Tri := Nat × Nat × Nat
def stc (long c : Nat) (t : Tri) : AC := ⟨(bl c long).drop t.1, [], ((bl ((c : Int) + 100) long).take t.2.1).drop t.2.2, (bl ((c : Int) + 100) long).take t.2.2, false, false⟩
def good (long : Nat) (t : Tri) : Prop := t.1 ≤ long ∧ t.2.2 ≤ t.2.1 ∧ t.2.1 ≤ long ∧ t.2.1 ≤ t.2.2 + 5
def kb (long piece : Nat) (t : Tri) : Nat := min (min piece (long - t.1)) 7
def kw (long : Nat) (t : Tri) : Nat := min (long - t.2.1) (5 - (t.2.1 - t.2.2))
def kf (long piece : Nat) (t : Tri) : Nat := min piece (t.2.1 + kw long t - t.2.2)
def nextT (long piece : Nat) (t : Tri) : Tri := (t.1 + kb long piece t, t.2.1 + kw long t, t.2.2 + kf long piece t)
theorem nextT_good {long piece : Nat} {t : Tri} (g : good long t) : good long (nextT long piece t) := by
  unfold good nextT kf kw kb at *
  simp only
  omega
theorem nextT_more {long piece : Nat} (hp : 1 ≤ piece) {t : Tri} (g : good long t) {k : Nat} (h1 : min k long ≤ t.1) (h2 : min k long ≤ t.2.2) : min (k + 1) long ≤ (nextT long piece t).1 ∧ min (k + 1) long ≤ (nextT long piece t).2.2 := by
  unfold good nextT kf kw kb at *
  simp only
  omega
def sumT (ts : List Tri) : Nat := (ts.map fun t => t.1 + t.2.2).sum
theorem sumT_set : ∀ (ts : List Tri) (c : Nat) (t u : Tri), ts[c]? = some t → sumT (ts.set c u) + (t.1 + t.2.2) = sumT ts + (u.1 + u.2.2)
  | [], c, t, u, h => by simp at h
  | x :: ts, 0, t, u, h => by simp at h; subst h; simp [sumT]; omega
  | x :: ts, c + 1, t, u, h => by
    have := sumT_set ts c t u (by simpa using h)
    simp [sumT] at this ⊢; omega
theorem sumT_le {long : Nat} (hl : long ≤ 60) : ∀ (us : List Tri), (∀ u ∈ us, good long u) → sumT us ≤ us.length * 130
  | [], _ => by simp [sumT]
  | u :: us, hu => by
    have h2 := sumT_le hl us fun u h => hu u (List.mem_cons_of_mem _ h)
    have h3 := hu u List.mem_cons_self
    unfold good at h3
    simp [sumT] at h2 ⊢; omega
theorem moved_next {a b k1 k2 x y : Nat} (ha : a ≤ 8450) (h1 : k1 ≤ 7) (h2 : k2 ≤ 9) (hs : b + x = a + y) (hy : y = x + (k1 + k2)) : IntKind.i64.wrap (IntKind.i64.wrap ((a : Int) + (k1 : Int)) + (k2 : Int)) = (b : Int) := by
  rw [wrap64_id (n := (a : Int) + (k1 : Int)) (by omega) (by omega), wrap64_id (by omega) (by omega)]; omega
theorem nextT_sum (long piece : Nat) (t : Tri) : (nextT long piece t).1 + (nextT long piece t).2.2 = t.1 + t.2.2 + (kb long piece t + kf long piece t) := by unfold nextT; simp only; omega
structure Inv (n long : Nat) (ts : List Tri) (A : AN) : Prop where
  i : A.i = 7
  o : A.o = 5
  l : A.cs.length = 65
  tl : ts.length = n + 1
  n64 : n ≤ 64
  lg : long ≤ 60
  x : ∀ (c : Nat) (t : Tri), 1 ≤ c → ts[c]? = some t → A.cs[c]? = some (some (stc long c t))
  no : ∀ (c : Nat) (x : AC), A.cs[c]? = some (some x) → 1 ≤ c ∧ c ≤ n
  g : ∀ (c : Nat) (t : Tri), ts[c]? = some t → good long t
  m : A.moved = (sumT ts : Nat)
  s : sumT ts ≤ 130 * 65
theorem Inv.ok {n long : Nat} {ts : List Tri} {A : AN} (v : Inv n long ts A) : A.Ok 60 := by
  refine ⟨v.l, by rw [v.i]; omega, by rw [v.i]; omega, by rw [v.o]; omega, by rw [v.o]; omega, fun c x hx => ?_⟩
  obtain ⟨h1, h2⟩ := v.no c x hx
  have hc : c < ts.length := by rw [v.tl]; omega
  have h3 := v.x c ts[c] h1 (List.getElem?_eq_getElem hc)
  have h4 := v.g c ts[c] (List.getElem?_eq_getElem hc)
  rw [h3] at hx
  simp at hx
  subst hx
  have := v.lg
  have := v.i
  have := v.o
  unfold stc good at *
  simp [bl_len]
  omega
theorem look_at {A : AN} {c : Nat} {x : AC} (h1 : 1 ≤ c) (h2 : c ≤ 64) (h : A.cs[c]? = some (some x)) : A.look (c : Int) = .some c x := by
  unfold AN.look
  rw [if_neg (by omega), Int.toNat_natCast, h]
theorem put_at {A : AN} {c : Nat} (h : c < A.cs.length) (x : AC) : (A.put c x).cs[c]? = some (some x) := by
  simp only [AN.put]; rw [List.getElem?_set_self h]
theorem take_drop_add (l : List Int) (a k : Nat) : l.take a ++ (l.drop a).take k = l.take (a + k) := by rw [List.take_add]
section
variable {n long piece c : Nat} {ts : List Tri} {A : AN} {t : Tri}
theorem Inv.c64 (v : Inv n long ts A) (h1 : 1 ≤ c) (ht : ts[c]? = some t) : c ≤ 64 := by
  have := (List.getElem?_eq_some_iff.1 ht).1
  have := v.tl; have := v.n64; omega
/-- One turn of one connection: what the calls answer, and what is then. -/
theorem Inv.turn (v : Inv n long ts A) (h1 : 1 ≤ c) (ht : ts[c]? = some t) (hp : piece ≤ 9) :
    ∃ A1 A2 A3 A4 : AN, (A.bring c piece).2 = A1 ∧ A1.take c = (((((bl c long).drop t.1).take (kb long piece t)), 0), A2) ∧ A2.write c ((bl ((c : Int) + 100) long).drop t.2.1) = ((((kw long t : Nat) : Int), 0), A3) ∧ (A3.fetch c piece).2 = A4 ∧
      A1.Ok 60 ∧ A2.Ok 60 ∧ A3.Ok 60 ∧ Inv n long (ts.set c (nextT long piece t)) A4 := by
  have g := v.g c t ht
  have hx := v.x c t h1 ht
  have hc := v.c64 h1 ht
  have hl := v.l
  have lk := look_at h1 hc hx
  have hlg := v.lg
  have eb : A.bringN (stc long c t) (piece : Int) = kb long piece t := by
    unfold AN.bringN kb stc
    rw [v.i]
    simp [bl_len]
  have e1 : A.bring c piece = ((((kb long piece t : Nat) : Int), 0), { A.put c { stc long c t with way := (bl c long).drop (t.1 + kb long piece t), inb := ((bl c long).drop t.1).take (kb long piece t) } with moved := IntKind.i64.wrap (A.moved + (kb long piece t : Nat)) }) := by
    unfold AN.bring
    rw [lk]
    simp only [eb]
    simp only [stc, List.drop_drop, List.nil_append]
  generalize hA1 : ({ A.put c { stc long c t with way := (bl c long).drop (t.1 + kb long piece t), inb := ((bl c long).drop t.1).take (kb long piece t) } with moved := IntKind.i64.wrap (A.moved + (kb long piece t : Nat)) } : AN) = A1 at e1
  have ok1 : A1.Ok 60 := by have := v.ok.bring c piece; rw [e1] at this; exact this
  have lk1 : A1.look c = .some c { stc long c t with way := (bl c long).drop (t.1 + kb long piece t), inb := ((bl c long).drop t.1).take (kb long piece t) } := by
    subst hA1
    exact look_at h1 hc (put_at (by omega) _)
  have e2 : A1.take c = (((((bl c long).drop t.1).take (kb long piece t)), 0), A1.put c { stc long c t with way := (bl c long).drop (t.1 + kb long piece t) }) := by
    unfold AN.take
    rw [lk1]
    simp [AN.gone, stc]
  have ok2 := ok1.take c
  rw [e2] at ok2
  have lk2 : (A1.put c { stc long c t with way := (bl c long).drop (t.1 + kb long piece t) }).look c = .some c { stc long c t with way := (bl c long).drop (t.1 + kb long piece t) } := look_at h1 hc (put_at (by rw [ok1.l]; omega) _)
  have ew : (A1.put c { stc long c t with way := (bl c long).drop (t.1 + kb long piece t) }).writeN { stc long c t with way := (bl c long).drop (t.1 + kb long piece t) } ((bl ((c : Int) + 100) long).drop t.2.1) = kw long t := by
    have : (A1.put c { stc long c t with way := (bl c long).drop (t.1 + kb long piece t) }).o = 5 := by subst hA1; exact v.o
    unfold AN.writeN kw
    rw [this]
    unfold stc good at *
    simp [bl_len]
    omega
  have e3 : (A1.put c { stc long c t with way := (bl c long).drop (t.1 + kb long piece t) }).write c ((bl ((c : Int) + 100) long).drop t.2.1) = ((((kw long t : Nat) : Int), 0), (A1.put c { stc long c t with way := (bl c long).drop (t.1 + kb long piece t) }).put c { stc long c t with way := (bl c long).drop (t.1 + kb long piece t), out := ((bl ((c : Int) + 100) long).take (t.2.1 + kw long t)).drop t.2.2 }) := by
    unfold AN.write
    rw [lk2]
    simp only [ew]
    rw [if_neg (by simp [AN.gone, stc])]
    congr 3
    unfold good at g
    have hle : t.2.2 ≤ ((bl ((c : Int) + 100) long).take t.2.1).length := by simp [bl_len]; omega
    show ((bl ((c : Int) + 100) long).take t.2.1).drop t.2.2 ++ ((bl ((c : Int) + 100) long).drop t.2.1).take (kw long t) = _
    rw [← take_drop_add, List.drop_append_of_le_length hle]
  have ok3 := ok2.write c ((bl ((c : Int) + 100) long).drop t.2.1)
  rw [e3] at ok3
  generalize hA3 : ((A1.put c { stc long c t with way := (bl c long).drop (t.1 + kb long piece t) }).put c { stc long c t with way := (bl c long).drop (t.1 + kb long piece t), out := ((bl ((c : Int) + 100) long).take (t.2.1 + kw long t)).drop t.2.2 }) = A3 at *
  have lk3 : A3.look c = .some c { stc long c t with way := (bl c long).drop (t.1 + kb long piece t), out := ((bl ((c : Int) + 100) long).take (t.2.1 + kw long t)).drop t.2.2 } := by
    subst hA3
    exact look_at h1 hc (put_at (by rw [ok2.l]; omega) _)
  have ef : AN.fetchN { stc long c t with way := (bl c long).drop (t.1 + kb long piece t), out := ((bl ((c : Int) + 100) long).take (t.2.1 + kw long t)).drop t.2.2 } (piece : Int) = kf long piece t := by
    unfold AN.fetchN kf
    unfold good at g
    have : kw long t ≤ long - t.2.1 := by unfold kw; omega
    simp [bl_len]
    omega
  have e4 : A3.fetch c piece = ((((kf long piece t : Nat) : Int), 0), { A3.put c (stc long c (nextT long piece t)) with moved := IntKind.i64.wrap (A3.moved + (kf long piece t : Nat)) }) := by
    unfold AN.fetch
    rw [lk3]
    simp only [ef]
    have hx : ({ stc long c t with way := (bl c long).drop (t.1 + kb long piece t), out := (((bl ((c : Int) + 100) long).take (t.2.1 + kw long t)).drop t.2.2).drop (kf long piece t), heard := (stc long c t).heard ++ (((bl ((c : Int) + 100) long).take (t.2.1 + kw long t)).drop t.2.2).take (kf long piece t) } : AC) = stc long c (nextT long piece t) := by
      unfold stc nextT
      simp only [List.drop_drop]
      congr 1
      have hk : kf long piece t ≤ t.2.1 + kw long t - t.2.2 := by unfold kf; omega
      unfold good at g
      rw [List.drop_take, List.take_take, Nat.min_eq_left hk, take_drop_add]
    rw [hx]
  have ok4 := ok3.fetch c piece
  rw [e4] at ok4
  refine ⟨A1, _, A3, _, by rw [e1], e2, e3, by rw [e4], ok1, ok2, ok3, ?_⟩
  have hcs : A3.cs.set c (some (stc long c (nextT long piece t))) = A.cs.set c (some (stc long c (nextT long piece t))) := by
    subst hA3 hA1
    simp only [AN.put, List.set_set]
  have hm3 : A3.moved = IntKind.i64.wrap (A.moved + (kb long piece t : Nat)) := by subst hA3 hA1; rfl
  have hs := sumT_set ts c t (nextT long piece t) ht
  have g' := nextT_good (piece := piece) g
  have hb : sumT (ts.set c (nextT long piece t)) ≤ 130 * 65 := by
    have h4 := sumT_le hlg (ts.set c (nextT long piece t)) fun u hu => by
      obtain ⟨j, hj⟩ := List.mem_iff_getElem?.1 hu
      by_cases e : c = j
      · subst e
        rw [List.getElem?_set_self (List.getElem?_eq_some_iff.1 ht).1] at hj
        simp at hj; subst hj; exact g'
      · rw [List.getElem?_set_ne e] at hj; exact v.g j u hj
    have h5 : (ts.set c (nextT long piece t)).length = n + 1 := by rw [List.length_set]; exact v.tl
    rw [h5] at h4
    have h6 : n + 1 ≤ 65 := Nat.succ_le_succ v.n64
    exact Nat.le_trans h4 (by rw [Nat.mul_comm 130 65]; exact Nat.mul_le_mul_right _ h6)
  have hi : A3.i = 7 := by subst hA3 hA1; exact v.i
  have ho : A3.o = 5 := by subst hA3 hA1; exact v.o
  refine ⟨hi, ho, by simp [AN.put, ok3.l], by simp [v.tl], v.n64, hlg, fun d u hd hu => ?_, fun d x hx' => ?_, fun d u hu => ?_, ?_, hb⟩
  · show (A3.cs.set c (some (stc long c (nextT long piece t))))[d]? = _
    rw [hcs]
    by_cases e : c = d
    · subst e
      rw [List.getElem?_set_self (List.getElem?_eq_some_iff.1 ht).1] at hu
      simp at hu; subst hu
      rw [List.getElem?_set_self (by omega)]
    · rw [List.getElem?_set_ne e] at hu ⊢; exact v.x d u hd hu
  · have hx' : (A3.cs.set c (some (stc long c (nextT long piece t))))[d]? = some (some x) := hx'
    rw [hcs] at hx'
    by_cases e : c = d
    · subst e
      have := (List.getElem?_eq_some_iff.1 ht).1
      have := v.tl
      exact ⟨h1, by omega⟩
    · rw [List.getElem?_set_ne e] at hx'; exact v.no d x hx'
  · by_cases e : c = d
    · subst e
      rw [List.getElem?_set_self (List.getElem?_eq_some_iff.1 ht).1] at hu
      simp at hu; subst hu; exact g'
    · rw [List.getElem?_set_ne e] at hu; exact v.g d u hu
  · show IntKind.i64.wrap (A3.moved + (kf long piece t : Nat)) = _
    have hv := v.m
    have hvs := v.s
    have k1 : kb long piece t ≤ 7 := by unfold kb; omega
    have k2 : kf long piece t ≤ 9 := by unfold kf; omega
    have e5 : (nextT long piece t).1 + (nextT long piece t).2.2 = t.1 + t.2.2 + (kb long piece t + kf long piece t) := nextT_sum long piece t
    rw [hm3, hv]
    exact moved_next hvs k1 k2 hs e5
end
end Go.Proofs.Ytbdopnhfbjdegaa
