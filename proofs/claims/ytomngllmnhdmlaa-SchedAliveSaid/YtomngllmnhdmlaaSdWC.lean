/- The same: a round brings all on; in the end all are through. No heap. -/
import Derived.Test.YtomngllmnhdmlaaSdVC
namespace Go.Proofs.Ytomngllmnhdmlaa
open Go Go.Tr
set_option linter.unusedVariables false
inductive Tri : Nat → List MV → Prop
  | nil : Tri 0 []
  | more {k : Nat} {ms : List MV} {s : List Lk} : Tri k ms → okSet 16 s = true → Tri (k + 1) (ms ++ [⟨2, s, 0, []⟩, ⟨1, [], 0, []⟩, ⟨3, [], 0, []⟩])
theorem Tri.len {k : Nat} {ms : List MV} (t : Tri k ms) : ms.length = 3 * k := by
  induction t with
  | nil => rfl
  | more t h ih => simp [ih]; omega
theorem ab_left {ms l : List MV} {nx : Nat} (h : nx < ms.length) : abMv (nx, ms ++ l) = abMv (nx, ms) := by
  unfold abMv
  rw [List.getD_eq_getElem?_getD, List.getD_eq_getElem?_getD, List.getElem?_append_left h]
theorem ab_right {ms l : List MV} (j : Nat) : abMv (ms.length + j, ms ++ l) = l.getD j endR.mv := by
  unfold abMv
  rw [List.getD_eq_getElem?_getD, List.getD_eq_getElem?_getD, List.getElem?_append_right (by omega), Nat.add_sub_cancel_left]
theorem Tri.at {k : Nat} {ms : List MV} (t : Tri k ms) : (∀ nx, nx < 3 * k → nx % 3 = 0 → ∃ s, okSet 16 s = true ∧ abMv (nx, ms) = ⟨2, s, 0, []⟩) ∧ (∀ nx, nx < 3 * k → nx % 3 = 1 → abMv (nx, ms) = ⟨1, [], 0, []⟩) ∧ (∀ nx, nx < 3 * k → nx % 3 = 2 → abMv (nx, ms) = ⟨3, [], 0, []⟩) := by
  induction t with
  | nil => exact ⟨fun nx h => by omega, fun nx h => by omega, fun nx h => by omega⟩
  | @more k ms s t hs ih =>
    obtain ⟨i0, i1, i2⟩ := ih
    have hl := t.len
    refine ⟨fun nx h h0 => ?_, fun nx h h0 => ?_, fun nx h h0 => ?_⟩
    · rcases Nat.lt_or_ge nx (3 * k) with c | c
      · rw [ab_left (by omega)]; exact i0 nx c h0
      · obtain rfl : nx = ms.length + 0 := by omega
        exact ⟨s, hs, by rw [ab_right]; rfl⟩
    · rcases Nat.lt_or_ge nx (3 * k) with c | c
      · rw [ab_left (by omega)]; exact i1 nx c h0
      · obtain rfl : nx = ms.length + 1 := by omega
        rw [ab_right]; rfl
    · rcases Nat.lt_or_ge nx (3 * k) with c | c
      · rw [ab_left (by omega)]; exact i2 nx c h0
      · obtain rfl : nx = ms.length + 2 := by omega
        rw [ab_right]; rfl
theorem Tri.plays {k : Nat} {ms : List MV} (t : Tri k ms) : Plays k ms := by
  obtain ⟨a, b, c⟩ := t.at
  refine ⟨a, b, c, ?_⟩
  have hl := t.len
  unfold abMv
  rw [List.getD_eq_getElem?_getD, List.getElem?_eq_none (by simp only; omega)]; rfl
def totN (L : NL) : Nat := (L.map (·.1)).sum
theorem tot_up : ∀ {L : NL} {n : Nat}, n < L.length → totN (L.modify n upN) = totN L + 1
  | x :: L, 0, _ => by
    show (x.1 + 1) + (L.map (·.1)).sum = x.1 + (L.map (·.1)).sum + 1
    omega
  | x :: L, n + 1, h => by
    have ih := tot_up (L := L) (n := n) (by simpa using h)
    show x.1 + totN (L.modify n upN) = x.1 + totN L + 1
    omega
theorem tot_le {k : Nat} : ∀ {L : NL}, (∀ x ∈ L, x.1 ≤ k) → totN L ≤ k * L.length
  | [], _ => by simp [totN]
  | x :: L, h => by
    have ih := tot_le (k := k) (L := L) fun y hy => h y (List.mem_cons_of_mem _ hy)
    have h1 := h x List.mem_cons_self
    show x.1 + totN L ≤ k * (L.length + 1)
    rw [Nat.mul_add]; omega
abbrev WS.nl (W : WS) : NL := W.2.map PLY.ab
theorem step_nl (W : WS) (n : Nat) : (W.step n).nl = W.nl.modify n upN := bump_ab W.2 n
theorem Lv.stepW {T B N n : Nat} {W : WS} (v : Lv T W.1 W.nl) (o : W.Ok B N) (r : rdyB W.1.ts n = true) : Lv T (W.step n).1 (W.step n).nl ∧ totN (W.step n).nl = totN W.nl + 1 := by
  obtain ⟨t, h1, h2⟩ := rdy_iff.1 r
  have hn := (List.getElem?_eq_some_iff.1 h1).1
  have hl : n < W.nl.length := by rw [List.length_map, ← o.l]; exact hn
  have hx := List.getElem?_eq_getElem hl
  have e : (W.step n).1 = W.1.step n (abMv W.nl[n]) := by
    show W.1.step n (mvAtL W.2 n) = _
    rw [mvAt_ab hx]
  rw [step_nl, e]
  exact ⟨v.step o.a h1 h2 hx, tot_up hl⟩
theorem Lv.steps {T : Nat} : ∀ (l : List Int) (W : WS) (B N : Nat), W.Ok B N → W.1.J → Lv T W.1 W.nl → l.Nodup → (∀ x ∈ l, ∃ n : Nat, x = n ∧ rdyB W.1.ts n = true) → Lv T (stepsW W l).1 (stepsW W l).nl ∧ totN (stepsW W l).nl = totN W.nl + l.length
  | [], W, B, N, o, j, v, _, _ => ⟨v, rfl⟩
  | t :: l, W, B, N, o, j, v, nd, h => by
    obtain ⟨n, rfl, hn⟩ := h t List.mem_cons_self
    obtain ⟨nd1, nd2⟩ := List.nodup_cons.1 nd
    obtain ⟨q, j'⟩ := WS.step_Q o j hn
    obtain ⟨v', e⟩ := v.stepW o hn
    have hl : n < W.1.ts.length := by
      obtain ⟨t, h1, _⟩ := rdy_iff.1 hn
      exact (List.getElem?_eq_some_iff.1 h1).1
    obtain ⟨h1, h2⟩ := Lv.steps l (W.step n) _ _ (o.step hl) j' v' nd2 fun x hx => by
      obtain ⟨m, rfl, hm⟩ := h x (List.mem_cons_of_mem _ hx)
      refine ⟨m, rfl, q.rdy ?_ hm⟩
      rintro rfl
      exact nd1 hx
    refine ⟨h1, ?_⟩
    show totN (stepsW (W.step n) l).nl = _
    rw [h2, e, List.length_cons]; omega
theorem Lv.round {T B N : Nat} {W : WS} (v : Lv T W.1 W.nl) (o : W.Ok B N) (j : W.1.J) : Lv T (roundW W).1.1 (roundW W).1.nl ∧ totN (roundW W).1.nl = totN W.nl + (readyT W.1.ts).length ∧ (roundW W).1.1.J := by
  obtain ⟨e, j'⟩ := round_all o j
  rw [e]
  obtain ⟨h1, h2⟩ := v.steps (readyT W.1.ts) W B N o j (ready_nd _) fun x hx => ready_rdy hx
  exact ⟨h1, h2, j'⟩
theorem round_none {W : WS} (h : readyT W.1.ts = []) : roundW W = (W, 0) := by unfold roundW; rw [h]; rfl
theorem ready_mem {ts : List TK} {n : Nat} (h : rdyB ts n = true) : (n : Int) ∈ readyT ts := by
  obtain ⟨t, h1, _⟩ := rdy_iff.1 h
  unfold readyT readyTo
  exact List.mem_map_of_mem (f := fun i : Nat => (i : Int)) (List.mem_filter.2 ⟨List.mem_range.2 (List.getElem?_eq_some_iff.1 h1).1, h⟩)
/-- None is stuck. -/
theorem Lv.live {T B N : Nat} {W : WS} (v : Lv T W.1 W.nl) (o : W.Ok B N) (hz : readyT W.1.ts = []) : ∀ i, i < W.1.ts.length → stAt W.1.ts (i : Int) = 4 ∧ flAt W.1.ts (i : Int) = 0 ∧ ∃ x, W.nl[i]? = some x ∧ x.1 = 3 * T + 1 := by
  have no1 : ∀ (i : Nat) t, W.1.ts[i]? = some t → t.st ≠ 1 := fun i t h c => by
    have := ready_mem (rdy_iff.2 ⟨t, h, c⟩)
    rw [hz] at this; cases this
  have hl : W.nl.length = W.1.ts.length := by rw [List.length_map, o.l]
  intro i hi
  have ht := List.getElem?_eq_getElem hi
  have hx := List.getElem?_eq_getElem (by omega : i < W.nl.length)
  obtain ⟨_, fl, ph⟩ := v.t i _ _ ht hx
  rcases ph with ⟨a, _⟩ | ⟨a, _, _, _, hq⟩ | ⟨a, b, _⟩
  · exact absurd a (no1 i _ ht)
  · exfalso
    obtain ⟨c, hc, _⟩ := mem_keys.1 hq
    have hne : W.1.m.has ≠ [] := fun e => by rw [v.ne e] at hc; cases hc
    obtain ⟨d, hd⟩ := List.exists_mem_of_ne_nil _ hne
    obtain ⟨k, hk, hkl⟩ := o.a.t d (List.mem_append_left _ hd)
    have hkh : (k : Int) ∈ keys W.1.m.has := mem_keys.2 ⟨d, hd, hk⟩
    have ht' := List.getElem?_eq_getElem hkl
    have hx' := List.getElem?_eq_getElem (by omega : k < W.nl.length)
    obtain ⟨_, _, ph⟩ := v.t k _ _ ht' hx'
    rcases ph with ⟨a, _⟩ | ⟨_, _, _, a, _⟩ | ⟨_, _, a, _⟩
    · exact no1 k _ ht' a
    · exact a hkh
    · exact a hkh
  · refine ⟨?_, ?_, _, hx, b⟩
    · unfold stAt
      rw [if_neg (by omega), Int.toNat_natCast, ht]; exact a
    · unfold flAt
      rw [if_neg (by omega), Int.toNat_natCast, ht]; exact fl
theorem Lv.tot {T B N : Nat} {W : WS} (v : Lv T W.1 W.nl) (o : W.Ok B N) : totN W.nl ≤ (3 * T + 1) * W.2.length := by
  have hl : W.nl.length = W.1.ts.length := by rw [List.length_map, o.l]
  have h := tot_le (k := 3 * T + 1) (L := W.nl) fun x hx => by
    obtain ⟨i, hi, rfl⟩ := List.getElem_of_mem hx
    obtain ⟨_, _, ph⟩ := v.t i _ _ (List.getElem?_eq_getElem (by omega : i < W.1.ts.length)) (List.getElem?_eq_getElem hi)
    rcases ph with ⟨_, a, _⟩ | ⟨_, a, _⟩ | ⟨_, a, _⟩ <;> omega
  rw [List.length_map] at h; exact h
theorem Lv.add {T B : Nat} {A : AS} {L : NL} (v : Lv T A L) (ok : A.Ok B) (hl : A.ts.length = L.length) {ms : List MV} (p : Plays T ms) : Lv T A.add (L ++ [(0, ms)]) := by
  have hk : ∀ i : Nat, A.ts.length ≤ i → (i : Int) ∉ keys A.m.has ∧ (i : Int) ∉ keys A.m.queue := fun i hi => by
    refine ⟨fun c => ?_, fun c => ?_⟩
    · obtain ⟨d, hd, e⟩ := mem_keys.1 c
      obtain ⟨m, hm, hlt⟩ := ok.t d (List.mem_append_left _ hd)
      omega
    · obtain ⟨d, hd, e⟩ := mem_keys.1 c
      obtain ⟨m, hm, hlt⟩ := ok.t d (List.mem_append_right _ hd)
      omega
  refine ⟨v.lk, v.nd, v.ne, fun i t x ht hx => ?_⟩
  have ht : (A.ts ++ [⟨1, 0, 0⟩])[i]? = some t := ht
  rcases Nat.lt_or_ge i A.ts.length with c | c
  · rw [List.getElem?_append_left c] at ht
    rw [List.getElem?_append_left (by omega)] at hx
    exact v.t i t x ht hx
  · have hi : i = A.ts.length := by
      have := (List.getElem?_eq_some_iff.1 ht).1
      simp at this; omega
    subst hi
    rw [List.getElem?_append_right (Nat.le_refl _), Nat.sub_self] at ht
    rw [List.getElem?_append_right (by omega), hl, Nat.sub_self] at hx
    obtain rfl := Option.some.inj ht
    obtain rfl := Option.some.inj hx
    obtain ⟨h1, h2⟩ := hk _ (Nat.le_refl _)
    exact ⟨p, rfl, .inl ⟨rfl, Nat.zero_le _, ⟨fun d => absurd d h1, fun d => absurd rfl d⟩, h2⟩⟩
theorem Lv.new (T : Nat) : Lv T (AS.new 16) [] := ⟨rfl, by simp [AS.new, AM.new, keys], fun _ => rfl, fun i t x h _ => by simp [AS.new] at h⟩
end Go.Proofs.Ytomngllmnhdmlaa
