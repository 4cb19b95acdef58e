/- Tasks that ask for a set, go, let it go, and end: none is stuck. No heap. -/
import Derived.Test.YtomngllmnhdmlaaSdNC
namespace Go.Proofs.Ytomngllmnhdmlaa
open Go Go.Tr
set_option linter.unusedVariables false
def keys (l : List C) : List Int := l.map (·.1)
theorem keys_app (a b : List C) : keys (a ++ b) = keys a ++ keys b := by unfold keys; rw [List.map_append]
structure Plays (T : Nat) (ms : List MV) : Prop where
  ask : ∀ nx, nx < 3 * T → nx % 3 = 0 → ∃ s, okSet 16 s = true ∧ abMv (nx, ms) = ⟨2, s, 0, []⟩
  go : ∀ nx, nx < 3 * T → nx % 3 = 1 → abMv (nx, ms) = ⟨1, [], 0, []⟩
  free : ∀ nx, nx < 3 * T → nx % 3 = 2 → abMv (nx, ms) = ⟨3, [], 0, []⟩
  fin : abMv (3 * T, ms) = ⟨5, [], 0, []⟩
def PH (T : Nat) (M : AM) (i : Nat) (t : TK) (nx : Nat) : Prop :=
  t.fl = 0 ∧ ((t.st = 1 ∧ nx ≤ 3 * T ∧ ((i : Int) ∈ keys M.has ↔ nx % 3 ≠ 0) ∧ (i : Int) ∉ keys M.queue) ∨
    (t.st = 2 ∧ nx < 3 * T ∧ nx % 3 = 1 ∧ (i : Int) ∉ keys M.has ∧ (i : Int) ∈ keys M.queue) ∨
    (t.st = 4 ∧ nx = 3 * T + 1 ∧ (i : Int) ∉ keys M.has ∧ (i : Int) ∉ keys M.queue))
abbrev NL := List (Nat × List MV)
def upN (x : Nat × List MV) : Nat × List MV := (x.1 + 1, x.2)
structure Lv (T : Nat) (A : AS) (L : NL) : Prop where
  lk : A.m.locks = 16
  nd : (keys A.m.has ++ keys A.m.queue).Nodup
  ne : A.m.has = [] → A.m.queue = []
  t : ∀ (i : Nat) t x, A.ts[i]? = some t → L[i]? = some x → Plays T x.2 ∧ PH T A.m i t x.1
theorem findC_none {l : List C} {n : Nat} (h : (n : Int) ∉ keys l) : findC l n = none := by
  cases hf : findC l n with
  | none => rfl
  | some i =>
    exfalso
    have hs : (findC l (n : Int)).isSome = true := by rw [hf]; rfl
    rw [findC_isSome, List.any_eq_true] at hs
    obtain ⟨c, hc, e⟩ := hs
    exact h (by rw [← (by simpa using e : c.1 = (n : Int))]; exact List.mem_map_of_mem (f := fun c : C => c.1) hc)
theorem findC_some {l : List C} {n : Nat} (h : (n : Int) ∈ keys l) : ∃ i, findC l n = some i ∧ ∃ hi : i < l.length, l[i].1 = (n : Int) := by
  cases hf : findC l n with
  | none =>
    exfalso
    have hs : (findC l (n : Int)).isSome = false := by rw [hf]; rfl
    rw [findC_isSome, List.any_eq_false] at hs
    obtain ⟨c, hc, e⟩ := List.mem_map.1 h
    exact hs c hc (by simpa using e)
  | some i =>
    refine ⟨i, rfl, ?_⟩
    unfold findC at hf
    obtain ⟨hi, h1, _⟩ := List.findIdx?_eq_some_iff_getElem.1 hf
    exact ⟨hi, by simpa using h1⟩
theorem mem_eraseN {l : List C} {i : Nat} (nd : (keys l).Nodup) (hi : i < l.length) (k : Int) : k ∈ keys (l.eraseIdx i) ↔ k ∈ keys l ∧ k ≠ l[i].1 := by
  unfold keys
  simp only [List.mem_map]
  constructor
  · rintro ⟨c, hc, rfl⟩
    obtain ⟨j, hj, hne, rfl⟩ := List.mem_eraseIdx_iff_getElem.1 hc
    refine ⟨⟨_, List.getElem_mem _, rfl⟩, fun e => hne ?_⟩
    have h1 : (keys l)[j]'(by unfold keys; simpa using hj) = (keys l)[i]'(by unfold keys; simpa using hi) := by unfold keys; simpa using e
    have pw := List.pairwise_iff_getElem.1 nd
    rcases Nat.lt_trichotomy j i with c | c | c
    · exact absurd h1 (pw j i _ _ c)
    · exact c
    · exact absurd h1.symm (pw i j _ _ c)
  · rintro ⟨⟨c, hc, rfl⟩, hne⟩
    obtain ⟨j, hj, rfl⟩ := List.getElem_of_mem hc
    exact ⟨_, List.mem_eraseIdx_iff_getElem.2 ⟨j, hj, fun e => hne (by subst e; rfl), rfl⟩, rfl⟩
theorem Lv.of {T : Nat} {A : AS} {L : NL} {n : Nat} {x : Nat × List MV} (v : Lv T A L) (hx : L[n]? = some x) {M' : AM} {ts' : List TK} (hl : ts'.length = A.ts.length)
    (lk : M'.locks = 16) (nd : (keys M'.has ++ keys M'.queue).Nodup) (ne : M'.has = [] → M'.queue = [])
    (hn : ∀ t t', A.ts[n]? = some t → ts'[n]? = some t' → PH T A.m n t x.1 → PH T M' n t' (x.1 + 1))
    (ho : ∀ (i : Nat) t t' nx, i ≠ n → A.ts[i]? = some t → ts'[i]? = some t' → PH T A.m i t nx → PH T M' i t' nx) : Lv T ⟨M', ts'⟩ (L.modify n upN) := by
  refine ⟨lk, nd, ne, fun i t' y ht' hy => ?_⟩
  have ht' : ts'[i]? = some t' := ht'
  have hi : i < A.ts.length := by
    have := (List.getElem?_eq_some_iff.1 ht').1; omega
  have ht := List.getElem?_eq_getElem hi
  rw [List.getElem?_modify] at hy
  by_cases c : n = i
  · subst c
    rw [hx] at hy
    have hy : upN x = y := by simpa using hy
    obtain ⟨p1, p2⟩ := v.t n _ _ ht hx
    subst hy
    exact ⟨p1, hn _ _ ht ht' p2⟩
  · cases hL : L[i]? with
    | none => rw [hL] at hy; cases hy
    | some z =>
      rw [hL] at hy
      have hy : z = y := by simpa [c] using hy
      subst hy
      obtain ⟨p1, p2⟩ := v.t i _ _ ht hL
      exact ⟨p1, ho i _ _ _ (fun e => c e.symm) ht ht' p2⟩
theorem mem_keys {l : List C} {k : Int} : k ∈ keys l ↔ ∃ c ∈ l, c.1 = k := by unfold keys; exact List.mem_map
theorem thr_ne {has q : List C} (h : (thr has [] q).1 = []) : (thr has [] q).2.1 = [] := by
  cases q with
  | nil => rfl
  | cons c q =>
    exfalso
    have pre : ∀ (q has left : List C), ∃ x, (thr has left q).1 = has ++ x := by
      intro q
      induction q with
      | nil => exact fun has left => ⟨[], by simp [thr]⟩
      | cons c q ih =>
        intro has left
        unfold thr
        split
        · exact ih _ _
        · obtain ⟨x, e⟩ := ih (has ++ [c]) left
          exact ⟨c :: x, by simp only; rw [e]; simp⟩
    have h0 : has = [] := by
      obtain ⟨x, e⟩ := pre (c :: q) has []
      rw [e] at h
      exact (List.append_eq_nil_iff.1 h).1
    subst h0
    have e : thr [] [] (c :: q) = ((thr ([] ++ [c]) [] q).1, (thr ([] ++ [c]) [] q).2.1, c.1 :: (thr ([] ++ [c]) [] q).2.2) := by
      conv => lhs; unfold thr
      rfl
    rw [e] at h
    obtain ⟨x, e2⟩ := pre q ([] ++ [c]) []
    rw [e2] at h
    simp at h
theorem Lv.step {T B n : Nat} {A : AS} {L : NL} {t : TK} {x : Nat × List MV} (v : Lv T A L) (ok : A.Ok B) (ht : A.ts[n]? = some t) (h1 : t.st = 1) (hx : L[n]? = some x) : Lv T (A.step n (abMv x)) (L.modify n upN) := by
  obtain ⟨pl, fl, ph⟩ := v.t n t x ht hx
  obtain ⟨nx, ms⟩ := x
  obtain ⟨h2, h3, h4⟩ : nx ≤ 3 * T ∧ ((n : Int) ∈ keys A.m.has ↔ nx % 3 ≠ 0) ∧ (n : Int) ∉ keys A.m.queue := by
    rcases ph with ⟨_, a, b, c⟩ | ⟨a, _⟩ | ⟨a, _⟩
    · exact ⟨a, b, c⟩
    · omega
    · omega
  obtain ⟨nd1, nd2, nd3⟩ := List.nodup_append.1 v.nd
  have self : ∀ t0, A.ts[n]? = some t0 → t0 = t := fun t0 h => by rw [ht] at h; exact (Option.some.inj h).symm
  rcases Nat.lt_or_ge nx (3 * T) with hlt | hge
  · have h012 : nx % 3 = 0 ∨ nx % 3 = 1 ∨ nx % 3 = 2 := by omega
    rcases h012 with hm | hm | hm
    · -- asks
      obtain ⟨s, hs, e⟩ := pl.ask nx hlt hm
      rw [e]
      have hnh : (n : Int) ∉ keys A.m.has := fun c => h3.1 c hm
      have e2 : A.m.ask n s = if (hit A.m.has s || hit A.m.queue s) = true then ((false, 0), { A.m with queue := A.m.queue ++ [((n : Int), s)] }) else ((true, 0), { A.m with has := A.m.has ++ [((n : Int), s)] }) := by
        unfold AM.ask
        rw [if_neg (by rw [v.lk, hs]; simp), findC_none hnh, findC_none h4]; rfl
      have e3 : A.step n ⟨2, s, 0, []⟩ = if (A.m.ask n s).1.2 ≠ 0 then (AS.mk (A.m.ask n s).2 A.ts).endT n (A.m.ask n s).1.2 else ⟨(A.m.ask n s).2, if (A.m.ask n s).1.1 then A.ts else setSt A.ts n 2⟩ := by
        have e4 : A.step n ⟨2, s, 0, []⟩ = if (A.move n ⟨2, s, 0, []⟩).1.1 = true then (A.move n ⟨2, s, 0, []⟩).2.endT n (A.move n ⟨2, s, 0, []⟩).1.2 else (A.move n ⟨2, s, 0, []⟩).2 := rfl
        have e5 : A.move n ⟨2, s, 0, []⟩ = if (A.m.ask n s).1.2 ≠ 0 then ((true, (A.m.ask n s).1.2), ⟨(A.m.ask n s).2, A.ts⟩) else ((false, 0), ⟨(A.m.ask n s).2, if (A.m.ask n s).1.1 then A.ts else setSt A.ts n 2⟩) := rfl
        rw [e4, e5]
        split <;> rfl
      rw [e3, e2]
      split
      · -- it waits
        rename_i hh
        show Lv T ⟨{ A.m with queue := A.m.queue ++ [((n : Int), s)] }, setSt A.ts n 2⟩ _
        refine v.of hx (by unfold setSt; simp) v.lk ?_ ?_ (fun t0 t' ht0 ht' ph' => ?_) (fun i t0 t' nx' hne ht0 ht' ph' => ?_)
        · show (keys A.m.has ++ keys (A.m.queue ++ [((n : Int), s)])).Nodup
          rw [keys_app, ← List.append_assoc, List.nodup_append]
          refine ⟨v.nd, by simp [keys], fun a ha b hb => ?_⟩
          simp [keys] at hb
          subst hb
          rintro rfl
          rcases List.mem_append.1 ha with ha | ha
          · exact hnh ha
          · exact h4 ha
        · intro he
          exfalso
          have he : A.m.has = [] := he
          rw [he, v.ne he] at hh
          exact absurd hh (by simp [hit])
        · have ht' : (setSt A.ts n 2)[n]? = some t' := ht'
          unfold setSt at ht'
          rw [List.getElem?_modify, ht0] at ht'
          have ht' : { t0 with st := 2 } = t' := by simpa using ht'
          rw [self t0 ht0] at ht'
          subst ht'
          refine ⟨fl, .inr (.inl ⟨rfl, (by omega : nx + 1 < 3 * T), (by omega : (nx + 1) % 3 = 1), hnh, ?_⟩)⟩
          · show (n : Int) ∈ keys (A.m.queue ++ [((n : Int), s)])
            rw [keys_app]; simp [keys]
        · unfold setSt at ht'
          rw [List.getElem?_modify, ht0] at ht'
          have ht' : t0 = t' := by simpa [Ne.symm hne] using ht'
          subst ht'
          have hk : (i : Int) ∈ keys (A.m.queue ++ [((n : Int), s)]) ↔ (i : Int) ∈ keys A.m.queue := by
            rw [keys_app, List.mem_append]
            refine ⟨fun c => c.resolve_right fun d => ?_, .inl⟩
            simp [keys] at d; omega
          unfold PH
          simp only [hk]
          exact ph'
      · rename_i hh
        show Lv T ⟨{ A.m with has := A.m.has ++ [((n : Int), s)] }, A.ts⟩ _
        refine v.of hx rfl v.lk ?_ ?_ (fun t0 t' ht0 ht' ph' => ?_) (fun i t0 t' nx' hne ht0 ht' ph' => ?_)
        · show (keys (A.m.has ++ [((n : Int), s)]) ++ keys A.m.queue).Nodup
          rw [keys_app, List.append_assoc, List.nodup_append]
          refine ⟨nd1, ?_, fun a ha b hb => ?_⟩
          · show ((n : Int) :: keys A.m.queue).Nodup
            exact List.nodup_cons.2 ⟨h4, nd2⟩
          · rcases List.mem_cons.1 (show b ∈ (n : Int) :: keys A.m.queue from hb) with rfl | hb
            · rintro rfl; exact hnh ha
            · exact nd3 a ha b hb
        · intro he
          exact absurd he (by simp)
        · rw [ht0] at ht'
          obtain rfl := Option.some.inj ht'
          refine ⟨ph'.1, .inl ⟨by rw [self t0 ht0]; exact h1, by show nx + 1 ≤ _; omega, ?_, h4⟩⟩
          refine ⟨fun _ => by show (nx + 1) % 3 ≠ 0; omega, fun _ => ?_⟩
          show (n : Int) ∈ keys (A.m.has ++ [((n : Int), s)])
          rw [keys_app]; simp [keys]
        · rw [ht0] at ht'
          obtain rfl := Option.some.inj ht'
          have hk : (i : Int) ∈ keys (A.m.has ++ [((n : Int), s)]) ↔ (i : Int) ∈ keys A.m.has := by
            rw [keys_app, List.mem_append]
            refine ⟨fun c => c.resolve_right fun d => ?_, .inl⟩
            simp [keys] at d; omega
          unfold PH
          simp only [hk]
          exact ph'
    · -- goes
      rw [pl.go nx hlt hm]
      show Lv T ⟨A.m, A.ts⟩ _
      refine v.of hx rfl v.lk v.nd v.ne (fun t0 t' ht0 ht' ph' => ?_) (fun i t0 t' nx' hne ht0 ht' ph' => ?_)
      · rw [ht0] at ht'
        obtain rfl := Option.some.inj ht'
        refine ⟨ph'.1, .inl ⟨by rw [self t0 ht0]; exact h1, by show nx + 1 ≤ _; omega, ⟨fun _ => by show (nx + 1) % 3 ≠ 0; omega, fun _ => h3.2 (by omega)⟩, h4⟩⟩
      · rw [ht0] at ht'
        obtain rfl := Option.some.inj ht'
        exact ph'
    · -- lets go
      rw [pl.free nx hlt hm]
      have hin : (n : Int) ∈ keys A.m.has := h3.2 (by omega)
      obtain ⟨i0, hf, hi0, hc0⟩ := findC_some hin
      have e3 : A.step n ⟨3, [], 0, []⟩ = ⟨({ A.m with has := A.m.has.eraseIdx i0 } : AM).through.2, grantT A.ts ({ A.m with has := A.m.has.eraseIdx i0 } : AM).through.1⟩ := by
        have e2 : A.m.free n = ((({ A.m with has := A.m.has.eraseIdx i0 } : AM).through.1, 0), ({ A.m with has := A.m.has.eraseIdx i0 } : AM).through.2) := by unfold AM.free; rw [hf]
        have e4 : A.step n ⟨3, [], 0, []⟩ = if (A.move n ⟨3, [], 0, []⟩).1.1 = true then (A.move n ⟨3, [], 0, []⟩).2.endT n (A.move n ⟨3, [], 0, []⟩).1.2 else (A.move n ⟨3, [], 0, []⟩).2 := rfl
        have e5 : A.move n ⟨3, [], 0, []⟩ = if (A.m.free n).1.2 ≠ 0 then ((true, (A.m.free n).1.2), ⟨(A.m.free n).2, A.ts⟩) else ((false, 0), ⟨(A.m.free n).2, grantT A.ts (A.m.free n).1.1⟩) := rfl
        rw [e4, e5, e2]; rfl
      rw [e3]
      have hsub := thr_sub A.m.queue (A.m.has.eraseIdx i0) []
      have hsp := thr_split A.m.queue (A.m.has.eraseIdx i0) [] nd2
      obtain ⟨TT, hTT⟩ : ∃ l, l = (thr (A.m.has.eraseIdx i0) [] A.m.queue).2.2 := ⟨_, rfl⟩
      have eH : ({ A.m with has := A.m.has.eraseIdx i0 } : AM).through.2.has = A.m.has.eraseIdx i0 ++ A.m.queue.filter fun c => decide (c.1 ∈ TT) := by rw [hTT]; exact hsp.1
      have eQ : ({ A.m with has := A.m.has.eraseIdx i0 } : AM).through.2.queue = A.m.queue.filter fun c => !decide (c.1 ∈ TT) := by rw [hTT]; exact hsp.2.trans (List.nil_append _)
      have eT : ({ A.m with has := A.m.has.eraseIdx i0 } : AM).through.1 = TT := hTT.symm
      have hne := thr_ne (has := A.m.has.eraseIdx i0) (q := A.m.queue)
      rw [← hTT] at hsub
      have kH : ∀ k, k ∈ keys ({ A.m with has := A.m.has.eraseIdx i0 } : AM).through.2.has ↔ (k ∈ keys A.m.has ∧ k ≠ (n : Int)) ∨ (k ∈ keys A.m.queue ∧ k ∈ TT) := fun k => by
        rw [eH, keys_app, List.mem_append, mem_eraseN nd1 hi0, hc0]
        refine or_congr Iff.rfl ?_
        simp only [mem_keys, List.mem_filter, decide_eq_true_eq]
        constructor
        · rintro ⟨c, ⟨h1, h2⟩, rfl⟩; exact ⟨⟨c, h1, rfl⟩, h2⟩
        · rintro ⟨⟨c, h1, rfl⟩, h2⟩; exact ⟨c, ⟨h1, h2⟩, rfl⟩
      have kQ : ∀ k, k ∈ keys ({ A.m with has := A.m.has.eraseIdx i0 } : AM).through.2.queue ↔ k ∈ keys A.m.queue ∧ k ∉ TT := fun k => by
        rw [eQ]
        simp only [mem_keys, List.mem_filter, Bool.not_eq_true', decide_eq_false_iff_not]
        constructor
        · rintro ⟨c, ⟨h1, h2⟩, rfl⟩; exact ⟨⟨c, h1, rfl⟩, h2⟩
        · rintro ⟨⟨c, h1, rfl⟩, h2⟩; exact ⟨c, ⟨h1, h2⟩, rfl⟩
      have hTQ : ∀ k ∈ TT, k ∈ keys A.m.queue := fun k hk => hsub.subset hk
      have ndH : (keys ({ A.m with has := A.m.has.eraseIdx i0 } : AM).through.2.has ++ keys ({ A.m with has := A.m.has.eraseIdx i0 } : AM).through.2.queue).Nodup := by
        refine List.nodup_append.2 ⟨?_, ?_, fun a ha b hb => ?_⟩
        · rw [eH, keys_app]
          refine List.nodup_append.2 ⟨nd1.sublist (List.Sublist.map _ (List.eraseIdx_sublist _ _)), nd2.sublist (List.Sublist.map _ List.filter_sublist), fun a ha b hb => ?_⟩
          have ha := ((mem_eraseN nd1 hi0 a).1 ha).1
          have hb : b ∈ keys A.m.queue := (List.Sublist.map _ List.filter_sublist).subset hb
          exact nd3 a ha b hb
        · rw [eQ]; exact nd2.sublist (List.Sublist.map _ List.filter_sublist)
        · rintro rfl
          have hb := (kQ a).1 hb
          rcases (kH a).1 ha with ⟨h, _⟩ | ⟨_, h⟩
          · exact nd3 a h a hb.1 rfl
          · exact hb.2 h
      have hlk : ({ A.m with has := A.m.has.eraseIdx i0 } : AM).through.2.locks = 16 := v.lk
      have hne' : ({ A.m with has := A.m.has.eraseIdx i0 } : AM).through.2.has = [] → ({ A.m with has := A.m.has.eraseIdx i0 } : AM).through.2.queue = [] := hne
      rw [eT]
      generalize ({ A.m with has := A.m.has.eraseIdx i0 } : AM).through.2 = M' at kH kQ ndH hlk hne'
      refine v.of hx (grantT_len _ _) hlk ndH hne' (fun t0 t' ht0 ht' ph' => ?_) (fun i t0 t' nx' hne ht0 ht' ph' => ?_)
      · rw [grantT_get, ht0, Option.map_some] at ht'
        have hnT : ¬ ∃ y ∈ TT, y.toNat = n := by
          rintro ⟨y, hy, e⟩
          obtain ⟨c, hc, e2⟩ := mem_keys.1 (hTQ y hy)
          obtain ⟨m, hm1, _⟩ := ok.t c (List.mem_append_right _ hc)
          have : y = (n : Int) := by omega
          rw [this] at hy
          exact h4 (hTQ _ hy)
        rw [if_neg hnT] at ht'
        obtain rfl := Option.some.inj ht'
        refine ⟨ph'.1, .inl ⟨by rw [self t0 ht0]; exact h1, by show nx + 1 ≤ _; omega, ?_, fun c => h4 ((kQ _).1 c).1⟩⟩
        refine ⟨fun c => ?_, fun c => absurd (show (nx + 1) % 3 = 0 by omega) c⟩
        rcases (kH _).1 c with ⟨_, c⟩ | ⟨c, _⟩
        · exact absurd rfl c
        · exact absurd c h4
      · rw [grantT_get, ht0, Option.map_some] at ht'
        have hin : (i : Int) ≠ (n : Int) := by omega
        by_cases c : (i : Int) ∈ TT
        · rw [if_pos ⟨_, c, by omega⟩] at ht'
          obtain rfl := Option.some.inj ht'
          have hq := hTQ _ c
          obtain ⟨f, p⟩ := ph'
          rcases p with ⟨_, _, _, p⟩ | ⟨p1, p2, p3, p4, p5⟩ | ⟨_, _, _, p⟩
          · exact absurd hq p
          · exact ⟨f, .inl ⟨rfl, by omega, ⟨fun _ => by omega, fun _ => (kH _).2 (.inr ⟨hq, c⟩)⟩, fun d => ((kQ _).1 d).2 c⟩⟩
          · exact absurd hq p
        · rw [if_neg] at ht'
          · obtain rfl := Option.some.inj ht'
            have a1 : (i : Int) ∈ keys M'.has ↔ (i : Int) ∈ keys A.m.has := (kH _).trans ⟨fun d => d.elim (·.1) fun d => absurd d.2 c, fun d => .inl ⟨d, hin⟩⟩
            have a2 : (i : Int) ∈ keys M'.queue ↔ (i : Int) ∈ keys A.m.queue := (kQ _).trans ⟨(·.1), fun d => ⟨d, c⟩⟩
            unfold PH
            rw [a1, a2]
            exact ph'
          · rintro ⟨y, hy, e⟩
            obtain ⟨d, hd, e2⟩ := mem_keys.1 (hTQ y hy)
            obtain ⟨m, hm1, _⟩ := ok.t d (List.mem_append_right _ hd)
            have : y = (i : Int) := by omega
            rw [this] at hy
            exact c hy
  · -- ends
    have hnx : nx = 3 * T := by omega
    subst hnx
    rw [pl.fin]
    have hnh : (n : Int) ∉ keys A.m.has := fun c => h3.1 c (by omega)
    have e3 : A.step n ⟨5, [], 0, []⟩ = A.endT n 0 := rfl
    have e4 : A.m.quit n = ([], A.m) := by
      unfold AM.quit
      rw [findC_none hnh, findC_none h4]
    have e5 : A.endT n 0 = ⟨A.m, A.ts.modify n fun t => { t with st := 4, fl := 0 }⟩ := by unfold AS.endT; rw [e4]; rfl
    rw [e3, e5]
    refine v.of hx (by simp) v.lk v.nd v.ne (fun t0 t' ht0 ht' ph' => ?_) (fun i t0 t' nx' hne ht0 ht' ph' => ?_)
    · rw [List.getElem?_modify, ht0] at ht'
      have ht' : { t0 with st := 4, fl := 0 } = t' := by simpa using ht'
      subst ht'
      exact ⟨rfl, .inr (.inr ⟨rfl, rfl, hnh, h4⟩)⟩
    · rw [List.getElem?_modify, ht0] at ht'
      have ht' : t0 = t' := by simpa [Ne.symm hne] using ht'
      subst ht'
      exact ph'
end Go.Proofs.Ytomngllmnhdmlaa
