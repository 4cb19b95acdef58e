/- Who waits for locks is locked; what a step does to the others. No heap. -/
import Derived.Test.YtomngllmnhdmlaaB3
namespace Go.Proofs.Ytomngllmnhdmlaa
open Go Go.Tr
set_option linter.unusedVariables false
structure AS.J (A : AS) : Prop where
  nd : (A.m.queue.map (·.1)).Nodup
  st : ∀ c ∈ A.m.queue, ∀ k : Nat, c.1 = k → ∃ t, A.ts[k]? = some t ∧ t.st = 2
def Qr (n : Nat) (ts ts' : List TK) : Prop := ts'.length = ts.length ∧ ∀ i, i ≠ n → ∀ t t', ts[i]? = some t → ts'[i]? = some t' → t'.st = t.st ∨ (t'.st = 1 ∧ (t.st = 2 ∨ t.st = 3))
theorem Qr.refl (n : Nat) (ts : List TK) : Qr n ts ts := ⟨rfl, fun i _ t t' h h' => by rw [h] at h'; cases h'; exact .inl rfl⟩
theorem Qr.trans {n : Nat} {a b c : List TK} (x : Qr n a b) (y : Qr n b c) : Qr n a c := by
  refine ⟨y.1.trans x.1, fun i hi t t'' h h'' => ?_⟩
  have hl : i < b.length := by
    have := (List.getElem?_eq_some_iff.1 h).1
    have := x.1; omega
  have h1 := x.2 i hi t _ h (List.getElem?_eq_getElem hl)
  have h2 := y.2 i hi _ t'' (List.getElem?_eq_getElem hl) h''
  rcases h1 with h1 | ⟨h1, h3⟩
  · rw [← h1]; exact h2
  · rcases h2 with h2 | ⟨h2, h4⟩
    · exact .inr ⟨by rw [h2, h1], h3⟩
    · rw [h1] at h4; omega
theorem Qr.modify (n : Nat) (ts : List TK) (f : TK → TK) : Qr n ts (ts.modify n f) := by
  refine ⟨by simp, fun i hi t t' h h' => ?_⟩
  rw [List.getElem?_modify, h] at h'
  simp [Ne.symm hi] at h'
  rw [h']; exact .inl rfl
theorem Qr.wake (n : Nat) (ts : List TK) (on : Int) : Qr n ts (wakeT ts on) := by
  refine ⟨by simp [wakeT], fun i hi t t' h h' => ?_⟩
  unfold wakeT at h'
  rw [List.getElem?_map, h] at h'
  have h' : wk on t = t' := by simpa using h'
  rw [← h']
  unfold wk
  split
  · rename_i c
    unfold wkB at c
    rw [Bool.and_eq_true, beq_iff_eq] at c
    exact .inr ⟨rfl, .inr c.1⟩
  · exact .inl rfl
theorem Qr.wakes (n : Nat) : ∀ (w : List Int) (ts : List TK), Qr n ts (w.foldl wakeT ts)
  | [], ts => Qr.refl n ts
  | on :: w, ts => (Qr.wake n ts on).trans (Qr.wakes n w _)
theorem wakes_get : ∀ (w : List Int) (ts : List TK) (k : Nat) (t : TK), ts[k]? = some t → t.st ≠ 3 → (w.foldl wakeT ts)[k]? = some t
  | [], ts, k, t, h, _ => h
  | on :: w, ts, k, t, h, h3 => by
    refine wakes_get w _ k t ?_ h3
    unfold wakeT
    rw [List.getElem?_map, h]
    have : wk on t = t := by
      unfold wk
      rw [if_neg]
      unfold wkB
      rw [Bool.and_eq_true, beq_iff_eq]
      exact fun c => h3 c.1
    rw [Option.map_some, this]
theorem grantT_get : ∀ (l : List Int) (ts : List TK) (i : Nat), (grantT ts l)[i]? = (ts[i]?).map fun t => if (∃ x ∈ l, x.toNat = i) then { t with st := 1 } else t
  | [], ts, i => by
    show ts[i]? = _
    cases ts[i]? <;> simp
  | n :: l, ts, i => by
    show (grantT (setSt ts n.toNat 1) l)[i]? = _
    rw [grantT_get l]
    unfold setSt
    rw [List.getElem?_modify]
    cases ts[i]? with
    | none => simp
    | some t =>
      by_cases c : n.toNat = i
      · simp [c]
      · simp [c]
theorem Qr.grant {n : Nat} {ts : List TK} {l : List Int} (h : ∀ x ∈ l, ∃ t, ts[x.toNat]? = some t ∧ t.st = 2) : Qr n ts (grantT ts l) := by
  refine ⟨grantT_len l ts, fun i hi t t' ht ht' => ?_⟩
  rw [grantT_get, ht, Option.map_some] at ht'
  replace ht' := Option.some.inj ht'
  by_cases c : ∃ x ∈ l, x.toNat = i
  · rw [if_pos c] at ht'
    obtain ⟨x, hx, rfl⟩ := c
    obtain ⟨t2, h1, h2⟩ := h x hx
    rw [ht] at h1; cases h1
    exact .inr ⟨by subst ht'; rfl, .inl h2⟩
  · rw [if_neg c] at ht'
    rw [ht']; exact .inl rfl
/-- What a manager's call leaves of the queue. -/
structure Gq (M : AM) (T : List Int) (M' : AM) : Prop where
  nd : (M'.queue.map (·.1)).Nodup
  q : ∀ c ∈ M'.queue, c ∈ M.queue ∧ c.1 ∉ T
  t : ∀ x ∈ T, ∃ c ∈ M.queue, c.1 = x
theorem Gq.same {M : AM} (nd : (M.queue.map (·.1)).Nodup) : Gq M [] M := ⟨nd, fun c hc => ⟨hc, by simp⟩, by simp⟩
theorem Gq.through {M : AM} (nd : (M.queue.map (·.1)).Nodup) : Gq M M.through.1 M.through.2 := by
  have h := (thr_split M.queue M.has [] nd).2
  have hq : M.through.2.queue = M.queue.filter fun c => !decide (c.1 ∈ M.through.1) := by
    show (thr M.has [] M.queue).2.1 = _
    rw [h]; rfl
  refine ⟨?_, fun c hc => ?_, fun x hx => ?_⟩
  · rw [hq]; exact nd.sublist (List.Sublist.map _ List.filter_sublist)
  · rw [hq] at hc
    obtain ⟨h1, h2⟩ := List.mem_filter.1 hc
    exact ⟨h1, by simpa using h2⟩
  · have := (thr_sub M.queue M.has []).subset hx
    obtain ⟨c, hc, e⟩ := List.mem_map.1 this
    exact ⟨c, hc, e⟩
theorem Gq.free {M : AM} (nd : (M.queue.map (·.1)).Nodup) (t : Int) : Gq M (M.free t).1.1 (M.free t).2 := by
  unfold AM.free
  split
  · exact Gq.same nd
  · rename_i i hi
    have g := Gq.through (M := { M with has := M.has.eraseIdx i }) nd
    exact ⟨g.nd, g.q, g.t⟩
theorem Gq.quit {M : AM} (nd : (M.queue.map (·.1)).Nodup) (t : Int) : Gq M (M.quit t).1 (M.quit t).2 := by
  unfold AM.quit
  split
  · rename_i i hi
    have g := Gq.through (M := { M with has := M.has.eraseIdx i }) nd
    exact ⟨g.nd, g.q, g.t⟩
  · split
    · rename_i i hi
      have g := Gq.through (M := { M with queue := M.queue.eraseIdx i }) (nd.sublist (List.Sublist.map _ (List.eraseIdx_sublist _ _)))
      exact ⟨g.nd, fun c hc => ⟨List.mem_of_mem_eraseIdx (g.q c hc).1, (g.q c hc).2⟩, fun x hx => by
        obtain ⟨c, hc, e⟩ := g.t x hx
        exact ⟨c, List.mem_of_mem_eraseIdx hc, e⟩⟩
    · exact Gq.same nd
namespace AS
variable {A : AS} {B n : Nat}
theorem J.told (j : A.J) (ok : A.Ok B) {T : List Int} {M' : AM} (g : Gq A.m T M') : ∀ x ∈ T, ∃ k : Nat, x = k ∧ ∃ t, A.ts[k]? = some t ∧ t.st = 2 := fun x hx => by
  obtain ⟨c, hc, rfl⟩ := g.t x hx
  obtain ⟨k, hk, _⟩ := ok.t c (List.mem_append_right _ hc)
  exact ⟨k, hk, j.st c hc k hk⟩
theorem J.after (j : A.J) (ok : A.Ok B) {T : List Int} {M' : AM} (g : Gq A.m T M') : (AS.mk M' (grantT A.ts T)).J := by
  refine ⟨g.nd, fun c hc k hk => ?_⟩
  obtain ⟨h1, h2⟩ := g.q c hc
  obtain ⟨t, ht, hs⟩ := j.st c h1 k hk
  refine ⟨t, ?_, hs⟩
  show (grantT A.ts T)[k]? = _
  rw [grantT_get, ht, Option.map_some, if_neg]
  rintro ⟨x, hx, e⟩
  obtain ⟨m, hm, _⟩ := j.told ok g x hx
  refine h2 ?_
  rw [hk, show (k : Int) = x by omega]; exact hx
theorem J.modify (j : A.J) (h : ∀ t, A.ts[n]? = some t → t.st ≠ 2) (f : TK → TK) : (AS.mk A.m (A.ts.modify n f)).J := by
  refine ⟨j.nd, fun c hc k hk => ?_⟩
  obtain ⟨t, ht, hs⟩ := j.st c hc k hk
  have : n ≠ k := by rintro rfl; exact h t ht hs
  refine ⟨t, ?_, hs⟩
  show (A.ts.modify n f)[k]? = _
  rw [List.getElem?_modify, ht]; simp [this]
theorem Ok.modify (ok : A.Ok B) (f : TK → TK) : (AS.mk A.m (A.ts.modify n f)).Ok B := by
  refine ⟨ok.m, fun c hc => ?_, by simpa using ok.n⟩
  obtain ⟨k, h1, h2⟩ := ok.t c hc
  exact ⟨k, h1, by simpa using h2⟩
theorem endT_Q (j : A.J) (ok : A.Ok B) (h : ∀ t, A.ts[n]? = some t → t.st ≠ 2) (fl : Int) : Qr n A.ts (A.endT n fl).ts ∧ (A.endT n fl).J := by
  have j1 := j.modify h fun t => { t with st := 4, fl := fl }
  have ok1 := ok.modify (n := n) fun t => { t with st := 4, fl := fl }
  have g := Gq.quit j.nd (n : Int)
  refine ⟨(Qr.modify n _ _).trans (Qr.grant fun x hx => ?_), j1.after ok1 g⟩
  obtain ⟨k, rfl, t, ht, hs⟩ := j1.told ok1 g x hx
  exact ⟨t, ht, hs⟩
theorem J.wakes (j : A.J) (w : List Int) : (A.wakes w).J := by
  refine ⟨j.nd, fun c hc k hk => ?_⟩
  obtain ⟨t, ht, hs⟩ := j.st c hc k hk
  exact ⟨t, wakes_get w _ k t ht (by omega), hs⟩
theorem move_Q (j : A.J) (ok : A.Ok B) {t : TK} (ht : A.ts[n]? = some t) (h1 : t.st = 1) (x : MV) : Qr n A.ts (A.move n x).2.ts ∧ (A.move n x).2.J ∧ ((A.move n x).1.1 = true → (A.move n x).2.ts[n]? = some t) := by
  have jw := j.wakes x.w
  have okw := ok.wakes x.w
  have qw : Qr n A.ts (A.wakes x.w).ts := Qr.wakes n x.w A.ts
  have tw : (A.wakes x.w).ts[n]? = some t := wakes_get x.w A.ts n t ht (by omega)
  have hn2 : ∀ t', (A.wakes x.w).ts[n]? = some t' → t'.st ≠ 2 := fun t' h' => by rw [tw] at h'; cases h'; omega
  unfold AS.move
  simp only
  split
  · exact ⟨qw, jw, fun h => absurd h (by simp)⟩
  split
  · have askq : ((A.wakes x.w).m.ask n x.l).2.queue = (A.wakes x.w).m.queue ∨ (((A.wakes x.w).m.ask n x.l).2.queue = (A.wakes x.w).m.queue ++ [((n : Int), x.l)] ∧ ((A.wakes x.w).m.ask n x.l).1 = (false, 0) ∧ findC (A.wakes x.w).m.queue n = none) := by
      unfold AM.ask
      split
      · exact .inl rfl
      · split
        · exact .inl rfl
        · rename_i hf
          split
          · refine .inr ⟨rfl, rfl, ?_⟩
            simp only [Bool.or_eq_true, not_or, Bool.not_eq_true, Option.isSome_eq_false_iff, Option.isNone_iff_eq_none] at hf
            exact hf.2
          · exact .inl rfl
    split
    · rename_i he
      refine ⟨qw, ⟨?_, fun c hc => ?_⟩, fun _ => tw⟩
      · rcases askq with e | ⟨_, e, _⟩
        · show (List.map _ ((A.wakes x.w).m.ask n x.l).2.queue).Nodup
          rw [e]; exact jw.nd
        · rw [e] at he; exact absurd rfl he
      · rcases askq with e | ⟨_, e, _⟩
        · have hc : c ∈ ((A.wakes x.w).m.ask n x.l).2.queue := hc
          rw [e] at hc
          exact jw.st c hc
        · rw [e] at he; exact absurd rfl he
    · rcases askq with e | ⟨e, e2, e3⟩
      · -- granted at once, or refused
        refine ⟨?_, ⟨?_, fun c hc k hk => ?_⟩, fun h => absurd h (by simp)⟩
        · show Qr n A.ts (if _ then _ else _)
          split
          · exact qw
          · exact qw.trans (Qr.modify n _ _)
        · show (List.map _ ((A.wakes x.w).m.ask n x.l).2.queue).Nodup
          rw [e]; exact jw.nd
        · have hc : c ∈ ((A.wakes x.w).m.ask n x.l).2.queue := hc
          rw [e] at hc
          obtain ⟨t', h', hs⟩ := jw.st c hc k hk
          have hne : n ≠ k := by rintro rfl; exact hn2 t' h' hs
          refine ⟨t', ?_, hs⟩
          show (if _ then (A.wakes x.w).ts else setSt (A.wakes x.w).ts n 2)[k]? = _
          split
          · exact h'
          · unfold setSt
            rw [List.getElem?_modify, h']; simp [hne]
      · refine ⟨?_, ⟨?_, fun c hc k hk => ?_⟩, fun h => absurd h (by simp)⟩
        · show Qr n A.ts (if ((A.wakes x.w).m.ask n x.l).1.1 = true then _ else _)
          rw [e2]
          exact qw.trans (Qr.modify n _ _)
        · show (List.map _ ((A.wakes x.w).m.ask n x.l).2.queue).Nodup
          rw [e, List.map_append, List.nodup_append]
          refine ⟨jw.nd, by simp, fun a ha b hb => ?_⟩
          simp at hb
          subst hb
          intro ea
          subst ea
          obtain ⟨c, hc, ec⟩ := List.mem_map.1 ha
          have : (findC (A.wakes x.w).m.queue n).isSome = true := by rw [findC_isSome, List.any_eq_true]; exact ⟨c, hc, by rw [ec]; simp⟩
          rw [e3] at this; cases this
        · have hc : c ∈ ((A.wakes x.w).m.ask n x.l).2.queue := hc
          rw [e] at hc
          show ∃ t', (if ((A.wakes x.w).m.ask n x.l).1.1 = true then (A.wakes x.w).ts else setSt (A.wakes x.w).ts n 2)[k]? = some t' ∧ _
          rw [e2]
          simp only [Bool.false_eq_true, if_false]
          unfold setSt
          rw [List.getElem?_modify]
          rcases List.mem_append.1 hc with hc | hc
          · obtain ⟨t', h', hs⟩ := jw.st c hc k hk
            have hne : n ≠ k := by rintro rfl; exact hn2 t' h' hs
            rw [h']; simp [hne, hs]
          · obtain rfl := List.mem_singleton.1 hc
            have hk : n = k := by
              have hk : (n : Int) = k := hk
              omega
            subst hk
            rw [tw]; simp
  split
  · have g := Gq.free jw.nd (n : Int)
    split
    · rename_i he
      refine ⟨qw, ?_, fun _ => tw⟩
      have e : ((A.wakes x.w).m.free n).2 = (A.wakes x.w).m := by
        unfold AM.free at he ⊢
        split
        · rfl
        · rename_i i hi; rw [hi] at he; exact absurd rfl he
      rw [e]; exact jw
    · refine ⟨qw.trans (Qr.grant fun y hy => ?_), jw.after okw g, fun h => absurd h (by simp)⟩
      obtain ⟨k, rfl, t', ht', hs⟩ := jw.told okw g y hy
      exact ⟨t', ht', hs⟩
  split
  · exact ⟨qw.trans (Qr.modify n _ _), jw.modify hn2 _, fun h => absurd h (by simp)⟩
  split
  · exact ⟨qw, jw, fun _ => tw⟩
  · exact ⟨qw, jw, fun _ => tw⟩
theorem step_Q (j : A.J) (ok : A.Ok B) {t : TK} (ht : A.ts[n]? = some t) (h1 : t.st = 1) (x : MV) : Qr n A.ts (A.step n x).ts ∧ (A.step n x).J := by
  have hn : n < A.ts.length := (List.getElem?_eq_some_iff.1 ht).1
  unfold AS.step
  split
  · exact endT_Q j ok (fun t' h' => by rw [ht] at h'; cases h'; omega) 42
  · obtain ⟨q, j2, h2⟩ := move_Q j ok ht h1 x
    split
    · rename_i he
      have e := endT_Q j2 (ok.move hn x) (fun t' h' => by rw [h2 he] at h'; cases h'; omega) (A.move n x).1.2
      exact ⟨q.trans e.1, e.2⟩
    · exact ⟨q, j2⟩
theorem J.new (n : Nat) : (AS.new n).J := ⟨by simp [AS.new, AM.new], by simp [AS.new, AM.new]⟩
theorem J.wake (j : A.J) (on : Int) : (AS.mk A.m (wakeT A.ts on)).J := j.wakes [on]
theorem J.add (j : A.J) : A.add.J := ⟨j.nd, fun c hc k hk => by
  obtain ⟨t, ht, hs⟩ := j.st c hc k hk
  refine ⟨t, ?_, hs⟩
  show (A.ts ++ [_])[k]? = _
  rw [List.getElem?_append_left (List.getElem?_eq_some_iff.1 ht).1]; exact ht⟩
end AS
end Go.Proofs.Ytomngllmnhdmlaa
