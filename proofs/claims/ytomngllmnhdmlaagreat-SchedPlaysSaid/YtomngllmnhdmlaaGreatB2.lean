/- Merged by merge.py: texts of this seat, one behind the other, in an order that builds. -/
import Derived.Test.YtomngllmnhdmlaaGreatB1
import Derived.Test.YtomngllmnhdmlaaGreatB0
import Derived.Defers
import Derived.Recover
import Derived.Test.YtomngllmnhdmlaaGreatProg
import Derived.Tactics
import Derived.Tactics2
import Derived.StillTactics
import Derived.DiesOf
import Derived.WalkKit
import Derived.RegionTactic
import Derived.BigRegion
import Derived.DiesKit
import Derived.Laws.Pointers
import Derived.Conc.MuLone
/- The asks that are not over, in the order of asking, beside the manager: who is granted, who waits, and why. No heap. -/
namespace Go.Proofs.YtomngllmnhdmlaaGreat
open Go Go.Tr
set_option linter.unusedVariables false
structure AK where
  t : Int
  s : Sl
  l : List Lk
  g : Bool
def AK.c (a : AK) : C := (a.t, a.l)
def wait (Ls : List AK) : List C := (Ls.filter fun a => !a.g).map AK.c
def held (Ls : List AK) : List C := (Ls.filter fun a => a.g).map AK.c
/-- Each that waits is stopped: by one that has its set, or by one ahead. -/
def Fq (has q : List C) : Prop := ∀ (i : Nat) (hi : i < q.length), (hit has q[i].2 || hit (q.take i) q[i].2) = true
abbrev Nc (has : List C) : Prop := has.Pairwise fun a b => conf a.2 b.2 = false
structure Rel (A : AM) (Ls : List AK) : Prop where
  q : wait Ls = A.queue
  h : (held Ls).Perm A.has
  nd : (Ls.map (·.t)).Nodup
  pw : Nc A.has
  fq : Fq A.has A.queue
theorem hit_mono {a b : List C} (h : ∀ c ∈ a, c ∈ b) {l : List Lk} (x : hit a l = true) : hit b l = true := by
  unfold hit at x ⊢
  rw [List.any_eq_true] at x ⊢
  obtain ⟨c, hc, p⟩ := x
  exact ⟨c, h c hc, p⟩
theorem nc_append {has : List C} (h : Nc has) {c : C} (hc : hit has c.2 = false) : Nc (has ++ [c]) := by
  unfold Nc
  rw [List.pairwise_append]
  refine ⟨h, by simp, fun a ha b hb => ?_⟩
  obtain rfl := List.mem_singleton.1 hb
  unfold hit at hc
  rw [List.any_eq_false] at hc
  rw [conf_comm]
  simpa using hc a ha
theorem fq_append {has q : List C} (h : Fq has q) {c : C} (hc : (hit has c.2 || hit q c.2) = true) : Fq has (q ++ [c]) := by
  intro i hi
  by_cases e : i < q.length
  · rw [List.getElem_append_left e, List.take_append_of_le_length (by omega)]; exact h i e
  · have : i = q.length := by simp at hi; omega
    subst this
    rw [List.getElem_concat_length rfl, List.take_left' rfl]; exact hc
theorem fq_mono {has has' q : List C} (h : Fq has q) (hs : ∀ c ∈ has, c ∈ has') : Fq has' q := by
  intro i hi
  have := h i hi
  rw [Bool.or_eq_true] at this ⊢
  exact this.imp (hit_mono hs) id
theorem thr_fair : ∀ (q has left : List C), Nc has → Fq has left → Nc (thr has left q).1 ∧ Fq (thr has left q).1 (thr has left q).2.1
  | [], has, left, h1, h2 => by simpa [thr] using ⟨h1, h2⟩
  | c :: q, has, left, h1, h2 => by
    cases hc : (hit has c.2 || hit left c.2) with
    | true => rw [thr_hit hc]; exact thr_fair q has _ h1 (fq_append h2 hc)
    | false =>
      rw [thr_go hc]
      rw [Bool.or_eq_false_iff] at hc
      exact thr_fair q _ left (nc_append h1 hc.1) (fq_mono h2 fun d hd => List.mem_append_left _ hd)
theorem thr_sub : ∀ (q has left : List C), (thr has left q).2.2.Sublist (q.map (·.1))
  | [], has, left => by simp [thr]
  | c :: q, has, left => by
    cases hc : (hit has c.2 || hit left c.2) with
    | true => rw [thr_hit hc, List.map_cons]; exact (thr_sub q has _).cons _
    | false => rw [thr_go hc, List.map_cons]; exact (thr_sub q _ left).cons_cons _
theorem thr_split : ∀ (q has left : List C), (q.map (·.1)).Nodup → (thr has left q).1 = has ++ q.filter (fun c => decide (c.1 ∈ (thr has left q).2.2)) ∧ (thr has left q).2.1 = left ++ q.filter (fun c => !decide (c.1 ∈ (thr has left q).2.2))
  | [], has, left, _ => by simp [thr]
  | c :: q, has, left, hn => by
    have hn' := List.nodup_cons.1 (by simpa using hn : (c.1 :: q.map (·.1)).Nodup)
    cases hc : (hit has c.2 || hit left c.2) with
    | true =>
      rw [thr_hit hc]
      have ih := thr_split q has (left ++ [c]) hn'.2
      have hT : c.1 ∉ (thr has (left ++ [c]) q).2.2 := fun h => hn'.1 ((thr_sub q has _).subset h)
      rw [List.filter_cons_of_neg (by simpa using hT), List.filter_cons_of_pos (by simpa using hT)]
      refine ⟨ih.1, ?_⟩
      rw [ih.2.trans (List.append_assoc _ _ _)]; rfl
    | false =>
      rw [thr_go hc]
      have ih := thr_split q (has ++ [c]) left hn'.2
      have hf : ∀ d ∈ q, decide (d.1 ∈ c.1 :: (thr (has ++ [c]) left q).2.2) = decide (d.1 ∈ (thr (has ++ [c]) left q).2.2) := by
        intro d hd
        apply Bool.eq_iff_iff.2
        rw [decide_eq_true_eq, decide_eq_true_eq, List.mem_cons]
        refine ⟨fun h => h.resolve_left fun e => hn'.1 (by rw [← e]; exact List.mem_map_of_mem hd), .inr⟩
      rw [List.filter_cons_of_pos (by simp), List.filter_cons_of_neg (by simp)]
      simp only
      have g1 : q.filter (fun d => decide (d.1 ∈ c.1 :: (thr (has ++ [c]) left q).2.2)) = q.filter (fun d => decide (d.1 ∈ (thr (has ++ [c]) left q).2.2)) := List.filter_congr hf
      have g2 : q.filter (fun d => !decide (d.1 ∈ c.1 :: (thr (has ++ [c]) left q).2.2)) = q.filter (fun d => !decide (d.1 ∈ (thr (has ++ [c]) left q).2.2)) := List.filter_congr fun d hd => by rw [hf d hd]
      rw [g1, g2]
      refine ⟨?_, ih.2⟩
      rw [ih.1.trans (List.append_assoc _ _ _)]; rfl
section
variable {A : AM} {Ls : List AK} {B : Nat}
theorem mem_c {c : C} : c ∈ Ls.map AK.c ↔ c ∈ held Ls ∨ c ∈ wait Ls := by
  unfold held wait
  simp only [List.mem_map, List.mem_filter, Bool.not_eq_true']
  constructor
  · rintro ⟨a, ha, rfl⟩
    cases hg : a.g
    · exact .inr ⟨a, ⟨ha, hg⟩, rfl⟩
    · exact .inl ⟨a, ⟨ha, hg⟩, rfl⟩
  · rintro (⟨a, ⟨ha, _⟩, rfl⟩ | ⟨a, ⟨ha, _⟩, rfl⟩)
    · exact ⟨a, ha, rfl⟩
    · exact ⟨a, ha, rfl⟩
theorem Rel.mem (R : Rel A Ls) {c : C} : c ∈ Ls.map AK.c ↔ c ∈ A.has ∨ c ∈ A.queue := by
  rw [mem_c, R.h.mem_iff, R.q]
/-- Is one stopped who asks now? -/
theorem Rel.stopped (R : Rel A Ls) (l : List Lk) : (Ls.any fun a => conf a.l l) = (hit A.has l || hit A.queue l) := by
  apply Bool.eq_iff_iff.2
  unfold hit
  simp only [List.any_eq_true, Bool.or_eq_true]
  constructor
  · rintro ⟨a, ha, p⟩
    rw [conf_comm] at p
    rcases R.mem.1 (List.mem_map_of_mem (f := AK.c) ha) with h | h
    · exact .inl ⟨_, h, p⟩
    · exact .inr ⟨_, h, p⟩
  · rintro (⟨c, hc, p⟩ | ⟨c, hc, p⟩)
    · obtain ⟨a, ha, rfl⟩ := List.mem_map.1 (R.mem.2 (.inl hc))
      exact ⟨a, ha, by rw [conf_comm]; exact p⟩
    · obtain ⟨a, ha, rfl⟩ := List.mem_map.1 (R.mem.2 (.inr hc))
      exact ⟨a, ha, by rw [conf_comm]; exact p⟩
theorem Rel.find (R : Rel A Ls) (t : Int) : (Ls.any fun a => a.t == t) = ((findC A.has t).isSome || (findC A.queue t).isSome) := by
  rw [findC_isSome, findC_isSome]
  apply Bool.eq_iff_iff.2
  simp only [List.any_eq_true, Bool.or_eq_true, beq_iff_eq]
  constructor
  · rintro ⟨a, ha, p⟩
    rcases R.mem.1 (List.mem_map_of_mem (f := AK.c) ha) with h | h
    · exact .inl ⟨_, h, p⟩
    · exact .inr ⟨_, h, p⟩
  · rintro (⟨c, hc, p⟩ | ⟨c, hc, p⟩)
    · obtain ⟨a, ha, rfl⟩ := List.mem_map.1 (R.mem.2 (.inl hc))
      exact ⟨a, ha, p⟩
    · obtain ⟨a, ha, rfl⟩ := List.mem_map.1 (R.mem.2 (.inr hc))
      exact ⟨a, ha, p⟩
theorem Rel.new (n : Nat) : Rel (AM.new n) [] := ⟨rfl, List.Perm.refl _, by simp, by simp [AM.new, Nc], fun i hi => by simp [AM.new] at hi⟩
theorem Rel.ask (R : Rel A Ls) {t : Int} {l : List Lk} (s : Sl) (h0 : (A.ask t l).1.2 = 0) : (Ls.any fun a => a.t == t) = false ∧ (A.ask t l).1.1 = !(Ls.any fun a => conf a.l l) ∧ Rel (A.ask t l).2 (Ls ++ [⟨t, s, l, (A.ask t l).1.1⟩]) := by
  have c1 : ¬ (t < 0 ∨ okSet A.locks l = false) := fun h => by
    unfold AM.ask at h0
    rw [if_pos h] at h0
    exact absurd (show (1 : Int) = 0 from h0) (by decide)
  have c2 : ((findC A.has t).isSome || (findC A.queue t).isSome) = false := by
    cases h : ((findC A.has t).isSome || (findC A.queue t).isSome) with
    | false => rfl
    | true =>
      exfalso
      unfold AM.ask at h0
      rw [if_neg c1, if_pos h] at h0
      exact absurd (show (41 : Int) = 0 from h0) (by decide)
  have hf := R.find t
  rw [c2] at hf
  have hnd : ((Ls ++ [(⟨t, s, l, (A.ask t l).1.1⟩ : AK)]).map (·.t)).Nodup := by
    rw [List.map_append, List.nodup_append]
    refine ⟨R.nd, by simp, fun a ha b hb => ?_⟩
    simp at hb; subst hb
    obtain ⟨x, hx, rfl⟩ := List.mem_map.1 ha
    intro e
    rw [List.any_eq_false] at hf
    exact hf x hx (by simpa using e)
  have hst := R.stopped l
  cases h : (hit A.has l || hit A.queue l) with
  | true =>
    have e : A.ask t l = ((false, 0), { A with queue := A.queue ++ [(t, l)] }) := by unfold AM.ask; rw [if_neg c1, if_neg (by rw [c2]; simp), if_pos h]
    rw [e] at hnd ⊢
    rw [hst, h]
    refine ⟨hf, rfl, ⟨?_, ?_, hnd, R.pw, fq_append R.fq h⟩⟩
    · show wait _ = A.queue ++ _
      unfold wait at *
      rw [List.filter_append, List.map_append, ← R.q]; rfl
    · show (held _).Perm A.has
      unfold held
      rw [List.filter_append, List.map_append]
      have := R.h
      unfold held at this
      simpa using this
  | false =>
    have e : A.ask t l = ((true, 0), { A with has := A.has ++ [(t, l)] }) := by unfold AM.ask; rw [if_neg c1, if_neg (by rw [c2]; simp), if_neg (by rw [h]; simp)]
    rw [e] at hnd ⊢
    rw [hst, h]
    rw [Bool.or_eq_false_iff] at h
    refine ⟨hf, rfl, ⟨?_, ?_, hnd, nc_append R.pw h.1, fq_mono R.fq fun d hd => List.mem_append_left _ hd⟩⟩
    · show wait _ = A.queue
      unfold wait at *
      rw [List.filter_append, List.map_append, ← R.q]; simp [wait]
    · show (held _).Perm (A.has ++ _)
      unfold held
      rw [List.filter_append, List.map_append]
      exact R.h.append (List.Perm.refl _)
/-- Those told are marked. -/
def mkd (T : List Int) (a : AK) : AK := if a.t ∈ T then { a with g := true } else a
theorem mk_c (T : List Int) (a : AK) : (mkd T a).c = a.c := by unfold mkd; split <;> rfl
theorem mk_t (T : List Int) (a : AK) : (mkd T a).t = a.t := by unfold mkd; split <;> rfl
theorem mk_g (T : List Int) (a : AK) : (mkd T a).g = (a.g || decide (a.t ∈ T)) := by
  unfold mkd; split
  · rename_i h; simp [h]
  · rename_i h; simp [h]
theorem Rel.through (hq : wait Ls = A.queue) (hh : (held Ls).Perm A.has) (hn : (Ls.map (·.t)).Nodup) (pw : Nc A.has) : Rel A.through.2 (Ls.map (mkd A.through.1)) ∧ A.through.1.Sublist ((Ls.filter fun a => !a.g).map (·.t)) := by
  have hsub := thr_sub A.queue A.has []
  have e1 : A.queue.map (·.1) = (Ls.filter fun a => !a.g).map (·.t) := by rw [← hq]; unfold wait; rw [List.map_map]; rfl
  have hnq : (A.queue.map (·.1)).Nodup := by
    rw [e1]
    exact hn.sublist (List.Sublist.map _ List.filter_sublist)
  obtain ⟨s1, s2⟩ := thr_split A.queue A.has [] hnq
  obtain ⟨f1, f2⟩ := thr_fair A.queue A.has [] pw (fun i hi => by simp at hi)
  refine ⟨⟨?_, ?_, ?_, f1, f2⟩, by rw [e1] at hsub; exact hsub⟩
  · show wait (Ls.map (mkd (thr A.has [] A.queue).2.2)) = (thr A.has [] A.queue).2.1
    rw [s2, List.nil_append, ← hq]
    unfold wait
    rw [List.filter_map, List.map_map, List.filter_map, List.filter_filter]
    have : (AK.c ∘ mkd (thr A.has [] ((Ls.filter fun a => !a.g).map AK.c)).2.2) = AK.c := by funext a; exact mk_c _ a
    rw [this]
    congr 1
    apply List.filter_congr
    intro a _
    simp only [Function.comp, mk_g, AK.c]
    cases a.g
    · simp only [Bool.false_or, Bool.not_false, Bool.and_true, Bool.true_and]
      exact congrArg _ (decide_eq_decide.2 Iff.rfl)
    · simp
  · show (held (Ls.map (mkd (thr A.has [] A.queue).2.2))).Perm (thr A.has [] A.queue).1
    rw [s1]
    have : held (Ls.map (mkd (thr A.has [] A.queue).2.2)) = (Ls.filter fun a => a.g || decide (a.t ∈ (thr A.has [] A.queue).2.2)).map AK.c := by
      unfold held
      rw [List.filter_map, List.map_map]
      have : (AK.c ∘ mkd (thr A.has [] A.queue).2.2) = AK.c := by funext a; exact mk_c _ a
      rw [this]
      congr 1
      apply List.filter_congr
      intro a _
      simp only [Function.comp, mk_g]
    rw [this]
    have p := filter_or (p := fun a : AK => a.g) (q := fun a : AK => !a.g && decide (a.t ∈ (thr A.has [] A.queue).2.2)) (r := fun a : AK => a.g || decide (a.t ∈ (thr A.has [] A.queue).2.2)) Ls (fun a _ => by cases a.g <;> simp) (fun a _ => by cases a.g <;> simp)
    refine (p.symm.map AK.c).trans ?_
    rw [List.map_append]
    refine hh.append ?_
    have e2 : A.queue.filter (fun c => decide (c.1 ∈ (thr A.has [] A.queue).2.2)) = (Ls.filter fun a => !a.g && decide (a.t ∈ (thr A.has [] A.queue).2.2)).map AK.c := by
      conv => lhs; arg 2; rw [← hq]
      unfold wait
      rw [List.filter_map, List.filter_filter]
      congr 1
      apply List.filter_congr
      intro a _
      simp only [Function.comp, AK.c]
      rw [Bool.and_comm]
      exact congrArg _ (decide_eq_decide.2 Iff.rfl)
    rw [e2]
  · have : (Ls.map (mkd A.through.1)).map (·.t) = Ls.map (·.t) := by
      rw [List.map_map]; congr 1; funext a; exact mk_t _ a
    rw [this]; exact hn
end
end Go.Proofs.YtomngllmnhdmlaaGreat
/- The scheduler as lists: what each call answers, what it leaves. No heap, no program. -/
namespace Go.Proofs.YtomngllmnhdmlaaGreat
open Go Go.Tr
set_option linter.unusedVariables false
structure TK where
  st : Int
  on : Int
  fl : Int
  deriving DecidableEq
structure MV where
  k : Int
  l : List Lk
  on : Int
  w : List Int
structure AS where
  m : AM
  ts : List TK
def wkB (on : Int) (t : TK) : Bool := t.st == 3 && t.on == on
def wk (on : Int) (t : TK) : TK := if wkB on t then { t with st := 1 } else t
def wakeT (ts : List TK) (on : Int) : List TK := ts.map (wk on)
def wakeN (ts : List TK) (on : Int) : Nat := ts.countP (wkB on)
def setSt (ts : List TK) (n : Nat) (s : Int) : List TK := ts.modify n fun t => { t with st := s }
def grantT (ts : List TK) (l : List Int) : List TK := l.foldl (fun ts n => setSt ts n.toNat 1) ts
def rdyB (ts : List TK) (i : Nat) : Bool := match ts[i]? with | some t => t.st == 1 | none => false
def readyTo (ts : List TK) (j : Nat) : List Int := ((List.range j).filter (rdyB ts)).map fun i : Nat => (i : Int)
def readyT (ts : List TK) : List Int := readyTo ts ts.length
theorem readyTo_succ (ts : List TK) (j : Nat) : readyTo ts (j + 1) = readyTo ts j ++ if rdyB ts j then [(j : Int)] else [] := by
  unfold readyTo
  rw [List.range_succ, List.filter_append, List.map_append]
  congr 1
  cases h : rdyB ts j <;> simp [h]
theorem readyTo_len (ts : List TK) (j : Nat) : (readyTo ts j).length ≤ j := by
  unfold readyTo
  rw [List.length_map]
  exact Nat.le_trans (List.length_filter_le _ _) (by simp)
theorem readyT_mem {ts : List TK} {x : Int} (h : x ∈ readyT ts) : ∃ n : Nat, x = n ∧ ∃ hn : n < ts.length, ts[n].st = 1 := by
  unfold readyT readyTo at h
  obtain ⟨n, hn, rfl⟩ := List.mem_map.1 h
  obtain ⟨h1, h2⟩ := List.mem_filter.1 hn
  have h1 : n < ts.length := List.mem_range.1 h1
  refine ⟨n, rfl, h1, ?_⟩
  unfold rdyB at h2
  rw [List.getElem?_eq_getElem h1] at h2
  simpa using h2
def isPan (k : Int) : Bool := decide (-103 ≤ k) && decide (k ≤ -99)
theorem grantT_len : ∀ (l : List Int) (ts : List TK), (grantT ts l).length = ts.length
  | [], ts => rfl
  | n :: l, ts => by
    show (grantT (setSt ts n.toNat 1) l).length = _
    rw [grantT_len l]; unfold setSt; simp
theorem wakes_len : ∀ (w : List Int) (ts : List TK), (w.foldl wakeT ts).length = ts.length
  | [], ts => rfl
  | n :: l, ts => by
    show (l.foldl wakeT (wakeT ts n)).length = _
    rw [wakes_len l]; unfold wakeT; simp
namespace AS
def endT (A : AS) (n : Nat) (fl : Int) : AS := ⟨(A.m.quit n).2, grantT (A.ts.modify n fun t => { t with st := 4, fl := fl }) (A.m.quit n).1⟩
def wakes (A : AS) (w : List Int) : AS := ⟨A.m, w.foldl wakeT A.ts⟩
/-- What a step answered, done: whether the task ends, and of what. -/
def move (A : AS) (n : Nat) (x : MV) : (Bool × Int) × AS :=
  let A1 := A.wakes x.w
  if x.k = 1 then ((false, 0), A1)
  else if x.k = 2 then
    if (A1.m.ask n x.l).1.2 ≠ 0 then ((true, (A1.m.ask n x.l).1.2), ⟨(A1.m.ask n x.l).2, A1.ts⟩)
    else ((false, 0), ⟨(A1.m.ask n x.l).2, if (A1.m.ask n x.l).1.1 then A1.ts else setSt A1.ts n 2⟩)
  else if x.k = 3 then
    if (A1.m.free n).1.2 ≠ 0 then ((true, (A1.m.free n).1.2), ⟨(A1.m.free n).2, A1.ts⟩)
    else ((false, 0), ⟨(A1.m.free n).2, grantT A1.ts (A1.m.free n).1.1⟩)
  else if x.k = 4 then ((false, 0), ⟨A1.m, A1.ts.modify n fun t => { t with st := 3, on := x.on }⟩)
  else if x.k = 5 then ((true, 0), A1)
  else ((true, 15), A1)
def step (A : AS) (n : Nat) (x : MV) : AS :=
  if isPan x.k then A.endT n 42 else if (A.move n x).1.1 then (A.move n x).2.endT n (A.move n x).1.2 else (A.move n x).2
structure Ok (A : AS) (B : Nat) : Prop where
  m : A.m.Ok B
  t : ∀ c ∈ A.m.has ++ A.m.queue, ∃ n : Nat, c.1 = n ∧ n < A.ts.length
  n : A.ts.length ≤ 400
variable {A : AS} {B n : Nat}
theorem quit_mem {M : AM} {P : C → Prop} (t : Int) (h : ∀ c ∈ M.has ++ M.queue, P c) : ∀ c ∈ (M.quit t).2.has ++ (M.quit t).2.queue, P c := by
  unfold AM.quit
  split
  · refine thr_mem (P := P) _ _ [] fun c hc => h c ?_
    simp only [List.append_nil, List.mem_append] at hc ⊢
    exact hc.imp (fun h => List.mem_of_mem_eraseIdx h) id
  · split
    · refine thr_mem (P := P) _ _ [] fun c hc => h c ?_
      simp only [List.append_nil, List.mem_append] at hc ⊢
      exact hc.imp id fun h => List.mem_of_mem_eraseIdx h
    · exact h
theorem free_mem {M : AM} {P : C → Prop} (t : Int) (h : ∀ c ∈ M.has ++ M.queue, P c) : ∀ c ∈ (M.free t).2.has ++ (M.free t).2.queue, P c := by
  unfold AM.free
  split
  · exact h
  · refine thr_mem (P := P) _ _ [] fun c hc => h c ?_
    simp only [List.append_nil, List.mem_append] at hc ⊢
    exact hc.imp (fun h => List.mem_of_mem_eraseIdx h) id
theorem ask_mem {M : AM} {P : C → Prop} (t : Int) (l : List Lk) (h : ∀ c ∈ M.has ++ M.queue, P c) (hn : P (t, l)) : ∀ c ∈ (M.ask t l).2.has ++ (M.ask t l).2.queue, P c := by
  unfold AM.ask
  split
  · exact h
  · split
    · exact h
    · split
      · intro c hc
        simp only [List.mem_append, List.mem_singleton] at hc
        rcases hc with hc | hc | rfl
        · exact h c (by simp [hc])
        · exact h c (by simp [hc])
        · exact hn
      · intro c hc
        simp only [List.mem_append, List.mem_singleton] at hc
        rcases hc with (hc | rfl) | hc
        · exact h c (by simp [hc])
        · exact hn
        · exact h c (by simp [hc])
/-- Who is told. -/
theorem through_told {M : AM} {P : Int → Prop} (h : ∀ c ∈ M.has ++ M.queue, P c.1) : ∀ x ∈ M.through.1, P x := fun x hx => by
  have := (thr_sub M.queue M.has []).subset hx
  obtain ⟨c, hc, rfl⟩ := List.mem_map.1 this
  exact h c (List.mem_append_right _ hc)
theorem free_told {M : AM} {P : Int → Prop} (t : Int) (h : ∀ c ∈ M.has ++ M.queue, P c.1) : ∀ x ∈ (M.free t).1.1, P x := by
  unfold AM.free
  split
  · intro x hx; exact absurd hx (by simp)
  · refine through_told fun c hc => h c ?_
    simp only [List.mem_append] at hc ⊢
    exact hc.imp (fun h => List.mem_of_mem_eraseIdx h) id
theorem quit_told {M : AM} {P : Int → Prop} (t : Int) (h : ∀ c ∈ M.has ++ M.queue, P c.1) : ∀ x ∈ (M.quit t).1, P x := by
  unfold AM.quit
  split
  · refine through_told fun c hc => h c ?_
    simp only [List.mem_append] at hc ⊢
    exact hc.imp (fun h => List.mem_of_mem_eraseIdx h) id
  · split
    · refine through_told fun c hc => h c ?_
      simp only [List.mem_append] at hc ⊢
      exact hc.imp id fun h => List.mem_of_mem_eraseIdx h
    · intro x hx; exact absurd hx (by simp)
theorem endT_len (fl : Int) : (A.endT n fl).ts.length = A.ts.length := by unfold endT; simp only; rw [grantT_len]; simp
theorem Ok.endT (ok : A.Ok B) (fl : Int) : (A.endT n fl).Ok B := by
  refine ⟨ok.m.quit _, ?_, by rw [endT_len]; exact ok.n⟩
  rw [endT_len]
  exact quit_mem (P := fun c => ∃ n : Nat, c.1 = n ∧ n < A.ts.length) _ ok.t
theorem Ok.wakes (ok : A.Ok B) (w : List Int) : (A.wakes w).Ok B := by
  refine ⟨ok.m, ?_, ?_⟩
  · intro c hc
    obtain ⟨n, h1, h2⟩ := ok.t c hc
    exact ⟨n, h1, by show n < (w.foldl wakeT A.ts).length; rw [wakes_len]; exact h2⟩
  · show (w.foldl wakeT A.ts).length ≤ 400
    rw [wakes_len]; exact ok.n
theorem Ok.mono {B' : Nat} (ok : A.Ok B) (h : B ≤ B') : A.Ok B' := ⟨ok.m.mono h, ok.t, ok.n⟩
theorem wakes_tlen (w : List Int) : (A.wakes w).ts.length = A.ts.length := wakes_len w A.ts
theorem move_len (x : MV) : (A.move n x).2.ts.length = A.ts.length := by
  unfold move
  simp only
  have hw := wakes_tlen (A := A) x.w
  split
  · exact hw
  split
  · split
    · exact hw
    · show (if _ then _ else _ : List TK).length = _
      split
      · exact hw
      · unfold setSt; rw [List.length_modify]; exact hw
  split
  · split
    · exact hw
    · show (grantT _ _).length = _
      rw [grantT_len]; exact hw
  split
  · show (List.modify _ _ _).length = _
    rw [List.length_modify]; exact hw
  split <;> exact hw
theorem Ok.move (ok : A.Ok B) (hn : n < A.ts.length) (x : MV) : (A.move n x).2.Ok (B + 1) := by
  have hl := move_len (A := A) (n := n) x
  have hw := ok.wakes x.w
  have hwl := wakes_tlen (A := A) x.w
  have key : ∀ M' : AM, M'.Ok (B + 1) → (∀ c ∈ M'.has ++ M'.queue, ∃ k : Nat, c.1 = k ∧ k < A.ts.length) → (A.move n x).2.m = M' → (A.move n x).2.Ok (B + 1) := fun M' h1 h2 h3 => ⟨by rw [h3]; exact h1, by rw [h3, hl]; exact h2, by rw [hl]; exact ok.n⟩
  unfold AS.move at key ⊢
  simp only at key ⊢
  have ht : ∀ c ∈ (A.wakes x.w).m.has ++ (A.wakes x.w).m.queue, ∃ k : Nat, c.1 = k ∧ k < A.ts.length := ok.t
  split at key
  · rename_i h1; rw [if_pos h1]; exact key _ (hw.m.mono (by omega)) ht rfl
  rename_i h1; rw [if_neg h1]
  split at key
  · rename_i h2; rw [if_pos h2]
    split at key
    · rename_i h3; rw [if_pos h3]; exact key _ (hw.m.ask _ _) (ask_mem (P := fun c => ∃ k : Nat, c.1 = k ∧ k < A.ts.length) _ _ ht ⟨n, rfl, hn⟩) rfl
    · rename_i h3; rw [if_neg h3]; exact key _ (hw.m.ask _ _) (ask_mem (P := fun c => ∃ k : Nat, c.1 = k ∧ k < A.ts.length) _ _ ht ⟨n, rfl, hn⟩) rfl
  rename_i h2; rw [if_neg h2]
  split at key
  · rename_i h3; rw [if_pos h3]
    split at key
    · rename_i h4; rw [if_pos h4]; exact key _ ((hw.m.free _).mono (by omega)) (free_mem (P := fun c => ∃ k : Nat, c.1 = k ∧ k < A.ts.length) _ ht) rfl
    · rename_i h4; rw [if_neg h4]; exact key _ ((hw.m.free _).mono (by omega)) (free_mem (P := fun c => ∃ k : Nat, c.1 = k ∧ k < A.ts.length) _ ht) rfl
  rename_i h3; rw [if_neg h3]
  split at key
  · rename_i h4; rw [if_pos h4]; exact key _ (hw.m.mono (by omega)) ht rfl
  rename_i h4; rw [if_neg h4]
  split at key
  · rename_i h5; rw [if_pos h5]; exact key _ (hw.m.mono (by omega)) ht rfl
  · rename_i h5; rw [if_neg h5]; exact key _ (hw.m.mono (by omega)) ht rfl
theorem step_len (x : MV) : (A.step n x).ts.length = A.ts.length := by
  unfold step
  split
  · exact endT_len _
  · split
    · rw [endT_len]; exact move_len x
    · exact move_len x
theorem Ok.step (ok : A.Ok B) (hn : n < A.ts.length) (x : MV) : (A.step n x).Ok (B + 1) := by
  unfold AS.step
  split
  · exact (ok.endT _).mono (by omega)
  · split
    · exact (ok.move hn x).endT _
    · exact ok.move hn x
def new (n : Nat) : AS := ⟨AM.new n, []⟩
def add (A : AS) : AS := ⟨A.m, A.ts ++ [⟨1, 0, 0⟩]⟩
theorem Ok.new {n : Nat} (h1 : 1 ≤ n) (h2 : n ≤ 1024) : (AS.new n).Ok 0 := ⟨AM.Ok.new h1 h2, by simp [AS.new, AM.new], by simp [AS.new]⟩
theorem Ok.add (ok : A.Ok B) (h : A.ts.length < 400) : A.add.Ok B := by
  refine ⟨ok.m, fun c hc => ?_, by simp [AS.add]; omega⟩
  obtain ⟨n, h1, h2⟩ := ok.t c hc
  exact ⟨n, h1, by simp [AS.add]; omega⟩
end AS
end Go.Proofs.YtomngllmnhdmlaaGreat
/- Counted loops. -/
namespace Go.Proofs.YtomngllmnhdmlaaGreat
open Go Go.Tr
set_option linter.unusedVariables false
/-- for j := i0; j < n; j++, with whatever else it carries; it may end earlier. -/
theorem forG {σ τ ρ : Type} {body : τ → H → (τ ⊕ ρ → H → Prop) → Prop} (mk : σ → Int → τ) {i0 n : Nat} (hi : i0 ≤ n) (hn : n < 4611686018427387904) (I : Nat → σ → H → Prop) {s : σ} {h : H} {Q : ρ → H → Prop} (h0 : I i0 s h)
    (step : ∀ (j : Nat) (s : σ) (h1 : H) (K : τ ⊕ ρ → H → Prop), i0 ≤ j → j < n → I j s h1 → (∀ s' h2, I (j + 1) s' h2 → K (.inl (mk s' (IntKind.i64.wrap ((j : Int) + 1)))) h2) → (∀ b h2, Q b h2 → K (.inr b) h2) → body (mk s j) h1 K)
    (stop : ∀ (s : σ) (h1 : H) (K : τ ⊕ ρ → H → Prop), I n s h1 → (∀ b h2, Q b h2 → K (.inr b) h2) → body (mk s n) h1 K) : loopE body (mk s (i0 : Int)) h Q := by
  refine loopE_rule (fun m t h' => ∃ (j : Nat) (s : σ), t = mk s j ∧ i0 ≤ j ∧ m + j = n ∧ I j s h') (n - i0) ⟨i0, s, rfl, Nat.le_refl _, by omega, h0⟩ ?_
  rintro m _ h1 K ⟨j, s, rfl, hj, hm, hI⟩ next done
  by_cases hlt : j < n
  · refine step j s h1 K hj hlt hI (fun s' h2 hI' => next (m - 1) _ _ (by omega) ⟨j + 1, s', ?_, by omega, by omega, hI'⟩) done
    rw [wrap64_id (by omega) (by omega)]; rfl
  · obtain rfl : j = n := by omega
    exact stop s h1 K hI done
/-- The same, from 0 on. -/
theorem for0 {σ τ ρ : Type} {body : τ → H → (τ ⊕ ρ → H → Prop) → Prop} (mk : σ → Int → τ) {n : Nat} (hn : n < 4611686018427387904) (I : Nat → σ → H → Prop) {s : σ} {h : H} {Q : ρ → H → Prop} (h0 : I 0 s h)
    (step : ∀ (j : Nat) (s : σ) (h1 : H) (K : τ ⊕ ρ → H → Prop), j < n → I j s h1 → (∀ s' h2, I (j + 1) s' h2 → K (.inl (mk s' (IntKind.i64.wrap ((j : Int) + 1)))) h2) → (∀ b h2, Q b h2 → K (.inr b) h2) → body (mk s j) h1 K)
    (stop : ∀ (s : σ) (h1 : H) (K : τ ⊕ ρ → H → Prop), I n s h1 → (∀ b h2, Q b h2 → K (.inr b) h2) → body (mk s n) h1 K) : loopE body (mk s 0) h Q :=
  forG mk (i0 := 0) (Nat.zero_le _) hn I h0 (fun j s h1 K _ => step j s h1 K) stop
theorem clt_t {i n : Nat} (h : i < n) : decide ((i : Int) < (n : Int)) = true := by rw [decide_eq_true_eq]; omega
theorem clt_f {i n : Nat} (h : ¬ i < n) : decide ((i : Int) < (n : Int)) = false := by rw [decide_eq_false_iff_not]; omega
/-- An element read, a part of it. -/
theorem _root_.Go.Tr.Rds.elt {α β : Type} {K : Kd α} {G : Kd β} {off : Nat} {g : α → β} {p : α → β → α} {h : H} {s : Sl} {xs : List α} (f : Fld K G off g p) (R : Rds K h s xs) {i : Nat} (hi : i < xs.length) {n : Nat} (hn : n = K.n) {Q : β → Prop} (k : Q (g xs[i])) :
    rd (ixA n s (i : Int)) fun q => rd (ld G (q.add off) h) Q := by
  obtain ⟨a, ha, hx⟩ := R.ix hi hn
  exact rd_some ha (rd_some (ld_fld f hx) k)
theorem _root_.Go.Tr.Rds.elt0 {α : Type} {K : Kd α} {h : H} {s : Sl} {xs : List α} (R : Rds K h s xs) {i : Nat} (hi : i < xs.length) {n : Nat} (hn : n = K.n) {Q : α → Prop} (k : Q xs[i]) : rd (ixA n s (i : Int)) fun q => rd (ld K q h) Q := by
  obtain ⟨a, ha, hx⟩ := R.ix hi hn
  exact rd_some ha (rd_some hx k)
end Go.Proofs.YtomngllmnhdmlaaGreat
/- What the manager's calls do. -/
namespace Go.Proofs.YtomngllmnhdmlaaGreat
open Go Go.Tr
set_option linter.unusedVariables false
section
variable {F0 : Nat → Prop} {h0 h : H} {b : Nat} {A : AM} {B : Nat} {Rs Ps : List HP}
theorem errP.mk {e : Int} (he : e ≠ 0) {t : Int} (S : SG F0 h0 h Rs) {Q : Addr → H → Prop} (k : ∀ pb h', SG F0 h0 h' (errP (some (tRef, .pointer (some ⟨pb, 0, none⟩))) e :: Rs) → Q ⟨pb, 0, none⟩ h') {ty : TypeId} :
    al ty (kRefd.enc ⟨t, some (tErrno, .int .i64 e)⟩) h Q :=
  S.var (K := kRefd) fun pb h' S' _ => k pb h' (S'.imp 0 rfl _ fun F ⟨V, hF⟩ => .inr ⟨he, pb, t, rfl, V, hF⟩)
theorem errP.zero (S : SG F0 h0 h Rs) : SG F0 h0 h (errP none 0 :: Rs) :=
  S.add (P := errP none 0) (F1 := fun _ => False) (.inl ⟨rfl, rfl, fun _ h => h⟩) (Ext.refl h) fun _ h => h.elim
theorem find_has (ok : A.Ok B) (hB : B ≤ 1000000000) {sh : Sl} {RH : List CR} {i : Nat} (hi : Ps[i]? = some (ownP kClaim sh (RH.map row))) {l : List C} (hl : RH.map abs = l) (hm : l.length ≤ B) (S : SG F0 h0 h Ps) (t : Int) {Q : Int → H → Prop} (k : ∀ h', Ext h h' → Q (pl (findC l t)) h') : locks_find sh t h Q := by
  subst hl
  rw [List.length_map] at hm
  refine find_spec (ownP.rds (K := kClaim) S i hi) (by omega) t fun h' e => ?_
  rw [findR]; exact k h' e
theorem ask_spec (ok : A.Ok B) (hB : B ≤ 100000000) {t : Int} {s : Sl} {l : List Lk} (R : Rds kLk h s l) (hl : l.length < 4611686018427387904) :
    Does h [mgrP b A] (fun Q => locks_Manager_Ask (some ⟨b, 0, none⟩) t s h Q) (fun v : IF => ((A.ask t l).1.1, v)) (fun v => [mgrP b (A.ask t l).2, errP v (A.ask t l).1.2]) := by
  intro F0 h0 Q S k
  show locks_Manager_Ask _ _ _ _ _
  obtain ⟨sh, sq, RH, RQ, e1, e2, S⟩ := mgr_open S
  have hnod := rows_nod ok e1 e2
  have hlen := rows_len ok e1 e2
  have hb := ok.b
  unfold locks_Manager_Ask
  have err : ∀ {ty : TypeId} (e : Int) (h2 : H), e ≠ 0 → A.ask t l = ((false, e), A) → SG F0 h0 h2 (mgrL b A.locks sh sq RH RQ ++ []) → al ty (kRefd.enc ⟨t, some (tErrno, .int .i64 e)⟩) h2 fun q1 h4 => Q (false, (some (tRef, .pointer (some q1)) : IF)) h4 := fun {ty} e h2 he hA S2 => by
    refine errP.mk he (mgr_close e1 e2 S2) fun pb h' S' => ?_
    have k' := k (some (tRef, .pointer (some ⟨pb, 0, none⟩))) h'
    rw [hA] at k'
    exact k' S'.swap
  have hm : ld (kI .i64) ⟨b, 0, none⟩ h = some (A.locks : Int) := varP.ld S fm_locks 0 rfl
  refine set_spec hm R hl (fun hok m h1 S1 => ?_) fun hok r h1 ex => ?_
  · by_cases ht : t < 0
    · have hA : A.ask t l = ((false, 1), A) := by unfold AM.ask; rw [if_pos (.inl ht)]
      refine jn_c (some (tErrno, .int .i64 1) : IF) h1 (fun K hK => ite_t (by simpa using ht) hK) ?_
      refine jn_c (some (tErrno, .int .i64 1) : IF) h1 (fun K hK => jn_c false h1 (fun K hK => ite_f rfl hK) (ite_f rfl hK)) ?_
      exact ite_t rfl (err 1 h1 (by decide) hA (S.ext (SS.e S1)))
    · refine jn_c none h1 (fun K hK => ite_f (by simpa using ht) hK) ?_
      have S2 := (S.take_in S1).flat
      have S3 := (bagP.add (t := t) (S2.front 4 rfl).swap).rot
      have S3 : SG F0 h0 h1 [varP kMgr b ⟨A.locks, sh, sq⟩, ownP kClaim sh (RH.map row), ownP kClaim sq (RQ.map row), bagP ((t, m, l) :: (RH ++ RQ))] := S3
      have held : ∀ K : Bool → H → Prop, (∀ h', Ext h1 h' → K ((findC A.has t).isSome || (findC A.queue t).isSome) h') → _ := fun K hK => find_has ok (by omega) (Ps := [varP kMgr b ⟨A.locks, sh, sq⟩, ownP kClaim sh (RH.map row), ownP kClaim sq (RQ.map row), bagP ((t, m, l) :: (RH ++ RQ))]) (i := 1) rfl e1 (by omega) S3 t (Q := fun r4 h17 =>
        if (decide (r4 ≥ 0)) = true then K true h17 else rd (some (⟨b, 0, none⟩ : Addr)) fun q10 => rd (ld kL (q10.add 2) h17) fun x14 => locks_find x14 t h17 fun r5 h18 => K (decide (r5 ≥ 0)) h18) (fun h2 ex2 => by
          rw [pl_neg]
          refine ite_b (fun c => ?_) (fun c => ?_)
          · have := hK h2 ex2
            rw [c, Bool.true_or] at this; exact this
          · have S4 := S3.ext ex2
            refine rd_some rfl (rd_some (by rw [add_mk]; exact varP.ld S4 fm_queue 0 rfl) ?_)
            refine find_has ok (by omega) (i := 2) rfl e2 (by omega) S4 t fun h3 ex3 => ?_
            rw [pl_neg]
            have := hK h3 (ex2.trans ex3)
            rw [c, Bool.false_or] at this; exact this)
      refine jn_q (fun (v : IF) h' => Ext h1 h' ∧ v = if ((findC A.has t).isSome || (findC A.queue t).isSome) = true then (some (tErrno, .int .i64 41) : IF) else none) (fun K hK => ?_) ?_
      · refine jn_q (fun (v : Bool) h' => Ext h1 h' ∧ v = ((findC A.has t).isSome || (findC A.queue t).isSome)) (fun K2 hK2 => ite_t rfl ?_) ?_
        · exact rd_some rfl (rd_some (by rw [add_mk]; exact varP.ld S3 fm_has 0 rfl) (held K2 fun h' ex => hK2 _ _ ⟨ex, rfl⟩))
        · rintro _ h2 ⟨ex, rfl⟩
          refine ite_b (fun c => hK _ _ ⟨ex, by rw [if_pos c]⟩) (fun c => hK _ _ ⟨ex, by rw [if_neg (by rw [c]; simp)]⟩)
      · rintro _ h2 ⟨ex2, rfl⟩
        have S4 := S3.ext ex2
        cases hh : ((findC A.has t).isSome || (findC A.queue t).isSome) with
        | true =>
          have hA : A.ask t l = ((false, 41), A) := by unfold AM.ask; rw [if_neg (by rw [hok]; simp; omega), if_pos hh]
          refine ite_t rfl (err 41 h2 (by decide) hA ?_)
          exact bagP.sub S4 3 rfl fun r hr => List.mem_cons_of_mem _ hr
        | false =>
          refine ite_f rfl (S4.cell (K := kClaim) (x := row (t, m, l)) fun q h3 S5 ex5 => ?_)
          have hn2 : ∀ x ∈ (t, m, l) :: (RH ++ RQ), nod x.2.2 := by
            intro x hx
            rcases List.mem_cons.1 hx with rfl | hx
            · exact okSet_nod hok
            · exact hnod x hx
          have sub1 : ∀ x ∈ RH, x ∈ (t, m, l) :: (RH ++ RQ) := fun x hx => List.mem_cons_of_mem _ (List.mem_append_left _ hx)
          have sub2 : ∀ x ∈ RQ, x ∈ (t, m, l) :: (RH ++ RQ) := fun x hx => List.mem_cons_of_mem _ (List.mem_append_right _ hx)
          refine jn_q (fun (v : Bool) h' => Ext h3 h' ∧ v = (hit A.has l || hit A.queue l)) (fun K hK => ?_) ?_
          · have hw : ld kClaim ⟨q, 0, none⟩ h3 = some (row (t, m, l)) := varP.ld S5 (Fld.whole kClaim) 0 rfl
            refine rd_some rfl (rd_some (by rw [add_mk]; exact varP.ld S5 fm_has 1 rfl) (rd_some hw ?_))
            refine hit_spec (ownP.rds (K := kClaim) S5 2 rfl) (by omega) (fun x hx => bagP.is S5 4 rfl hx) hn2 List.mem_cons_self sub1 fun h4 ex4 => ?_
            have S6 := S5.ext ex4
            rw [e1]
            refine ite_b (fun c => hK _ _ ⟨ex4, by rw [show hit A.has l = true from c]; rfl⟩) (fun c => ?_)
            refine rd_some rfl (rd_some (by rw [add_mk]; exact varP.ld S6 fm_queue 1 rfl) (rd_some (ld_ext ex4 hw) ?_))
            refine hit_spec (ownP.rds (K := kClaim) S6 3 rfl) (by omega) (fun x hx => bagP.is S6 4 rfl hx) hn2 List.mem_cons_self sub2 fun h5 ex5 => ?_
            rw [e2]
            exact hK _ _ ⟨ex4.trans ex5, by rw [show hit A.has l = false from c, Bool.false_or]⟩
          · rintro _ h4 ⟨ex4, rfl⟩
            have S6 := S5.ext ex4
            have hw : ld kClaim ⟨q, 0, none⟩ h4 = some (row (t, m, l)) := varP.ld S6 (Fld.whole kClaim) 0 rfl
            refine ite_b (fun c => ?_) (fun c => ?_)
            · have hA : A.ask t l = ((false, 0), { A with queue := A.queue ++ [(t, l)] }) := by unfold AM.ask; rw [if_neg (by rw [hok]; simp; omega), if_neg (by rw [hh]; simp), if_pos c]
              rw [hA] at k
              refine rd_some rfl (rd_some (by rw [add_mk]; exact varP.ld S6 fm_queue 1 rfl) (rd_some hw (ownP.push (K := kClaim) (by decide) S6 3 rfl (row (t, m, l)) (by simp; omega) (by simp; omega) fun s' h5 S7 => ?_)))
              obtain ⟨h6, s6, S8, _⟩ := varP.st S7 fm_queue 1 rfl s'
              refine rd_some rfl (rd_some (by rw [add_mk]; exact s6) (k none h6 ?_))
              have S9 := bagP.sub S8.tail 3 rfl (rs' := RH ++ (RQ ++ [(t, m, l)])) (fun r hr => by simp at hr ⊢; rcases hr with h | h | h <;> simp [h])
              have S10 : SG F0 h0 h6 (mgrL b A.locks sh s' RH (RQ ++ [(t, m, l)]) ++ []) := by unfold mgrL; rw [List.map_append]; exact S9
              exact (errP.zero (mgr_close (A := { A with queue := A.queue ++ [(t, l)] }) e1 (by rw [List.map_append, e2]; rfl) S10)).swap
            · have hA : A.ask t l = ((true, 0), { A with has := A.has ++ [(t, l)] }) := by unfold AM.ask; rw [if_neg (by rw [hok]; simp; omega), if_neg (by rw [hh]; simp), if_neg (by rw [c]; simp)]
              rw [hA] at k
              refine rd_some rfl (rd_some (by rw [add_mk]; exact varP.ld S6 fm_has 1 rfl) (rd_some hw (ownP.push (K := kClaim) (by decide) S6 2 rfl (row (t, m, l)) (by simp; omega) (by simp; omega) fun s' h5 S7 => ?_)))
              obtain ⟨h6, s6, S8, _⟩ := varP.st S7 fm_has 1 rfl s'
              refine rd_some rfl (rd_some (by rw [add_mk]; exact s6) (k none h6 ?_))
              have S9 := bagP.sub S8.tail 3 rfl (rs' := (RH ++ [(t, m, l)]) ++ RQ) (fun r hr => by simp at hr ⊢; rcases hr with h | h | h <;> simp [h])
              have S10 : SG F0 h0 h6 (mgrL b A.locks s' sq (RH ++ [(t, m, l)]) RQ ++ []) := by unfold mgrL; rw [List.map_append]; exact S9
              exact (errP.zero (mgr_close (A := { A with has := A.has ++ [(t, l)] }) (by rw [List.map_append, e1]; rfl) e2 S10)).swap
  · have hA : A.ask t l = ((false, 1), A) := by unfold AM.ask; rw [if_pos (.inr hok)]
    refine jn_c (some (tErrno, .int .i64 1) : IF) h1 (fun K hK => ite_b (fun _ => hK) (fun _ => hK)) ?_
    refine jn_c (some (tErrno, .int .i64 1) : IF) h1 (fun K hK => jn_c false h1 (fun K hK => ite_f rfl hK) (ite_f rfl hK)) ?_
    exact ite_t rfl (err 1 h1 (by decide) hA (S.ext ex))
end
end Go.Proofs.YtomngllmnhdmlaaGreat
/- Freed, quit, looked at; a manager made. -/
namespace Go.Proofs.YtomngllmnhdmlaaGreat
open Go Go.Tr
set_option linter.unusedVariables false
theorem map_erase {α β : Type _} (f : α → β) : ∀ (l : List α) (i : Nat), (l.map f).eraseIdx i = (l.eraseIdx i).map f
  | [], i => rfl
  | x :: l, 0 => rfl
  | x :: l, i + 1 => by
    rw [List.map_cons, List.eraseIdx_cons_succ, List.eraseIdx_cons_succ, List.map_cons, map_erase f l i]
theorem ld_if {a : Addr} {h : H} {x : IF} (hl : ld kIf a h = some x) : hcell h a = some x.val := by
  unfold ld rdCells at hl
  simp only [Option.bind_eq_some_iff] at hl
  obtain ⟨l, h1, h2⟩ := hl
  have h3 := kIf.sound _ _ h2
  subst h3
  have h4 : rdFrom h a 0 1 = some [x.val] := h1
  simp only [rdFrom, Option.map_some, Option.bind_eq_some_iff, Option.some.injEq] at h4
  obtain ⟨v, hv, h5⟩ := h4
  have : a.add 0 = a := by simp [Addr.add]
  rw [this] at hv
  simp at h5; subst h5; exact hv
theorem fr_why : Fld kRefd kIf 1 (·.f1) (fun x v => { x with f1 := v }) := (Fld.whole kIf).snd.iso
section
variable {F0 : Nat → Prop} {h0 h : H} {b : Nat} {A : AM} {B : Nat} {Rs Ps : List HP}
/-- What an error says, to who asks. -/
theorem errP.is (S : SG F0 h0 h Ps) (i : Nat) {v : IF} {n : Int} (hi : Ps[i]? = some (errP v n)) : (n = 0 ∧ v = none) ∨ (n ≠ 0 ∧ v.isNone = false ∧ ErrIs v h n) := by
  obtain ⟨F1, x, _⟩ := S.at i hi
  rcases x with ⟨h1, h2, _⟩ | ⟨h1, pb, t, rfl, V, _⟩
  · exact .inl ⟨h1, h2⟩
  · exact .inr ⟨h1, rfl, .inr (.inl ⟨pb, 0, rfl, ld_if (V.ld fr_why)⟩)⟩
theorem through_after (ok : A.Ok B) (hB : B ≤ 1000000000) {sh sq : Sl} {RH RQ RH' RQ' : List CR} {A' : AM} (ok' : A'.Ok B) (hl : A'.locks = A.locks) (e1 : RH'.map abs = A'.has) (e2 : RQ'.map abs = A'.queue) (hs : ∀ r ∈ RH' ++ RQ', r ∈ RH ++ RQ)
    (S : SG F0 h0 h [varP kMgr b ⟨A.locks, sh, sq⟩, ownP kClaim sh (RH'.map row), ownP kClaim sq (RQ'.map row), bagP (RH ++ RQ)]) {Q : Sl → H → Prop} (k : ∀ s h', SG F0 h0 h' [mgrP b A'.through.2, ownP (kI .i64) s A'.through.1] → Q s h') : locks_Manager_through (some ⟨b, 0, none⟩) h Q := by
  refine through_spec ok' hB (h := h) (b := b) ?_ k
  refine mgr_close (Rs := []) (sh := sh) (sq := sq) e1 e2 ?_
  rw [hl]
  exact bagP.sub S 3 rfl hs
theorem findC_lt {l : List C} {t : Int} {i : Nat} (h : findC l t = some i) : i < l.length := by
  unfold findC at h
  exact (List.findIdx?_eq_some_iff_getElem.1 h).1
theorem free_spec (ok : A.Ok B) (hB : B ≤ 1000000000) (t : Int) :
    Does h [mgrP b A] (fun Q => locks_Manager_Free (some ⟨b, 0, none⟩) t h Q) (fun g : Sl × IF => g) (fun g => [mgrP b (A.free t).2, ownP (kI .i64) g.1 (A.free t).1.1, errP g.2 (A.free t).1.2]) := by
  intro F0 h0 Q S k
  show locks_Manager_Free _ _ _ _
  obtain ⟨sh, sq, RH, RQ, e1, e2, S⟩ := mgr_open S
  have hlen := rows_len ok e1 e2
  have hb := ok.b
  unfold locks_Manager_Free
  refine rd_some rfl (rd_some (by rw [add_mk]; exact varP.ld S fm_has 0 rfl) ?_)
  refine find_has ok hB (i := 1) rfl e1 (by omega) S t fun h1 ex => ?_
  have S1 := S.ext ex
  cases hf : findC A.has t with
  | none =>
    have hA : A.free t = (([], 42), A) := by unfold AM.free; rw [hf]
    rw [hA] at k
    refine ite_t rfl (errP.mk (by decide) (mgr_close e1 e2 S1) fun pb h2 S2 => ?_)
    rcases errP.is S2 0 rfl with ⟨x, _⟩ | ⟨_, _, he⟩
    · cases x
    · refine ⟨42, 42, he, rfl, ite_f rfl (k (Sl.nil, _) h2 ?_)⟩
      exact (SG.made (Ps := [mgrP b A, _]) S2.rot (Ext.refl _) (Own.nil (kI .i64) h2 _)).swap
  | some i =>
    have hi := findC_lt hf
    have hA : A.free t = (({ A with has := A.has.eraseIdx i }.through.1, 0), { A with has := A.has.eraseIdx i }.through.2) := by unfold AM.free; rw [hf]
    rw [hA] at k
    have hrl : RH.length = A.has.length := by rw [← e1]; simp
    refine ite_f (by show decide ((i : Int) < 0) = false; rw [decide_eq_false_iff_not]; omega) ?_
    refine rd_some rfl (rd_some (by rw [add_mk]; exact varP.ld S1 fm_has 0 rfl) ?_)
    refine ownP.delete S1 1 rfl (i := i) (by rw [List.length_map]; omega) (by show IntKind.i64.wrap ((i : Int) + 1) = _; rw [wrap64_id (by omega) (by omega)]; rfl) fun s' h2 S2 => ?_
    obtain ⟨h3, s3, S3, _⟩ := varP.st S2 fm_has 0 rfl s'
    refine rd_some rfl (rd_some (by rw [add_mk]; exact s3) ?_)
    refine through_after (F0 := F0) (h0 := h0) ok hB (ok.eraseH i) rfl (RH := RH) (RQ := RQ) (RH' := RH.eraseIdx i) (RQ' := RQ) (sh := s') (sq := sq) (by rw [← e1]; exact (map_erase abs _ _).symm) e2 (fun r hr => ?_) ?_ fun s h4 S4 => ?_
    · rcases List.mem_append.1 hr with hr | hr
      · exact List.mem_append_left _ (List.mem_of_mem_eraseIdx hr)
      · exact List.mem_append_right _ hr
    · have S3 : SG F0 h0 h3 [varP kMgr b ⟨A.locks, s', sq⟩, ownP kClaim s' ((RH.map row).eraseIdx i), ownP kClaim sq (RQ.map row), bagP (RH ++ RQ)] := S3
      rw [map_erase] at S3; exact S3
    · exact k (s, none) h4 (errP.zero S4).rot
theorem quit_spec (ok : A.Ok B) (hB : B ≤ 1000000000) (t : Int) :
    Does h [mgrP b A] (fun Q => locks_Manager_Quit (some ⟨b, 0, none⟩) t h Q) (fun s : Sl => s) (fun s => [mgrP b (A.quit t).2, ownP (kI .i64) s (A.quit t).1]) := by
  intro F0 h0 Q S k
  show locks_Manager_Quit _ _ _ _
  obtain ⟨sh, sq, RH, RQ, e1, e2, S⟩ := mgr_open S
  have hlen := rows_len ok e1 e2
  have hb := ok.b
  have hrl : RH.length = A.has.length := by rw [← e1]; simp
  have hql : RQ.length = A.queue.length := by rw [← e2]; simp
  unfold locks_Manager_Quit
  refine rd_some rfl (rd_some (by rw [add_mk]; exact varP.ld S fm_has 0 rfl) (rd_some rfl (rd_some (by rw [add_mk]; exact varP.ld S fm_queue 0 rfl) ?_)))
  refine find_has ok hB (i := 1) rfl e1 (by omega) S t fun h1 ex => ?_
  have S1 := S.ext ex
  refine ⟨by rw [add_mk]; exact varP.ld S1 fm_queue 0 rfl, ?_⟩
  refine find_has ok hB (i := 2) rfl e2 (by omega) S1 t fun h2 ex2 => ?_
  have S2 := S1.ext ex2
  refine jn_i ?_
  cases hf : findC A.has t with
  | some i =>
    have hi := findC_lt hf
    have hA : A.quit t = ({ A with has := A.has.eraseIdx i }.through.1, { A with has := A.has.eraseIdx i }.through.2) := by unfold AM.quit; rw [hf]
    rw [hA] at k
    refine ite_t (by show decide ((i : Int) ≥ 0) = true; rw [decide_eq_true_eq]; omega) ?_
    refine rd_some rfl (rd_some (by rw [add_mk]; exact varP.ld S2 fm_has 0 rfl) ?_)
    refine ownP.delete S2 1 rfl (i := i) (by rw [List.length_map]; omega) (by show IntKind.i64.wrap ((i : Int) + 1) = _; rw [wrap64_id (by omega) (by omega)]; rfl) fun s' h2 S2 => ?_
    obtain ⟨h3, s3, S3, _⟩ := varP.st S2 fm_has 0 rfl s'
    refine rd_some rfl (rd_some (by rw [add_mk]; exact s3) ?_)
    refine through_after (F0 := F0) (h0 := h0) ok hB (ok.eraseH i) rfl (RH := RH) (RQ := RQ) (RH' := RH.eraseIdx i) (RQ' := RQ) (sh := s') (sq := sq) (by rw [← e1]; exact (map_erase abs _ _).symm) e2 (fun r hr => ?_) ?_ fun s h4 S4 => ?_
    · rcases List.mem_append.1 hr with hr | hr
      · exact List.mem_append_left _ (List.mem_of_mem_eraseIdx hr)
      · exact List.mem_append_right _ hr
    · have S3 : SG F0 h0 h3 [varP kMgr b ⟨A.locks, s', sq⟩, ownP kClaim s' ((RH.map row).eraseIdx i), ownP kClaim sq (RQ.map row), bagP (RH ++ RQ)] := S3
      rw [map_erase] at S3; exact S3
    · exact k s h4 S4
  | none =>
    refine ite_f rfl ?_
    cases hq : findC A.queue t with
    | some i =>
      have hi := findC_lt hq
      have hA : A.quit t = ({ A with queue := A.queue.eraseIdx i }.through.1, { A with queue := A.queue.eraseIdx i }.through.2) := by unfold AM.quit; rw [hf]; simp only [hq]
      rw [hA] at k
      refine ite_t (by show decide ((i : Int) ≥ 0) = true; rw [decide_eq_true_eq]; omega) ?_
      refine rd_some rfl (rd_some (by rw [add_mk]; exact varP.ld S2 fm_queue 0 rfl) ?_)
      refine ownP.delete S2 2 rfl (i := i) (by rw [List.length_map]; omega) (by show IntKind.i64.wrap ((i : Int) + 1) = _; rw [wrap64_id (by omega) (by omega)]; rfl) fun s' h2 S2 => ?_
      obtain ⟨h3, s3, S3, _⟩ := varP.st S2 fm_queue 0 rfl s'
      refine rd_some rfl (rd_some (by rw [add_mk]; exact s3) ?_)
      refine through_after (F0 := F0) (h0 := h0) ok hB (ok.eraseQ i) rfl (RH := RH) (RQ := RQ) (RH' := RH) (RQ' := RQ.eraseIdx i) (sh := sh) (sq := s') e1 (by rw [← e2]; exact (map_erase abs _ _).symm) (fun r hr => ?_) ?_ fun s h4 S4 => ?_
      · rcases List.mem_append.1 hr with hr | hr
        · exact List.mem_append_left _ hr
        · exact List.mem_append_right _ (List.mem_of_mem_eraseIdx hr)
      · have S3 : SG F0 h0 h3 [varP kMgr b ⟨A.locks, sh, s'⟩, ownP kClaim sh (RH.map row), ownP kClaim s' ((RQ.map row).eraseIdx i), bagP (RH ++ RQ)] := S3
        rw [map_erase] at S3; exact S3
      · exact k s h4 S4
    | none =>
      have hA : A.quit t = ([], A) := by unfold AM.quit; rw [hf]; simp only [hq]
      rw [hA] at k
      refine ite_f rfl (k Sl.nil h2 ?_)
      exact ((mgr_close e1 e2 S2).made (Ext.refl _) (Own.nil (kI .i64) h2 _)).swap
theorem new_spec {n : Int} {Ps : List HP} (S : SG F0 h0 h Ps) {Q : Option Addr × Int → H → Prop} (bad : n < 1 ∨ n > 1024 → Q (none, 1) h) (good : 1 ≤ n → n ≤ 1024 → ∀ b h', SG F0 h0 h' (mgrP b (AM.new n.toNat) :: Ps) → Q (some ⟨b, 0, none⟩, 0) h') : locks_New n h Q := by
  unfold locks_New
  refine jn_c (decide (n < 1) || decide (n > 1024)) h (fun K hK => ite_b (fun c => ?_) (fun c => ?_)) (ite_b (fun c => ?_) (fun c => ?_))
  · rw [c, Bool.true_or] at hK; exact hK
  · rw [c, Bool.false_or] at hK; exact hK
  · exact bad (by simpa using c)
  · simp at c
    have S1 := S.add (P := bagP []) (F1 := fun _ => False) ⟨by simp, fun _ h => h.elim⟩ (Ext.refl h) fun _ h => h.elim
    have S2 := (S1.made (Ext.refl h) (Own.nil kClaim h _)).made (Ext.refl h) (Own.nil kClaim h _)
    refine S2.var (K := kMgr) fun b h' S3 e3 => good (by omega) (by omega) b h' ?_
    refine mgr_close (A := AM.new n.toNat) (sh := Sl.nil) (sq := Sl.nil) (RH := []) (RQ := []) rfl rfl ?_
    have : ((n.toNat : Nat) : Int) = n := Int.toNat_of_nonneg (by omega)
    show SG F0 h0 h' (varP kMgr b ⟨((n.toNat : Nat) : Int), Sl.nil, Sl.nil⟩ :: _)
    rw [this]; exact S3
end
end Go.Proofs.YtomngllmnhdmlaaGreat
/- (*spate/sched.Sched).ready, as a predicate over the heap, and that the code comes to it. Printed by gen.py. -/
namespace Go.Proofs.YtomngllmnhdmlaaGreat
open Go Go.Tr
set_option linter.unusedVariables false
set_option maxRecDepth 100000
set_option maxHeartbeats 400000
def sched_Sched_ready.b1 (p9 : Sl) (p10 : Int) (s : Sl × Int) (h : H) (K : (Sl × Int) ⊕ Sl → H → Prop) : Prop :=
  if (decide (s.2 < p10)) = true then
    jn (fun (k2 : Sl → H → Prop) =>
      rd (ixA 4 p9 s.2) fun q2 =>
      rd (ld k77 q2 h) fun x2 =>
      al 78 (k77.enc z77) h fun q3 h3 =>
      rd (st k77 q3 x2 h3) fun h4 =>
      rd (ld (kI .i64) (q3.add 1) h4) fun x3 =>
      if (x3 == 1) = true then
        bs 3 1 ((kI .i64).enc s.2) h4 fun x4 h5 =>
        ap (kI .i64).n 8 3 ((kI .i64).enc 0) s.1 x4 h5 fun x5 h6 =>
        k2 x5 h6
      else
        k2 s.1 h4) fun s2 h2 =>
    K (.inl (s2, IntKind.i64.wrap (s.2 + 1))) h2
  else
    K (.inr s.1) h
/-- (*spate/sched.Sched).ready -/
def sched_Sched_ready (a0 : Option Addr) (h : H) (Q : Sl → H → Prop) : Prop :=
  jn (fun (k1 : Sl → H → Prop) =>
    rd a0 fun q1 =>
    rd (ld kL (q1.add 3) h) fun x1 =>
    loopE (sched_Sched_ready.b1 x1 (x1.len : Int)) (Sl.nil, 0) h (fun r1 hh => k1 r1 hh)) fun s1 h1 =>
  Q s1 h1
theorem sched_Sched_ready.sound {a0 : Option Addr} {h : H} {Q : Sl → H → Prop} (hF : sched_Sched_ready a0 h Q) :
    CallsH Tryz.prog 23 (List.toArray (α := Value) [.pointer a0]) h fun v h' => ∃ x : Sl, v = Sl.val x ∧ Q x h' := by
  refine CallsH.of_body Tryz.func23 rfl 25 rfl rfl ?_
  refine WP.seq ?_
  refine WP.region ?_
  refine EvK.pure (v := Sl.val Sl.nil) (w_none rfl) rfl rfl (f_assign rfl rfl) ?_
  refine EvK.nil ?_
  refine WP.seq ?_
  refine WP.region ?_
  refine EvK.pure (v := Sl.val Sl.nil) (w_none rfl) rfl rfl (f_assign rfl rfl) ?_
  refine EvK.nil ?_
  refine WP.joinF (fun (s1 : Sl) => [(3, Sl.val s1)]) hF ?_ ?_
  · intro s1 E0 h1 hF
    refine WP.seq ?_
    refine WP.region ?_
    refine EvK.pure (v := Sl.val s1) (w_none rfl) rfl rfl (f_move rfl rfl) ?_
    refine EvK.pure (v := Sl.val s1) (w_none rfl) rfl rfl (f_assign rfl rfl) ?_
    refine EvK.nil ?_
    refine WP.ret ?_
    exact Ret.mk (vs := [Sl.val s1]) s1 ⟨rfl, trivial⟩ rfl hF
  · intro k1 hF
    refine WP.seq ?_
    refine WP.region ?_
    refine EvK.pure (v := .pointer a0) (w_none rfl) rfl rfl (f_move rfl rfl) ?_
    obtain ⟨q1, hq1, hF⟩ := hF
    refine EvK.pure (v := .pointer (some q1)) (w_none rfl) rfl rfl (f_nilCheck rfl (congrArg Value.pointer hq1)) ?_
    refine EvK.pure (v := .pointer (some (q1.add 3))) (w_none rfl) rfl rfl (f_fieldAddr fd66_2 rfl rfl) ?_
    obtain ⟨x1, hx1, hF⟩ := hF
    refine EvK.read (v := Sl.val x1) (w_none rfl) rfl rfl (f_load kL ty64 rfl rfl hx1 rfl) ?_
    refine EvK.pure (v := .int .i64 (x1.len : Int)) (w_none rfl) rfl rfl (f_lenL (s := x1) Tryz.underlying64 rfl rfl) ?_
    refine EvK.pure (v := .int .i64 0) (w_none rfl) rfl rfl (f_move rfl rfl) ?_
    refine EvK.nil ?_
    refine WP.block ?_
    refine WP.loopF (fun (s2 : Sl × Int) => [(3, Sl.val s2.1), (11, .int .i64 s2.2), (9, Sl.val x1), (10, .int .i64 (x1.len : Int))]) hF ⟨rfl, rfl, rfl, rfl, trivial⟩ ?_
    intro k2 s2 E0 h2 hF
    refine WP.seq ?_
    refine WP.region ?_
    refine EvK.pure (v := .bool (decide (s2.2 < (x1.len : Int)))) (w_none rfl) rfl rfl (f_lss rfl rfl rfl) ?_
    refine EvK.nil ?_
    refine WP.seq ?_
    rcases ite_inv hF with ⟨c1, hF⟩ | ⟨c1, hF⟩
    · refine WP.cond_true _ rfl c1 ?_
      refine WP.skip ?_
      refine WP.joinF (fun (s3 : Sl) => [(3, Sl.val s3), (9, Sl.val x1), (10, .int .i64 (x1.len : Int)), (11, .int .i64 s2.2)]) hF ?_ ?_
      · intro s3 E0 h3 hF
        refine WP.region ?_
        refine EvK.pure (v := .int .i64 (IntKind.i64.wrap (s2.2 + 1))) (w_none rfl) rfl rfl (f_add rfl rfl rfl) ?_
        refine EvK.pure (v := .int .i64 (IntKind.i64.wrap (s2.2 + 1))) (w_none rfl) rfl rfl (f_move rfl rfl) ?_
        refine EvK.nil ?_
        exact KE.mk (s3, IntKind.i64.wrap (s2.2 + 1)) ⟨rfl, rfl, rfl, rfl, trivial⟩ hF
      · intro k3 hF
        refine WP.block ?_
        refine WP.seq ?_
        refine WP.region ?_
        refine EvK.pure (v := .int .i64 s2.2) (w_none rfl) rfl rfl (f_move rfl rfl) ?_
        obtain ⟨q2, hq2, hF⟩ := hF
        refine EvK.pure (v := .pointer (some q2)) (w_none rfl) rfl rfl (f_indexAddr (s := x1) Tryz.underlying64 ty78.size rfl rfl rfl hq2) ?_
        obtain ⟨x2, hx2, hF⟩ := hF
        refine EvK.read (v := k77.val x2) (w_none rfl) rfl rfl (f_load k77 ty78 rfl rfl hx2 rfl) ?_
        refine EvK.alloc (w_none rfl) rfl rfl (f_allocF zero78 rfl rfl hF) ?_
        rintro _ h4 ⟨q3, rfl, hF⟩
        refine EvK.pure (v := .int .i64 s2.2) (w_none rfl) rfl rfl (f_assign rfl rfl) ?_
        obtain ⟨h5, hs1, hF⟩ := hF
        refine EvK.runN (w_none rfl) rfl (f_store k77 ty78.size (z := x2) rfl rfl rfl hs1) ?_
        rintro _ _ ⟨rfl, rfl⟩
        refine EvK.nil ?_
        refine WP.seq ?_
        refine WP.region ?_
        refine EvK.pure (v := .pointer (some (q3.add 1))) (w_none rfl) rfl rfl (f_fieldAddr fd78_1 rfl rfl) ?_
        obtain ⟨x3, hx3, hF⟩ := hF
        refine EvK.read (v := .int .i64 x3) (w_none rfl) rfl rfl (f_load (kI .i64) ty3 rfl rfl hx3 rfl) ?_
        refine EvK.pure (v := .bool (x3 == 1)) (w_none rfl) rfl rfl (f_eql rfl rfl rfl) ?_
        refine EvK.nil ?_
        rcases ite_inv hF with ⟨c2, hF⟩ | ⟨c2, hF⟩
        · refine WP.cond_true _ rfl c2 ?_
          refine WP.region ?_
          refine EvK.pure (v := Sl.val s2.1) (w_none rfl) rfl rfl (f_move rfl rfl) ?_
          refine EvK.pure (v := .int .i64 s2.2) (w_none rfl) rfl rfl (f_move rfl rfl) ?_
          refine EvK.alloc (w_none rfl) rfl rfl (f_buildSliceF Tryz.underlying51 el3 (by decide) rfl rfl rfl hF) ?_
          rintro _ h6 ⟨x4, rfl, hF⟩
          refine EvK.run (w_none rfl) rfl rfl (f_appendE (s := s2.1) (x := x4) Tryz.underlying51 el3 rfl rfl rfl hF) ?_
          rintro _ h7 ⟨x5, rfl, hF⟩
          refine EvK.pure (v := Sl.val x5) (w_none rfl) rfl rfl (f_assign rfl rfl) ?_
          refine EvK.nil ?_
          exact KE.mk x5 ⟨rfl, rfl, rfl, rfl, trivial⟩ hF
        · refine WP.cond_false _ rfl c2 ?_
          refine WP.skip ?_
          exact KE.mk s2.1 ⟨rfl, rfl, rfl, rfl, trivial⟩ hF
    · refine WP.cond_false _ rfl c1 ?_
      refine WP.exit ?_
      exact KE.mk s2.1 ⟨rfl, trivial⟩ hF
end Go.Proofs.YtomngllmnhdmlaaGreat
/- (*spate/sched.Sched).wake, as a predicate over the heap, and that the code comes to it. Printed by gen.py. -/
namespace Go.Proofs.YtomngllmnhdmlaaGreat
open Go Go.Tr
set_option linter.unusedVariables false
set_option maxRecDepth 100000
set_option maxHeartbeats 400000
def sched_Sched_wake.b1 (p0 : Option Addr) (p1 : Int) (p12 : Int) (s : Int × Int) (h : H) (K : (Int × Int) ⊕ Int → H → Prop) : Prop :=
  if (decide (s.2 < p12)) = true then
    jn (fun (k2 : Int → H → Prop) =>
      rd p0 fun q2 =>
      rd (ld kL (q2.add 3) h) fun x2 =>
      rd (ixA 4 x2 s.2) fun q3 =>
      jn (fun (k3 : Bool → H → Prop) =>
        rd (ld (kI .i64) (q3.add 1) h) fun x3 =>
        if (x3 == 3) = true then
          rd (ld (kI .i64) (q3.add 2) h) fun x4 =>
          k3 (x4 == p1) h
        else
          k3 false h) fun s3 h3 =>
      if s3 = true then
        rd (st (kI .i64) (q3.add 1) 1 h3) fun h4 =>
        k2 (IntKind.i64.wrap (s.1 + 1)) h4
      else
        k2 s.1 h3) fun s2 h2 =>
    K (.inl (s2, IntKind.i64.wrap (s.2 + 1))) h2
  else
    K (.inr s.1) h
/-- (*spate/sched.Sched).wake -/
def sched_Sched_wake (a0 : Option Addr) (a1 : Int) (h : H) (Q : Int → H → Prop) : Prop :=
  jn (fun (k1 : Int → H → Prop) =>
    rd a0 fun q1 =>
    rd (ld kL (q1.add 3) h) fun x1 =>
    loopE (sched_Sched_wake.b1 a0 a1 (x1.len : Int)) (0, 0) h (fun r1 hh => k1 r1 hh)) fun s1 h1 =>
  Q s1 h1
theorem sched_Sched_wake.sound {a0 : Option Addr} {a1 : Int} {h : H} {Q : Int → H → Prop} (hF : sched_Sched_wake a0 a1 h Q) :
    CallsH Tryz.prog 28 (List.toArray (α := Value) [.pointer a0, .int .i64 a1]) h fun v h' => ∃ x : Int, v = .int .i64 x ∧ Q x h' := by
  refine CallsH.of_body Tryz.func28 rfl 42 rfl rfl ?_
  refine WP.seq ?_
  refine WP.region ?_
  refine EvK.pure (v := .int .i64 0) (w_none rfl) rfl rfl (f_assign rfl rfl) ?_
  refine EvK.nil ?_
  refine WP.seq ?_
  refine WP.region ?_
  refine EvK.pure (v := .int .i64 0) (w_none rfl) rfl rfl (f_assign rfl rfl) ?_
  refine EvK.nil ?_
  refine WP.joinF (fun (s1 : Int) => [(5, .int .i64 s1)]) hF ?_ ?_
  · intro s1 E0 h1 hF
    refine WP.seq ?_
    refine WP.region ?_
    refine EvK.pure (v := .int .i64 s1) (w_none rfl) rfl rfl (f_move rfl rfl) ?_
    refine EvK.pure (v := .int .i64 s1) (w_none rfl) rfl rfl (f_assign rfl rfl) ?_
    refine EvK.nil ?_
    refine WP.ret ?_
    exact Ret.mk (vs := [.int .i64 s1]) s1 ⟨rfl, trivial⟩ rfl hF
  · intro k1 hF
    refine WP.seq ?_
    refine WP.region ?_
    refine EvK.pure (v := .pointer a0) (w_none rfl) rfl rfl (f_move rfl rfl) ?_
    obtain ⟨q1, hq1, hF⟩ := hF
    refine EvK.pure (v := .pointer (some q1)) (w_none rfl) rfl rfl (f_nilCheck rfl (congrArg Value.pointer hq1)) ?_
    refine EvK.pure (v := .pointer (some (q1.add 3))) (w_none rfl) rfl rfl (f_fieldAddr fd66_2 rfl rfl) ?_
    obtain ⟨x1, hx1, hF⟩ := hF
    refine EvK.read (v := Sl.val x1) (w_none rfl) rfl rfl (f_load kL ty64 rfl rfl hx1 rfl) ?_
    refine EvK.pure (v := .int .i64 (x1.len : Int)) (w_none rfl) rfl rfl (f_lenL (s := x1) Tryz.underlying64 rfl rfl) ?_
    refine EvK.pure (v := .int .i64 0) (w_none rfl) rfl rfl (f_move rfl rfl) ?_
    refine EvK.nil ?_
    refine WP.block ?_
    refine WP.loopF (fun (s2 : Int × Int) => [(5, .int .i64 s2.1), (13, .int .i64 s2.2), (0, .pointer a0), (1, .int .i64 a1), (12, .int .i64 (x1.len : Int))]) hF ⟨rfl, rfl, rfl, rfl, rfl, trivial⟩ ?_
    intro k2 s2 E0 h2 hF
    refine WP.seq ?_
    refine WP.region ?_
    refine EvK.pure (v := .bool (decide (s2.2 < (x1.len : Int)))) (w_none rfl) rfl rfl (f_lss rfl rfl rfl) ?_
    refine EvK.nil ?_
    refine WP.seq ?_
    rcases ite_inv hF with ⟨c1, hF⟩ | ⟨c1, hF⟩
    · refine WP.cond_true _ rfl c1 ?_
      refine WP.skip ?_
      refine WP.joinF (fun (s3 : Int) => [(5, .int .i64 s3), (0, .pointer a0), (1, .int .i64 a1), (12, .int .i64 (x1.len : Int)), (13, .int .i64 s2.2)]) hF ?_ ?_
      · intro s3 E0 h3 hF
        refine WP.region ?_
        refine EvK.pure (v := .int .i64 (IntKind.i64.wrap (s2.2 + 1))) (w_none rfl) rfl rfl (f_add rfl rfl rfl) ?_
        refine EvK.pure (v := .int .i64 (IntKind.i64.wrap (s2.2 + 1))) (w_none rfl) rfl rfl (f_move rfl rfl) ?_
        refine EvK.nil ?_
        exact KE.mk (s3, IntKind.i64.wrap (s2.2 + 1)) ⟨rfl, rfl, rfl, rfl, rfl, trivial⟩ hF
      · intro k3 hF
        refine WP.block ?_
        refine WP.seq ?_
        refine WP.region ?_
        refine EvK.pure (v := .int .i64 s2.2) (w_none rfl) rfl rfl (f_move rfl rfl) ?_
        refine EvK.pure (v := .int .i64 s2.2) (w_none rfl) rfl rfl (f_assign rfl rfl) ?_
        refine EvK.nil ?_
        refine WP.seq ?_
        refine WP.region ?_
        refine EvK.pure (v := .pointer a0) (w_none rfl) rfl rfl (f_move rfl rfl) ?_
        obtain ⟨q2, hq2, hF⟩ := hF
        refine EvK.pure (v := .pointer (some q2)) (w_none rfl) rfl rfl (f_nilCheck rfl (congrArg Value.pointer hq2)) ?_
        refine EvK.pure (v := .pointer (some (q2.add 3))) (w_none rfl) rfl rfl (f_fieldAddr fd66_2 rfl rfl) ?_
        obtain ⟨x2, hx2, hF⟩ := hF
        refine EvK.read (v := Sl.val x2) (w_none rfl) rfl rfl (f_load kL ty64 rfl rfl hx2 rfl) ?_
        refine EvK.pure (v := .int .i64 s2.2) (w_none rfl) rfl rfl (f_move rfl rfl) ?_
        obtain ⟨q3, hq3, hF⟩ := hF
        refine EvK.pure (v := .pointer (some q3)) (w_none rfl) rfl rfl (f_indexAddr (s := x2) Tryz.underlying64 ty78.size rfl rfl rfl hq3) ?_
        refine EvK.pure (v := .pointer (some q3)) (w_none rfl) rfl rfl (f_assign rfl rfl) ?_
        refine EvK.nil ?_
        refine WP.joinF (fun (s4 : Bool) => [(34, .bool s4), (0, .pointer a0), (1, .int .i64 a1), (5, .int .i64 s2.1), (7, .pointer (some q3)), (12, .int .i64 (x1.len : Int)), (13, .int .i64 s2.2)]) hF ?_ ?_
        · intro s4 E0 h4 hF
          rcases ite_inv hF with ⟨c2, hF⟩ | ⟨c2, hF⟩
          · refine WP.cond_true _ rfl c2 ?_
            refine WP.seq ?_
            refine WP.region ?_
            refine EvK.pure (v := .pointer (some q3)) (w_none rfl) rfl rfl (f_move rfl rfl) ?_
            refine EvK.pure (v := .pointer (some q3)) (w_none rfl) rfl rfl (f_nilCheck rfl rfl) ?_
            refine EvK.pure (v := .pointer (some (q3.add 1))) (w_none rfl) rfl rfl (f_fieldAddr fd78_1 rfl rfl) ?_
            obtain ⟨h5, hs1, hF⟩ := hF
            refine EvK.runN (w_none rfl) rfl (f_store (kI .i64) ty3.size (z := 1) rfl rfl rfl hs1) ?_
            rintro _ _ ⟨rfl, rfl⟩
            refine EvK.nil ?_
            refine WP.region ?_
            refine EvK.pure (v := .int .i64 s2.1) (w_none rfl) rfl rfl (f_move rfl rfl) ?_
            refine EvK.pure (v := .int .i64 (IntKind.i64.wrap (s2.1 + 1))) (w_none rfl) rfl rfl (f_add rfl rfl rfl) ?_
            refine EvK.pure (v := .int .i64 (IntKind.i64.wrap (s2.1 + 1))) (w_none rfl) rfl rfl (f_assign rfl rfl) ?_
            refine EvK.nil ?_
            exact KE.mk (IntKind.i64.wrap (s2.1 + 1)) ⟨rfl, rfl, rfl, rfl, rfl, trivial⟩ hF
          · refine WP.cond_false _ rfl c2 ?_
            refine WP.skip ?_
            exact KE.mk s2.1 ⟨rfl, rfl, rfl, rfl, rfl, trivial⟩ hF
        · intro k4 hF
          refine WP.region ?_
          refine EvK.pure (v := .pointer (some q3)) (w_none rfl) rfl rfl (f_move rfl rfl) ?_
          refine EvK.pure (v := .pointer (some q3)) (w_none rfl) rfl rfl (f_nilCheck rfl rfl) ?_
          refine EvK.pure (v := .pointer (some (q3.add 1))) (w_none rfl) rfl rfl (f_fieldAddr fd78_1 rfl rfl) ?_
          obtain ⟨x3, hx3, hF⟩ := hF
          refine EvK.read (v := .int .i64 x3) (w_none rfl) rfl rfl (f_load (kI .i64) ty3 rfl rfl hx3 rfl) ?_
          refine EvK.pure (v := .bool (x3 == 3)) (w_none rfl) rfl rfl (f_eql rfl rfl rfl) ?_
          refine EvK.pure (v := .bool (x3 == 3)) (w_none rfl) rfl rfl (f_move rfl rfl) ?_
          rcases ite_inv hF with ⟨c3, hF⟩ | ⟨c3, hF⟩
          · refine EvK.pure (v := .pointer (some q3)) (w_some rfl rfl c3) rfl rfl (f_move rfl rfl) ?_
            refine EvK.pure (v := .pointer (some q3)) (w_some rfl rfl c3) rfl rfl (f_nilCheck rfl rfl) ?_
            refine EvK.pure (v := .pointer (some (q3.add 2))) (w_some rfl rfl c3) rfl rfl (f_fieldAddr fd78_2 rfl rfl) ?_
            obtain ⟨x4, hx4, hF⟩ := hF
            refine EvK.read (v := .int .i64 x4) (w_some rfl rfl c3) rfl rfl (f_load (kI .i64) ty3 rfl rfl hx4 rfl) ?_
            refine EvK.pure (v := .int .i64 a1) (w_some rfl rfl c3) rfl rfl (f_move rfl rfl) ?_
            refine EvK.pure (v := .bool (x4 == a1)) (w_some rfl rfl c3) rfl rfl (f_eql rfl rfl rfl) ?_
            refine EvK.pure (v := .bool (x4 == a1)) (w_none rfl) rfl rfl (f_pickT rfl rfl c3 rfl) ?_
            refine EvK.nil ?_
            exact KE.mk (x4 == a1) ⟨rfl, rfl, rfl, rfl, rfl, rfl, rfl, trivial⟩ hF
          · refine EvK.not (w_not rfl rfl c3) rfl rfl ?_
            refine EvK.not (w_not rfl rfl c3) rfl rfl ?_
            refine EvK.not (w_not rfl rfl c3) rfl rfl ?_
            refine EvK.not (w_not rfl rfl c3) rfl rfl ?_
            refine EvK.not (w_not rfl rfl c3) rfl rfl ?_
            refine EvK.not (w_not rfl rfl c3) rfl rfl ?_
            refine EvK.pure (v := .bool false) (w_none rfl) rfl rfl (f_pickF rfl rfl c3 rfl) ?_
            refine EvK.nil ?_
            exact KE.mk false ⟨rfl, rfl, rfl, rfl, rfl, rfl, rfl, trivial⟩ hF
    · refine WP.cond_false _ rfl c1 ?_
      refine WP.exit ?_
      exact KE.mk s2.1 ⟨rfl, trivial⟩ hF
end Go.Proofs.YtomngllmnhdmlaaGreat
/- (*spate/sched.Sched).granted, as a predicate over the heap, and that the code comes to it. Printed by gen.py. -/
namespace Go.Proofs.YtomngllmnhdmlaaGreat
open Go Go.Tr
set_option linter.unusedVariables false
set_option maxRecDepth 100000
set_option maxHeartbeats 400000
def sched_Sched_granted.b1 (p0 : Option Addr) (p6 : Sl) (p7 : Int) (s : Int) (h : H) (K : Int ⊕ Unit → H → Prop) : Prop :=
  if (decide (s < p7)) = true then
    rd (ixA 1 p6 s) fun q1 =>
    rd (ld (kI .i64) q1 h) fun x1 =>
    rd p0 fun q2 =>
    rd (ld kL (q2.add 3) h) fun x2 =>
    rd (ixA 4 x2 x1) fun q3 =>
    rd (st (kI .i64) (q3.add 1) 1 h) fun h1 =>
    K (.inl (IntKind.i64.wrap (s + 1))) h1
  else
    K (.inr ()) h
/-- (*spate/sched.Sched).granted -/
def sched_Sched_granted (a0 : Option Addr) (a1 : Sl) (h : H) (Q : Unit → H → Prop) : Prop :=
  loopE (sched_Sched_granted.b1 a0 a1 (a1.len : Int)) 0 h (fun r1 hh => Q r1 hh)
theorem sched_Sched_granted.sound {a0 : Option Addr} {a1 : Sl} {h : H} {Q : Unit → H → Prop} (hF : sched_Sched_granted a0 a1 h Q) :
    CallsH Tryz.prog 40 (List.toArray (α := Value) [.pointer a0, Sl.val a1]) h fun v h' => ∃ x : Unit, v = .tuple #[] ∧ Q x h' := by
  refine CallsH.of_body Tryz.func40 rfl 20 rfl rfl ?_
  refine WP.seq ?_
  refine WP.region ?_
  refine EvK.pure (v := Sl.val a1) (w_none rfl) rfl rfl (f_move rfl rfl) ?_
  refine EvK.pure (v := .int .i64 (a1.len : Int)) (w_none rfl) rfl rfl (f_lenL (s := a1) Tryz.underlying51 rfl rfl) ?_
  refine EvK.pure (v := .int .i64 0) (w_none rfl) rfl rfl (f_move rfl rfl) ?_
  refine EvK.nil ?_
  refine WP.block ?_
  refine WP.loopF (fun (s1 : Int) => [(8, .int .i64 s1), (0, .pointer a0), (6, Sl.val a1), (7, .int .i64 (a1.len : Int))]) hF ⟨rfl, rfl, rfl, rfl, trivial⟩ ?_
  intro k1 s1 E0 h1 hF
  refine WP.seq ?_
  refine WP.region ?_
  refine EvK.pure (v := .bool (decide (s1 < (a1.len : Int)))) (w_none rfl) rfl rfl (f_lss rfl rfl rfl) ?_
  refine EvK.nil ?_
  refine WP.seq ?_
  rcases ite_inv hF with ⟨c1, hF⟩ | ⟨c1, hF⟩
  · refine WP.cond_true _ rfl c1 ?_
    refine WP.skip ?_
    refine WP.seq ?_
    refine WP.block ?_
    refine WP.seq ?_
    refine WP.region ?_
    obtain ⟨q1, hq1, hF⟩ := hF
    refine EvK.pure (v := .pointer (some q1)) (w_none rfl) rfl rfl (f_indexAddr (s := a1) Tryz.underlying51 ty3.size rfl rfl rfl hq1) ?_
    obtain ⟨x1, hx1, hF⟩ := hF
    refine EvK.read (v := .int .i64 x1) (w_none rfl) rfl rfl (f_load (kI .i64) ty3 rfl rfl hx1 rfl) ?_
    refine EvK.pure (v := .int .i64 x1) (w_none rfl) rfl rfl (f_assign rfl rfl) ?_
    refine EvK.nil ?_
    refine WP.region ?_
    refine EvK.pure (v := .pointer a0) (w_none rfl) rfl rfl (f_move rfl rfl) ?_
    obtain ⟨q2, hq2, hF⟩ := hF
    refine EvK.pure (v := .pointer (some q2)) (w_none rfl) rfl rfl (f_nilCheck rfl (congrArg Value.pointer hq2)) ?_
    refine EvK.pure (v := .pointer (some (q2.add 3))) (w_none rfl) rfl rfl (f_fieldAddr fd66_2 rfl rfl) ?_
    obtain ⟨x2, hx2, hF⟩ := hF
    refine EvK.read (v := Sl.val x2) (w_none rfl) rfl rfl (f_load kL ty64 rfl rfl hx2 rfl) ?_
    refine EvK.pure (v := .int .i64 x1) (w_none rfl) rfl rfl (f_move rfl rfl) ?_
    obtain ⟨q3, hq3, hF⟩ := hF
    refine EvK.pure (v := .pointer (some q3)) (w_none rfl) rfl rfl (f_indexAddr (s := x2) Tryz.underlying64 ty78.size rfl rfl rfl hq3) ?_
    refine EvK.pure (v := .pointer (some (q3.add 1))) (w_none rfl) rfl rfl (f_fieldAddr fd78_1 rfl rfl) ?_
    obtain ⟨h2, hs1, hF⟩ := hF
    refine EvK.runN (w_none rfl) rfl (f_store (kI .i64) ty3.size (z := 1) rfl rfl rfl hs1) ?_
    rintro _ _ ⟨rfl, rfl⟩
    refine EvK.nil ?_
    refine WP.region ?_
    refine EvK.pure (v := .int .i64 (IntKind.i64.wrap (s1 + 1))) (w_none rfl) rfl rfl (f_add rfl rfl rfl) ?_
    refine EvK.pure (v := .int .i64 (IntKind.i64.wrap (s1 + 1))) (w_none rfl) rfl rfl (f_move rfl rfl) ?_
    refine EvK.nil ?_
    exact KE.mk (IntKind.i64.wrap (s1 + 1)) ⟨rfl, rfl, rfl, rfl, trivial⟩ hF
  · refine WP.cond_false _ rfl c1 ?_
    refine WP.exit ?_
    exact Ret.mk (vs := []) () trivial rfl hF
end Go.Proofs.YtomngllmnhdmlaaGreat
/- The scheduler in memory: its parts; what the inner calls do. -/
namespace Go.Proofs.YtomngllmnhdmlaaGreat
open Go Go.Tr
set_option linter.unusedVariables false
abbrev Sd := S65
abbrev kSd : Kd Sd := k65
abbrev En := S77
abbrev kEn : Kd En := k77
abbrev tPlay : Nat := 33
abbrev tPan : Nat := 111
def sd (lk : Int) (mb : Nat) (ts : Sl) : Sd := ⟨⟨⟨⟩, ⟨lk, 0⟩⟩, some ⟨mb, 0, none⟩, ts⟩
theorem fs_lk1 : Fld k60 (kI .i32) 0 (·.f0) (fun x v => { x with f0 := v }) := (Fld.whole (kI .i32)).fst.iso
theorem fs_lk2 : Fld k62 (kI .i32) 0 (·.f1.f0) (fun x v => { x with f1 := { x.f1 with f0 := v } }) := fs_lk1.snd.iso
theorem fs_lk : Fld kSd (kI .i32) 0 (·.f0.f1.f0) (fun x v => { x with f0 := { x.f0 with f1 := { x.f0.f1 with f0 := v } } }) := fs_lk2.fst.iso
theorem fs_m : Fld kSd kP 2 (·.f1) (fun x v => { x with f1 := v }) := (Fld.whole kP).fst.snd.iso
theorem fs_ts : Fld kSd kL 3 (·.f2) (fun x v => { x with f2 := v }) := (Fld.whole kL).snd.snd.iso
theorem fe_task : Fld kEn kIf 0 (·.f0) (fun x v => { x with f0 := v }) := (Fld.whole kIf).fst.iso
theorem fe_st : Fld kEn (kI .i64) 1 (·.f1) (fun x v => { x with f1 := v }) := (Fld.whole (kI .i64)).fst.snd.iso
theorem fe_on : Fld kEn (kI .i64) 2 (·.f2) (fun x v => { x with f2 := v }) := (Fld.whole (kI .i64)).fst.snd.snd.iso
theorem fe_fl : Fld kEn kIf 3 (·.f3) (fun x v => { x with f3 := v }) := (Fld.whole kIf).snd.snd.snd.iso
/-- An entry, with whose it is and what its fault says. -/
structure EN where
  b : Nat
  st : Int
  on : Int
  fv : IF
  fl : Int
def EN.tk (e : EN) : TK := ⟨e.st, e.on, e.fl⟩
def erow (e : EN) : En := ⟨some (tPlay, .pointer (some ⟨e.b, 0, none⟩)), e.st, e.on, e.fv⟩
/-- What a fault says. -/
def FaultAt (h : H) (F : Nat → Prop) (v : IF) (n : Int) : Prop :=
  (n = 0 ∧ v = none) ∨ (n ≠ 0 ∧ (v = some (tErrno, .int .i64 n) ∨ (∃ pb t, v = some (tRef, .pointer (some ⟨pb, 0, none⟩)) ∧ Var kRefd h pb ⟨t, some (tErrno, .int .i64 n)⟩ ∧ F pb) ∨ (∃ pb, v = some (tPan, .pointer (some ⟨pb, 0, none⟩)) ∧ n = 42)))
theorem FaultAt.mono {h h' : H} {F F' : Nat → Prop} {v : IF} {n : Int} (f : FaultAt h F v n) (k : ∀ b, F b → b < h.size → h'[b]? = h[b]?) (hF : ∀ b, F b → b < h.size → F' b) : FaultAt h' F' v n := by
  rcases f with f | ⟨h1, f | ⟨pb, t, h2, V, hb⟩ | f⟩
  · exact .inl f
  · exact .inr ⟨h1, .inl f⟩
  · exact .inr ⟨h1, .inr (.inl ⟨pb, t, h2, V.same (k pb hb (Blk.lt V)), hF pb hb (Blk.lt V)⟩)⟩
  · exact .inr ⟨h1, .inr (.inr f)⟩
theorem FaultAt.is {h : H} {F : Nat → Prop} {v : IF} {n : Int} (f : FaultAt h F v n) : (n = 0 ∧ v = none) ∨ (n ≠ 0 ∧ v.isNone = false ∧ ErrIs v h n) := by
  rcases f with f | ⟨h1, rfl | ⟨pb, t, rfl, V, hb⟩ | ⟨pb, rfl, rfl⟩⟩
  · exact .inl f
  · exact .inr ⟨h1, rfl, .inl rfl⟩
  · exact .inr ⟨h1, rfl, .inr (.inl ⟨pb, 0, rfl, ld_if (V.ld fr_why)⟩)⟩
  · exact .inr ⟨h1, rfl, .inr (.inr ⟨pb, 0, rfl, rfl⟩)⟩
def faultsP (es : List EN) : HP where
  p h F := (∀ e ∈ es, FaultAt h F e.fv e.fl) ∧ ∀ b, F b → b < h.size
  st := fun ⟨v, l⟩ hs k => ⟨fun e he => (v e he).mono (fun b hb _ => k b hb) fun b hb _ => hb, fun b hb => Nat.lt_of_lt_of_le (l b hb) hs⟩
  lt := fun ⟨_, l⟩ => l
def sdL (q : Nat) (lk : Int) (mb : Nat) (M : AM) (ts : Sl) (es : List EN) : List HP := [varP kSd q (sd lk mb ts), mgrP mb M, ownP kEn ts (es.map erow), faultsP es]
/-- The scheduler, nobody within. -/
def schP (q : Nat) (A : AS) (bs : List Nat) : HP := HP.ex fun w : (Nat × Sl) × List EN => HP.and (w.2.map EN.tk = A.ts ∧ w.2.map EN.b = bs) (HP.all (sdL q 0 w.1.1 A.m w.1.2 w.2))
section
variable {F0 : Nat → Prop} {h0 h : H} {q mb : Nat} {lk : Int} {M : AM} {ts : Sl} {es : List EN} {A : AS} {bs : List Nat} {B : Nat} {Rs Ps : List HP}
theorem sch_open (S : SG F0 h0 h (schP q A bs :: Rs)) : ∃ mb ts es, es.map EN.tk = A.ts ∧ es.map EN.b = bs ∧ SG F0 h0 h (sdL q 0 mb A.m ts es ++ Rs) := by
  obtain ⟨⟨⟨mb, ts⟩, es⟩, S⟩ := S.unex
  obtain ⟨⟨e1, e2⟩, S⟩ := S.unand
  exact ⟨mb, ts, es, e1, e2, S.flat⟩
theorem sch_close (e1 : es.map EN.tk = A.ts) (e2 : es.map EN.b = bs) (S : SG F0 h0 h (sdL q 0 mb A.m ts es ++ Rs)) : SG F0 h0 h (schP q A bs :: Rs) :=
  SG.toex ((mb, ts), es) (SG.toand ⟨e1, e2⟩ (SG.fold _ S))
theorem faultsP.sub (S : SG F0 h0 h Ps) (i : Nat) {es es' : List EN} (hi : Ps[i]? = some (faultsP es)) (hs : ∀ e ∈ es', ∃ x ∈ es, x.fv = e.fv ∧ x.fl = e.fl) : SG F0 h0 h (Ps.set i (faultsP es')) :=
  S.imp i hi _ fun F ⟨v, l⟩ => ⟨fun e he => by obtain ⟨x, hx, e1, e2⟩ := hs e he; rw [← e1, ← e2]; exact v x hx, l⟩
theorem faultsP.is (S : SG F0 h0 h Ps) (i : Nat) {es : List EN} (hi : Ps[i]? = some (faultsP es)) {e : EN} (he : e ∈ es) : (e.fl = 0 ∧ e.fv = none) ∨ (e.fl ≠ 0 ∧ e.fv.isNone = false ∧ ErrIs e.fv h e.fl) := by
  obtain ⟨F1, ⟨v, _⟩, _⟩ := S.at i hi
  exact (v e he).is
/-- The tasks that are ready. -/
theorem ready_spec (S : SG F0 h0 h (sdL q lk mb M ts es ++ Rs)) (hl : es.length ≤ 1000) {Q : Sl → H → Prop} (k : ∀ s h', SG F0 h0 h' (ownP (kI .i64) s (readyT (es.map EN.tk)) :: (sdL q lk mb M ts es ++ Rs)) → Q s h') : sched_Sched_ready (some ⟨q, 0, none⟩) h Q := by
  unfold sched_Sched_ready
  have hlen := ownP.len (K := kEn) S 2 rfl
  rw [List.length_map] at hlen
  refine jn_i (rd_some rfl (rd_some (by rw [add_mk]; exact varP.ld S fs_ts 0 rfl) ?_))
  refine for0 (mk := fun (s : Sl) i => (s, i)) (s := Sl.nil) (n := es.length) (by omega) (fun j s h' => SG F0 h0 h' (ownP (kI .i64) s (readyTo (es.map EN.tk) j) :: (sdL q lk mb M ts es ++ Rs))) (S.made (Ext.refl h) (Own.nil (kI .i64) h _)) (fun j s h' K hj S1 next done => ?_) (fun s h' K S1 done => ?_)
  · have hl' := readyTo_len (es.map EN.tk) j
    unfold sched_Sched_ready.b1
    have hj' : j < (es.map erow).length := by rw [List.length_map]; exact hj
    have hr : rdyB (es.map EN.tk) j = (es[j].st == 1) := by
      unfold rdyB
      rw [List.getElem?_map, List.getElem?_eq_getElem hj]; rfl
    refine ite_t (by show decide ((j : Int) < (ts.len : Int)) = true; rw [hlen]; exact clt_t hj) (jn_q (fun s' h2 => SG F0 h0 h2 (ownP (kI .i64) s' (readyTo (es.map EN.tk) (j + 1)) :: (sdL q lk mb M ts es ++ Rs))) (fun K2 hK2 => ?_) fun s' h2 S2 => next s' h2 S2)
    refine (ownP.rds (K := kEn) S1 3 rfl).elt0 hj' rfl ?_
    rw [List.getElem_map]
    refine S1.cell (K := kEn) (x := erow es[j]) fun b h2 S2 _ => rd_some (by rw [add_mk]; exact varP.ld S2 fe_st 0 rfl) ?_
    refine ite_b (fun c => ?_) (fun c => ?_)
    · have c : (es[j].st == 1) = true := c
      refine ownP.push (K := kI .i64) (by decide) S2 1 rfl (j : Int) (by omega) (by omega) fun s' h3 S3 => hK2 s' h3 ?_
      rw [readyTo_succ, hr, c]
      exact S3.tail
    · have c : (es[j].st == 1) = false := c
      refine hK2 s h2 ?_
      rw [readyTo_succ, hr, c]
      have S2 := S2.tail
      simpa using S2
  · unfold sched_Sched_ready.b1
    refine ite_f (by show decide ((es.length : Int) < (ts.len : Int)) = false; rw [hlen]; exact clt_f (Nat.lt_irrefl _)) (done _ _ (k s h' ?_))
    unfold readyT
    rw [List.length_map]; exact S1
def wkE (on : Int) (e : EN) : EN := if wkB on e.tk then { e with st := 1 } else e
theorem wkE_tk (on : Int) (e : EN) : (wkE on e).tk = wk on e.tk := by unfold wkE wk; split <;> rfl
theorem wkE_b (on : Int) (e : EN) : (wkE on e).b = e.b := by unfold wkE; split <;> rfl
theorem wkE_f (on : Int) (e : EN) : (wkE on e).fv = e.fv ∧ (wkE on e).fl = e.fl := by unfold wkE; split <;> exact ⟨rfl, rfl⟩
def curE (f : EN → EN) (es : List EN) (j : Nat) : List EN := (es.take j).map f ++ es.drop j
theorem curE_0 (f : EN → EN) (es : List EN) : curE f es 0 = es := by simp [curE]
theorem curE_len (f : EN → EN) (es : List EN) : curE f es es.length = es.map f := by simp [curE]
theorem curE_at (f : EN → EN) {es : List EN} {j : Nat} (hj : j < es.length) : (curE f es j)[j]? = some es[j] := by
  unfold curE
  rw [List.getElem?_append_right (by simp; omega)]
  simp [Nat.min_eq_left (Nat.le_of_lt hj), hj]
theorem curE_succ (f : EN → EN) {es : List EN} {j : Nat} (hj : j < es.length) : curE f es (j + 1) = (curE f es j).set j (f es[j]) := by
  unfold curE
  rw [List.take_add_one, List.getElem?_eq_getElem hj, Option.toList_some, List.map_append, List.append_assoc, List.set_append, if_neg (by simp; omega)]
  congr 1
  have : j - ((es.take j).map f).length = 0 := by simp; omega
  rw [this, List.drop_eq_getElem_cons hj]; rfl
theorem curE_length (f : EN → EN) (es : List EN) (j : Nat) : (curE f es j).length = es.length := by unfold curE; simp; omega
theorem curE_mem (f : EN → EN) (hf : ∀ e, (f e).fv = e.fv ∧ (f e).fl = e.fl) {es : List EN} {j : Nat} : ∀ e ∈ curE f es j, ∃ x ∈ es, x.fv = e.fv ∧ x.fl = e.fl := fun e he => by
  unfold curE at he
  rcases List.mem_append.1 he with he | he
  · obtain ⟨x, hx, rfl⟩ := List.mem_map.1 he
    exact ⟨x, List.mem_of_mem_take hx, (hf x).1.symm, (hf x).2.symm⟩
  · exact ⟨e, List.mem_of_mem_drop he, rfl, rfl⟩
/-- An entry's state written. -/
theorem setE {β : Type} {Fk : Kd β} {off : Nat} {g : En → β} {p : En → β → En} (f : Fld kEn Fk off g p) (S : SG F0 h0 h (sdL q lk mb M ts es ++ Rs)) {n : Nat} (hn : n < es.length) (v : β) (e' : EN) (he : erow e' = p (erow es[n]) v) (hf : e'.fv = es[n].fv ∧ e'.fl = es[n].fl) :
    ∃ a h', ixA 4 ts (n : Int) = some a ∧ st Fk (a.add off) v h = some h' ∧ SG F0 h0 h' (sdL q lk mb M ts (es.set n e') ++ Rs) := by
  have hn' : n < (es.map erow).length := by rw [List.length_map]; exact hn
  obtain ⟨a, ha⟩ := ownP.ix S 2 (K := kEn) rfl hn' (n := 4) rfl
  obtain ⟨h', hs, S2⟩ := ownP.stF f S 2 rfl (List.getElem?_eq_getElem hn') rfl ha v
  refine ⟨a, h', ha, hs, ?_⟩
  rw [List.getElem_map, ← he, ← List.map_set] at S2
  have S2 : SG F0 h0 h' (varP kSd q (sd lk mb ts) :: mgrP mb M :: ownP kEn ts ((es.set n e').map erow) :: faultsP es :: Rs) := S2
  refine faultsP.sub S2 3 rfl fun e he => ?_
  rcases List.mem_or_eq_of_mem_set he with he | rfl
  · exact ⟨e, he, rfl, rfl⟩
  · exact ⟨es[n], List.getElem_mem hn, hf.1.symm, hf.2.symm⟩
theorem ldE {β : Type} {Fk : Kd β} {off : Nat} {g : En → β} {p : En → β → En} (f : Fld kEn Fk off g p) (S : SG F0 h0 h (sdL q lk mb M ts es ++ Rs)) {n : Nat} (hn : n < es.length) : ∃ a, ixA 4 ts (n : Int) = some a ∧ ld Fk (a.add off) h = some (g (erow es[n])) := by
  have hn' : n < (es.map erow).length := by rw [List.length_map]; exact hn
  obtain ⟨a, ha⟩ := ownP.ix S 2 (K := kEn) rfl hn' (n := 4) rfl
  have := ownP.ldF f S 2 rfl (List.getElem?_eq_getElem hn') rfl ha
  rw [List.getElem_map] at this
  exact ⟨a, ha, this⟩
/-- All that wait at a condition go on. -/
theorem wake_spec (S : SG F0 h0 h (sdL q lk mb M ts es ++ Rs)) (hl : es.length ≤ 1000) (on : Int) {Q : Int → H → Prop} (k : ∀ h', SG F0 h0 h' (sdL q lk mb M ts (es.map (wkE on)) ++ Rs) → Q (wakeN (es.map EN.tk) on : Nat) h') : sched_Sched_wake (some ⟨q, 0, none⟩) on h Q := by
  unfold sched_Sched_wake
  have hlen := ownP.len (K := kEn) S 2 rfl
  rw [List.length_map] at hlen
  refine jn_i (rd_some rfl (rd_some (by rw [add_mk]; exact varP.ld S fs_ts 0 rfl) ?_))
  refine for0 (mk := fun (n : Int) i => (n, i)) (s := 0) (n := es.length) (by omega) (fun j n h' => n = ((es.take j).countP fun e => wkB on e.tk : Nat) ∧ SG F0 h0 h' (sdL q lk mb M ts (curE (wkE on) es j) ++ Rs)) ⟨by simp, by rw [curE_0]; exact S⟩ (fun j n h' K hj hI next done => ?_) (fun n h' K hI done => ?_)
  · obtain ⟨rfl, S1⟩ := hI
    unfold sched_Sched_wake.b1
    have hjc : j < (curE (wkE on) es j).length := by rw [curE_length]; exact hj
    have hat : (curE (wkE on) es j)[j] = es[j] := by
      have := curE_at (wkE on) hj
      rw [List.getElem?_eq_getElem hjc] at this
      exact Option.some.inj this
    have hcount : (es.take (j + 1)).countP (fun e => wkB on e.tk) = (es.take j).countP (fun e => wkB on e.tk) + if wkB on es[j].tk then 1 else 0 := by
      rw [List.take_add_one, List.getElem?_eq_getElem hj, Option.toList_some, List.countP_append]
      simp [List.countP_singleton]
    have hle : (es.take j).countP (fun e => wkB on e.tk) ≤ j := Nat.le_trans List.countP_le_length (by simp; omega)
    refine ite_t (by show decide ((j : Int) < (ts.len : Int)) = true; rw [hlen]; exact clt_t hj) (jn_q (fun n' h2 => n' = ((es.take (j + 1)).countP fun e => wkB on e.tk : Nat) ∧ SG F0 h0 h2 (sdL q lk mb M ts (curE (wkE on) es (j + 1)) ++ Rs)) (fun K2 hK2 => ?_) fun n' h2 hI => next n' h2 hI)
    refine rd_some rfl (rd_some (by rw [add_mk]; exact varP.ld S1 fs_ts 0 rfl) ?_)
    obtain ⟨a, ha, h1⟩ := ldE fe_st S1 hjc
    obtain ⟨a2, ha2, h2⟩ := ldE fe_on S1 hjc
    have : a2 = a := by rw [ha] at ha2; exact (Option.some.inj ha2).symm
    subst this
    rw [hat] at h1 h2
    refine rd_some ha (jn_c (wkB on es[j].tk) h' (fun K3 hK3 => rd_some h1 ?_) ?_)
    · unfold wkB at hK3
      refine ite_b (fun c => rd_some h2 ?_) (fun c => ?_)
      · have c : (es[j].st == 3) = true := c
        have e : (es[j].tk.st == 3 && es[j].tk.on == on) = (es[j].on == on) := by show (es[j].st == 3 && es[j].on == on) = _; rw [c, Bool.true_and]
        rw [e] at hK3; exact hK3
      · have c : (es[j].st == 3) = false := c
        have e : (es[j].tk.st == 3 && es[j].tk.on == on) = false := by show (es[j].st == 3 && es[j].on == on) = _; rw [c, Bool.false_and]
        rw [e] at hK3; exact hK3
    · refine ite_b (fun c => ?_) (fun c => ?_)
      · have he : erow (wkE on es[j]) = { erow es[j] with f1 := 1 } := by unfold wkE; rw [if_pos c]; rfl
        obtain ⟨a3, h3, ha3, hs, S3⟩ := setE fe_st S1 hjc 1 (wkE on es[j]) (by rw [hat]; exact he) (by rw [hat]; exact wkE_f _ _)
        have : a3 = a2 := by rw [ha] at ha3; exact (Option.some.inj ha3).symm
        subst this
        refine rd_some hs (hK2 _ h3 ⟨?_, ?_⟩)
        · rw [hcount, if_pos c, wrap64_id (by omega) (by omega)]; omega
        · rw [curE_succ _ hj]; exact S3
      · refine hK2 _ h' ⟨?_, ?_⟩
        · rw [hcount, if_neg (by rw [c]; decide)]; omega
        · have : wkE on es[j] = es[j] := by unfold wkE; rw [if_neg (by rw [c]; decide)]
          rw [curE_succ _ hj, this]
          have e2 : (curE (wkE on) es j).set j es[j] = curE (wkE on) es j := by rw [← hat]; exact List.set_getElem_self hjc
          rw [e2]; exact S1
  · obtain ⟨rfl, S1⟩ := hI
    unfold sched_Sched_wake.b1
    refine ite_f (by show decide ((es.length : Int) < (ts.len : Int)) = false; rw [hlen]; exact clt_f (Nat.lt_irrefl _)) (done _ _ ?_)
    rw [curE_len] at S1
    have : (es.take es.length).countP (fun e => wkB on e.tk) = wakeN (es.map EN.tk) on := by rw [List.take_length]; unfold wakeN; rw [List.countP_map]; rfl
    have := k h' S1
    rw [show wakeN (es.map EN.tk) on = (es.take es.length).countP (fun e => wkB on e.tk) by rw [List.take_length]; unfold wakeN; rw [List.countP_map]; rfl] at this
    exact this
def setE1 (es : List EN) (n : Nat) (s : Int) : List EN := es.modify n fun e => { e with st := s }
theorem setE1_tk (es : List EN) (n : Nat) (s : Int) : (setE1 es n s).map EN.tk = setSt (es.map EN.tk) n s := by
  unfold setE1 setSt
  apply List.ext_getElem?
  intro i
  simp only [List.getElem?_map, List.getElem?_modify]
  cases es[i]? with
  | none => simp
  | some e => by_cases c : n = i <;> simp [c, EN.tk]
theorem modify_set {α : Type _} (f : α → α) : ∀ {l : List α} {n : Nat} (hn : n < l.length), l.modify n f = l.set n (f l[n]) := fun {l n} hn => by
  apply List.ext_getElem?
  intro i
  rw [List.getElem?_modify]
  by_cases c : n = i
  · subst c; rw [List.getElem?_set_self hn, List.getElem?_eq_getElem hn]; simp
  · rw [List.getElem?_set_ne c]; simp [c]
theorem modify_b (es : List EN) (n : Nat) (f : EN → EN) (hf : ∀ e, (f e).b = e.b) : (es.modify n f).map EN.b = es.map EN.b := by
  apply List.ext_getElem?
  intro i
  simp only [List.getElem?_map, List.getElem?_modify]
  cases es[i]? with
  | none => simp
  | some e => by_cases c : n = i <;> simp [c, hf]
def grantE (es : List EN) (l : List Int) : List EN := l.foldl (fun es n => setE1 es n.toNat 1) es
theorem grantE_tk : ∀ (l : List Int) (es : List EN), (grantE es l).map EN.tk = grantT (es.map EN.tk) l
  | [], es => rfl
  | n :: l, es => by
    show (grantE (setE1 es n.toNat 1) l).map EN.tk = grantT (setSt (es.map EN.tk) n.toNat 1) l
    rw [grantE_tk l, setE1_tk]
theorem grantE_b : ∀ (l : List Int) (es : List EN), (grantE es l).map EN.b = es.map EN.b
  | [], es => rfl
  | n :: l, es => by
    show (grantE (setE1 es n.toNat 1) l).map EN.b = _
    rw [grantE_b l]; exact modify_b es _ _ fun _ => rfl
theorem grantE_snoc (es : List EN) (l : List Int) (n : Int) : grantE es (l ++ [n]) = setE1 (grantE es l) n.toNat 1 := by unfold grantE; rw [List.foldl_append]; rfl
theorem grantE_length (es : List EN) (l : List Int) : (grantE es l).length = es.length := by
  have := congrArg List.length (grantE_b l es)
  simpa using this
/-- Those that got their locks go on. -/
theorem granted_spec {s : Sl} {l : List Int} (S : SG F0 h0 h (ownP (kI .i64) s l :: (sdL q lk mb M ts es ++ Rs))) (hl : l.length ≤ 1000000000) (ht : ∀ x ∈ l, ∃ n : Nat, x = n ∧ n < es.length) {Q : Unit → H → Prop} (k : ∀ h', SG F0 h0 h' (ownP (kI .i64) s l :: (sdL q lk mb M ts (grantE es l) ++ Rs)) → Q () h') : sched_Sched_granted (some ⟨q, 0, none⟩) s h Q := by
  unfold sched_Sched_granted
  have hs := ownP.len (K := kI .i64) S 0 rfl
  refine for0 (mk := fun (_ : Unit) i => i) (s := ()) (n := l.length) (by omega) (fun j _ h' => SG F0 h0 h' (ownP (kI .i64) s l :: (sdL q lk mb M ts (grantE es (l.take j)) ++ Rs))) S (fun j _ h' K hj S1 next done => ?_) (fun _ h' K S1 done => ?_)
  · unfold sched_Sched_granted.b1
    obtain ⟨n, hn, hnl⟩ := ht _ (List.getElem_mem hj)
    have S2 : SG F0 h0 h' (sdL q lk mb M ts (grantE es (l.take j)) ++ (ownP (kI .i64) s l :: Rs)) := S1.perm (List.perm_middle (l₁ := sdL q lk mb M ts (grantE es (l.take j)))).symm
    have hnc : n < (grantE es (l.take j)).length := by rw [grantE_length]; exact hnl
    refine ite_t (by rw [hs]; exact clt_t hj) ((ownP.rds (K := kI .i64) S1 0 rfl).elt0 hj rfl ?_)
    refine rd_some rfl (rd_some (by rw [add_mk]; exact varP.ld S1 fs_ts 1 rfl) ?_)
    obtain ⟨a, h3, ha, hst, S3⟩ := setE fe_st S2 hnc 1 { (grantE es (l.take j))[n] with st := 1 } rfl ⟨rfl, rfl⟩
    rw [hn]
    refine rd_some ha (rd_some hst (next () h3 ?_))
    have e : grantE es (l.take (j + 1)) = (grantE es (l.take j)).set n { (grantE es (l.take j))[n] with st := 1 } := by
      rw [List.take_add_one, List.getElem?_eq_getElem hj, Option.toList_some, grantE_snoc, hn]
      unfold setE1
      rw [Int.toNat_natCast, modify_set _ hnc]
    rw [e]
    exact S3.perm (List.perm_middle (l₁ := sdL q lk mb M ts _))
  · unfold sched_Sched_granted.b1
    refine ite_f (by rw [hs]; exact clt_f (Nat.lt_irrefl _)) (done _ _ (k h' ?_))
    rw [List.take_length] at S1; exact S1
end
end Go.Proofs.YtomngllmnhdmlaaGreat
/- (*spate/spatelaw12.Play).panics, as a predicate over the heap, and that the code comes to it. Printed by gen.py. -/
namespace Go.Proofs.YtomngllmnhdmlaaGreat
open Go Go.Tr
set_option linter.unusedVariables false
set_option maxRecDepth 100000
set_option maxHeartbeats 400000
/-- (*spate/spatelaw12.Play).panics -/
def spatelaw12_Play_panics (a0 : Option Addr) (a1 : Int) (h : H) (Q : Unit → H → Prop) : Prop :=
  if (a1 == (-99)) = true then
    rd a0 fun q1 =>
    rd (ld kL (q1.add 0) h) fun x1 =>
    rd a0 fun q2 =>
    rd (ld kL (q2.add 0) h) fun x2 =>
    rd (ixA 4 x1 (x2.len : Int)) fun q3 =>
    rd (ld (kI .i64) (q3.add 0) h) fun x3 =>
    rd a0 fun q4 =>
    rd (st (kI .i64) (q4.add 1) x3 h) fun h1 =>
    Q () h1
  else
    if (a1 == (-100)) = true then
      rd a0 fun q5 =>
      rd (ld kL (q5.add 0) h) fun x4 =>
      rd a0 fun q6 =>
      rd (ld kL (q6.add 0) h) fun x5 =>
      rd a0 fun q7 =>
      rd (ld (kI .i64) (q7.add 1) h) fun x6 =>
      rd (quoI .i64 x6 (IntKind.i64.wrap ((x4.len : Int) - (x5.len : Int)))) fun x7 =>
      rd a0 fun q8 =>
      rd (st (kI .i64) (q8.add 1) x7 h) fun h2 =>
      Q () h2
    else
      if (a1 == (-101)) = true then
        rd a0 fun q9 =>
        rd (ld (kI .i64) (q9.add 1) h) fun x8 =>
        rd (mup (kI .i64) .i64 none x8 1 h) fun h3 =>
        Q () h3
      else
        if (a1 == (-102)) = true then
          rd (none : Option Addr) fun q10 =>
          rd (ld (kI .i64) (q10.add 1) h) fun x9 =>
          rd a0 fun q11 =>
          rd (st (kI .i64) (q11.add 1) x9 h) fun h4 =>
          Q () h4
        else
          if (a1 == (-103)) = true then
            rd a0 fun q12 =>
            rd (ld kL (q12.add 0) h) fun x10 =>
            rd a0 fun q13 =>
            rd (ld kL (q13.add 0) h) fun x11 =>
            rd (slx 4 x10 (some (IntKind.i64.wrap ((x11.len : Int) + 1))) none none) fun x12 =>
            rd a0 fun q14 =>
            rd (st kL (q14.add 0) x12 h) fun h5 =>
            Q () h5
          else
            Q () h
theorem spatelaw12_Play_panics.sound {a0 : Option Addr} {a1 : Int} {h : H} {Q : Unit → H → Prop} (hF : spatelaw12_Play_panics a0 a1 h Q) :
    CallsH Tryz.prog 100 (List.toArray (α := Value) [.pointer a0, .int .i64 a1]) h fun v h' => ∃ x : Unit, v = .tuple #[] ∧ Q x h' := by
  refine CallsH.of_body Tryz.func100 rfl 79 rfl rfl ?_
  refine WP.seq ?_
  refine WP.region ?_
  refine EvK.pure (v := .int .i64 a1) (w_none rfl) rfl rfl (f_move rfl rfl) ?_
  refine EvK.nil ?_
  refine WP.block ?_
  refine WP.seq ?_
  refine WP.region ?_
  refine EvK.pure (v := .bool (a1 == (-99))) (w_none rfl) rfl rfl (f_eql rfl rfl rfl) ?_
  refine EvK.pure (v := .bool (a1 == (-99))) (w_none rfl) rfl rfl (f_assign rfl rfl) ?_
  refine EvK.nil ?_
  rcases ite_inv hF with ⟨c1, hF⟩ | ⟨c1, hF⟩
  · refine WP.cond_true _ rfl c1 ?_
    refine WP.draw mixed [.pure, .pure, .pure, .pure, .read, .pure, .pure, .pure, .read, .pure, .pure, .pure, .read, .pure, .pure, .eff []] [[], [], [1], [1, 2], [1, 2, 3], [], [5], [5, 6], [5, 6, 7], [5, 6, 7, 8], [1, 2, 3, 4, 5, 6, 7, 8, 9], [1, 2, 3, 4, 5, 6, 7, 8, 9, 10], [1, 2, 3, 4, 5, 6, 7, 8, 9, 10, 11], [0, 1, 2, 3, 4, 5, 6, 7, 8, 9, 10, 11, 12], [0, 1, 2, 3, 4, 5, 6, 7, 8, 9, 10, 11, 12, 13], [0, 1, 2, 3, 4, 5, 6, 7, 8, 9, 10, 11, 12, 13, 14]] [0, 1, 2, 3, 4, 5, 6, 7, 8, 9, 10, 11, 12, 13, 14, 15] (by kernel_rfl) (by kernel_rfl) ?_
    refine EvI.pure (v := .pointer a0) rfl rfl (w_none rfl) rfl (f_move rfl rfl) ?_
    refine EvI.pure (v := .pointer a0) rfl rfl (w_none rfl) rfl (f_move rfl rfl) ?_
    obtain ⟨q1, hq1, hF⟩ := hF
    refine EvI.pure (v := .pointer (some q1)) rfl rfl (w_none rfl) rfl (f_nilCheck rfl (congrArg Value.pointer hq1)) ?_
    refine EvI.pure (v := .pointer (some (q1.add 0))) rfl rfl (w_none rfl) rfl (f_fieldAddr fd37_0 rfl rfl) ?_
    obtain ⟨x1, hx1, hF⟩ := hF
    refine EvI.read (v := Sl.val x1) rfl rfl (w_none rfl) rfl (f_load kL ty34 rfl rfl hx1 rfl) ?_
    refine EvI.pure (v := .pointer a0) rfl rfl (w_none rfl) rfl (f_move rfl rfl) ?_
    obtain ⟨q2, hq2, hF⟩ := hF
    refine EvI.pure (v := .pointer (some q2)) rfl rfl (w_none rfl) rfl (f_nilCheck rfl (congrArg Value.pointer hq2)) ?_
    refine EvI.pure (v := .pointer (some (q2.add 0))) rfl rfl (w_none rfl) rfl (f_fieldAddr fd37_0 rfl rfl) ?_
    obtain ⟨x2, hx2, hF⟩ := hF
    refine EvI.read (v := Sl.val x2) rfl rfl (w_none rfl) rfl (f_load kL ty34 rfl rfl hx2 rfl) ?_
    refine EvI.pure (v := .int .i64 (x2.len : Int)) rfl rfl (w_none rfl) rfl (f_lenL (s := x2) Tryz.underlying34 rfl rfl) ?_
    obtain ⟨q3, hq3, hF⟩ := hF
    refine EvI.pure (v := .pointer (some q3)) rfl rfl (w_none rfl) rfl (f_indexAddr (s := x1) Tryz.underlying34 ty53.size rfl rfl rfl hq3) ?_
    refine EvI.pure (v := .pointer (some (q3.add 0))) rfl rfl (w_none rfl) rfl (f_fieldAddr fd53_0 rfl rfl) ?_
    obtain ⟨x3, hx3, hF⟩ := hF
    refine EvI.read (v := .int .i64 x3) rfl rfl (w_none rfl) rfl (f_load (kI .i64) ty3 rfl rfl hx3 rfl) ?_
    obtain ⟨q4, hq4, hF⟩ := hF
    refine EvI.pure (v := .pointer (some q4)) rfl rfl (w_none rfl) rfl (f_nilCheck rfl (congrArg Value.pointer hq4)) ?_
    refine EvI.pure (v := .pointer (some (q4.add 1))) rfl rfl (w_none rfl) rfl (f_fieldAddr fd37_1 rfl rfl) ?_
    obtain ⟨h1, hs1, hF⟩ := hF
    refine EvI.runN rfl rfl (w_none rfl) rfl (f_store (kI .i64) ty3.size (z := x3) rfl rfl rfl hs1) ?_
    rintro _ _ ⟨rfl, rfl⟩
    refine ⟨⟨chk_no rfl, chk_no rfl, chk_no rfl, trivial⟩, ?_⟩
    refine EvI.nil ?_
    exact Ret.mk (vs := []) () trivial rfl hF
  · refine WP.cond_false _ rfl c1 ?_
    refine WP.seq ?_
    refine WP.region ?_
    refine EvK.pure (v := .bool (a1 == (-100))) (w_none rfl) rfl rfl (f_eql rfl rfl rfl) ?_
    refine EvK.pure (v := .bool (a1 == (-100))) (w_none rfl) rfl rfl (f_assign rfl rfl) ?_
    refine EvK.nil ?_
    rcases ite_inv hF with ⟨c2, hF⟩ | ⟨c2, hF⟩
    · refine WP.cond_true _ rfl c2 ?_
      refine WP.seq ?_
      refine WP.draw mixed [.pure, .pure, .pure, .read, .pure, .pure, .pure, .pure, .read, .pure, .pure, .pure] [[], [0], [0, 1], [0, 1, 2], [0, 1, 2, 3], [], [5], [5, 6], [5, 6, 7], [5, 6, 7, 8], [0, 1, 2, 3, 4, 5, 6, 7, 8, 9], [0, 1, 2, 3, 4, 5, 6, 7, 8, 9, 10]] [0, 1, 2, 3, 4, 5, 6, 7, 8, 9, 10, 11] (by kernel_rfl) (by kernel_rfl) ?_
      refine EvI.pure (v := .pointer a0) rfl rfl (w_none rfl) rfl (f_move rfl rfl) ?_
      obtain ⟨q5, hq5, hF⟩ := hF
      refine EvI.pure (v := .pointer (some q5)) rfl rfl (w_none rfl) rfl (f_nilCheck rfl (congrArg Value.pointer hq5)) ?_
      refine EvI.pure (v := .pointer (some (q5.add 0))) rfl rfl (w_none rfl) rfl (f_fieldAddr fd37_0 rfl rfl) ?_
      obtain ⟨x4, hx4, hF⟩ := hF
      refine EvI.read (v := Sl.val x4) rfl rfl (w_none rfl) rfl (f_load kL ty34 rfl rfl hx4 rfl) ?_
      refine EvI.pure (v := .int .i64 (x4.len : Int)) rfl rfl (w_none rfl) rfl (f_lenL (s := x4) Tryz.underlying34 rfl rfl) ?_
      refine EvI.pure (v := .pointer a0) rfl rfl (w_none rfl) rfl (f_move rfl rfl) ?_
      obtain ⟨q6, hq6, hF⟩ := hF
      refine EvI.pure (v := .pointer (some q6)) rfl rfl (w_none rfl) rfl (f_nilCheck rfl (congrArg Value.pointer hq6)) ?_
      refine EvI.pure (v := .pointer (some (q6.add 0))) rfl rfl (w_none rfl) rfl (f_fieldAddr fd37_0 rfl rfl) ?_
      obtain ⟨x5, hx5, hF⟩ := hF
      refine EvI.read (v := Sl.val x5) rfl rfl (w_none rfl) rfl (f_load kL ty34 rfl rfl hx5 rfl) ?_
      refine EvI.pure (v := .int .i64 (x5.len : Int)) rfl rfl (w_none rfl) rfl (f_lenL (s := x5) Tryz.underlying34 rfl rfl) ?_
      refine EvI.pure (v := .int .i64 (IntKind.i64.wrap ((x4.len : Int) - (x5.len : Int)))) rfl rfl (w_none rfl) rfl (f_sub rfl rfl rfl) ?_
      refine EvI.pure (v := .int .i64 (IntKind.i64.wrap ((x4.len : Int) - (x5.len : Int)))) rfl rfl (w_none rfl) rfl (f_assign rfl rfl) ?_
      refine EvI.nil ?_
      refine WP.region ?_
      refine EvK.pure (v := .pointer a0) (w_none rfl) rfl rfl (f_move rfl rfl) ?_
      refine EvK.pure (v := .pointer a0) (w_none rfl) rfl rfl (f_move rfl rfl) ?_
      obtain ⟨q7, hq7, hF⟩ := hF
      refine EvK.pure (v := .pointer (some q7)) (w_none rfl) rfl rfl (f_nilCheck rfl (congrArg Value.pointer hq7)) ?_
      refine EvK.pure (v := .pointer (some (q7.add 1))) (w_none rfl) rfl rfl (f_fieldAddr fd37_1 rfl rfl) ?_
      obtain ⟨x6, hx6, hF⟩ := hF
      refine EvK.read (v := .int .i64 x6) (w_none rfl) rfl rfl (f_load (kI .i64) ty3 rfl rfl hx6 rfl) ?_
      refine EvK.pure (v := .int .i64 (IntKind.i64.wrap ((x4.len : Int) - (x5.len : Int)))) (w_none rfl) rfl rfl (f_move rfl rfl) ?_
      obtain ⟨x7, hx7, hF⟩ := hF
      refine EvK.pure (v := .int .i64 x7) (w_none rfl) rfl rfl (f_quo rfl rfl rfl hx7) ?_
      obtain ⟨q8, hq8, hF⟩ := hF
      refine EvK.pure (v := .pointer (some q8)) (w_none rfl) rfl rfl (f_nilCheck rfl (congrArg Value.pointer hq8)) ?_
      refine EvK.pure (v := .pointer (some (q8.add 1))) (w_none rfl) rfl rfl (f_fieldAddr fd37_1 rfl rfl) ?_
      obtain ⟨h2, hs2, hF⟩ := hF
      refine EvK.runN (w_none rfl) rfl (f_store (kI .i64) ty3.size (z := x7) rfl rfl rfl hs2) ?_
      rintro _ _ ⟨rfl, rfl⟩
      refine EvK.nil ?_
      exact Ret.mk (vs := []) () trivial rfl hF
    · refine WP.cond_false _ rfl c2 ?_
      refine WP.seq ?_
      refine WP.region ?_
      refine EvK.pure (v := .bool (a1 == (-101))) (w_none rfl) rfl rfl (f_eql rfl rfl rfl) ?_
      refine EvK.pure (v := .bool (a1 == (-101))) (w_none rfl) rfl rfl (f_assign rfl rfl) ?_
      refine EvK.nil ?_
      rcases ite_inv hF with ⟨c3, hF⟩ | ⟨c3, hF⟩
      · refine WP.cond_true _ rfl c3 ?_
        refine WP.seq ?_
        refine WP.region ?_
        refine EvK.pure (v := .map none) (w_none rfl) rfl rfl (f_assign rfl rfl) ?_
        refine EvK.nil ?_
        refine WP.region ?_
        refine EvK.pure (v := .map none) (w_none rfl) rfl rfl (f_move rfl rfl) ?_
        refine EvK.pure (v := .pointer a0) (w_none rfl) rfl rfl (f_move rfl rfl) ?_
        obtain ⟨q9, hq9, hF⟩ := hF
        refine EvK.pure (v := .pointer (some q9)) (w_none rfl) rfl rfl (f_nilCheck rfl (congrArg Value.pointer hq9)) ?_
        refine EvK.pure (v := .pointer (some (q9.add 1))) (w_none rfl) rfl rfl (f_fieldAddr fd37_1 rfl rfl) ?_
        obtain ⟨x8, hx8, hF⟩ := hF
        refine EvK.read (v := .int .i64 x8) (w_none rfl) rfl rfl (f_load (kI .i64) ty3 rfl rfl hx8 rfl) ?_
        obtain ⟨h3, hs3, hF⟩ := hF
        refine EvK.runN (w_none rfl) rfl (f_mapUpdate (K := (kI .i64)) (x := 1) mt120 rfl rfl rfl rfl hs3) ?_
        rintro _ _ ⟨rfl, rfl⟩
        refine EvK.nil ?_
        exact Ret.mk (vs := []) () trivial rfl hF
      · refine WP.cond_false _ rfl c3 ?_
        refine WP.seq ?_
        refine WP.region ?_
        refine EvK.pure (v := .bool (a1 == (-102))) (w_none rfl) rfl rfl (f_eql rfl rfl rfl) ?_
        refine EvK.pure (v := .bool (a1 == (-102))) (w_none rfl) rfl rfl (f_assign rfl rfl) ?_
        refine EvK.nil ?_
        rcases ite_inv hF with ⟨c4, hF⟩ | ⟨c4, hF⟩
        · refine WP.cond_true _ rfl c4 ?_
          refine WP.seq ?_
          refine WP.region ?_
          refine EvK.pure (v := .pointer none) (w_none rfl) rfl rfl (f_assign rfl rfl) ?_
          refine EvK.nil ?_
          refine WP.region ?_
          refine EvK.pure (v := .pointer a0) (w_none rfl) rfl rfl (f_move rfl rfl) ?_
          refine EvK.pure (v := .pointer none) (w_none rfl) rfl rfl (f_move rfl rfl) ?_
          obtain ⟨q10, hq10, hF⟩ := hF
          refine EvK.pure (v := .pointer (some q10)) (w_none rfl) rfl rfl (f_nilCheck rfl (congrArg Value.pointer hq10)) ?_
          refine EvK.pure (v := .pointer (some (q10.add 1))) (w_none rfl) rfl rfl (f_fieldAddr fd37_1 rfl rfl) ?_
          obtain ⟨x9, hx9, hF⟩ := hF
          refine EvK.read (v := .int .i64 x9) (w_none rfl) rfl rfl (f_load (kI .i64) ty3 rfl rfl hx9 rfl) ?_
          obtain ⟨q11, hq11, hF⟩ := hF
          refine EvK.pure (v := .pointer (some q11)) (w_none rfl) rfl rfl (f_nilCheck rfl (congrArg Value.pointer hq11)) ?_
          refine EvK.pure (v := .pointer (some (q11.add 1))) (w_none rfl) rfl rfl (f_fieldAddr fd37_1 rfl rfl) ?_
          obtain ⟨h4, hs4, hF⟩ := hF
          refine EvK.runN (w_none rfl) rfl (f_store (kI .i64) ty3.size (z := x9) rfl rfl rfl hs4) ?_
          rintro _ _ ⟨rfl, rfl⟩
          refine EvK.nil ?_
          exact Ret.mk (vs := []) () trivial rfl hF
        · refine WP.cond_false _ rfl c4 ?_
          refine WP.seq ?_
          refine WP.region ?_
          refine EvK.pure (v := .bool (a1 == (-103))) (w_none rfl) rfl rfl (f_eql rfl rfl rfl) ?_
          refine EvK.pure (v := .bool (a1 == (-103))) (w_none rfl) rfl rfl (f_assign rfl rfl) ?_
          refine EvK.nil ?_
          rcases ite_inv hF with ⟨c5, hF⟩ | ⟨c5, hF⟩
          · refine WP.cond_true _ rfl c5 ?_
            refine WP.draw mixed [.pure, .pure, .pure, .pure, .read, .pure, .pure, .pure, .read, .pure, .pure, .pure, .pure, .pure, .eff []] [[], [], [1], [1, 2], [1, 2, 3], [], [5], [5, 6], [5, 6, 7], [5, 6, 7, 8], [5, 6, 7, 8, 9], [1, 2, 3, 4, 5, 6, 7, 8, 9, 10], [0, 1, 2, 3, 4, 5, 6, 7, 8, 9, 10, 11], [0, 1, 2, 3, 4, 5, 6, 7, 8, 9, 10, 11, 12], [0, 1, 2, 3, 4, 5, 6, 7, 8, 9, 10, 11, 12, 13]] [0, 1, 2, 3, 4, 5, 6, 7, 8, 9, 10, 11, 12, 13, 14] (by kernel_rfl) (by kernel_rfl) ?_
            refine EvI.pure (v := .pointer a0) rfl rfl (w_none rfl) rfl (f_move rfl rfl) ?_
            refine EvI.pure (v := .pointer a0) rfl rfl (w_none rfl) rfl (f_move rfl rfl) ?_
            obtain ⟨q12, hq12, hF⟩ := hF
            refine EvI.pure (v := .pointer (some q12)) rfl rfl (w_none rfl) rfl (f_nilCheck rfl (congrArg Value.pointer hq12)) ?_
            refine EvI.pure (v := .pointer (some (q12.add 0))) rfl rfl (w_none rfl) rfl (f_fieldAddr fd37_0 rfl rfl) ?_
            obtain ⟨x10, hx10, hF⟩ := hF
            refine EvI.read (v := Sl.val x10) rfl rfl (w_none rfl) rfl (f_load kL ty34 rfl rfl hx10 rfl) ?_
            refine EvI.pure (v := .pointer a0) rfl rfl (w_none rfl) rfl (f_move rfl rfl) ?_
            obtain ⟨q13, hq13, hF⟩ := hF
            refine EvI.pure (v := .pointer (some q13)) rfl rfl (w_none rfl) rfl (f_nilCheck rfl (congrArg Value.pointer hq13)) ?_
            refine EvI.pure (v := .pointer (some (q13.add 0))) rfl rfl (w_none rfl) rfl (f_fieldAddr fd37_0 rfl rfl) ?_
            obtain ⟨x11, hx11, hF⟩ := hF
            refine EvI.read (v := Sl.val x11) rfl rfl (w_none rfl) rfl (f_load kL ty34 rfl rfl hx11 rfl) ?_
            refine EvI.pure (v := .int .i64 (x11.len : Int)) rfl rfl (w_none rfl) rfl (f_lenL (s := x11) Tryz.underlying34 rfl rfl) ?_
            refine EvI.pure (v := .int .i64 (IntKind.i64.wrap ((x11.len : Int) + 1))) rfl rfl (w_none rfl) rfl (f_add rfl rfl rfl) ?_
            obtain ⟨x12, hx12, hF⟩ := hF
            refine EvI.pure (v := Sl.val x12) rfl rfl (w_none rfl) rfl (f_slice Tryz.underlying34 ty53.size rfl rfl (bndV_some rfl) bndV_none bndV_none hx12) ?_
            obtain ⟨q14, hq14, hF⟩ := hF
            refine EvI.pure (v := .pointer (some q14)) rfl rfl (w_none rfl) rfl (f_nilCheck rfl (congrArg Value.pointer hq14)) ?_
            refine EvI.pure (v := .pointer (some (q14.add 0))) rfl rfl (w_none rfl) rfl (f_fieldAddr fd37_0 rfl rfl) ?_
            obtain ⟨h5, hs5, hF⟩ := hF
            refine EvI.runN rfl rfl (w_none rfl) rfl (f_store kL ty34.size (z := x12) rfl rfl rfl hs5) ?_
            rintro _ _ ⟨rfl, rfl⟩
            refine ⟨⟨chk_no rfl, chk_no rfl, trivial⟩, ?_⟩
            refine EvI.nil ?_
            exact Ret.mk (vs := []) () trivial rfl hF
          · refine WP.cond_false _ rfl c5 ?_
            refine WP.skip ?_
            exact Ret.mk (vs := []) () trivial rfl hF
end Go.Proofs.YtomngllmnhdmlaaGreat
/- (*spate/spatelaw12.Play).Step, as a predicate over the heap, and that the code comes to it. Printed by gen.py. -/
namespace Go.Proofs.YtomngllmnhdmlaaGreat
open Go Go.Tr
set_option linter.unusedVariables false
set_option maxRecDepth 100000
set_option maxHeartbeats 400000
/-- (*spate/spatelaw12.Play).Step -/
def spatelaw12_Play_Step (a0 : Option Addr) (h : H) (Q : S52 → H → Prop) : Prop :=
  al 53 (k52.enc z52) h fun q1 h1 =>
  al 53 (k52.enc z52) h1 fun q2 h2 =>
  rd (st k52 q2 (S52.mk 5 Sl.nil 0 Sl.nil) h2) fun h3 =>
  jn (fun (k1 : Unit → H → Prop) =>
    rd a0 fun q5 =>
    rd (ld (kI .i64) (q5.add 1) h3) fun x5 =>
    rd a0 fun q6 =>
    rd (ld kL (q6.add 0) h3) fun x6 =>
    if (decide (x5 < (x6.len : Int))) = true then
      rd a0 fun q7 =>
      rd (ld kL (q7.add 0) h3) fun x7 =>
      rd a0 fun q8 =>
      rd (ld (kI .i64) (q8.add 1) h3) fun x8 =>
      rd (ixA 4 x7 x8) fun q9 =>
      rd (ld k52 q9 h3) fun x9 =>
      rd (st k52 q2 x9 h3) fun h8 =>
      k1 () h8
    else
      k1 () h3) fun s1 h4 =>
  rd a0 fun q3 =>
  rd (ld (kI .i64) (q3.add 1) h4) fun x1 =>
  rd a0 fun q4 =>
  rd (st (kI .i64) (q4.add 1) (IntKind.i64.wrap (x1 + 1)) h4) fun h5 =>
  rd (ld (kI .i64) (q2.add 0) h5) fun x2 =>
  spatelaw12_Play_panics a0 x2 h5 fun r1 h6 =>
  rd (ld k52 q2 h6) fun x3 =>
  rd (st k52 q1 x3 h6) fun h7 =>
  rd (ld k52 q1 h7) fun x4 =>
  Q x4 h7
theorem spatelaw12_Play_Step.sound {a0 : Option Addr} {h : H} {Q : S52 → H → Prop} (hF : spatelaw12_Play_Step a0 h Q) :
    CallsH Tryz.prog 99 (List.toArray (α := Value) [.pointer a0]) h fun v h' => ∃ x : S52, v = k52.val x ∧ Q x h' := by
  refine CallsH.of_body Tryz.func99 rfl 37 rfl rfl ?_
  refine WP.seq ?_
  refine WP.region ?_
  refine EvK.alloc (w_none rfl) rfl rfl (f_allocF zero53 rfl rfl hF) ?_
  rintro _ h1 ⟨q1, rfl, hF⟩
  refine EvK.nil ?_
  refine WP.seq ?_
  refine WP.region ?_
  refine EvK.pure (v := k52.val (S52.mk 5 Sl.nil 0 Sl.nil)) (w_none rfl) rfl rfl (f_build (cells := k52.enc (S52.mk 5 Sl.nil 0 Sl.nil)) st53 rfl rfl rfl) ?_
  refine EvK.alloc (w_none rfl) rfl rfl (f_allocF zero53 rfl rfl hF) ?_
  rintro _ h2 ⟨q2, rfl, hF⟩
  obtain ⟨h3, hs1, hF⟩ := hF
  refine EvK.runN (w_none rfl) rfl (f_store k52 ty53.size (z := (S52.mk 5 Sl.nil 0 Sl.nil)) rfl rfl rfl hs1) ?_
  rintro _ _ ⟨rfl, rfl⟩
  refine EvK.nil ?_
  refine WP.joinF (fun (s1 : Unit) => [(0, .pointer a0), (2, .pointer (some q1)), (3, .pointer (some q2))]) hF ?_ ?_
  · intro s1 E0 h4 hF
    refine WP.seq ?_
    refine WP.region ?_
    refine EvK.pure (v := .pointer a0) (w_none rfl) rfl rfl (f_move rfl rfl) ?_
    obtain ⟨q3, hq1, hF⟩ := hF
    refine EvK.pure (v := .pointer (some q3)) (w_none rfl) rfl rfl (f_nilCheck rfl (congrArg Value.pointer hq1)) ?_
    refine EvK.pure (v := .pointer (some (q3.add 1))) (w_none rfl) rfl rfl (f_fieldAddr fd37_1 rfl rfl) ?_
    obtain ⟨x1, hx1, hF⟩ := hF
    refine EvK.read (v := .int .i64 x1) (w_none rfl) rfl rfl (f_load (kI .i64) ty3 rfl rfl hx1 rfl) ?_
    refine EvK.pure (v := .int .i64 (IntKind.i64.wrap (x1 + 1))) (w_none rfl) rfl rfl (f_add rfl rfl rfl) ?_
    obtain ⟨q4, hq2, hF⟩ := hF
    refine EvK.pure (v := .pointer (some q4)) (w_none rfl) rfl rfl (f_nilCheck rfl (congrArg Value.pointer hq2)) ?_
    refine EvK.pure (v := .pointer (some (q4.add 1))) (w_none rfl) rfl rfl (f_fieldAddr fd37_1 rfl rfl) ?_
    obtain ⟨h5, hs2, hF⟩ := hF
    refine EvK.runN (w_none rfl) rfl (f_store (kI .i64) ty3.size (z := IntKind.i64.wrap (x1 + 1)) rfl rfl rfl hs2) ?_
    rintro _ _ ⟨rfl, rfl⟩
    refine EvK.nil ?_
    refine WP.seq ?_
    refine WP.region ?_
    refine EvK.pure (v := .pointer a0) (w_none rfl) rfl rfl (f_move rfl rfl) ?_
    refine EvK.pure (v := .pointer (some (q2.add 0))) (w_none rfl) rfl rfl (f_fieldAddr fd53_0 rfl rfl) ?_
    obtain ⟨x2, hx2, hF⟩ := hF
    refine EvK.read (v := .int .i64 x2) (w_none rfl) rfl rfl (f_load (kI .i64) ty3 rfl rfl hx2 rfl) ?_
    refine EvK.call (w_none rfl) rfl rfl (enterH Tryz.func100 rfl rfl rfl rfl (spatelaw12_Play_panics.sound hF)) ?_
    rintro _ h6 ⟨r1, rfl, hF⟩
    refine EvK.nil ?_
    refine WP.seq ?_
    refine WP.region ?_
    obtain ⟨x3, hx3, hF⟩ := hF
    refine EvK.read (v := k52.val x3) (w_none rfl) rfl rfl (f_load k52 ty53 rfl rfl hx3 rfl) ?_
    obtain ⟨h7, hs3, hF⟩ := hF
    refine EvK.runN (w_none rfl) rfl (f_store k52 ty53.size (z := x3) rfl rfl rfl hs3) ?_
    rintro _ _ ⟨rfl, rfl⟩
    refine EvK.nil ?_
    refine WP.ret ?_
    obtain ⟨x4, hx4, hF⟩ := hF
    exact Ret.mk (vs := [k52.val x4]) x4 ⟨⟨_, rfl, fun c d => run_loadVar k52 ty53 hx4 c d⟩, trivial⟩ rfl hF
  · intro k1 hF
    refine WP.seq ?_
    refine WP.draw mixed [.pure, .pure, .pure, .read, .pure, .pure, .pure, .read, .pure, .pure] [[], [0], [0, 1], [0, 1, 2], [], [4], [4, 5], [4, 5, 6], [4, 5, 6, 7], [0, 1, 2, 3, 4, 5, 6, 7, 8]] [0, 1, 2, 3, 4, 5, 6, 7, 8, 9] (by kernel_rfl) (by kernel_rfl) ?_
    refine EvI.pure (v := .pointer a0) rfl rfl (w_none rfl) rfl (f_move rfl rfl) ?_
    obtain ⟨q5, hq3, hF⟩ := hF
    refine EvI.pure (v := .pointer (some q5)) rfl rfl (w_none rfl) rfl (f_nilCheck rfl (congrArg Value.pointer hq3)) ?_
    refine EvI.pure (v := .pointer (some (q5.add 1))) rfl rfl (w_none rfl) rfl (f_fieldAddr fd37_1 rfl rfl) ?_
    obtain ⟨x5, hx5, hF⟩ := hF
    refine EvI.read (v := .int .i64 x5) rfl rfl (w_none rfl) rfl (f_load (kI .i64) ty3 rfl rfl hx5 rfl) ?_
    refine EvI.pure (v := .pointer a0) rfl rfl (w_none rfl) rfl (f_move rfl rfl) ?_
    obtain ⟨q6, hq4, hF⟩ := hF
    refine EvI.pure (v := .pointer (some q6)) rfl rfl (w_none rfl) rfl (f_nilCheck rfl (congrArg Value.pointer hq4)) ?_
    refine EvI.pure (v := .pointer (some (q6.add 0))) rfl rfl (w_none rfl) rfl (f_fieldAddr fd37_0 rfl rfl) ?_
    obtain ⟨x6, hx6, hF⟩ := hF
    refine EvI.read (v := Sl.val x6) rfl rfl (w_none rfl) rfl (f_load kL ty34 rfl rfl hx6 rfl) ?_
    refine EvI.pure (v := .int .i64 (x6.len : Int)) rfl rfl (w_none rfl) rfl (f_lenL (s := x6) Tryz.underlying34 rfl rfl) ?_
    refine EvI.pure (v := .bool (decide (x5 < (x6.len : Int)))) rfl rfl (w_none rfl) rfl (f_lss rfl rfl rfl) ?_
    refine EvI.nil ?_
    rcases ite_inv hF with ⟨c1, hF⟩ | ⟨c1, hF⟩
    · refine WP.cond_true _ rfl c1 ?_
      refine WP.draw mixed [.pure, .pure, .pure, .read, .pure, .pure, .pure, .read, .pure, .read, .eff []] [[], [0], [0, 1], [0, 1, 2], [], [4], [4, 5], [4, 5, 6], [0, 1, 2, 3, 4, 5, 6, 7], [0, 1, 2, 3, 4, 5, 6, 7, 8], [0, 1, 2, 3, 4, 5, 6, 7, 8, 9]] [0, 1, 2, 3, 4, 5, 6, 7, 8, 9, 10] (by kernel_rfl) (by kernel_rfl) ?_
      refine EvI.pure (v := .pointer a0) rfl rfl (w_none rfl) rfl (f_move rfl rfl) ?_
      obtain ⟨q7, hq5, hF⟩ := hF
      refine EvI.pure (v := .pointer (some q7)) rfl rfl (w_none rfl) rfl (f_nilCheck rfl (congrArg Value.pointer hq5)) ?_
      refine EvI.pure (v := .pointer (some (q7.add 0))) rfl rfl (w_none rfl) rfl (f_fieldAddr fd37_0 rfl rfl) ?_
      obtain ⟨x7, hx7, hF⟩ := hF
      refine EvI.read (v := Sl.val x7) rfl rfl (w_none rfl) rfl (f_load kL ty34 rfl rfl hx7 rfl) ?_
      refine EvI.pure (v := .pointer a0) rfl rfl (w_none rfl) rfl (f_move rfl rfl) ?_
      obtain ⟨q8, hq6, hF⟩ := hF
      refine EvI.pure (v := .pointer (some q8)) rfl rfl (w_none rfl) rfl (f_nilCheck rfl (congrArg Value.pointer hq6)) ?_
      refine EvI.pure (v := .pointer (some (q8.add 1))) rfl rfl (w_none rfl) rfl (f_fieldAddr fd37_1 rfl rfl) ?_
      obtain ⟨x8, hx8, hF⟩ := hF
      refine EvI.read (v := .int .i64 x8) rfl rfl (w_none rfl) rfl (f_load (kI .i64) ty3 rfl rfl hx8 rfl) ?_
      obtain ⟨q9, hq7, hF⟩ := hF
      refine EvI.pure (v := .pointer (some q9)) rfl rfl (w_none rfl) rfl (f_indexAddr (s := x7) Tryz.underlying34 ty53.size rfl rfl rfl hq7) ?_
      obtain ⟨x9, hx9, hF⟩ := hF
      refine EvI.read (v := k52.val x9) rfl rfl (w_none rfl) rfl (f_load k52 ty53 rfl rfl hx9 rfl) ?_
      obtain ⟨h8, hs4, hF⟩ := hF
      refine EvI.runN rfl rfl (w_none rfl) rfl (f_store k52 ty53.size (z := x9) rfl rfl rfl hs4) ?_
      rintro _ _ ⟨rfl, rfl⟩
      refine ⟨⟨chk_no rfl, chk_no rfl, chk_no rfl, trivial⟩, ?_⟩
      refine EvI.nil ?_
      exact KE.mk () ⟨rfl, rfl, rfl, trivial⟩ hF
    · refine WP.cond_false _ rfl c1 ?_
      refine WP.skip ?_
      exact KE.mk () ⟨rfl, rfl, rfl, trivial⟩ hF
end Go.Proofs.YtomngllmnhdmlaaGreat
/- Calls that may panic; functions that defer one call. -/
namespace Go.Tr
open Go
set_option linter.unusedVariables false

/-- What a call comes to, where it may panic. -/
def CallsP (P : Program) (f : FuncId) (args : Array Value) (h : H) (Q : Value → H → Prop) (D : H → Prop) : Prop :=
  ∀ (c : Ctx) (d : Nat), Calls P f args (c.w h d) fun e w' => (∃ v h' d', e = .returned v ∧ w' = c.w h' d' ∧ Q v h') ∨ (∃ ty x h' d', e = .panicked [{ v := .iface ty x, recovered := false }] ∧ w' = c.w h' d' ∧ D h')
theorem CallsP.mono {P : Program} {f : FuncId} {args : Array Value} {h : H} {Q Q' : Value → H → Prop} {D D' : H → Prop} (hc : CallsP P f args h Q D) (hq : ∀ v h', Q v h' → Q' v h') (hd : ∀ h', D h' → D' h') : CallsP P f args h Q' D' :=
  fun c d => (hc c d).mono fun _ _ r => r.imp (fun ⟨v, h', d', a, b, q⟩ => ⟨v, h', d', a, b, hq _ _ q⟩) (fun ⟨ty, x, h', d', a, b, q⟩ => ⟨ty, x, h', d', a, b, hd _ q⟩)
theorem CallsH.toP {P : Program} {f : FuncId} {args : Array Value} {h : H} {Q : Value → H → Prop} {D : H → Prop} (hc : CallsH P f args h Q) : CallsP P f args h Q D :=
  fun c d => (hc c d).mono fun _ _ ⟨v, h', d', a, b, q⟩ => .inl ⟨v, h', d', a, b, q⟩
def bodyP (P : Program) (fn : Func) (Q : Value → H → Prop) (D : H → Prop) : QE
  | .normal, E, h | .ret, E, h => ∃ vs, ResOK P E h fn.results.toList vs ∧ Q (tupleOf vs) h
  | .panic ch, E, h => (∃ ty x, ch = [{ v := .iface ty x, recovered := false }]) ∧ D h
  | _, _, _ => False
theorem argSt {args : List Value} {n : Nat} {fn : Func} (hn : fn.ntmps = n) (ha : args.length ≤ n) : St ⟨n, []⟩ (argE args) { tmps := args.toArray ++ Array.replicate (fn.ntmps - args.toArray.size) undef, defers := [] } := by
  refine ⟨rfl, by simp; omega, fun t => ?_⟩
  simp only [argE, Array.getD_eq_getD_getElem?, Array.getElem?_append, List.getD_eq_getElem?_getD]
  simp only [List.size_toArray, List.getElem?_toArray, Array.getElem?_replicate]
  by_cases ht : t < args.length
  · rw [if_pos ht]
  · rw [if_neg ht, List.getElem?_eq_none (by omega)]
    split <;> rfl
theorem CallsP.of_body {P : Program} {f : FuncId} {fn : Func} {cd : Code} {args : List Value} {h : H} {Q : Value → H → Prop} {D : H → Prop}
    (hf : P.funcs[f]? = some fn) (hb : fn.body = some cd) (n : Nat) (hn : fn.ntmps = n) (ha : Nat.ble args.length n = true)
    (hh : WP P ⟨n, []⟩ cd (bodyP P fn Q D) (argE args) h) : CallsP P f args.toArray h Q D := by
  intro c d
  have ha := Nat.le_of_ble_eq_true ha
  refine calls_of_wp hf hb ?_
  refine wp_mono (hh c d _ (argSt hn ha)) ?_
  rintro e a' w' ⟨E', h', d', rfl, s', q⟩
  cases e with
  | normal => obtain ⟨vs, hr, hq⟩ := q; exact ⟨s'.defers, _, results_run s'.tmps hr _ _, .inl ⟨_, h', d', rfl, rfl, hq⟩⟩
  | ret => obtain ⟨vs, hr, hq⟩ := q; exact ⟨s'.defers, _, results_run s'.tmps hr _ _, .inl ⟨_, h', d', rfl, rfl, hq⟩⟩
  | panic ch => obtain ⟨⟨ty, x, rfl⟩, hD⟩ := q; exact ⟨s'.defers, .inr ⟨ty, x, h', d', rfl, rfl, hD⟩⟩
  | _ => exact q.elim

theorem wpList_pre {P : Program} {n : NN} {ops : Array Oper} {K : Env → H → Prop} {c : Ctx} {Q : Exit → Act → World → Prop} {rest : List Oper}
    (hK : ∀ E h d a, K E h → St n E a → wpList P ops Q rest a (c.w h d)) :
    ∀ (l : List Oper) (E : Env) (h : H) (d : Nat) (a : Act), St n E a → EvK P n ops l E h K → wpList P ops Q (l ++ rest) a (c.w h d)
  | [], _, _, _, _, s, h => hK _ _ _ _ h s
  | o :: l, E, h, d, a, s, hh => by
    rw [List.cons_append]
    unfold wpList
    rw [s.yielded]
    have h2 := hh.2
    split <;> rename_i hw
    · rw [if_pos hw] at h2
      exact .inl (Oper.wp_of_stepH s h2 fun v h' d' q => wpList_pre hK l _ _ _ _ (s.put _ _ hh.1) q)
    · rw [if_neg hw] at h2
      exact wpList_pre hK l _ _ _ _ (s.put _ _ hh.1) h2
/-- An operation that calls, and the call panics. -/
def DiesH (P : Program) (s : Sem Next) (h : H) (D : H → Prop) : Prop :=
  ∃ f args, (∀ (c : Ctx) (d : Nat), ∃ d', s.run P (c.w h d) = .ok (.enter f args) (c.w h d')) ∧ CallsP P f args h (fun _ _ => False) D
theorem WP.regionDies {P : Program} {n : NN} {Q : QE} {E : Env} {h : H} {id : Nat} (l : List Oper) (o : Oper) (r : List Oper) {D : Env → H → Prop}
    (hh : EvK P n (l ++ o :: r).toArray l E h fun E h => Region.wanted o (yE (l ++ o :: r).toArray E) = true ∧ DiesH P (execOp (evE E) o) h (D E)) (hD : ∀ ty x E h, D E h → Q (.panic [{ v := .iface ty x, recovered := false }]) E h) :
    WP P n (.region id (l ++ o :: r).toArray false) Q E h := fun c d a s => by
  refine wp_region_lit (wpList_pre (K := fun E h => Region.wanted o (yE (l ++ o :: r).toArray E) = true ∧ DiesH P (execOp (evE E) o) h (D E)) (fun E' h' d' a' q s' => ?_) l E h d a s hh)
  obtain ⟨hw, f, args, he, hc⟩ := q
  unfold wpList
  rw [s'.yielded, if_pos hw]
  refine .inl ?_
  unfold Oper.wp
  rw [s'.eval]
  obtain ⟨d2, e⟩ := he c d'
  rw [e, Oper.upon_enter]
  refine (hc c d2).mono ?_
  rintro _ _ (⟨v, h2, d3, rfl, rfl, q⟩ | ⟨ty, x, h2, d3, rfl, rfl, q⟩)
  · exact q.elim
  · exact ⟨E', h2, d3, rfl, s', hD ty x E' h2 q⟩

/-! ### a function that defers one call -/
def WPd (P : Program) (n n' : NN) (cd : Code) (Q : QE) (E : Env) (h : H) : Prop :=
  ∀ (c : Ctx) (d : Nat) (a : Act), St n E a → cd.wp P (fun e a' w' => ∃ E' h' d', w' = c.w h' d' ∧ St n' E' a' ∧ Q e E' h') a (c.w h d)
def onlyE (K : Env → H → Prop) : QE
  | .normal, E, h => K E h
  | _, _, _ => False
section
variable {P : Program} {n n' : NN} {Q : QE} {E : Env} {h : H}
theorem WPd.pre {x y : Code} (hh : WP P n x (onlyE (WPd P n n' y Q)) E h) : WPd P n n' (.seq x y) Q E h := fun c d a s => by
  refine wp_seq (wp_mono (hh c d a s) ?_)
  rintro e a' w' ⟨E', h', d', rfl, s', q⟩
  cases e with
  | normal => exact q c d' a' s'
  | _ => exact q.elim
def DeferAt (P : Program) (s : Sem Next) (x : Deferred) : Prop := ∀ w : World, s.run P w = .ok (.defer x) w
theorem WPd.defer {id : Nat} {y : Code} (l : List Oper) (o : Oper) {x : Deferred} (hd : o.dst = none)
    (hh : EvK P n (l ++ [o]).toArray l E h fun E h => Region.wanted o (yE (l ++ [o]).toArray E) = true ∧ DeferAt P (execOp (evE E) o) x ∧ WP P ⟨n.k, x :: n.ds⟩ y Q E h) : WPd P n ⟨n.k, x :: n.ds⟩ (.seq (.region id (l ++ [o]).toArray false) y) Q E h := fun c d a s => by
  refine wp_seq (wp_region_lit (wpList_pre (K := fun E h => Region.wanted o (yE (l ++ [o]).toArray E) = true ∧ DeferAt P (execOp (evE E) o) x ∧ WP P ⟨n.k, x :: n.ds⟩ y Q E h) (fun E' h' d' a' q s' => ?_) l E h d a s hh))
  obtain ⟨hw, he, hc⟩ := q
  unfold wpList
  rw [s'.yielded, if_pos hw]
  refine .inl ?_
  unfold Oper.wp
  rw [s'.eval, he, Oper.upon_defer, hd]
  unfold wpList
  refine hc c d' _ ⟨?_, ?_, ?_⟩
  · show x :: a'.defers = x :: n.ds
    rw [s'.defers]
  · exact s'.size
  · exact s'.tmps
theorem WPd.deferL {id : Nat} {y : Code} {L : List Oper} {o : Oper} {x : Deferred} (hL : L.getLast? = some o) (hd : o.dst = none)
    (hh : EvK P n L.toArray L.dropLast E h fun E h => Region.wanted o (yE L.toArray E) = true ∧ DeferAt P (execOp (evE E) o) x ∧ WP P ⟨n.k, x :: n.ds⟩ y Q E h) : WPd P n ⟨n.k, x :: n.ds⟩ (.seq (.region id L.toArray false) y) Q E h := by
  obtain ⟨l, rfl⟩ := List.getLast?_eq_some_iff.1 hL
  rw [List.dropLast_concat] at hh
  exact WPd.defer l o hd hh
theorem f_defer {o : Oper} {f : FuncId} {args : Array Operand} {ats : Array TypeId} {vs : List Value} (ho : o.op = .defer { callee := .value (.func f), args := args, argTypes := ats }) (hv : args.toList.map (evE E) = vs) :
    DeferAt P (execOp (evE E) o) ⟨.fn (.func f) #[], vs.toArray⟩ := fun w => by
  have hv : args.map (evE E) = vs.toArray := by rw [← hv]; apply Array.ext'; simp
  simp only [execOp, ho, resolve, evE, Deferred.ofValue, Sem.run_bind, Sem.run_pure, Result.andThen_ok, hv, Array.empty_append]
theorem run_invoke_func {f : FuncId} {fn : Func} (hf : P.funcs[f]? = some fn) (hnm : (fn.name == "runtime.NumGoroutine") = false) (hb : fn.body.isNone = false) (args : Array Value) (w : World) : (invoke (.fn (.func f) #[]) args).run P w = .ok (.enter f args) w := by
  simp only [invoke, callFunc, Sem.run_bind, run_program, hf, hnm, hb, Bool.false_eq_true, if_false, Array.append_empty, Result.andThen_ok, Sem.run_pure]
/-- What was deferred, called at the end. -/
def Undo (P : Program) (x : Deferred) (h : H) (K : H → Prop) : Prop :=
  ∃ fv cap f args, x.target = .fn fv cap ∧ (∀ w : World, (invoke x.target x.args).run P w = .ok (.enter f args) w) ∧ ∀ (c : Ctx) (d : Nat), CallsD P f args .returning (c.w h d) fun e u' w' => u' = .returning ∧ ∃ v h' d', e = .returned v ∧ w' = c.w h' d' ∧ K h'
theorem Undo.mono {x : Deferred} {K K' : H → Prop} (u : Undo P x h K) (k : ∀ h', K h' → K' h') : Undo P x h K' := by
  obtain ⟨fv, cap, f, args, a, b, c⟩ := u
  exact ⟨fv, cap, f, args, a, b, fun C d => (c C d).mono fun _ _ _ ⟨e1, v, h', d', e2, e3, q⟩ => ⟨e1, v, h', d', e2, e3, k _ q⟩⟩
def bodyD (P : Program) (fn : Func) (x : Deferred) (Q : Value → H → Prop) : QE
  | .normal, E, h | .ret, E, h => Undo P x h fun h' => ∃ vs, ResOK P E h' fn.results.toList vs ∧ Q (tupleOf vs) h'
  | _, _, _ => False
theorem CallsH.of_bodyD {f : FuncId} {fn : Func} {cd : Code} {args : List Value} {Q : Value → H → Prop} (x : Deferred)
    (hf : P.funcs[f]? = some fn) (hb : fn.body = some cd) (k : Nat) (hn : fn.ntmps = k) (ha : Nat.ble args.length k = true)
    (hh : WPd P ⟨k, []⟩ ⟨k, [x]⟩ cd (bodyD P fn x Q) (argE args) h) : CallsH P f args.toArray h Q := by
  intro c d
  have ha := Nat.le_of_ble_eq_true ha
  refine calls_of_wp_defers hf hb ?_
  refine wp_mono (hh c d _ (argSt hn ha)) ?_
  have key : ∀ (E' : Env) (h' : H) (d' : Nat) (a' : Act), St ⟨k, [x]⟩ E' a' → Undo P x h' (fun h' => ∃ vs, ResOK P E' h' fn.results.toList vs ∧ Q (tupleOf vs) h') → Leaves P fn a'.tmps (fun e w' => ∃ v h' d', e = .returned v ∧ w' = c.w h' d' ∧ Q v h') a'.defers .returning (c.w h' d') := by
    intro E' h' d' a' s' q
    rw [s'.defers]
    obtain ⟨fv, cap, f2, args2, ht, hi, hc⟩ := q
    refine ⟨by simp, fv, cap, f2, args2, ht, hi _, (hc c d').mono ?_⟩
    rintro e u' w' ⟨rfl, v, h2, d2, rfl, rfl, vs, hr, hq⟩
    exact ⟨_, results_run s'.tmps hr c d2, _, h2, d2, rfl, rfl, hq⟩
  rintro e a' w' ⟨E', h', d', rfl, s', q⟩
  cases e with
  | normal => exact key E' h' d' a' s' q
  | ret => exact key E' h' d' a' s' q
  | _ => exact q.elim
theorem diesH {o : Oper} {f : FuncId} {fn : Func} {args : Array Operand} {ats : Array TypeId} {vs : List Value} {D : H → Prop} (hf : P.funcs[f]? = some fn) (hnm : (fn.name == "runtime.NumGoroutine") = false) (hb : fn.body.isNone = false)
    (ho : o.op = .call { callee := .value (.func f), args := args, argTypes := ats }) (hv : args.toList.map (evE E) = vs) (hc : CallsP P f vs.toArray h (fun _ _ => False) D) : DiesH P (execOp (evE E) o) h D :=
  have hv : args.map (evE E) = vs.toArray := by rw [← hv]; apply Array.ext'; simp
  ⟨f, vs.toArray, fun c d => ⟨d, by simp only [execOp, ho, resolve, evE, Deferred.ofValue, Sem.run_bind, Sem.run_pure, Result.andThen_ok, invoke, callFunc, run_program, hf, hnm, hb, Bool.false_eq_true, if_false, Array.append_empty, Array.empty_append, hv]⟩, hc⟩
theorem WP.regionDiesL {id : Nat} {L : List Oper} {o : Oper} {D : Env → H → Prop} (hL : L.getLast? = some o)
    (hh : EvK P n L.toArray L.dropLast E h fun E h => Region.wanted o (yE L.toArray E) = true ∧ DiesH P (execOp (evE E) o) h (D E)) (hD : ∀ ty x E h, D E h → Q (.panic [{ v := .iface ty x, recovered := false }]) E h) :
    WP P n (.region id L.toArray false) Q E h := by
  obtain ⟨l, rfl⟩ := List.getLast?_eq_some_iff.1 hL
  rw [List.dropLast_concat] at hh
  exact WP.regionDies l o [] hh hD

theorem WP.regionDiesI {id : Nat} {L : List Oper} (i : Nat) {o : Oper} {D : Env → H → Prop} (hL : L[i]? = some o)
    (hh : EvK P n L.toArray (L.take i) E h fun E h => Region.wanted o (yE L.toArray E) = true ∧ DiesH P (execOp (evE E) o) h (D E)) (hD : ∀ ty x E h, D E h → Q (.panic [{ v := .iface ty x, recovered := false }]) E h) :
    WP P n (.region id L.toArray false) Q E h := by
  obtain ⟨hi, rfl⟩ := List.getElem?_eq_some_iff.1 hL
  have e : L = L.take i ++ L[i] :: L.drop (i + 1) := by rw [← List.drop_eq_getElem_cons hi, List.take_append_drop]
  have := WP.regionDies (P := P) (n := n) (Q := Q) (E := E) (h := h) (id := id) (L.take i) L[i] (L.drop (i + 1)) (D := D) (by rw [← e]; exact hh) hD
  rw [← e] at this; exact this
/-! ### a function that defers a closure which recovers -/
def UndoR (P : Program) (x : Deferred) (ty : TypeId) (v : Value) (h : H) (K : H → Prop) : Prop :=
  ∃ fv cap f args, x.target = .fn fv cap ∧ (∀ w : World, (invoke x.target x.args).run P w = .ok (.enter f args) w) ∧ ∀ (c : Ctx) (d : Nat), CallsD P f args (.panicking [{ v := .iface ty v, recovered := false }]) (c.w h d) fun e u' w' => u' = .panicking [{ v := .iface ty v, recovered := true }] ∧ ∃ r h' d', e = .returned r ∧ w' = c.w h' d' ∧ K h'
def bodyR (P : Program) (fn : Func) (x : Deferred) (Q : Value → H → Prop) : QE
  | .normal, E, h | .ret, E, h => Undo P x h fun h' => ∃ vs, ResOK P E h' fn.results.toList vs ∧ Q (tupleOf vs) h'
  | .panic ch, E, h => ∃ ty v, ch = [{ v := .iface ty v, recovered := false }] ∧ UndoR P x ty v h fun h' => ∃ vs, ResOK P E h' fn.results.toList vs ∧ Q (tupleOf vs) h'
  | _, _, _ => False
theorem CallsH.of_bodyR {f : FuncId} {fn : Func} {cd : Code} {args : List Value} {Q : Value → H → Prop} (x : Deferred)
    (hf : P.funcs[f]? = some fn) (hb : fn.body = some cd) (k : Nat) (hn : fn.ntmps = k) (ha : Nat.ble args.length k = true)
    (hh : WPd P ⟨k, []⟩ ⟨k, [x]⟩ cd (bodyR P fn x Q) (argE args) h) : CallsH P f args.toArray h Q := by
  intro c d
  have ha := Nat.le_of_ble_eq_true ha
  refine calls_of_wp_defers hf hb ?_
  refine wp_mono (hh c d _ (argSt hn ha)) ?_
  have key : ∀ (E' : Env) (h' : H) (d' : Nat) (a' : Act), St ⟨k, [x]⟩ E' a' → Undo P x h' (fun h' => ∃ vs, ResOK P E' h' fn.results.toList vs ∧ Q (tupleOf vs) h') → Leaves P fn a'.tmps (fun e w' => ∃ v h' d', e = .returned v ∧ w' = c.w h' d' ∧ Q v h') a'.defers .returning (c.w h' d') := by
    intro E' h' d' a' s' q
    rw [s'.defers]
    obtain ⟨fv, cap, f2, args2, ht, hi, hc⟩ := q
    refine ⟨by simp, fv, cap, f2, args2, ht, hi _, (hc c d').mono ?_⟩
    rintro e u' w' ⟨rfl, v, h2, d2, rfl, rfl, vs, hr, hq⟩
    exact ⟨_, results_run s'.tmps hr c d2, _, h2, d2, rfl, rfl, hq⟩
  rintro e a' w' ⟨E', h', d', rfl, s', q⟩
  cases e with
  | normal => exact key E' h' d' a' s' q
  | ret => exact key E' h' d' a' s' q
  | panic ch =>
    obtain ⟨ty, v, rfl, fv, cap, f2, args2, ht, hi, hc⟩ := q
    show Leaves P fn a'.tmps _ a'.defers _ _
    rw [s'.defers]
    refine ⟨by simp, fv, cap, f2, args2, ht, hi _, (hc c d').mono ?_⟩
    rintro e u' w' ⟨rfl, r, h2, d2, rfl, rfl, vs, hr, hq⟩
    show Leaves P fn a'.tmps _ [] (settle _) _
    exact ⟨_, results_run s'.tmps hr c d2, _, h2, d2, rfl, rfl, hq⟩
  | _ => exact q.elim
theorem f_deferV {o : Oper} {x : Operand} {f : FuncId} {cap : List Value} (ho : o.op = .defer { callee := .value x, args := #[], argTypes := #[] }) (hx : evE E x = FV.val (some ⟨.func f, #[], cap.toArray⟩)) :
    DeferAt P (execOp (evE E) o) ⟨.fn (.func f) cap.toArray, #[]⟩ := fun w => by
  simp only [execOp, ho, resolve, hx, FV.val, Deferred.ofValue, Sem.run_bind, Sem.run_pure, Result.andThen_ok]
  simp
theorem run_invoke_cap {f : FuncId} {fn : Func} {cap : List Value} (hf : P.funcs[f]? = some fn) (hnm : (fn.name == "runtime.NumGoroutine") = false) (hb : fn.body.isNone = false) (w : World) : (invoke (.fn (.func f) cap.toArray) #[]).run P w = .ok (.enter f cap.toArray) w := by
  simp only [invoke, callFunc, Sem.run_bind, run_program, hf, hnm, hb, Bool.false_eq_true, if_false, Array.empty_append, Result.andThen_ok, Sem.run_pure]
/-- A call through an interface. -/
theorem f_invoke {o : Oper} {x : Operand} {name : String} {ty : TypeId} {v : Value} {f : FuncId} {fn : Func} (hf : P.funcs[f]? = some fn) (hnm : (fn.name == "runtime.NumGoroutine") = false) (hb : fn.body.isNone = false)
    (hm : ∀ w : World, (method (P.types.size + Made.depth) ty v name).run P w = .ok (f, v) w) (ho : o.op = .call { callee := .invoke x name, args := #[], argTypes := #[] }) (hx : evE E x = .iface ty v) (c : Ctx) (d : Nat) : (execOp (evE E) o).run P (c.w h d) = .ok (.enter f [v].toArray) (c.w h d) := by
  have h1 : fn.name ≠ "runtime.NumGoroutine" := by simpa using hnm
  have h2 : fn.body ≠ none := by intro e; rw [e] at hb; cases hb
  simp [execOp, ho, resolve, hx, Sem.run_bind, Sem.run_pure, Result.andThen_ok, invoke, callMethod, run_program, hm, callFunc, hf, h1, h2]
end
end Go.Tr
/- The five ways in which a play's step panics: whatever the tape, the heap stays. -/
namespace Go.Proofs.YtomngllmnhdmlaaGreat
open Go Go.Tr
set_option linter.unusedVariables false
/-- The world, but for how many draws were made. -/
def Sam (w w' : World) : Prop := ∃ n, w' = { w with drawn := n }
theorem Sam.refl (w : World) : Sam w w := ⟨w.drawn, rfl⟩
theorem Sam.trans {a b c : World} (x : Sam a b) (y : Sam b c) : Sam a c := by
  obtain ⟨n, rfl⟩ := x; obtain ⟨m, rfl⟩ := y; exact ⟨m, rfl⟩
theorem Sam.drew (w : World) : Sam w w.drew := ⟨_, rfl⟩
section
variable {P : Program} {w : World}
theorem boundsPanic_same {α : Type} (k : IntKind) (x y : Int) (code : BoundsCode) :
    ∃ s w', (boundsPanic k x y code : Sem α).run P w = .halt (.panic (boundsValue P (IntKind.i64.wrap x) y s code.toNat)) w' ∧ Sam w w' := by
  unfold boundsPanic boundsValue
  split
  · refine ⟨_, w.drew, by simp [runtimePanic, goPanic, go_sem]; rfl, Sam.drew w⟩
  · refine ⟨k != .u64, w, by simp [runtimePanic, goPanic, go_sem], Sam.refl w⟩
theorem indexAt_same (t : TypeId) (a0 : Option Addr) (len cap : Nat) (k : IntKind) (i : Int) (h : P.underlying t = some (.slice (P.elem t))) (hnil : a0 = none → len = 0) (ho : i < 0 ∨ (len : Int) ≤ i) :
    ∃ s w', (Instr.indexAt t (.slice a0 len cap) (.int k i)).run P w = .halt (.panic (boundsValue P (IntKind.i64.wrap i) len s 0)) w' ∧ Sam w w' := by
  cases a0 with
  | some a =>
    rw [run_indexAt_slice (h := h), if_neg (by omega)]
    exact boundsPanic_same k i len .index
  | none =>
    obtain rfl := hnil rfl
    have e : (Instr.indexAt t (.slice none 0 cap) (.int k i)).run P w = (boundsPanic k i 0 .index).run P w := by
      simp [Instr.indexAt, run_underlying h, asIntOf]
    rw [e]
    exact boundsPanic_same k i 0 .index
theorem slice_same (t e : TypeId) (a : Option Addr) (len cap : Nat) (k : IntKind) (l : Int) (h : P.underlying t = some (.slice e)) (ho : l < 0 ∨ (len : Int) < l) :
    ∃ s w', (Instr.slice t (.slice a len cap) (some (.int k l)) none none).run P w = .halt (.panic (boundsValue P (IntKind.i64.wrap l) len s 3)) w' ∧ Sam w w' := by
  obtain ⟨s, w', e1, hs⟩ := boundsPanic_same (P := P) (w := w) (α := Nat) k l len .sliceB
  refine ⟨s, w', ?_, hs⟩
  have hn : ¬ (0 ≤ l ∧ l ≤ (len : Int)) := by omega
  have e2 : (Instr.sliceBound (.int k l) len .sliceB).run P w = (boundsPanic k l len .sliceB).run P w := by
    simp [Instr.sliceBound, asIntOf, hn, go_sem]
  have e3 : (Instr.sliceBounds true len cap (some (.int k l)) none none).run P w = .halt (.panic (boundsValue P (IntKind.i64.wrap l) len s 3)) w' := by
    rw [e1] at e2
    simp [Instr.sliceBounds, e2, BoundsCode.toNat, go_sem]
  exact run_slice_of_bounds t e a len cap _ _ _ h e3
end
section
variable (b : Nat) (a0 : Option Addr) (len cap : Nat) (x : Int) (w : World)
def Dead (w : World) (e : Ending) (w' : World) : Prop := ∃ ty v, e = .panicked [{ v := .iface ty v, recovered := false }] ∧ Sam w w'
theorem pan99 (hnil : a0 = none → len = 0) (h0 : w.cell? ⟨b, 0, none⟩ = some (.slice a0 len cap)) (h1 : w.cell? ⟨b, 1, none⟩ = some (.int .i64 x)) :
    Calls Tryz.prog 100 #[.pointer (some ⟨b, 0, none⟩), .int .i64 (-99)] w (Dead w) := by
  obtain ⟨s, w', hrun, hs⟩ := indexAt_same (P := Tryz.prog) (w := w.drew) 34 a0 len cap .i64 len (by kernel_rfl) hnil (.inr (Int.le_refl _))
  go_enter Tryz.func100, Tryz.ntmps100
  go_wp2
  go_region_dies
  all_goals exact ⟨rfl, _, _, rfl, (Sam.drew w).trans hs⟩
theorem pan100 (hnil : a0 = none → len = 0) (h0 : w.cell? ⟨b, 0, none⟩ = some (.slice a0 len cap)) (h1 : w.cell? ⟨b, 1, none⟩ = some (.int .i64 x)) :
    Calls Tryz.prog 100 #[.pointer (some ⟨b, 0, none⟩), .int .i64 (-100)] w (Dead w) := by
  go_enter Tryz.func100, Tryz.ntmps100
  go_wp2
  go_region
  all_goals go_wp2
  all_goals exact ⟨rfl, _, _, rfl, Sam.drew w⟩
theorem pan101 (h1 : w.cell? ⟨b, 1, none⟩ = some (.int .i64 x)) :
    Calls Tryz.prog 100 #[.pointer (some ⟨b, 0, none⟩), .int .i64 (-101)] w (Dead w) := by
  have hm : ∀ (w : World), (Instr.mapUpdate 120 (.map none) (.int .i64 x) (.int .i64 1)).run Tryz.prog w = .halt (.panic (.iface Tryz.prog.rt.plainError (strVal "assignment to entry in nil map"))) w := fun w => by
    simp [Instr.mapUpdate, run_underlying' Tryz.underlying120, runtimePanic, goPanic, go_sem]
  go_enter Tryz.func100, Tryz.ntmps100
  go_wp2
  all_goals exact ⟨rfl, _, _, rfl, Sam.refl w⟩
theorem pan102 (h1 : w.cell? ⟨b, 1, none⟩ = some (.int .i64 x)) :
    Calls Tryz.prog 100 #[.pointer (some ⟨b, 0, none⟩), .int .i64 (-102)] w (Dead w) := by
  go_enter Tryz.func100, Tryz.ntmps100
  go_wp2
  all_goals exact ⟨rfl, _, _, rfl, Sam.refl w⟩
theorem pan103 (hl : (len : Int) + 1 < 9223372036854775808) (h0 : w.cell? ⟨b, 0, none⟩ = some (.slice a0 len cap)) (h1 : w.cell? ⟨b, 1, none⟩ = some (.int .i64 x)) :
    Calls Tryz.prog 100 #[.pointer (some ⟨b, 0, none⟩), .int .i64 (-103)] w (Dead w) := by
  have hw : IntKind.i64.wrap ((len : Int) + 1) = (len : Int) + 1 := wrap_i64 (by omega) hl
  obtain ⟨s, w', hrun, hs⟩ := slice_same (P := Tryz.prog) (w := w.drew) 34 53 a0 len cap .i64 ((len : Int) + 1) (by kernel_rfl) (.inr (by omega))
  go_enter Tryz.func100, Tryz.ntmps100
  go_wp2
  go_region_dies
  all_goals exact ⟨rfl, _, _, rfl, (Sam.drew w).trans hs⟩
end
theorem ld_sl {a : Addr} {h : H} {s : Sl} (hl : ld kL a h = some s) : hcell h a = some s.val := by
  unfold ld at hl
  simp only [Option.bind_eq_some_iff] at hl
  obtain ⟨l, h1, h2⟩ := hl
  have h1 : rdFrom h a 0 1 = some l := h1
  simp only [rdFrom, Option.bind_eq_some_iff, Option.map_some, Option.some.injEq] at h1
  obtain ⟨v, hv, rfl⟩ := h1
  have := kL.sound _ _ h2
  have e : kL.enc s = [s.val] := rfl
  rw [e] at this
  have e2 : a.add 0 = a := by simp [Addr.add]
  rw [e2] at hv
  rw [hv]; simpa using this.symm
/-- The play's panics, where its move is one. -/
def spatelaw12_Play_panics_dies (a0 : Option Addr) (a1 : Int) (h : H) (D : H → Prop) : Prop :=
  ∃ b s x, a0 = some ⟨b, 0, none⟩ ∧ (s.a = none → s.len = 0) ∧ (s.len : Int) + 1 < 9223372036854775808 ∧ ld kL ⟨b, 0, none⟩ h = some s ∧ ld (kI .i64) ⟨b, 1, none⟩ h = some x ∧ -103 ≤ a1 ∧ a1 ≤ -99 ∧ D h
theorem spatelaw12_Play_panics_dies.sound {a0 : Option Addr} {a1 : Int} {h : H} {D : H → Prop} (hF : spatelaw12_Play_panics_dies a0 a1 h D) :
    CallsP Tryz.prog 100 (List.toArray (α := Value) [.pointer a0, .int .i64 a1]) h (fun _ _ => False) D := by
  obtain ⟨b, s, x, rfl, hn, hl, h0, h1, l1, l2, hD⟩ := hF
  intro c d
  have c0 : (c.w h d).cell? ⟨b, 0, none⟩ = some (.slice s.a s.len s.cap) := ld_sl h0
  have c1 : (c.w h d).cell? ⟨b, 1, none⟩ = some (.int .i64 x) := ld_int h1
  have fin : ∀ e w', Dead (c.w h d) e w' → (∃ v h' d', e = .returned v ∧ w' = c.w h' d' ∧ False) ∨ (∃ ty x h' d', e = .panicked [{ v := .iface ty x, recovered := false }] ∧ w' = c.w h' d' ∧ D h') := by
    rintro e w' ⟨ty, v, rfl, n, rfl⟩
    exact .inr ⟨ty, v, h, n, rfl, rfl, hD⟩
  obtain rfl | rfl | rfl | rfl | rfl : a1 = -99 ∨ a1 = -100 ∨ a1 = -101 ∨ a1 = -102 ∨ a1 = -103 := by omega
  · exact (pan99 b s.a s.len s.cap x _ hn c0 c1).mono fin
  · exact (pan100 b s.a s.len s.cap x _ hn c0 c1).mono fin
  · exact (pan101 b x _ c1).mono fin
  · exact (pan102 b x _ c1).mono fin
  · exact (pan103 b s.a s.len s.cap x _ hl c0 c1).mono fin
end Go.Proofs.YtomngllmnhdmlaaGreat
/- (*spate/spatelaw12.Play).Step where it panics. Printed by gen.py. -/
namespace Go.Proofs.YtomngllmnhdmlaaGreat
open Go Go.Tr
set_option linter.unusedVariables false
set_option maxRecDepth 100000
set_option maxHeartbeats 400000
def spatelaw12_Play_Step_dies (a0 : Option Addr) (h : H) (D : H → Prop) : Prop :=
  al 53 (k52.enc z52) h fun q1 h1 =>
  al 53 (k52.enc z52) h1 fun q2 h2 =>
  rd (st k52 q2 (S52.mk 5 Sl.nil 0 Sl.nil) h2) fun h3 =>
  jn (fun (k1 : Unit → H → Prop) =>
    rd a0 fun q5 =>
    rd (ld (kI .i64) (q5.add 1) h3) fun x3 =>
    rd a0 fun q6 =>
    rd (ld kL (q6.add 0) h3) fun x4 =>
    if (decide (x3 < (x4.len : Int))) = true then
      rd a0 fun q7 =>
      rd (ld kL (q7.add 0) h3) fun x5 =>
      rd a0 fun q8 =>
      rd (ld (kI .i64) (q8.add 1) h3) fun x6 =>
      rd (ixA 4 x5 x6) fun q9 =>
      rd (ld k52 q9 h3) fun x7 =>
      rd (st k52 q2 x7 h3) fun h6 =>
      k1 () h6
    else
      k1 () h3) fun s1 h4 =>
  rd a0 fun q3 =>
  rd (ld (kI .i64) (q3.add 1) h4) fun x1 =>
  rd a0 fun q4 =>
  rd (st (kI .i64) (q4.add 1) (IntKind.i64.wrap (x1 + 1)) h4) fun h5 =>
  rd (ld (kI .i64) (q2.add 0) h5) fun x2 =>
  spatelaw12_Play_panics_dies a0 x2 h5 D
theorem spatelaw12_Play_Step_dies.sound {a0 : Option Addr} {h : H} {D : H → Prop} (hF : spatelaw12_Play_Step_dies a0 h D) : CallsP Tryz.prog 99 (List.toArray (α := Value) [.pointer a0]) h (fun _ _ => False) D := by
  refine CallsP.of_body Tryz.func99 rfl 37 rfl rfl ?_
  refine WP.seq ?_
  refine WP.region ?_
  refine EvK.alloc (w_none rfl) rfl rfl (f_allocF zero53 rfl rfl hF) ?_
  rintro _ h1 ⟨q1, rfl, hF⟩
  refine EvK.nil ?_
  refine WP.seq ?_
  refine WP.region ?_
  refine EvK.pure (v := k52.val (S52.mk 5 Sl.nil 0 Sl.nil)) (w_none rfl) rfl rfl (f_build (cells := k52.enc (S52.mk 5 Sl.nil 0 Sl.nil)) st53 rfl rfl rfl) ?_
  refine EvK.alloc (w_none rfl) rfl rfl (f_allocF zero53 rfl rfl hF) ?_
  rintro _ h2 ⟨q2, rfl, hF⟩
  obtain ⟨h3, hs1, hF⟩ := hF
  refine EvK.runN (w_none rfl) rfl (f_store k52 ty53.size (z := (S52.mk 5 Sl.nil 0 Sl.nil)) rfl rfl rfl hs1) ?_
  rintro _ _ ⟨rfl, rfl⟩
  refine EvK.nil ?_
  refine WP.joinF (fun (s1 : Unit) => [(0, .pointer a0), (2, .pointer (some q1)), (3, .pointer (some q2))]) hF ?_ ?_
  · intro s1 E0 h4 hF
    refine WP.seq ?_
    refine WP.region ?_
    refine EvK.pure (v := .pointer a0) (w_none rfl) rfl rfl (f_move rfl rfl) ?_
    obtain ⟨q3, hq1, hF⟩ := hF
    refine EvK.pure (v := .pointer (some q3)) (w_none rfl) rfl rfl (f_nilCheck rfl (congrArg Value.pointer hq1)) ?_
    refine EvK.pure (v := .pointer (some (q3.add 1))) (w_none rfl) rfl rfl (f_fieldAddr fd37_1 rfl rfl) ?_
    obtain ⟨x1, hx1, hF⟩ := hF
    refine EvK.read (v := .int .i64 x1) (w_none rfl) rfl rfl (f_load (kI .i64) ty3 rfl rfl hx1 rfl) ?_
    refine EvK.pure (v := .int .i64 (IntKind.i64.wrap (x1 + 1))) (w_none rfl) rfl rfl (f_add rfl rfl rfl) ?_
    obtain ⟨q4, hq2, hF⟩ := hF
    refine EvK.pure (v := .pointer (some q4)) (w_none rfl) rfl rfl (f_nilCheck rfl (congrArg Value.pointer hq2)) ?_
    refine EvK.pure (v := .pointer (some (q4.add 1))) (w_none rfl) rfl rfl (f_fieldAddr fd37_1 rfl rfl) ?_
    obtain ⟨h5, hs2, hF⟩ := hF
    refine EvK.runN (w_none rfl) rfl (f_store (kI .i64) ty3.size (z := IntKind.i64.wrap (x1 + 1)) rfl rfl rfl hs2) ?_
    rintro _ _ ⟨rfl, rfl⟩
    refine EvK.nil ?_
    refine WP.seq ?_
    refine WP.regionDiesL rfl ?_ (fun ty x E h hD => ⟨⟨ty, x, rfl⟩, hD⟩)
    refine EvK.pure (v := .pointer a0) (w_none rfl) rfl rfl (f_move rfl rfl) ?_
    refine EvK.pure (v := .pointer (some (q2.add 0))) (w_none rfl) rfl rfl (f_fieldAddr fd53_0 rfl rfl) ?_
    obtain ⟨x2, hx2, hF⟩ := hF
    refine EvK.read (v := .int .i64 x2) (w_none rfl) rfl rfl (f_load (kI .i64) ty3 rfl rfl hx2 rfl) ?_
    exact EvK.nil ⟨w_none rfl, diesH Tryz.func100 rfl rfl rfl rfl (spatelaw12_Play_panics_dies.sound hF)⟩
  · intro k1 hF
    refine WP.seq ?_
    refine WP.draw mixed [.pure, .pure, .pure, .read, .pure, .pure, .pure, .read, .pure, .pure] [[], [0], [0, 1], [0, 1, 2], [], [4], [4, 5], [4, 5, 6], [4, 5, 6, 7], [0, 1, 2, 3, 4, 5, 6, 7, 8]] [0, 1, 2, 3, 4, 5, 6, 7, 8, 9] (by kernel_rfl) (by kernel_rfl) ?_
    refine EvI.pure (v := .pointer a0) rfl rfl (w_none rfl) rfl (f_move rfl rfl) ?_
    obtain ⟨q5, hq3, hF⟩ := hF
    refine EvI.pure (v := .pointer (some q5)) rfl rfl (w_none rfl) rfl (f_nilCheck rfl (congrArg Value.pointer hq3)) ?_
    refine EvI.pure (v := .pointer (some (q5.add 1))) rfl rfl (w_none rfl) rfl (f_fieldAddr fd37_1 rfl rfl) ?_
    obtain ⟨x3, hx3, hF⟩ := hF
    refine EvI.read (v := .int .i64 x3) rfl rfl (w_none rfl) rfl (f_load (kI .i64) ty3 rfl rfl hx3 rfl) ?_
    refine EvI.pure (v := .pointer a0) rfl rfl (w_none rfl) rfl (f_move rfl rfl) ?_
    obtain ⟨q6, hq4, hF⟩ := hF
    refine EvI.pure (v := .pointer (some q6)) rfl rfl (w_none rfl) rfl (f_nilCheck rfl (congrArg Value.pointer hq4)) ?_
    refine EvI.pure (v := .pointer (some (q6.add 0))) rfl rfl (w_none rfl) rfl (f_fieldAddr fd37_0 rfl rfl) ?_
    obtain ⟨x4, hx4, hF⟩ := hF
    refine EvI.read (v := Sl.val x4) rfl rfl (w_none rfl) rfl (f_load kL ty34 rfl rfl hx4 rfl) ?_
    refine EvI.pure (v := .int .i64 (x4.len : Int)) rfl rfl (w_none rfl) rfl (f_lenL (s := x4) Tryz.underlying34 rfl rfl) ?_
    refine EvI.pure (v := .bool (decide (x3 < (x4.len : Int)))) rfl rfl (w_none rfl) rfl (f_lss rfl rfl rfl) ?_
    refine EvI.nil ?_
    rcases ite_inv hF with ⟨c1, hF⟩ | ⟨c1, hF⟩
    · refine WP.cond_true _ rfl c1 ?_
      refine WP.draw mixed [.pure, .pure, .pure, .read, .pure, .pure, .pure, .read, .pure, .read, .eff []] [[], [0], [0, 1], [0, 1, 2], [], [4], [4, 5], [4, 5, 6], [0, 1, 2, 3, 4, 5, 6, 7], [0, 1, 2, 3, 4, 5, 6, 7, 8], [0, 1, 2, 3, 4, 5, 6, 7, 8, 9]] [0, 1, 2, 3, 4, 5, 6, 7, 8, 9, 10] (by kernel_rfl) (by kernel_rfl) ?_
      refine EvI.pure (v := .pointer a0) rfl rfl (w_none rfl) rfl (f_move rfl rfl) ?_
      obtain ⟨q7, hq5, hF⟩ := hF
      refine EvI.pure (v := .pointer (some q7)) rfl rfl (w_none rfl) rfl (f_nilCheck rfl (congrArg Value.pointer hq5)) ?_
      refine EvI.pure (v := .pointer (some (q7.add 0))) rfl rfl (w_none rfl) rfl (f_fieldAddr fd37_0 rfl rfl) ?_
      obtain ⟨x5, hx5, hF⟩ := hF
      refine EvI.read (v := Sl.val x5) rfl rfl (w_none rfl) rfl (f_load kL ty34 rfl rfl hx5 rfl) ?_
      refine EvI.pure (v := .pointer a0) rfl rfl (w_none rfl) rfl (f_move rfl rfl) ?_
      obtain ⟨q8, hq6, hF⟩ := hF
      refine EvI.pure (v := .pointer (some q8)) rfl rfl (w_none rfl) rfl (f_nilCheck rfl (congrArg Value.pointer hq6)) ?_
      refine EvI.pure (v := .pointer (some (q8.add 1))) rfl rfl (w_none rfl) rfl (f_fieldAddr fd37_1 rfl rfl) ?_
      obtain ⟨x6, hx6, hF⟩ := hF
      refine EvI.read (v := .int .i64 x6) rfl rfl (w_none rfl) rfl (f_load (kI .i64) ty3 rfl rfl hx6 rfl) ?_
      obtain ⟨q9, hq7, hF⟩ := hF
      refine EvI.pure (v := .pointer (some q9)) rfl rfl (w_none rfl) rfl (f_indexAddr (s := x5) Tryz.underlying34 ty53.size rfl rfl rfl hq7) ?_
      obtain ⟨x7, hx7, hF⟩ := hF
      refine EvI.read (v := k52.val x7) rfl rfl (w_none rfl) rfl (f_load k52 ty53 rfl rfl hx7 rfl) ?_
      obtain ⟨h6, hs3, hF⟩ := hF
      refine EvI.runN rfl rfl (w_none rfl) rfl (f_store k52 ty53.size (z := x7) rfl rfl rfl hs3) ?_
      rintro _ _ ⟨rfl, rfl⟩
      refine ⟨⟨chk_no rfl, chk_no rfl, chk_no rfl, trivial⟩, ?_⟩
      refine EvI.nil ?_
      exact KE.mk () ⟨rfl, rfl, rfl, trivial⟩ hF
    · refine WP.cond_false _ rfl c1 ?_
      refine WP.skip ?_
      exact KE.mk () ⟨rfl, rfl, rfl, trivial⟩ hF
end Go.Proofs.YtomngllmnhdmlaaGreat
/- A task's step, a panic of it caught: the deferred closure that recovers, walked by the kit's calculus for recover; the call through the interface. -/
namespace Go.Proofs.YtomngllmnhdmlaaGreat
open Go Go.Tr
set_option linter.unusedVariables false
set_option maxRecDepth 100000
abbrev Mv := S52
abbrev kMv : Kd Mv := k52
abbrev zMv : Mv := z52
/-- What the closure leaves where it recovers. -/
def caughtK (q1 q2 : Addr) (h : H) (rv : TypeId × Value) (K : IF → H → Prop) : Prop :=
  al 113 (k112.enc (S112.mk (some rv))) h fun b h1 =>
  rd (st kMv q1 zMv h1) fun h2 =>
  rd (st kIf q2 (some (111, .pointer (some b))) h2) fun h3 => K (some (111, .pointer (some b))) h3
theorem go_wp {P : Program} {n : NN} {cd : Code} {E : Env} {h : H} {K : H → Prop} {c : Ctx} {d : Nat} {a : Act} {Q : Exit → Act → World → Prop} (hw : WP P n cd (fun e _ h' => e = .normal ∧ K h') E h) (s : St n E a)
    (hQ : ∀ E' h' d' a', St n E' a' → K h' → Q .normal a' (c.w h' d')) : cd.wp P Q a (c.w h d) := by
  refine wp_mono (hw c d a s) ?_
  rintro e a' w' ⟨E', h', d', rfl, s', rfl, hK⟩
  exact hQ E' h' d' a' s' hK
theorem caught_back {q1 q2 : Addr} {h : H} {ty : TypeId} {v : Value} {K : H → Prop} (hF : caughtK q1 q2 h (ty, v) fun _ => K) (c : Ctx) (d : Nat) :
    CallsD Tryz.prog 52 #[.pointer (some q1), .pointer (some q2)] (.panicking [{ v := .iface ty v, recovered := false }]) (c.w h d) fun e u' w' =>
      u' = .panicking [{ v := .iface ty v, recovered := true }] ∧ ∃ r h' d', e = .returned r ∧ w' = c.w h' d' ∧ K h' := by
  refine callsD_of_wpS Tryz.func52 rfl fun c₀ cs hu => ?_
  apply wpS_seq
  apply wpS_region
  simp [wpOpsS, go_sem, recoverD, hu, Tryz.ntmps52, Exit.thenS]
  refine wpS_of_wp (go_wp (n := ⟨11, []⟩) (K := K) (E := fun t => (#[Value.pointer (some q1), Value.pointer (some q2), Value.iface ty v, Value.iface ty v, undef, undef, undef, undef, undef, undef, undef] : Array Value).getD t undef) ?_ ⟨rfl, rfl, fun t => rfl⟩ ?_)
  · refine WP.seq ?_
    refine WP.region ?_
    refine EvK.pure (v := IF.val (some (ty, v))) (w_none rfl) rfl rfl (f_move rfl rfl) ?_
    refine EvK.pure (v := .bool true) (w_none rfl) rfl rfl (f_ineqn (a := some (ty, v)) Tryz.underlying20 rfl rfl) ?_
    refine EvK.nil ?_
    refine WP.cond_true _ rfl rfl ?_
    refine WP.region ?_
    refine EvK.pure (v := kMv.val zMv) (w_none rfl) rfl rfl (f_build (cells := kMv.enc zMv) st53 rfl rfl rfl) ?_
    refine EvK.pure (v := IF.val (some (ty, v))) (w_none rfl) rfl rfl (f_move rfl rfl) ?_
    refine EvK.pure (v := k112.val (S112.mk (some (ty, v)))) (w_none rfl) rfl rfl (f_build (cells := k112.enc (S112.mk (some (ty, v)))) (pl := [(0, kIf.enc (some (ty, v)))]) st113 rfl rfl rfl) ?_
    refine EvK.alloc (w_none rfl) rfl rfl (f_boxF rfl rfl rfl hF) ?_
    rintro _ h1 ⟨b, rfl, hF⟩
    refine EvK.pure (v := IF.val (some (111, .pointer (some b)))) (w_none rfl) rfl rfl (f_makeIf Tryz.underlying111 rfl rfl rfl) ?_
    obtain ⟨h2, hs1, hF⟩ := hF
    refine EvK.runN (w_none rfl) rfl (f_store kMv ty53.size (z := zMv) rfl rfl rfl hs1) ?_
    rintro _ _ ⟨rfl, rfl⟩
    obtain ⟨h3, hs2, hF⟩ := hF
    refine EvK.runN (w_none rfl) rfl (f_store kIf ty76.size (z := some (111, .pointer (some b))) rfl rfl rfl hs2) ?_
    rintro _ _ ⟨rfl, rfl⟩
    exact EvK.nil ⟨rfl, hF⟩
  · intro E' h' d' a' s' hK
    refine ⟨s'.defers, _, rfl, .tuple #[], by simp [results, Tryz.results52], rfl, ⟨_, rfl⟩, h', ⟨d', rfl⟩, hK⟩
theorem caught_idle {q1 q2 : Addr} {h : H} {K : H → Prop} (hK : K h) (c : Ctx) (d : Nat) :
    CallsD Tryz.prog 52 #[.pointer (some q1), .pointer (some q2)] .returning (c.w h d) fun e u' w' => u' = .returning ∧ ∃ r h' d', e = .returned r ∧ w' = c.w h' d' ∧ K h' := by
  refine callsD_of_wpS Tryz.func52 rfl fun c₀ cs hu => ?_
  apply wpS_seq
  apply wpS_region
  simp [wpOpsS, go_sem, recoverD, hu, Tryz.ntmps52, Exit.thenS]
  refine wpS_of_wp (go_wp (n := ⟨11, []⟩) (K := K) (E := fun t => (#[Value.pointer (some q1), Value.pointer (some q2), Value.nilIface, Value.nilIface, undef, undef, undef, undef, undef, undef, undef] : Array Value).getD t undef) ?_ ⟨rfl, rfl, fun t => rfl⟩ ?_)
  · refine WP.seq ?_
    refine WP.region ?_
    refine EvK.pure (v := IF.val none) (w_none rfl) rfl rfl (f_move rfl rfl) ?_
    refine EvK.pure (v := .bool false) (w_none rfl) rfl rfl (f_ineqn (a := none) Tryz.underlying20 rfl rfl) ?_
    refine EvK.nil ?_
    refine WP.cond_false _ rfl rfl ?_
    exact WP.skip ⟨rfl, hK⟩
  · intro E' h' d' a' s' hK
    refine ⟨s'.defers, .returning, ?_, .tuple #[], by simp [results, Tryz.results52], rfl, ⟨_, rfl⟩, h', ⟨d', rfl⟩, hK⟩
    cases c₀; cases hu; rfl
theorem caughtK.mono {q1 q2 : Addr} {h : H} {rv : TypeId × Value} {K K' : IF → H → Prop} (hF : caughtK q1 q2 h rv K) (k : ∀ v h', K v h' → K' v h') : caughtK q1 q2 h rv K' := by
  obtain ⟨h2, a, h3, b, q⟩ := hF
  exact ⟨h2, a, h3, b, k _ _ q⟩
theorem method_step (v : Value) (w : World) : (Go.method (Tryz.prog.types.size + Made.depth) 33 v "Step").run Tryz.prog w = .ok (99, v) w := by kernel_rfl
/-- A task's step, a panic of it caught. -/
def sched_caught (a0 : IF) (h : H) (Q : (Mv × IF) → H → Prop) : Prop :=
  ∃ p, a0 = some (33, .pointer (some p)) ∧
  al 53 (kMv.enc zMv) h fun q1 h1 =>
  al 76 (kIf.enc none) h1 fun q2 h2 =>
  (spatelaw12_Play_Step (some p) h2 fun m h3 =>
    rd (st kMv q1 m h3) fun h4 =>
    rd (st kIf q2 none h4) fun h5 =>
    rd (ld kMv q1 h5) fun y1 =>
    rd (ld kIf q2 h5) fun y2 => Q (y1, y2) h5) ∨
  (spatelaw12_Play_Step_dies (some p) h2 fun h3 => ∀ rv, caughtK q1 q2 h3 rv fun _ h5 =>
    rd (ld kMv q1 h5) fun y1 =>
    rd (ld kIf q2 h5) fun y2 => Q (y1, y2) h5)
theorem sched_caught.sound {a0 : IF} {h : H} {Q : (Mv × IF) → H → Prop} (hF : sched_caught a0 h Q) :
    CallsH Tryz.prog 38 (List.toArray (α := Value) [IF.val a0]) h fun v h' => ∃ x : Mv × IF, v = .tuple #[kMv.val x.1, IF.val x.2] ∧ Q x h' := by
  obtain ⟨p, rfl, hF⟩ := hF
  have hF : (spatelaw12_Play_Step (some p) ((h.push (.cells (kMv.enc zMv).toArray 53)).push (.cells (kIf.enc none).toArray 76)) fun m h3 =>
    rd (st kMv ⟨h.size, 0, none⟩ m h3) fun h4 =>
    rd (st kIf ⟨(h.push (.cells (kMv.enc zMv).toArray 53)).size, 0, none⟩ none h4) fun h5 =>
    rd (ld kMv ⟨h.size, 0, none⟩ h5) fun y1 =>
    rd (ld kIf ⟨(h.push (.cells (kMv.enc zMv).toArray 53)).size, 0, none⟩ h5) fun y2 => Q (y1, y2) h5) ∨
  (spatelaw12_Play_Step_dies (some p) ((h.push (.cells (kMv.enc zMv).toArray 53)).push (.cells (kIf.enc none).toArray 76)) fun h3 => ∀ rv, caughtK ⟨h.size, 0, none⟩ ⟨(h.push (.cells (kMv.enc zMv).toArray 53)).size, 0, none⟩ h3 rv fun _ h5 =>
    rd (ld kMv ⟨h.size, 0, none⟩ h5) fun y1 =>
    rd (ld kIf ⟨(h.push (.cells (kMv.enc zMv).toArray 53)).size, 0, none⟩ h5) fun y2 => Q (y1, y2) h5) := hF
  refine CallsH.of_bodyR ⟨.fn (.func 52) (List.toArray (α := Value) [.pointer (some ⟨h.size, 0, none⟩), .pointer (some ⟨(h.push (.cells (kMv.enc zMv).toArray 53)).size, 0, none⟩)]), #[]⟩ Tryz.func38 rfl 7 rfl rfl ?_
  refine WPd.pre ?_
  refine WP.region ?_
  refine EvK.alloc (w_none rfl) rfl rfl (f_alloc zero53 rfl (cs := kMv.enc zMv) rfl) ?_
  rintro _ _ ⟨rfl, rfl⟩
  refine EvK.alloc (w_none rfl) rfl rfl (f_alloc zero76 rfl (cs := kIf.enc none) rfl) ?_
  rintro _ _ ⟨rfl, rfl⟩
  refine EvK.nil ?_
  refine WPd.deferL rfl rfl ?_
  refine EvK.pure (v := FV.val (some ⟨.func 52, List.toArray [], List.toArray [.pointer (some ⟨h.size, 0, none⟩), .pointer (some ⟨(h.push (.cells (kMv.enc zMv).toArray 53)).size, 0, none⟩)]⟩)) (w_none rfl) rfl rfl (f_makeFunc (vs := []) (us := [.pointer (some ⟨h.size, 0, none⟩), .pointer (some ⟨(h.push (.cells (kMv.enc zMv).toArray 53)).size, 0, none⟩)]) rfl rfl rfl) ?_
  refine EvK.nil ⟨w_none rfl, f_deferV rfl rfl, ?_⟩
  refine WP.seq ?_
  rcases hF with hF | hF
  · refine WP.region ?_
    refine EvK.pure (v := IF.val (some (33, .pointer (some p)))) (w_none rfl) rfl rfl (f_move rfl rfl) ?_
    refine EvK.call (w_none rfl) rfl rfl ⟨99, _, fun c d => ⟨d, f_invoke Tryz.func99 rfl rfl (method_step _) rfl rfl c d⟩, spatelaw12_Play_Step.sound hF⟩ ?_
    rintro _ h3 ⟨m, rfl, hF⟩
    obtain ⟨h4, hs1, hF⟩ := hF
    refine EvK.runN (w_none rfl) rfl (f_store kMv ty53.size (z := m) rfl rfl rfl hs1) ?_
    rintro _ _ ⟨rfl, rfl⟩
    obtain ⟨h5, hs2, hF⟩ := hF
    refine EvK.runN (w_none rfl) rfl (f_store kIf ty76.size (z := none) rfl rfl rfl hs2) ?_
    rintro _ _ ⟨rfl, rfl⟩
    refine EvK.nil ?_
    refine WP.ret ?_
    obtain ⟨y1, hy1, y2, hy2, hQ⟩ := hF
    refine ⟨_, _, _, _, rfl, fun w => run_invoke_cap Tryz.func52 rfl rfl w, fun c d => caught_idle ?_ c d⟩
    exact ⟨[kMv.val y1, IF.val y2], ⟨⟨_, rfl, fun c d => run_loadVar kMv ty53 hy1 c d⟩, ⟨_, rfl, fun c d => run_loadVar kIf ty76 hy2 c d⟩, trivial⟩, (y1, y2), rfl, hQ⟩
  · refine WP.regionDiesI 1 rfl (D := fun E h3 => E 2 = .pointer (some ⟨h.size, 0, none⟩) ∧ E 3 = .pointer (some ⟨(h.push (.cells (kMv.enc zMv).toArray 53)).size, 0, none⟩) ∧ ∀ rv, caughtK ⟨h.size, 0, none⟩ ⟨(h.push (.cells (kMv.enc zMv).toArray 53)).size, 0, none⟩ h3 rv fun _ h5 =>
      rd (ld kMv ⟨h.size, 0, none⟩ h5) fun y1 =>
      rd (ld kIf ⟨(h.push (.cells (kMv.enc zMv).toArray 53)).size, 0, none⟩ h5) fun y2 => Q (y1, y2) h5) ?_ ?_
    · refine EvK.pure (v := IF.val (some (33, .pointer (some p)))) (w_none rfl) rfl rfl (f_move rfl rfl) ?_
      exact EvK.nil ⟨w_none rfl, 99, _, fun c d => ⟨d, f_invoke Tryz.func99 rfl rfl (method_step _) rfl rfl c d⟩, (spatelaw12_Play_Step_dies.sound hF).mono (fun _ _ q => q) fun _ q => ⟨rfl, rfl, q⟩⟩
    · rintro ty x E' h3 ⟨he2, he3, hD⟩
      refine ⟨ty, x, rfl, _, _, _, _, rfl, fun w => run_invoke_cap Tryz.func52 rfl rfl w, fun c d => caught_back (caughtK.mono (hD (ty, x)) fun _ h5 q => ?_) c d⟩
      obtain ⟨y1, hy1, y2, hy2, hQ⟩ := q
      exact ⟨[kMv.val y1, IF.val y2], ⟨⟨_, he2, fun c d => run_loadVar kMv ty53 hy1 c d⟩, ⟨_, he3, fun c d => run_loadVar kIf ty76 hy2 c d⟩, trivial⟩, (y1, y2), rfl, hQ⟩
end Go.Proofs.YtomngllmnhdmlaaGreat
/- (*spate/sched.Sched).move, as a predicate over the heap, and that the code comes to it. Printed by gen.py. -/
namespace Go.Proofs.YtomngllmnhdmlaaGreat
open Go Go.Tr
set_option linter.unusedVariables false
set_option maxRecDepth 100000
set_option maxHeartbeats 400000
def sched_Sched_move.b1 (p0 : Option Addr) (p1 : Int) (p5 : Addr) (p15 : Sl) (p16 : Int) (s : Int) (h : H) (K : Int ⊕ Unit → H → Prop) : Prop :=
  if (decide (s < p16)) = true then
    rd (ixA 1 p15 s) fun q10 =>
    rd (ld (kI .i64) q10 h) fun x10 =>
    sched_Sched_wake p0 x10 h fun r4 h10 =>
    K (.inl (IntKind.i64.wrap (s + 1))) h10
  else
    K (.inr ()) h
/-- (*spate/sched.Sched).move -/
def sched_Sched_move (a0 : Option Addr) (a1 : Int) (a2 : S52) (h : H) (Q : (Bool × IF) → H → Prop) : Prop :=
  al 53 (k52.enc a2) h fun q1 h1 =>
  jn (fun (k1 : Unit → H → Prop) =>
    rd (ld kL (q1.add 3) h1) fun x9 =>
    loopE (sched_Sched_move.b1 a0 a1 q1 x9 (x9.len : Int)) 0 h1 (fun r5 hh => k1 r5 hh)) fun s1 h2 =>
  jn (fun (k2 : Unit → H → Prop) =>
    rd (ld (kI .i64) (q1.add 0) h2) fun x1 =>
    if (x1 == 1) = true then
      k2 () h2
    else
      if (x1 == 2) = true then
        rd a0 fun q2 =>
        rd (ld kP (q2.add 2) h2) fun x2 =>
        rd (ld kL (q1.add 1) h2) fun x3 =>
        locks_Manager_Ask x2 a1 x3 h2 fun r1 h4 =>
        if (!r1.2.isNone) = true then
          Q (true, r1.2) h4
        else
          if (!r1.1) = true then
            rd a0 fun q3 =>
            rd (ld kL (q3.add 3) h4) fun x4 =>
            rd (ixA 4 x4 a1) fun q4 =>
            rd (st (kI .i64) (q4.add 1) 2 h4) fun h5 =>
            k2 () h5
          else
            k2 () h4
      else
        if (x1 == 3) = true then
          rd a0 fun q5 =>
          rd (ld kP (q5.add 2) h2) fun x5 =>
          locks_Manager_Free x5 a1 h2 fun r2 h6 =>
          if (!r2.2.isNone) = true then
            Q (true, r2.2) h6
          else
            sched_Sched_granted a0 r2.1 h6 fun r3 h7 =>
            k2 () h7
        else
          if (x1 == 4) = true then
            rd a0 fun q6 =>
            rd (ld kL (q6.add 3) h2) fun x6 =>
            rd a0 fun q7 =>
            rd (ld kL (q7.add 3) h2) fun x7 =>
            rd (ld (kI .i64) (q1.add 2) h2) fun x8 =>
            rd (ixA 4 x6 a1) fun q8 =>
            rd (st (kI .i64) (q8.add 1) 3 h2) fun h8 =>
            ld (kI .i64) (q1.add 2) h8 = some x8 ∧
            rd (ixA 4 x7 a1) fun q9 =>
            rd (st (kI .i64) (q9.add 2) x8 h8) fun h9 =>
            k2 () h9
          else
            if (x1 == 5) = true then
              Q (true, none) h2
            else
              Q (true, (some (26, .int .i64 15) : IF)) h2) fun s2 h3 =>
  Q (false, none) h3
theorem sched_Sched_move.sound {a0 : Option Addr} {a1 : Int} {a2 : S52} {h : H} {Q : (Bool × IF) → H → Prop} (hF : sched_Sched_move a0 a1 a2 h Q) :
    CallsH Tryz.prog 39 (List.toArray (α := Value) [.pointer a0, .int .i64 a1, k52.val a2]) h fun v h' => ∃ x : Bool × IF, v = .tuple #[.bool x.1, IF.val x.2] ∧ Q x h' := by
  refine CallsH.of_body Tryz.func39 rfl 92 rfl rfl ?_
  refine WP.seq ?_
  refine WP.region ?_
  refine EvK.alloc (w_none rfl) rfl rfl (f_boxF (v := k52.val a2) rfl rfl rfl hF) ?_
  rintro _ h1 ⟨q1, rfl, hF⟩
  refine EvK.pure (v := .bool false) (w_none rfl) rfl rfl (f_assign rfl rfl) ?_
  refine EvK.pure (v := IF.val none) (w_none rfl) rfl rfl (f_assign rfl rfl) ?_
  refine EvK.nil ?_
  refine WP.joinF (fun (s1 : Unit) => [(0, .pointer a0), (1, .int .i64 a1), (5, .pointer (some q1))]) hF ?_ ?_
  · intro s1 E0 h2 hF
    refine WP.joinF (fun (s2 : Unit) => []) hF ?_ ?_
    · intro s2 E0 h3 hF
      refine WP.seq ?_
      refine WP.region ?_
      refine EvK.pure (v := .bool false) (w_none rfl) rfl rfl (f_assign rfl rfl) ?_
      refine EvK.pure (v := IF.val none) (w_none rfl) rfl rfl (f_assign rfl rfl) ?_
      refine EvK.nil ?_
      refine WP.ret ?_
      exact Ret.mk (vs := [.bool false, IF.val none]) (false, none) ⟨rfl, rfl, trivial⟩ rfl hF
    · intro k2 hF
      refine WP.seq ?_
      refine WP.region ?_
      refine EvK.pure (v := .pointer (some (q1.add 0))) (w_none rfl) rfl rfl (f_fieldAddr fd53_0 rfl rfl) ?_
      obtain ⟨x1, hx1, hF⟩ := hF
      refine EvK.read (v := .int .i64 x1) (w_none rfl) rfl rfl (f_load (kI .i64) ty3 rfl rfl hx1 rfl) ?_
      refine EvK.nil ?_
      refine WP.block ?_
      refine WP.seq ?_
      refine WP.region ?_
      refine EvK.pure (v := .bool (x1 == 1)) (w_none rfl) rfl rfl (f_eql rfl rfl rfl) ?_
      refine EvK.pure (v := .bool (x1 == 1)) (w_none rfl) rfl rfl (f_assign rfl rfl) ?_
      refine EvK.nil ?_
      rcases ite_inv hF with ⟨c1, hF⟩ | ⟨c1, hF⟩
      · refine WP.cond_true _ rfl c1 ?_
        refine WP.skip ?_
        exact KE.mk () trivial hF
      · refine WP.cond_false _ rfl c1 ?_
        refine WP.seq ?_
        refine WP.region ?_
        refine EvK.pure (v := .bool (x1 == 2)) (w_none rfl) rfl rfl (f_eql rfl rfl rfl) ?_
        refine EvK.pure (v := .bool (x1 == 2)) (w_none rfl) rfl rfl (f_assign rfl rfl) ?_
        refine EvK.nil ?_
        rcases ite_inv hF with ⟨c2, hF⟩ | ⟨c2, hF⟩
        · refine WP.cond_true _ rfl c2 ?_
          refine WP.seq ?_
          refine WP.draw mixed [.pure, .pure, .pure, .read, .pure, .pure, .read, .eff [], .pure, .pure, .pure, .pure, .pure] [[], [0], [0, 1], [0, 1, 2], [], [], [5], [0, 1, 2, 3, 4, 5, 6], [0, 1, 2, 3, 4, 5, 6, 7], [0, 1, 2, 3, 4, 5, 6, 7, 8], [0, 1, 2, 3, 4, 5, 6, 7, 8], [0, 1, 2, 3, 4, 5, 6, 7, 8, 9], [0, 1, 2, 3, 4, 5, 6, 7, 8, 9, 10, 11]] [0, 1, 2, 3, 4, 5, 6, 7, 8, 9, 10, 11, 12] (by kernel_rfl) (by kernel_rfl) ?_
          refine EvI.pure (v := .pointer a0) rfl rfl (w_none rfl) rfl (f_move rfl rfl) ?_
          obtain ⟨q2, hq1, hF⟩ := hF
          refine EvI.pure (v := .pointer (some q2)) rfl rfl (w_none rfl) rfl (f_nilCheck rfl (congrArg Value.pointer hq1)) ?_
          refine EvI.pure (v := .pointer (some (q2.add 2))) rfl rfl (w_none rfl) rfl (f_fieldAddr fd66_1 rfl rfl) ?_
          obtain ⟨x2, hx2, hF⟩ := hF
          refine EvI.read (v := .pointer x2) rfl rfl (w_none rfl) rfl (f_load kP ty54 rfl rfl hx2 rfl) ?_
          refine EvI.pure (v := .int .i64 a1) rfl rfl (w_none rfl) rfl (f_move rfl rfl) ?_
          refine EvI.pure (v := .pointer (some (q1.add 1))) rfl rfl (w_none rfl) rfl (f_fieldAddr fd53_1 rfl rfl) ?_
          obtain ⟨x3, hx3, hF⟩ := hF
          refine EvI.read (v := Sl.val x3) rfl rfl (w_none rfl) rfl (f_load kL ty50 rfl rfl hx3 rfl) ?_
          refine EvI.call rfl rfl (w_none rfl) rfl (enterH Tryz.func53 rfl rfl rfl rfl (locks_Manager_Ask.sound hF)) ?_
          rintro _ h4 ⟨r1, rfl, hF⟩
          refine ⟨⟨chk_no rfl, chk_no rfl, trivial⟩, ?_⟩
          refine EvI.pure (v := .tuple #[.bool r1.1, IF.val r1.2]) rfl rfl (w_none rfl) rfl (f_move rfl rfl) ?_
          refine EvI.pure (v := .bool r1.1) rfl rfl (w_none rfl) rfl (f_extract (vs := #[.bool r1.1, IF.val r1.2]) rfl rfl rfl) ?_
          refine EvI.pure (v := IF.val r1.2) rfl rfl (w_none rfl) rfl (f_extract (vs := #[.bool r1.1, IF.val r1.2]) rfl rfl rfl) ?_
          refine EvI.pure (v := .bool r1.1) rfl rfl (w_none rfl) rfl (f_assign rfl rfl) ?_
          refine EvI.pure (v := IF.val r1.2) rfl rfl (w_none rfl) rfl (f_assign rfl rfl) ?_
          refine EvI.nil ?_
          refine WP.seq ?_
          refine WP.seq ?_
          refine WP.region ?_
          refine EvK.pure (v := IF.val r1.2) (w_none rfl) rfl rfl (f_move rfl rfl) ?_
          refine EvK.pure (v := .bool (!r1.2.isNone)) (w_none rfl) rfl rfl (f_ineqn (a := r1.2) Tryz.underlying76 rfl rfl) ?_
          refine EvK.nil ?_
          rcases ite_inv hF with ⟨c3, hF⟩ | ⟨c3, hF⟩
          · refine WP.cond_true _ rfl c3 ?_
            refine WP.seq ?_
            refine WP.region ?_
            refine EvK.pure (v := IF.val r1.2) (w_none rfl) rfl rfl (f_move rfl rfl) ?_
            refine EvK.pure (v := .bool true) (w_none rfl) rfl rfl (f_assign rfl rfl) ?_
            refine EvK.pure (v := IF.val r1.2) (w_none rfl) rfl rfl (f_assign rfl rfl) ?_
            refine EvK.nil ?_
            refine WP.ret ?_
            exact Ret.mk (vs := [.bool true, IF.val r1.2]) (true, r1.2) ⟨rfl, rfl, trivial⟩ rfl hF
          · refine WP.cond_false _ rfl c3 ?_
            refine WP.skip ?_
            refine WP.seq ?_
            refine WP.region ?_
            refine EvK.pure (v := .bool r1.1) (w_none rfl) rfl rfl (f_move rfl rfl) ?_
            refine EvK.pure (v := .bool (!r1.1)) (w_none rfl) rfl rfl (f_not rfl rfl) ?_
            refine EvK.nil ?_
            rcases ite_inv hF with ⟨c4, hF⟩ | ⟨c4, hF⟩
            · refine WP.cond_true _ rfl c4 ?_
              refine WP.region ?_
              refine EvK.pure (v := .pointer a0) (w_none rfl) rfl rfl (f_move rfl rfl) ?_
              obtain ⟨q3, hq2, hF⟩ := hF
              refine EvK.pure (v := .pointer (some q3)) (w_none rfl) rfl rfl (f_nilCheck rfl (congrArg Value.pointer hq2)) ?_
              refine EvK.pure (v := .pointer (some (q3.add 3))) (w_none rfl) rfl rfl (f_fieldAddr fd66_2 rfl rfl) ?_
              obtain ⟨x4, hx4, hF⟩ := hF
              refine EvK.read (v := Sl.val x4) (w_none rfl) rfl rfl (f_load kL ty64 rfl rfl hx4 rfl) ?_
              refine EvK.pure (v := .int .i64 a1) (w_none rfl) rfl rfl (f_move rfl rfl) ?_
              obtain ⟨q4, hq3, hF⟩ := hF
              refine EvK.pure (v := .pointer (some q4)) (w_none rfl) rfl rfl (f_indexAddr (s := x4) Tryz.underlying64 ty78.size rfl rfl rfl hq3) ?_
              refine EvK.pure (v := .pointer (some (q4.add 1))) (w_none rfl) rfl rfl (f_fieldAddr fd78_1 rfl rfl) ?_
              obtain ⟨h5, hs1, hF⟩ := hF
              refine EvK.runN (w_none rfl) rfl (f_store (kI .i64) ty3.size (z := 2) rfl rfl rfl hs1) ?_
              rintro _ _ ⟨rfl, rfl⟩
              refine EvK.nil ?_
              exact KE.mk () trivial hF
            · refine WP.cond_false _ rfl c4 ?_
              refine WP.skip ?_
              exact KE.mk () trivial hF
        · refine WP.cond_false _ rfl c2 ?_
          refine WP.seq ?_
          refine WP.region ?_
          refine EvK.pure (v := .bool (x1 == 3)) (w_none rfl) rfl rfl (f_eql rfl rfl rfl) ?_
          refine EvK.pure (v := .bool (x1 == 3)) (w_none rfl) rfl rfl (f_assign rfl rfl) ?_
          refine EvK.nil ?_
          rcases ite_inv hF with ⟨c5, hF⟩ | ⟨c5, hF⟩
          · refine WP.cond_true _ rfl c5 ?_
            refine WP.seq ?_
            refine WP.region ?_
            refine EvK.pure (v := .pointer a0) (w_none rfl) rfl rfl (f_move rfl rfl) ?_
            obtain ⟨q5, hq4, hF⟩ := hF
            refine EvK.pure (v := .pointer (some q5)) (w_none rfl) rfl rfl (f_nilCheck rfl (congrArg Value.pointer hq4)) ?_
            refine EvK.pure (v := .pointer (some (q5.add 2))) (w_none rfl) rfl rfl (f_fieldAddr fd66_1 rfl rfl) ?_
            obtain ⟨x5, hx5, hF⟩ := hF
            refine EvK.read (v := .pointer x5) (w_none rfl) rfl rfl (f_load kP ty54 rfl rfl hx5 rfl) ?_
            refine EvK.pure (v := .int .i64 a1) (w_none rfl) rfl rfl (f_move rfl rfl) ?_
            refine EvK.call (w_none rfl) rfl rfl (enterH Tryz.func54 rfl rfl rfl rfl (locks_Manager_Free.sound hF)) ?_
            rintro _ h6 ⟨r2, rfl, hF⟩
            refine EvK.pure (v := .tuple #[Sl.val r2.1, IF.val r2.2]) (w_none rfl) rfl rfl (f_move rfl rfl) ?_
            refine EvK.pure (v := Sl.val r2.1) (w_none rfl) rfl rfl (f_extract (vs := #[Sl.val r2.1, IF.val r2.2]) rfl rfl rfl) ?_
            refine EvK.pure (v := IF.val r2.2) (w_none rfl) rfl rfl (f_extract (vs := #[Sl.val r2.1, IF.val r2.2]) rfl rfl rfl) ?_
            refine EvK.pure (v := Sl.val r2.1) (w_none rfl) rfl rfl (f_assign rfl rfl) ?_
            refine EvK.pure (v := IF.val r2.2) (w_none rfl) rfl rfl (f_assign rfl rfl) ?_
            refine EvK.nil ?_
            refine WP.seq ?_
            refine WP.seq ?_
            refine WP.region ?_
            refine EvK.pure (v := IF.val r2.2) (w_none rfl) rfl rfl (f_move rfl rfl) ?_
            refine EvK.pure (v := .bool (!r2.2.isNone)) (w_none rfl) rfl rfl (f_ineqn (a := r2.2) Tryz.underlying76 rfl rfl) ?_
            refine EvK.nil ?_
            rcases ite_inv hF with ⟨c6, hF⟩ | ⟨c6, hF⟩
            · refine WP.cond_true _ rfl c6 ?_
              refine WP.seq ?_
              refine WP.region ?_
              refine EvK.pure (v := IF.val r2.2) (w_none rfl) rfl rfl (f_move rfl rfl) ?_
              refine EvK.pure (v := .bool true) (w_none rfl) rfl rfl (f_assign rfl rfl) ?_
              refine EvK.pure (v := IF.val r2.2) (w_none rfl) rfl rfl (f_assign rfl rfl) ?_
              refine EvK.nil ?_
              refine WP.ret ?_
              exact Ret.mk (vs := [.bool true, IF.val r2.2]) (true, r2.2) ⟨rfl, rfl, trivial⟩ rfl hF
            · refine WP.cond_false _ rfl c6 ?_
              refine WP.skip ?_
              refine WP.region ?_
              refine EvK.pure (v := .pointer a0) (w_none rfl) rfl rfl (f_move rfl rfl) ?_
              refine EvK.pure (v := Sl.val r2.1) (w_none rfl) rfl rfl (f_move rfl rfl) ?_
              refine EvK.call (w_none rfl) rfl rfl (enterH Tryz.func40 rfl rfl rfl rfl (sched_Sched_granted.sound hF)) ?_
              rintro _ h7 ⟨r3, rfl, hF⟩
              refine EvK.nil ?_
              exact KE.mk () trivial hF
          · refine WP.cond_false _ rfl c5 ?_
            refine WP.seq ?_
            refine WP.region ?_
            refine EvK.pure (v := .bool (x1 == 4)) (w_none rfl) rfl rfl (f_eql rfl rfl rfl) ?_
            refine EvK.pure (v := .bool (x1 == 4)) (w_none rfl) rfl rfl (f_assign rfl rfl) ?_
            refine EvK.nil ?_
            rcases ite_inv hF with ⟨c7, hF⟩ | ⟨c7, hF⟩
            · refine WP.cond_true _ rfl c7 ?_
              refine WP.draw mixed [.pure, .pure, .pure, .read, .pure, .pure, .pure, .pure, .read, .pure, .pure, .read, .pure, .pure, .eff [11], .pure, .pure, .eff []] [[], [0], [0, 1], [0, 1, 2], [], [], [5], [5, 6], [5, 6, 7], [], [], [10], [0, 1, 2, 3, 4, 5, 6, 7, 8], [0, 1, 2, 3, 4, 5, 6, 7, 8, 12], [0, 1, 2, 3, 4, 5, 6, 7, 8, 12, 13], [0, 1, 2, 3, 4, 5, 6, 7, 8, 9, 10, 11, 12, 13, 14], [0, 1, 2, 3, 4, 5, 6, 7, 8, 9, 10, 11, 12, 13, 14, 15], [0, 1, 2, 3, 4, 5, 6, 7, 8, 9, 10, 11, 12, 13, 14, 15, 16]] [0, 1, 2, 3, 4, 5, 6, 7, 8, 9, 10, 11, 12, 13, 14, 15, 16, 17] (by kernel_rfl) (by kernel_rfl) ?_
              refine EvI.pure (v := .pointer a0) rfl rfl (w_none rfl) rfl (f_move rfl rfl) ?_
              obtain ⟨q6, hq5, hF⟩ := hF
              refine EvI.pure (v := .pointer (some q6)) rfl rfl (w_none rfl) rfl (f_nilCheck rfl (congrArg Value.pointer hq5)) ?_
              refine EvI.pure (v := .pointer (some (q6.add 3))) rfl rfl (w_none rfl) rfl (f_fieldAddr fd66_2 rfl rfl) ?_
              obtain ⟨x6, hx6, hF⟩ := hF
              refine EvI.read (v := Sl.val x6) rfl rfl (w_none rfl) rfl (f_load kL ty64 rfl rfl hx6 rfl) ?_
              refine EvI.pure (v := .int .i64 a1) rfl rfl (w_none rfl) rfl (f_move rfl rfl) ?_
              refine EvI.pure (v := .pointer a0) rfl rfl (w_none rfl) rfl (f_move rfl rfl) ?_
              obtain ⟨q7, hq6, hF⟩ := hF
              refine EvI.pure (v := .pointer (some q7)) rfl rfl (w_none rfl) rfl (f_nilCheck rfl (congrArg Value.pointer hq6)) ?_
              refine EvI.pure (v := .pointer (some (q7.add 3))) rfl rfl (w_none rfl) rfl (f_fieldAddr fd66_2 rfl rfl) ?_
              obtain ⟨x7, hx7, hF⟩ := hF
              refine EvI.read (v := Sl.val x7) rfl rfl (w_none rfl) rfl (f_load kL ty64 rfl rfl hx7 rfl) ?_
              refine EvI.pure (v := .int .i64 a1) rfl rfl (w_none rfl) rfl (f_move rfl rfl) ?_
              refine EvI.pure (v := .pointer (some (q1.add 2))) rfl rfl (w_none rfl) rfl (f_fieldAddr fd53_2 rfl rfl) ?_
              obtain ⟨x8, hx8, hF⟩ := hF
              refine EvI.read (v := .int .i64 x8) rfl rfl (w_none rfl) rfl (f_load (kI .i64) ty3 rfl rfl hx8 rfl) ?_
              obtain ⟨q8, hq7, hF⟩ := hF
              refine EvI.pure (v := .pointer (some q8)) rfl rfl (w_none rfl) rfl (f_indexAddr (s := x6) Tryz.underlying64 ty78.size rfl rfl rfl hq7) ?_
              refine EvI.pure (v := .pointer (some (q8.add 1))) rfl rfl (w_none rfl) rfl (f_fieldAddr fd78_1 rfl rfl) ?_
              obtain ⟨h8, hs2, hF⟩ := hF
              refine EvI.runN rfl rfl (w_none rfl) rfl (f_store (kI .i64) ty3.size (z := 3) rfl rfl rfl hs2) ?_
              rintro _ _ ⟨rfl, rfl⟩
              obtain ⟨hy1, hF⟩ := hF
              refine ⟨⟨chk_yes rfl (f_load (kI .i64) ty3 rfl rfl hy1 rfl), chk_no rfl, chk_no rfl, trivial⟩, ?_⟩
              obtain ⟨q9, hq8, hF⟩ := hF
              refine EvI.pure (v := .pointer (some q9)) rfl rfl (w_none rfl) rfl (f_indexAddr (s := x7) Tryz.underlying64 ty78.size rfl rfl rfl hq8) ?_
              refine EvI.pure (v := .pointer (some (q9.add 2))) rfl rfl (w_none rfl) rfl (f_fieldAddr fd78_2 rfl rfl) ?_
              obtain ⟨h9, hs3, hF⟩ := hF
              refine EvI.runN rfl rfl (w_none rfl) rfl (f_store (kI .i64) ty3.size (z := x8) rfl rfl rfl hs3) ?_
              rintro _ _ ⟨rfl, rfl⟩
              refine ⟨⟨chk_no rfl, chk_no rfl, chk_no rfl, trivial⟩, ?_⟩
              refine EvI.nil ?_
              exact KE.mk () trivial hF
            · refine WP.cond_false _ rfl c7 ?_
              refine WP.seq ?_
              refine WP.region ?_
              refine EvK.pure (v := .bool (x1 == 5)) (w_none rfl) rfl rfl (f_eql rfl rfl rfl) ?_
              refine EvK.pure (v := .bool (x1 == 5)) (w_none rfl) rfl rfl (f_assign rfl rfl) ?_
              refine EvK.nil ?_
              rcases ite_inv hF with ⟨c8, hF⟩ | ⟨c8, hF⟩
              · refine WP.cond_true _ rfl c8 ?_
                refine WP.seq ?_
                refine WP.region ?_
                refine EvK.pure (v := .bool true) (w_none rfl) rfl rfl (f_assign rfl rfl) ?_
                refine EvK.pure (v := IF.val none) (w_none rfl) rfl rfl (f_assign rfl rfl) ?_
                refine EvK.nil ?_
                refine WP.ret ?_
                exact Ret.mk (vs := [.bool true, IF.val none]) (true, none) ⟨rfl, rfl, trivial⟩ rfl hF
              · refine WP.cond_false _ rfl c8 ?_
                refine WP.seq ?_
                refine WP.region ?_
                refine EvK.pure (v := IF.val (some (26, .int .i64 15) : IF)) (w_none rfl) rfl rfl (f_makeIf Tryz.underlying26 rfl rfl rfl) ?_
                refine EvK.pure (v := .bool true) (w_none rfl) rfl rfl (f_assign rfl rfl) ?_
                refine EvK.pure (v := IF.val (some (26, .int .i64 15) : IF)) (w_none rfl) rfl rfl (f_assign rfl rfl) ?_
                refine EvK.nil ?_
                refine WP.ret ?_
                exact Ret.mk (vs := [.bool true, IF.val (some (26, .int .i64 15) : IF)]) (true, (some (26, .int .i64 15) : IF)) ⟨rfl, rfl, trivial⟩ rfl hF
  · intro k1 hF
    refine WP.seq ?_
    refine WP.region ?_
    refine EvK.pure (v := .pointer (some (q1.add 3))) (w_none rfl) rfl rfl (f_fieldAddr fd53_3 rfl rfl) ?_
    obtain ⟨x9, hx9, hF⟩ := hF
    refine EvK.read (v := Sl.val x9) (w_none rfl) rfl rfl (f_load kL ty51 rfl rfl hx9 rfl) ?_
    refine EvK.pure (v := .int .i64 (x9.len : Int)) (w_none rfl) rfl rfl (f_lenL (s := x9) Tryz.underlying51 rfl rfl) ?_
    refine EvK.pure (v := .int .i64 0) (w_none rfl) rfl rfl (f_move rfl rfl) ?_
    refine EvK.nil ?_
    refine WP.block ?_
    refine WP.loopF (fun (s3 : Int) => [(17, .int .i64 s3), (0, .pointer a0), (1, .int .i64 a1), (5, .pointer (some q1)), (15, Sl.val x9), (16, .int .i64 (x9.len : Int))]) hF ⟨rfl, rfl, rfl, rfl, rfl, rfl, trivial⟩ ?_
    intro k3 s3 E0 h10 hF
    refine WP.seq ?_
    refine WP.region ?_
    refine EvK.pure (v := .bool (decide (s3 < (x9.len : Int)))) (w_none rfl) rfl rfl (f_lss rfl rfl rfl) ?_
    refine EvK.nil ?_
    refine WP.seq ?_
    rcases ite_inv hF with ⟨c9, hF⟩ | ⟨c9, hF⟩
    · refine WP.cond_true _ rfl c9 ?_
      refine WP.skip ?_
      refine WP.seq ?_
      refine WP.block ?_
      refine WP.seq ?_
      refine WP.region ?_
      obtain ⟨q10, hq9, hF⟩ := hF
      refine EvK.pure (v := .pointer (some q10)) (w_none rfl) rfl rfl (f_indexAddr (s := x9) Tryz.underlying51 ty3.size rfl rfl rfl hq9) ?_
      obtain ⟨x10, hx10, hF⟩ := hF
      refine EvK.read (v := .int .i64 x10) (w_none rfl) rfl rfl (f_load (kI .i64) ty3 rfl rfl hx10 rfl) ?_
      refine EvK.pure (v := .int .i64 x10) (w_none rfl) rfl rfl (f_assign rfl rfl) ?_
      refine EvK.nil ?_
      refine WP.region ?_
      refine EvK.pure (v := .pointer a0) (w_none rfl) rfl rfl (f_move rfl rfl) ?_
      refine EvK.pure (v := .int .i64 x10) (w_none rfl) rfl rfl (f_move rfl rfl) ?_
      refine EvK.call (w_none rfl) rfl rfl (enterH Tryz.func28 rfl rfl rfl rfl (sched_Sched_wake.sound hF)) ?_
      rintro _ h11 ⟨r4, rfl, hF⟩
      refine EvK.nil ?_
      refine WP.region ?_
      refine EvK.pure (v := .int .i64 (IntKind.i64.wrap (s3 + 1))) (w_none rfl) rfl rfl (f_add rfl rfl rfl) ?_
      refine EvK.pure (v := .int .i64 (IntKind.i64.wrap (s3 + 1))) (w_none rfl) rfl rfl (f_move rfl rfl) ?_
      refine EvK.nil ?_
      exact KE.mk (IntKind.i64.wrap (s3 + 1)) ⟨rfl, rfl, rfl, rfl, rfl, rfl, trivial⟩ hF
    · refine WP.cond_false _ rfl c9 ?_
      refine WP.exit ?_
      exact KE.mk () ⟨rfl, rfl, rfl, trivial⟩ hF
end Go.Proofs.YtomngllmnhdmlaaGreat
/- (*spate/sched.Sched).step, as a predicate over the heap, and that the code comes to it. Printed by gen.py. -/
namespace Go.Proofs.YtomngllmnhdmlaaGreat
open Go Go.Tr
set_option linter.unusedVariables false
set_option maxRecDepth 100000
set_option maxHeartbeats 400000
/-- (*spate/sched.Sched).step -/
def sched_Sched_step (a0 : Option Addr) (a1 : Int) (h : H) (Q : Unit → H → Prop) : Prop :=
  rd a0 fun q1 =>
  rd (ld kL (q1.add 3) h) fun x1 =>
  rd (ixA 4 x1 a1) fun q2 =>
  rd (ld kIf (q2.add 0) h) fun x2 =>
  sched_caught x2 h fun r1 h1 =>
  al 53 (k52.enc z52) h1 fun q3 h2 =>
  rd (st k52 q3 r1.1 h2) fun h3 =>
  jn (fun (k1 : (IF × Bool) → H → Prop) =>
    if (!(!r1.2.isNone)) = true then
      rd (ld k52 q3 h3) fun x6 =>
      sched_Sched_move a0 a1 x6 h3 fun r4 h9 =>
      k1 (r4.2, r4.1) h9
    else
      k1 (r1.2, !r1.2.isNone) h3) fun s1 h4 =>
  if s1.2 = true then
    rd a0 fun q4 =>
    rd (ld kL (q4.add 3) h4) fun x3 =>
    rd a0 fun q5 =>
    rd (ld kL (q5.add 3) h4) fun x4 =>
    rd (ixA 4 x3 a1) fun q6 =>
    rd (st (kI .i64) (q6.add 1) 4 h4) fun h5 =>
    rd (ixA 4 x4 a1) fun q7 =>
    rd (st kIf (q7.add 3) s1.1 h5) fun h6 =>
    rd a0 fun q8 =>
    rd (ld kP (q8.add 2) h6) fun x5 =>
    locks_Manager_Quit x5 a1 h6 fun r2 h7 =>
    sched_Sched_granted a0 r2 h7 fun r3 h8 =>
    Q () h8
  else
    Q () h4
theorem sched_Sched_step.sound {a0 : Option Addr} {a1 : Int} {h : H} {Q : Unit → H → Prop} (hF : sched_Sched_step a0 a1 h Q) :
    CallsH Tryz.prog 24 (List.toArray (α := Value) [.pointer a0, .int .i64 a1]) h fun v h' => ∃ x : Unit, v = .tuple #[] ∧ Q x h' := by
  refine CallsH.of_body Tryz.func24 rfl 54 rfl rfl ?_
  refine WP.seq ?_
  refine WP.region ?_
  refine EvK.pure (v := .pointer a0) (w_none rfl) rfl rfl (f_move rfl rfl) ?_
  obtain ⟨q1, hq1, hF⟩ := hF
  refine EvK.pure (v := .pointer (some q1)) (w_none rfl) rfl rfl (f_nilCheck rfl (congrArg Value.pointer hq1)) ?_
  refine EvK.pure (v := .pointer (some (q1.add 3))) (w_none rfl) rfl rfl (f_fieldAddr fd66_2 rfl rfl) ?_
  obtain ⟨x1, hx1, hF⟩ := hF
  refine EvK.read (v := Sl.val x1) (w_none rfl) rfl rfl (f_load kL ty64 rfl rfl hx1 rfl) ?_
  refine EvK.pure (v := .int .i64 a1) (w_none rfl) rfl rfl (f_move rfl rfl) ?_
  obtain ⟨q2, hq2, hF⟩ := hF
  refine EvK.pure (v := .pointer (some q2)) (w_none rfl) rfl rfl (f_indexAddr (s := x1) Tryz.underlying64 ty78.size rfl rfl rfl hq2) ?_
  refine EvK.pure (v := .pointer (some (q2.add 0))) (w_none rfl) rfl rfl (f_fieldAddr fd78_0 rfl rfl) ?_
  obtain ⟨x2, hx2, hF⟩ := hF
  refine EvK.read (v := IF.val x2) (w_none rfl) rfl rfl (f_load kIf ty74 rfl rfl hx2 rfl) ?_
  refine EvK.call (w_none rfl) rfl rfl (enterH (vs := [IF.val x2]) Tryz.func38 rfl rfl rfl rfl (sched_caught.sound hF)) ?_
  rintro _ h1 ⟨r1, rfl, hF⟩
  refine EvK.pure (v := .tuple #[k52.val r1.1, IF.val r1.2]) (w_none rfl) rfl rfl (f_move rfl rfl) ?_
  refine EvK.pure (v := k52.val r1.1) (w_none rfl) rfl rfl (f_extract (vs := #[k52.val r1.1, IF.val r1.2]) rfl rfl rfl) ?_
  refine EvK.pure (v := IF.val r1.2) (w_none rfl) rfl rfl (f_extract (vs := #[k52.val r1.1, IF.val r1.2]) rfl rfl rfl) ?_
  refine EvK.alloc (w_none rfl) rfl rfl (f_allocF zero53 rfl rfl hF) ?_
  rintro _ h2 ⟨q3, rfl, hF⟩
  obtain ⟨h3, hs1, hF⟩ := hF
  refine EvK.runN (w_none rfl) rfl (f_store k52 ty53.size (z := r1.1) rfl rfl rfl hs1) ?_
  rintro _ _ ⟨rfl, rfl⟩
  refine EvK.pure (v := IF.val r1.2) (w_none rfl) rfl rfl (f_assign rfl rfl) ?_
  refine EvK.nil ?_
  refine WP.seq ?_
  refine WP.region ?_
  refine EvK.pure (v := IF.val r1.2) (w_none rfl) rfl rfl (f_move rfl rfl) ?_
  refine EvK.pure (v := .bool (!r1.2.isNone)) (w_none rfl) rfl rfl (f_ineqn (a := r1.2) Tryz.underlying76 rfl rfl) ?_
  refine EvK.pure (v := .bool (!r1.2.isNone)) (w_none rfl) rfl rfl (f_assign rfl rfl) ?_
  refine EvK.nil ?_
  refine WP.joinF (fun (s1 : IF × Bool) => [(5, IF.val s1.1), (6, .bool s1.2), (0, .pointer a0), (1, .int .i64 a1)]) hF ?_ ?_
  · intro s1 E0 h4 hF
    refine WP.seq ?_
    refine WP.region ?_
    refine EvK.pure (v := .bool s1.2) (w_none rfl) rfl rfl (f_move rfl rfl) ?_
    refine EvK.nil ?_
    rcases ite_inv hF with ⟨c1, hF⟩ | ⟨c1, hF⟩
    · refine WP.cond_true _ rfl c1 ?_
      refine WP.seq ?_
      refine WP.draw mixed [.pure, .pure, .pure, .read, .pure, .pure, .pure, .pure, .read, .pure, .pure, .pure, .pure, .eff [], .pure, .pure, .eff []] [[], [0], [0, 1], [0, 1, 2], [], [], [5], [5, 6], [5, 6, 7], [], [], [0, 1, 2, 3, 4, 5, 6, 7, 8], [0, 1, 2, 3, 4, 5, 6, 7, 8, 11], [0, 1, 2, 3, 4, 5, 6, 7, 8, 11, 12], [0, 1, 2, 3, 4, 5, 6, 7, 8, 9, 10, 11, 12, 13], [0, 1, 2, 3, 4, 5, 6, 7, 8, 9, 10, 11, 12, 13, 14], [0, 1, 2, 3, 4, 5, 6, 7, 8, 9, 10, 11, 12, 13, 14, 15]] [0, 1, 2, 3, 4, 5, 6, 7, 8, 9, 10, 11, 12, 13, 14, 15, 16] (by kernel_rfl) (by kernel_rfl) ?_
      refine EvI.pure (v := .pointer a0) rfl rfl (w_none rfl) rfl (f_move rfl rfl) ?_
      obtain ⟨q4, hq3, hF⟩ := hF
      refine EvI.pure (v := .pointer (some q4)) rfl rfl (w_none rfl) rfl (f_nilCheck rfl (congrArg Value.pointer hq3)) ?_
      refine EvI.pure (v := .pointer (some (q4.add 3))) rfl rfl (w_none rfl) rfl (f_fieldAddr fd66_2 rfl rfl) ?_
      obtain ⟨x3, hx3, hF⟩ := hF
      refine EvI.read (v := Sl.val x3) rfl rfl (w_none rfl) rfl (f_load kL ty64 rfl rfl hx3 rfl) ?_
      refine EvI.pure (v := .int .i64 a1) rfl rfl (w_none rfl) rfl (f_move rfl rfl) ?_
      refine EvI.pure (v := .pointer a0) rfl rfl (w_none rfl) rfl (f_move rfl rfl) ?_
      obtain ⟨q5, hq4, hF⟩ := hF
      refine EvI.pure (v := .pointer (some q5)) rfl rfl (w_none rfl) rfl (f_nilCheck rfl (congrArg Value.pointer hq4)) ?_
      refine EvI.pure (v := .pointer (some (q5.add 3))) rfl rfl (w_none rfl) rfl (f_fieldAddr fd66_2 rfl rfl) ?_
      obtain ⟨x4, hx4, hF⟩ := hF
      refine EvI.read (v := Sl.val x4) rfl rfl (w_none rfl) rfl (f_load kL ty64 rfl rfl hx4 rfl) ?_
      refine EvI.pure (v := .int .i64 a1) rfl rfl (w_none rfl) rfl (f_move rfl rfl) ?_
      refine EvI.pure (v := IF.val s1.1) rfl rfl (w_none rfl) rfl (f_move rfl rfl) ?_
      obtain ⟨q6, hq5, hF⟩ := hF
      refine EvI.pure (v := .pointer (some q6)) rfl rfl (w_none rfl) rfl (f_indexAddr (s := x3) Tryz.underlying64 ty78.size rfl rfl rfl hq5) ?_
      refine EvI.pure (v := .pointer (some (q6.add 1))) rfl rfl (w_none rfl) rfl (f_fieldAddr fd78_1 rfl rfl) ?_
      obtain ⟨h5, hs2, hF⟩ := hF
      refine EvI.runN rfl rfl (w_none rfl) rfl (f_store (kI .i64) ty3.size (z := 4) rfl rfl rfl hs2) ?_
      rintro _ _ ⟨rfl, rfl⟩
      refine ⟨⟨chk_no rfl, chk_no rfl, trivial⟩, ?_⟩
      obtain ⟨q7, hq6, hF⟩ := hF
      refine EvI.pure (v := .pointer (some q7)) rfl rfl (w_none rfl) rfl (f_indexAddr (s := x4) Tryz.underlying64 ty78.size rfl rfl rfl hq6) ?_
      refine EvI.pure (v := .pointer (some (q7.add 3))) rfl rfl (w_none rfl) rfl (f_fieldAddr fd78_3 rfl rfl) ?_
      obtain ⟨h6, hs3, hF⟩ := hF
      refine EvI.runN rfl rfl (w_none rfl) rfl (f_store kIf ty76.size (z := s1.1) rfl rfl rfl hs3) ?_
      rintro _ _ ⟨rfl, rfl⟩
      refine ⟨⟨chk_no rfl, chk_no rfl, trivial⟩, ?_⟩
      refine EvI.nil ?_
      refine WP.region ?_
      refine EvK.pure (v := .pointer a0) (w_none rfl) rfl rfl (f_move rfl rfl) ?_
      refine EvK.pure (v := .pointer a0) (w_none rfl) rfl rfl (f_move rfl rfl) ?_
      obtain ⟨q8, hq7, hF⟩ := hF
      refine EvK.pure (v := .pointer (some q8)) (w_none rfl) rfl rfl (f_nilCheck rfl (congrArg Value.pointer hq7)) ?_
      refine EvK.pure (v := .pointer (some (q8.add 2))) (w_none rfl) rfl rfl (f_fieldAddr fd66_1 rfl rfl) ?_
      obtain ⟨x5, hx5, hF⟩ := hF
      refine EvK.read (v := .pointer x5) (w_none rfl) rfl rfl (f_load kP ty54 rfl rfl hx5 rfl) ?_
      refine EvK.pure (v := .int .i64 a1) (w_none rfl) rfl rfl (f_move rfl rfl) ?_
      refine EvK.call (w_none rfl) rfl rfl (enterH Tryz.func41 rfl rfl rfl rfl (locks_Manager_Quit.sound hF)) ?_
      rintro _ h7 ⟨r2, rfl, hF⟩
      refine EvK.call (w_none rfl) rfl rfl (enterH Tryz.func40 rfl rfl rfl rfl (sched_Sched_granted.sound hF)) ?_
      rintro _ h8 ⟨r3, rfl, hF⟩
      refine EvK.nil ?_
      exact Ret.mk (vs := []) () trivial rfl hF
    · refine WP.cond_false _ rfl c1 ?_
      refine WP.skip ?_
      exact Ret.mk (vs := []) () trivial rfl hF
  · intro k1 hF
    refine WP.seq ?_
    refine WP.region ?_
    refine EvK.pure (v := .bool (!r1.2.isNone)) (w_none rfl) rfl rfl (f_move rfl rfl) ?_
    refine EvK.pure (v := .bool (!(!r1.2.isNone))) (w_none rfl) rfl rfl (f_not rfl rfl) ?_
    refine EvK.nil ?_
    rcases ite_inv hF with ⟨c2, hF⟩ | ⟨c2, hF⟩
    · refine WP.cond_true _ rfl c2 ?_
      refine WP.region ?_
      refine EvK.pure (v := .pointer a0) (w_none rfl) rfl rfl (f_move rfl rfl) ?_
      refine EvK.pure (v := .int .i64 a1) (w_none rfl) rfl rfl (f_move rfl rfl) ?_
      obtain ⟨x6, hx6, hF⟩ := hF
      refine EvK.read (v := k52.val x6) (w_none rfl) rfl rfl (f_load k52 ty53 rfl rfl hx6 rfl) ?_
      refine EvK.call (w_none rfl) rfl rfl (enterH Tryz.func39 rfl rfl rfl rfl (sched_Sched_move.sound hF)) ?_
      rintro _ h9 ⟨r4, rfl, hF⟩
      refine EvK.pure (v := .tuple #[.bool r4.1, IF.val r4.2]) (w_none rfl) rfl rfl (f_move rfl rfl) ?_
      refine EvK.pure (v := .bool r4.1) (w_none rfl) rfl rfl (f_extract (vs := #[.bool r4.1, IF.val r4.2]) rfl rfl rfl) ?_
      refine EvK.pure (v := IF.val r4.2) (w_none rfl) rfl rfl (f_extract (vs := #[.bool r4.1, IF.val r4.2]) rfl rfl rfl) ?_
      refine EvK.pure (v := .bool r4.1) (w_none rfl) rfl rfl (f_assign rfl rfl) ?_
      refine EvK.pure (v := IF.val r4.2) (w_none rfl) rfl rfl (f_assign rfl rfl) ?_
      refine EvK.nil ?_
      exact KE.mk (r4.2, r4.1) ⟨rfl, rfl, rfl, rfl, trivial⟩ hF
    · refine WP.cond_false _ rfl c2 ?_
      refine WP.skip ?_
      exact KE.mk (r1.2, !r1.2.isNone) ⟨rfl, rfl, rfl, rfl, trivial⟩ hF
end Go.Proofs.YtomngllmnhdmlaaGreat
/- A play's step, and what the scheduler does of it. -/
namespace Go.Proofs.YtomngllmnhdmlaaGreat
open Go Go.Tr
set_option linter.unusedVariables false
abbrev Pl := S36
abbrev kPl : Kd Pl := k36
theorem fp_ms : Fld kPl kL 0 (·.f0) (fun x v => { x with f0 := v }) := (Fld.whole kL).fst.iso
theorem fp_nx : Fld kPl (kI .i64) 1 (·.f1) (fun x v => { x with f1 := v }) := (Fld.whole (kI .i64)).snd.iso
theorem fv_kind : Fld kMv (kI .i64) 0 (·.f0) (fun x v => { x with f0 := v }) := (Fld.whole (kI .i64)).fst.iso
theorem fv_l : Fld kMv kL 1 (·.f1) (fun x v => { x with f1 := v }) := (Fld.whole kL).fst.snd.iso
theorem fv_on : Fld kMv (kI .i64) 2 (·.f2) (fun x v => { x with f2 := v }) := (Fld.whole (kI .i64)).fst.snd.snd.iso
theorem fv_w : Fld kMv kL 3 (·.f3) (fun x v => { x with f3 := v }) := (Fld.whole kL).snd.snd.snd.iso
/-- A move in memory: its lists' elements beside it. -/
structure MR where
  v : Mv
  l : List Lk
  w : List Int
def MR.mv (r : MR) : MV := ⟨r.v.f0, r.l, r.v.f2, r.w⟩
def endR : MR := ⟨⟨5, Sl.nil, 0, Sl.nil⟩, [], []⟩
structure MvRd (h : H) (sl : Sl) (rows : List MR) : Prop where
  r : Rds kMv h sl (rows.map (·.v))
  l : ∀ r ∈ rows, Rds kLk h r.v.f1 r.l
  w : ∀ r ∈ rows, Rds (kI .i64) h r.v.f3 r.w
  n : rows.length ≤ 140737488351232
  m : ∀ r ∈ rows, r.l.length ≤ 140737488351232 ∧ r.w.length ≤ 140737488351232
def curR (rows : List MR) (nx : Nat) : MR := rows.getD nx endR
theorem MvRd.cur {h : H} {sl : Sl} {rows : List MR} (M : MvRd h sl rows) (nx : Nat) : Rds kLk h (curR rows nx).v.f1 (curR rows nx).l ∧ Rds (kI .i64) h (curR rows nx).v.f3 (curR rows nx).w ∧ (curR rows nx).l.length ≤ 140737488351232 ∧ (curR rows nx).w.length ≤ 140737488351232 := by
  unfold curR
  rcases Nat.lt_or_ge nx rows.length with hl | hl
  · rw [List.getD_eq_getElem?_getD, List.getElem?_eq_getElem hl]
    have hm := List.getElem_mem hl
    exact ⟨M.l _ hm, M.w _ hm, M.m _ hm⟩
  · rw [List.getD_eq_getElem?_getD, List.getElem?_eq_none hl]
    exact ⟨Rds.nil _ _, Rds.nil _ _, by decide, by decide⟩
section
variable {F0 : Nat → Prop} {h0 h : H} {Ps Rs : List HP} {X : HP} {sl : Sl} {rows : List MR} {b nx : Nat}
theorem mvAt (S : SG F0 h0 h Ps) (j : Nat) (hj : Ps[j]? = some X) (hX : ∀ h F, X.p h F → MvRd h sl rows) : MvRd h sl rows := by
  obtain ⟨F1, p, _⟩ := S.at j hj
  exact hX h F1 p
theorem set_idx {Ps : List HP} {i j : Nat} {P Q : HP} (hij : j ≠ i) (hj : Ps[j]? = some P) : (Ps.set i Q)[j]? = some P := by rw [List.getElem?_set_ne (Ne.symm hij)]; exact hj
/-- The first part of a play's step: the move that is next, taken. -/
theorem play_take (S : SG F0 h0 h Ps) (i j : Nat) (hij : j ≠ i) (hi : Ps[i]? = some (varP kPl b ⟨sl, (nx : Int)⟩)) (hj : Ps[j]? = some X) (hX : ∀ h F, X.p h F → MvRd h sl rows) (hn : nx < 4611686018427387904) (q2 : Nat) (h3 : H) (S3 : SG F0 h0 h3 (varP kMv q2 ⟨5, Sl.nil, 0, Sl.nil⟩ :: Ps)) {T : H → Prop}
    (k : ∀ h', SG F0 h0 h' (varP kMv q2 (curR rows nx).v :: Ps.set i (varP kPl b ⟨sl, ((nx + 1 : Nat) : Int)⟩)) → T h') :
    jn (fun (k1 : Unit → H → Prop) =>
    rd (some (⟨b, 0, none⟩ : Addr)) fun q5 =>
    rd (ld (kI .i64) (q5.add 1) h3) fun x5 =>
    rd (some (⟨b, 0, none⟩ : Addr)) fun q6 =>
    rd (ld kL (q6.add 0) h3) fun x6 =>
    if (decide (x5 < (x6.len : Int))) = true then
      rd (some (⟨b, 0, none⟩ : Addr)) fun q7 =>
      rd (ld kL (q7.add 0) h3) fun x7 =>
      rd (some (⟨b, 0, none⟩ : Addr)) fun q8 =>
      rd (ld (kI .i64) (q8.add 1) h3) fun x8 =>
      rd (ixA 4 x7 x8) fun q9 =>
      rd (ld kMv q9 h3) fun x9 =>
      rd (st kMv ⟨q2, 0, none⟩ x9 h3) fun h8 =>
      k1 () h8
    else
      k1 () h3) fun s1 h4 =>
  rd (some (⟨b, 0, none⟩ : Addr)) fun q3 =>
  rd (ld (kI .i64) (q3.add 1) h4) fun x1 =>
  rd (some (⟨b, 0, none⟩ : Addr)) fun q4 =>
  rd (st (kI .i64) (q4.add 1) (IntKind.i64.wrap (x1 + 1)) h4) T := by
  have hi3 : (varP kMv q2 ⟨5, Sl.nil, 0, Sl.nil⟩ :: Ps)[i + 1]? = some (varP kPl b ⟨sl, (nx : Int)⟩) := by rw [List.getElem?_cons_succ]; exact hi
  have M := mvAt S3 (j + 1) (by rw [List.getElem?_cons_succ]; exact hj) hX
  have hlen := M.r.len
  rw [List.length_map] at hlen
  have hl1 : ld (kI .i64) ⟨b, 1, none⟩ h3 = some (nx : Int) := varP.ld S3 fp_nx (i + 1) hi3
  have hl0 : ld kL ⟨b, 0, none⟩ h3 = some sl := varP.ld S3 fp_ms (i + 1) hi3
  refine jn_q (fun _ h4 => SG F0 h0 h4 (varP kMv q2 (curR rows nx).v :: Ps)) (fun K1 hK1 => ?_) ?_
  · refine rd_some rfl (rd_some (by rw [add_mk]; exact hl1) (rd_some rfl (rd_some (by rw [add_mk]; exact hl0) ?_)))
    refine ite_b (fun c => ?_) (fun c => ?_)
    · have c : nx < rows.length := by
        have c : decide ((nx : Int) < (sl.len : Int)) = true := c
        rw [decide_eq_true_eq] at c; omega
      refine rd_some rfl (rd_some (by rw [add_mk]; exact hl0) (rd_some rfl (rd_some (by rw [add_mk]; exact hl1) ?_)))
      refine M.r.elt0 (i := nx) (by rw [List.length_map]; exact c) rfl ?_
      rw [List.getElem_map]
      obtain ⟨h8, hs, S8, _⟩ := varP.st S3 (Fld.whole kMv) 0 rfl rows[nx].v
      refine rd_some hs (hK1 () h8 ?_)
      have e : curR rows nx = rows[nx] := by unfold curR; rw [List.getD_eq_getElem?_getD, List.getElem?_eq_getElem c]; rfl
      rw [e]; exact S8
    · have c : ¬ nx < rows.length := by
        have c : decide ((nx : Int) < (sl.len : Int)) = false := c
        rw [decide_eq_false_iff_not] at c; omega
      refine hK1 () h3 ?_
      have e : curR rows nx = endR := by unfold curR; rw [List.getD_eq_getElem?_getD, List.getElem?_eq_none (by omega)]; rfl
      rw [e]; exact S3
  · rintro _ h4 S4
    have hi4 : (varP kMv q2 (curR rows nx).v :: Ps)[i + 1]? = some (varP kPl b ⟨sl, (nx : Int)⟩) := by rw [List.getElem?_cons_succ]; exact hi
    have hl1 : ld (kI .i64) ⟨b, 1, none⟩ h4 = some (nx : Int) := varP.ld S4 fp_nx (i + 1) hi4
    obtain ⟨h5, hs, S5, _⟩ := varP.st S4 fp_nx (i + 1) hi4 ((nx + 1 : Nat) : Int)
    have hw : IntKind.i64.wrap ((nx : Int) + 1) = ((nx + 1 : Nat) : Int) := by rw [wrap64_id (by omega) (by omega)]; rfl
    refine rd_some rfl (rd_some (by rw [add_mk]; exact hl1) (rd_some rfl (rd_some ?_ (k h5 ?_))))
    · rw [add_mk, hw]; exact hs
    · exact S5
theorem no_pan {a0 : Option Addr} {k : Int} (hk : isPan k = false) {Q : Unit → H → Prop} (q : Q () h) : spatelaw12_Play_panics a0 k h Q := by
  unfold isPan at hk
  have hk : ¬ (-103 ≤ k ∧ k ≤ -99) := by
    intro ⟨a, b⟩
    rw [decide_eq_true a, decide_eq_true b] at hk
    cases hk
  unfold spatelaw12_Play_panics
  exact ite_f (by rw [beq_eq_false_iff_ne]; omega) (ite_f (by rw [beq_eq_false_iff_ne]; omega) (ite_f (by rw [beq_eq_false_iff_ne]; omega) (ite_f (by rw [beq_eq_false_iff_ne]; omega) (ite_f (by rw [beq_eq_false_iff_ne]; omega) q))))
theorem caught_spec (S : SG F0 h0 h Ps) (i j : Nat) (hij : j ≠ i) (hi : Ps[i]? = some (varP kPl b ⟨sl, (nx : Int)⟩)) (hj : Ps[j]? = some X) (hX : ∀ h F, X.p h F → MvRd h sl rows) (hn : nx < 4611686018427387904) {Q : (Mv × IF) → H → Prop}
    (k1 : isPan (curR rows nx).v.f0 = false → ∀ h', SG F0 h0 h' (Ps.set i (varP kPl b ⟨sl, ((nx + 1 : Nat) : Int)⟩)) → Q ((curR rows nx).v, none) h')
    (k2 : isPan (curR rows nx).v.f0 = true → ∀ pb h', SG F0 h0 h' (Ps.set i (varP kPl b ⟨sl, ((nx + 1 : Nat) : Int)⟩)) → Q (zMv, some (tPan, .pointer (some ⟨pb, 0, none⟩))) h') :
    sched_caught (some (tPlay, .pointer (some ⟨b, 0, none⟩))) h Q := by
  refine ⟨⟨b, 0, none⟩, rfl, S.var (K := kMv) (x := zMv) fun p1 h1 S1 _ => S1.var (K := kIf) (x := none) fun p2 h2 S2 _ => ?_⟩
  cases hp : isPan (curR rows nx).v.f0 with
  | false =>
    refine .inl ?_
    unfold spatelaw12_Play_Step
    refine S2.var (K := kMv) (x := zMv) fun q1 h3 S3 _ => S3.cell (K := kMv) (x := ⟨5, Sl.nil, 0, Sl.nil⟩) fun q2 h4 S4 _ => ?_
    refine play_take (b := b) (nx := nx) (sl := sl) (rows := rows) (X := X) S3 (i + 3) (j + 3) (by omega) (by simpa using hi) (by simpa using hj) hX hn q2 h4 S4 fun h5 S5 => ?_
    have S5 : SG F0 h0 h5 (varP kMv q2 (curR rows nx).v :: varP kMv q1 zMv :: varP kIf p2 none :: varP kMv p1 zMv :: Ps.set i (varP kPl b ⟨sl, ((nx + 1 : Nat) : Int)⟩)) := S5
    refine rd_some (by rw [add_mk]; exact varP.ld S5 fv_kind 0 rfl) (no_pan hp ?_)
    refine rd_some (varP.ld S5 (Fld.whole kMv) 0 rfl) ?_
    obtain ⟨h6, hs6, S6, _⟩ := varP.st S5 (Fld.whole kMv) 1 rfl (curR rows nx).v
    refine rd_some hs6 (rd_some (varP.ld S6 (Fld.whole kMv) 1 rfl) ?_)
    obtain ⟨h7, hs7, S7, _⟩ := varP.st S6 (Fld.whole kMv) 3 rfl (curR rows nx).v
    refine rd_some hs7 ?_
    obtain ⟨h8, hs8, S8, _⟩ := varP.st S7 (Fld.whole kIf) 2 rfl none
    refine rd_some hs8 (rd_some (varP.ld S8 (Fld.whole kMv) 3 rfl) (rd_some (varP.ld S8 (Fld.whole kIf) 2 rfl) ?_))
    exact k1 hp h8 S8.tail.tail.tail.tail
  | true =>
    refine .inr ?_
    unfold spatelaw12_Play_Step_dies
    refine S2.var (K := kMv) (x := zMv) fun q1 h3 S3 _ => S3.cell (K := kMv) (x := ⟨5, Sl.nil, 0, Sl.nil⟩) fun q2 h4 S4 _ => ?_
    refine play_take (b := b) (nx := nx) (sl := sl) (rows := rows) (X := X) S3 (i + 3) (j + 3) (by omega) (by simpa using hi) (by simpa using hj) hX hn q2 h4 S4 fun h5 S5 => ?_
    have S5 : SG F0 h0 h5 (varP kMv q2 (curR rows nx).v :: varP kMv q1 zMv :: varP kIf p2 none :: varP kMv p1 zMv :: Ps.set i (varP kPl b ⟨sl, ((nx + 1 : Nat) : Int)⟩)) := S5
    have hij' : (Ps.set i (varP kPl b ⟨sl, ((nx + 1 : Nat) : Int)⟩))[i]? = some (varP kPl b ⟨sl, ((nx + 1 : Nat) : Int)⟩) := by
      have : i < Ps.length := by
        rcases Nat.lt_or_ge i Ps.length with h | h
        · exact h
        · rw [List.getElem?_eq_none h] at hi; cases hi
      exact List.getElem?_set_self this
    have M := mvAt S5 (j + 4) (by show (Ps.set i _)[j]? = some X; exact set_idx hij hj) hX
    refine rd_some (by rw [add_mk]; exact varP.ld S5 fv_kind 0 rfl) ?_
    unfold isPan at hp
    rw [Bool.and_eq_true, decide_eq_true_eq, decide_eq_true_eq] at hp
    refine ⟨b, sl, ((nx + 1 : Nat) : Int), rfl, fun ha => ?_, ?_, varP.ld S5 fp_ms (i + 4) (by show (Ps.set i _)[i]? = _; exact hij'), varP.ld S5 fp_nx (i + 4) (by show (Ps.set i _)[i]? = _; exact hij'), hp.1, hp.2, fun rv => ?_⟩
    · rcases Nat.eq_zero_or_pos sl.len with hz | hz
      · exact hz
      · exfalso
        obtain ⟨a, h1, _⟩ := M.r.ix (i := 0) (by rw [← M.r.len]; exact hz) (n := 4) rfl
        unfold ixA at h1
        rw [ha] at h1
        simp at h1
    · have h1 := M.r.len
      have h2 := M.n
      rw [List.length_map] at h1
      omega
    · refine S5.var (K := k112) fun pb h6 S6 _ => ?_
      obtain ⟨h7, hs7, S7, _⟩ := varP.st S6 (Fld.whole kMv) 4 rfl zMv
      refine rd_some hs7 ?_
      obtain ⟨h8, hs8, S8, _⟩ := varP.st S7 (Fld.whole kIf) 3 rfl (some (tPan, .pointer (some ⟨pb, 0, none⟩)))
      refine rd_some hs8 (rd_some (varP.ld S8 (Fld.whole kMv) 4 rfl) (rd_some (varP.ld S8 (Fld.whole kIf) 3 rfl) ?_))
      refine k2 ?_ pb h8 S8.tail.tail.tail.tail.tail
      unfold isPan
      rw [Bool.and_eq_true, decide_eq_true_eq, decide_eq_true_eq]; exact hp
end
end Go.Proofs.YtomngllmnhdmlaaGreat
/- A step of a task: its move done; its end. -/
namespace Go.Proofs.YtomngllmnhdmlaaGreat
open Go Go.Tr
set_option linter.unusedVariables false
def faultP (v : IF) (n : Int) : HP where
  p h F := FaultAt h F v n ∧ ∀ b, F b → b < h.size
  st := fun ⟨f, l⟩ hs k => ⟨f.mono (fun b hb _ => k b hb) fun b hb _ => hb, fun b hb => Nat.lt_of_lt_of_le (l b hb) hs⟩
  lt := fun ⟨_, l⟩ => l
section
variable {F0 : Nat → Prop} {h0 h : H} {q mb : Nat} {lk : Int} {M : AM} {ts : Sl} {es : List EN} {A : AS} {bs : List Nat} {B : Nat} {Rs Ps : List HP} {v : IF} {n : Int}
theorem faultP.none (S : SG F0 h0 h Ps) : SG F0 h0 h (faultP none 0 :: Ps) :=
  S.add (P := faultP Option.none 0) (F1 := fun _ => False) ⟨.inl ⟨rfl, rfl⟩, fun _ h => h.elim⟩ (Ext.refl h) fun _ h => h.elim
theorem faultP.no (hn : n ≠ 0) (S : SG F0 h0 h Ps) : SG F0 h0 h (faultP (some (tErrno, .int .i64 n)) n :: Ps) :=
  S.add (P := faultP (some (tErrno, .int .i64 n)) n) (F1 := fun _ => False) ⟨.inr ⟨hn, .inl rfl⟩, fun _ h => h.elim⟩ (Ext.refl h) fun _ h => h.elim
theorem faultP.pan (pb : Nat) (S : SG F0 h0 h Ps) : SG F0 h0 h (faultP (some (tPan, .pointer (some ⟨pb, 0, Option.none⟩))) 42 :: Ps) :=
  S.add (P := faultP (some (tPan, .pointer (some ⟨pb, 0, Option.none⟩))) 42) (F1 := fun _ => False) ⟨.inr ⟨by decide, .inr (.inr ⟨pb, rfl, rfl⟩)⟩, fun _ h => h.elim⟩ (Ext.refl h) fun _ h => h.elim
theorem errP.fault (S : SG F0 h0 h (errP v n :: Ps)) : SG F0 h0 h (faultP v n :: Ps) := by
  refine S.imp 0 rfl (faultP v n) fun F x => ?_
  have hl := (errP v n).lt x
  rcases x with ⟨h1, h2, _⟩ | ⟨h1, pb, t, h2, V, h3⟩
  · exact ⟨.inl ⟨h1, h2⟩, hl⟩
  · exact ⟨.inr ⟨h1, .inr (.inl ⟨pb, t, h2, V, by rw [h3]⟩)⟩, hl⟩
/-- A fault taken into the entries. -/
theorem fault_in {es es' : List EN} (S : SG F0 h0 h (faultP v n :: faultsP es :: Ps)) (hs : ∀ e ∈ es', (e.fv = v ∧ e.fl = n) ∨ ∃ x ∈ es, x.fv = e.fv ∧ x.fl = e.fl) : SG F0 h0 h (faultsP es' :: Ps) := by
  obtain ⟨F, ⟨F1, _, o, ⟨F2, F3, a2, r, c2, d2⟩, c, d⟩, f⟩ := S
  refine ⟨F, ⟨fun k => F1 k ∨ F2 k, F3, ⟨fun e he => ?_, fun k hk => ?_⟩, r, fun k hk h3 => ?_, fun k => ?_⟩, f⟩
  · rcases hs e he with ⟨rfl, rfl⟩ | ⟨x, hx, e1, e2⟩
    · exact o.1.mono (fun _ _ _ => rfl) fun _ hb _ => .inl hb
    · rw [← e1, ← e2]; exact (a2.1 x hx).mono (fun _ _ _ => rfl) fun _ hb _ => .inr hb
  · rcases hk with hk | hk
    · exact o.2 k hk
    · exact a2.2 k hk
  · rcases hk with hk | hk
    · exact c _ hk ((d2 _).2 (.inr h3))
    · exact c2 k hk h3
  · rw [d k, d2 k, or_assoc]
theorem wakesE_tk : ∀ (w : List Int) (es : List EN), (w.foldl (fun es on => es.map (wkE on)) es).map EN.tk = w.foldl wakeT (es.map EN.tk)
  | [], es => rfl
  | on :: w, es => by
    show (w.foldl _ (es.map (wkE on))).map EN.tk = w.foldl wakeT (wakeT (es.map EN.tk) on)
    rw [wakesE_tk w]
    congr 1
    unfold wakeT
    rw [List.map_map, List.map_map]
    congr 1; funext e; exact wkE_tk on e
theorem wakesE_b : ∀ (w : List Int) (es : List EN), (w.foldl (fun es on => es.map (wkE on)) es).map EN.b = es.map EN.b
  | [], es => rfl
  | on :: w, es => by
    show (w.foldl _ (es.map (wkE on))).map EN.b = _
    rw [wakesE_b w, List.map_map]
    congr 1; funext e; exact wkE_b on e
theorem len_of_b {es es' : List EN} (h : es'.map EN.b = es.map EN.b) : es'.length = es.length := by have := congrArg List.length h; simpa using this
theorem setSt_set {es : List EN} {n : Nat} (hn : n < es.length) (s : Int) : (es.set n { es[n] with st := s }).map EN.tk = setSt (es.map EN.tk) n s := by
  rw [← setE1_tk]; unfold setE1; rw [modify_set _ hn]
theorem set_b {es : List EN} {n : Nat} (hn : n < es.length) (e : EN) (he : e.b = es[n].b) : (es.set n e).map EN.b = es.map EN.b := by
  rw [List.map_set, he]
  apply List.ext_getElem?
  intro i
  by_cases c : n = i
  · subst c; rw [List.getElem?_set_self (by simpa using hn), List.getElem?_map, List.getElem?_eq_getElem hn]; rfl
  · rw [List.getElem?_set_ne c]
theorem modT_set {es : List EN} {n : Nat} (hn : n < es.length) (f : TK → TK) (e : EN) (he : e.tk = f es[n].tk) : (es.set n e).map EN.tk = (es.map EN.tk).modify n f := by
  have hn' : n < (es.map EN.tk).length := by rw [List.length_map]; exact hn
  rw [List.map_set, he, modify_set _ hn', List.getElem_map]
/-- What a step answered, done. -/
theorem move_spec {n : Nat} (hn : n < es.length) (ok : (AS.mk M (es.map EN.tk)).Ok B) (hB : B ≤ 90000000) {X : HP} {mv : Mv} {l : List Lk} {w : List Int} (j : Nat) (hj : Rs[j]? = some X)
    (hX : ∀ h F, X.p h F → Rds kLk h mv.f1 l ∧ Rds (kI .i64) h mv.f3 w ∧ l.length ≤ 140737488351232 ∧ w.length ≤ 140737488351232)
    (S : SG F0 h0 h (sdL q lk mb M ts es ++ Rs)) {Q : (Bool × IF) → H → Prop}
    (k : ∀ fv es' h', es'.map EN.tk = ((AS.mk M (es.map EN.tk)).move n ⟨mv.f0, l, mv.f2, w⟩).2.ts → es'.map EN.b = es.map EN.b → SG F0 h0 h' (faultP fv ((AS.mk M (es.map EN.tk)).move n ⟨mv.f0, l, mv.f2, w⟩).1.2 :: (sdL q lk mb ((AS.mk M (es.map EN.tk)).move n ⟨mv.f0, l, mv.f2, w⟩).2.m ts es' ++ Rs)) → Q (((AS.mk M (es.map EN.tk)).move n ⟨mv.f0, l, mv.f2, w⟩).1.1, fv) h') :
    sched_Sched_move (some ⟨q, 0, none⟩) (n : Int) mv h Q := by
  have hes : es.length ≤ 400 := by have := ok.n; simpa using this
  unfold sched_Sched_move
  refine S.var (K := kMv) fun q1 h1 S1 _ => ?_
  have S1 : SG F0 h0 h1 (sdL q lk mb M ts es ++ (varP kMv q1 mv :: Rs)) := S1.perm (List.perm_middle (l₁ := sdL q lk mb M ts es)).symm
  have rd0 : ∀ {M' : AM} {es' : List EN} {h' : H}, SG F0 h0 h' (sdL q lk mb M' ts es' ++ (varP kMv q1 mv :: Rs)) → (Rds kLk h' mv.f1 l ∧ Rds (kI .i64) h' mv.f3 w ∧ l.length ≤ 140737488351232 ∧ w.length ≤ 140737488351232) := fun S => by
    obtain ⟨F1, p, _⟩ := S.at (j + 5) (P := X) (by exact hj)
    exact hX _ _ p
  have out : ∀ {fv : IF} {e : Int} {M' : AM} {es' : List EN} {h' : H}, SG F0 h0 h' (faultP fv e :: (sdL q lk mb M' ts es' ++ (varP kMv q1 mv :: Rs))) → SG F0 h0 h' (faultP fv e :: (sdL q lk mb M' ts es' ++ Rs)) := fun {fv e M' es' h'} S => by
    have S' : SG F0 h0 h' (varP kMv q1 mv :: faultP fv e :: (sdL q lk mb M' ts es' ++ Rs)) := S.front 5 rfl
    exact S'.tail
  refine jn_q (fun _ h2 => SG F0 h0 h2 (sdL q lk mb M ts (w.foldl (fun es on => es.map (wkE on)) es) ++ (varP kMv q1 mv :: Rs))) (fun K1 hK1 => ?_) ?_
  · refine rd_some (by rw [add_mk]; exact varP.ld S1 fv_w 4 rfl) ?_
    have hw := (rd0 S1).2.1.len
    have hwl := (rd0 S1).2.2.2
    refine for0 (mk := fun (_ : Unit) i => i) (s := ()) (n := w.length) (by omega) (fun i _ h' => SG F0 h0 h' (sdL q lk mb M ts ((w.take i).foldl (fun es on => es.map (wkE on)) es) ++ (varP kMv q1 mv :: Rs))) S1 (fun i _ h' K hi S2 next done => ?_) (fun _ h' K S2 done => ?_)
    · unfold sched_Sched_move.b1
      refine ite_t (by show decide ((i : Int) < (mv.f3.len : Int)) = true; rw [hw]; exact clt_t hi) ((rd0 S2).2.1.elt0 hi rfl ?_)
      refine wake_spec S2 (by rw [len_of_b (wakesE_b _ es)]; omega) w[i] fun h3 S3 => next () h3 ?_
      rw [List.take_add_one, List.getElem?_eq_getElem hi, Option.toList_some, List.foldl_append]; exact S3
    · unfold sched_Sched_move.b1
      refine ite_f (by show decide ((w.length : Int) < (mv.f3.len : Int)) = false; rw [hw]; exact clt_f (Nat.lt_irrefl _)) (done _ _ (hK1 () h' ?_))
      rw [List.take_length] at S2; exact S2
  · rintro _ h2 S2
    have e1 := wakesE_tk w es
    have e2 := wakesE_b w es
    generalize w.foldl (fun es on => es.map (wkE on)) es = es1 at S2 e1 e2
    have hl1 := len_of_b e2
    have hn1 : n < es1.length := by omega
    have hts : (AS.mk M (es.map EN.tk)).wakes w = AS.mk M (es1.map EN.tk) := by unfold AS.wakes; rw [e1]
    have okm : M.Ok B := ok.m
    have htk : ∀ c ∈ M.has ++ M.queue, ∃ k : Nat, c.1 = k ∧ k < es1.length := fun c hc => by
      obtain ⟨k, h1, h2⟩ := ok.t c hc
      exact ⟨k, h1, by rw [List.length_map] at h2; omega⟩
    have hk : ld (kI .i64) ⟨q1, 0, none⟩ h2 = some mv.f0 := varP.ld S2 fv_kind 4 rfl
    have hl : ld kL ⟨q1, 1, none⟩ h2 = some mv.f1 := varP.ld S2 fv_l 4 rfl
    unfold AS.move at k
    simp only [hts] at k
    refine jn_q (fun _ h3 => ∃ es', es'.map EN.b = es.map EN.b ∧ ((AS.mk M (es.map EN.tk)).move n ⟨mv.f0, l, mv.f2, w⟩).1 = (false, 0) ∧ es'.map EN.tk = ((AS.mk M (es.map EN.tk)).move n ⟨mv.f0, l, mv.f2, w⟩).2.ts ∧ SG F0 h0 h3 (sdL q lk mb ((AS.mk M (es.map EN.tk)).move n ⟨mv.f0, l, mv.f2, w⟩).2.m ts es' ++ (varP kMv q1 mv :: Rs))) (fun K2 hK2 => rd_some (by rw [add_mk]; exact hk) ?_) ?_
    · unfold AS.move at hK2
      simp only [hts] at hK2
      refine ite_b (fun c => ?_) (fun c => ?_)
      · have c : mv.f0 = 1 := by simpa using c
        rw [if_pos c] at hK2
        exact hK2 () h2 ⟨es1, e2, rfl, rfl, S2⟩
      have c1 : ¬ mv.f0 = 1 := by simpa using c
      rw [if_neg c1] at hK2 k
      refine ite_b (fun c => ?_) (fun c => ?_)
      · have c : mv.f0 = 2 := by simpa using c
        rw [if_pos c] at hK2 k
        have hl3 := (rd0 S2).2.2.1
        refine rd_some rfl (rd_some (by rw [add_mk]; exact varP.ld S2 fs_m 0 rfl) (rd_some (by rw [add_mk]; exact hl) ?_))
        refine S2.go1 1 rfl (ask_spec okm (by omega) (t := (n : Int)) (rd0 S2).1 (by omega)) fun v h4 S4 => ?_
        have S4 : SG F0 h0 h4 (errP v (M.ask n l).1.2 :: (sdL q lk mb (M.ask n l).2 ts es1 ++ (varP kMv q1 mv :: Rs))) := S4
        have hnl := errP.is S4 0 rfl
        by_cases he : (M.ask n l).1.2 = 0
        · rcases hnl with ⟨_, rfl⟩ | ⟨h, _⟩
          · rw [if_neg (by rw [he]; decide)] at hK2
            refine ite_f rfl (ite_b (fun d => ?_) (fun d => ?_))
            · have d : (M.ask n l).1.1 = false := by simpa using d
              refine rd_some rfl (rd_some (by rw [add_mk]; exact varP.ld S4 fs_ts 1 rfl) ?_)
              obtain ⟨a, h5, ha, hs, S5⟩ := setE fe_st S4.tail hn1 2 { es1[n] with st := 2 } rfl ⟨rfl, rfl⟩
              refine rd_some ha (rd_some hs (hK2 () h5 ⟨es1.set n { es1[n] with st := 2 }, (set_b hn1 { es1[n] with st := 2 } rfl).trans e2, rfl, ?_, S5⟩))
              simp only [d, if_false, Bool.false_eq_true]
              exact setSt_set hn1 2
            · have d : (M.ask n l).1.1 = true := by simpa using d
              refine hK2 () h4 ⟨es1, e2, rfl, ?_, S4.tail⟩
              simp only [d, if_true]
          · exact absurd he h
        · rcases hnl with ⟨h, _⟩ | ⟨_, hv, _⟩
          · exact absurd h he
          · rw [if_pos he] at k
            refine ite_t (by show (!v.isNone) = true; rw [hv]; rfl) ?_
            exact k v es1 h4 rfl e2 (out (errP.fault S4))
      have c2 : ¬ mv.f0 = 2 := by simpa using c
      rw [if_neg c2] at hK2 k
      refine ite_b (fun c => ?_) (fun c => ?_)
      · have c : mv.f0 = 3 := by simpa using c
        rw [if_pos c] at hK2 k
        refine rd_some rfl (rd_some (by rw [add_mk]; exact varP.ld S2 fs_m 0 rfl) ?_)
        refine S2.go1 1 rfl (free_spec okm (by omega) (n : Int)) fun g h4 S4 => ?_
        have S4 : SG F0 h0 h4 (ownP (kI .i64) g.1 (M.free n).1.1 :: errP g.2 (M.free n).1.2 :: (sdL q lk mb (M.free n).2 ts es1 ++ (varP kMv q1 mv :: Rs))) := S4
        have hnl := errP.is S4 1 rfl
        by_cases he : (M.free n).1.2 = 0
        · rcases hnl with ⟨_, hv⟩ | ⟨h, _⟩
          · rw [if_neg (by rw [he]; decide)] at hK2
            refine ite_f (by show (!g.2.isNone) = false; rw [hv]; rfl) ?_
            have S5 : SG F0 h0 h4 (ownP (kI .i64) g.1 (M.free n).1.1 :: (sdL q lk mb (M.free n).2 ts es1 ++ (varP kMv q1 mv :: Rs))) := (S4.front 1 rfl).tail
            have hfl : (M.free n).1.1.length ≤ B := by
              unfold AM.free
              split
              · simp
              · rename_i i hi
                have h1 := thr_told M.queue (M.has.eraseIdx i) []
                have h2 := okm.b
                show (thr (M.has.eraseIdx i) [] M.queue).2.2.length ≤ B
                omega
            refine granted_spec S5 (by omega) (AS.free_told (P := fun x => ∃ k : Nat, x = k ∧ k < es1.length) _ htk) fun h5 S6 => hK2 () h5 ⟨_, (grantE_b _ _).trans e2, rfl, ?_, S6.tail⟩
            exact grantE_tk _ _
          · exact absurd he h
        · rcases hnl with ⟨h, _⟩ | ⟨_, hv, _⟩
          · exact absurd h he
          · rw [if_pos he] at k
            refine ite_t (by show (!g.2.isNone) = true; rw [hv]; rfl) ?_
            exact k g.2 es1 h4 rfl e2 (out (errP.fault S4.tail))
      have c3 : ¬ mv.f0 = 3 := by simpa using c
      rw [if_neg c3] at hK2 k
      refine ite_b (fun c => ?_) (fun c => ?_)
      · have c : mv.f0 = 4 := by simpa using c
        rw [if_pos c] at hK2
        have ho : ld (kI .i64) ⟨q1, 2, none⟩ h2 = some mv.f2 := varP.ld S2 fv_on 4 rfl
        have ht : ld kL ⟨q, 3, none⟩ h2 = some ts := varP.ld S2 fs_ts 0 rfl
        refine rd_some rfl (rd_some (by rw [add_mk]; exact ht) (rd_some rfl (rd_some (by rw [add_mk]; exact ht) (rd_some (by rw [add_mk]; exact ho) ?_))))
        obtain ⟨a, h4, ha, hs, S4⟩ := setE fe_st S2 hn1 3 { es1[n] with st := 3 } rfl ⟨rfl, rfl⟩
        refine rd_some ha (rd_some hs ⟨by rw [add_mk]; exact varP.ld S4 fv_on 4 rfl, ?_⟩)
        have hn2 : n < (es1.set n { es1[n] with st := 3 }).length := by simpa using hn1
        have hg2 : (es1.set n { es1[n] with st := 3 })[n] = { es1[n] with st := 3 } := by rw [List.getElem_set_self]
        obtain ⟨a2, h5, ha2, hs2, S5⟩ := setE fe_on S4 hn2 mv.f2 { es1[n] with st := 3, on := mv.f2 } (by rw [hg2]; rfl) (by rw [hg2]; exact ⟨rfl, rfl⟩)
        refine rd_some ha2 (rd_some hs2 (hK2 () h5 ⟨_, ?_, rfl, ?_, S5⟩))
        · rw [List.set_set]; exact (set_b hn1 { es1[n] with st := 3, on := mv.f2 } rfl).trans e2
        · rw [List.set_set]; exact modT_set hn1 _ { es1[n] with st := 3, on := mv.f2 } rfl
      have c4 : ¬ mv.f0 = 4 := by simpa using c
      rw [if_neg c4] at hK2 k
      refine ite_b (fun c => ?_) (fun c => ?_)
      · have c : mv.f0 = 5 := by simpa using c
        rw [if_pos c] at k
        exact k none es1 h2 rfl e2 (out (faultP.none S2))
      · have c5 : ¬ mv.f0 = 5 := by simpa using c
        rw [if_neg c5] at k
        exact k (some (tErrno, .int .i64 15)) es1 h2 rfl e2 (out (faultP.no (by decide) S2))
    · rintro _ h3 ⟨es', eb, em, et, S3⟩
      have S4 := out (faultP.none S3)
      have hm : ((AS.mk M (es.map EN.tk)).move n ⟨mv.f0, l, mv.f2, w⟩).1.2 = 0 := by rw [em]
      have hm1 : ((AS.mk M (es.map EN.tk)).move n ⟨mv.f0, l, mv.f2, w⟩).1.1 = false := by rw [em]
      have := k
      unfold AS.move at em et S4 hm hm1
      simp only [hts] at em et S4 hm hm1
      rw [hm, hm1] at k
      exact k none es' h3 et eb S4
end
end Go.Proofs.YtomngllmnhdmlaaGreat
/- A step of a task, whole. -/
namespace Go.Proofs.YtomngllmnhdmlaaGreat
open Go Go.Tr
set_option linter.unusedVariables false
/-- A play: where it is, its moves, how many were made. -/
structure PLY where
  b : Nat
  sl : Sl
  nx : Nat
  rows : List MR
def PLY.mv (p : PLY) : MV := (curR p.rows p.nx).mv
def PLY.up (p : PLY) : PLY := { p with nx := p.nx + 1 }
def cells (L : List PLY) : List HP := L.map fun p => varP kPl p.b ⟨p.sl, (p.nx : Int)⟩
def Xok (X : HP) (L : List PLY) : Prop := ∀ h F, X.p h F → ∀ p ∈ L, MvRd h p.sl p.rows
def bump (L : List PLY) (n : Nat) : List PLY := L.modify n PLY.up
theorem bump_len (L : List PLY) (n : Nat) : (bump L n).length = L.length := by unfold bump; simp
theorem modify_setP {L : List PLY} {n : Nat} (hn : n < L.length) : bump L n = L.set n L[n].up := modify_set _ hn
theorem bump_b (L : List PLY) (n : Nat) : (bump L n).map (·.b) = L.map (·.b) := by
  apply List.ext_getElem?
  intro i
  unfold bump
  simp only [List.getElem?_map, List.getElem?_modify]
  cases L[i]? with
  | none => simp
  | some e => by_cases c : n = i <;> simp [c, PLY.up]
theorem mem_bump {L : List PLY} {n : Nat} {y : PLY} (hy : y ∈ bump L n) : ∃ p ∈ L, p.sl = y.sl ∧ p.rows = y.rows := by
  obtain ⟨i, hi⟩ := List.getElem?_of_mem hy
  unfold bump at hi
  rw [List.getElem?_modify] at hi
  cases hp : L[i]? with
  | none => rw [hp] at hi; cases hi
  | some p =>
    rw [hp] at hi
    refine ⟨p, List.mem_of_getElem? hp, ?_⟩
    by_cases c : n = i
    · simp [c] at hi; rw [← hi]; exact ⟨rfl, rfl⟩
    · simp [c] at hi; rw [hi]; exact ⟨rfl, rfl⟩
theorem Xok.up {X : HP} {L : List PLY} (x : Xok X L) (n : Nat) : Xok X (bump L n) := fun h F p y hy => by
  obtain ⟨z, hz, e1, e2⟩ := mem_bump hy
  rw [← e1, ← e2]; exact x h F p z hz
theorem cells_bump {L : List PLY} {n : Nat} (hn : n < L.length) : cells (bump L n) = (cells L).set n (varP kPl L[n].b ⟨L[n].sl, ((L[n].nx + 1 : Nat) : Int)⟩) := by
  rw [modify_setP hn]
  unfold cells
  rw [List.map_set]; rfl
section
variable {F0 : Nat → Prop} {h0 h : H} {q mb : Nat} {lk : Int} {M : AM} {ts : Sl} {es : List EN} {B : Nat} {Rs : List HP} {X : HP} {L : List PLY}
theorem step_spec {n : Nat} (hn : n < es.length) (ok : (AS.mk M (es.map EN.tk)).Ok B) (hB : B ≤ 80000000) (hb : es.map EN.b = L.map (·.b)) (hX : Xok X L) (hnx : ∀ p ∈ L, p.nx ≤ 1000000000000)
    (S : SG F0 h0 h (sdL q lk mb M ts es ++ (cells L ++ (X :: Rs)))) {Q : Unit → H → Prop}
    (k : ∀ (hnL : n < L.length) es' h', es'.map EN.tk = ((AS.mk M (es.map EN.tk)).step n L[n].mv).ts → es'.map EN.b = es.map EN.b → SG F0 h0 h' (sdL q lk mb ((AS.mk M (es.map EN.tk)).step n L[n].mv).m ts es' ++ (cells (bump L n) ++ (X :: Rs))) → Q () h') :
    sched_Sched_step (some ⟨q, 0, none⟩) (n : Int) h Q := by
  have hL : es.length = L.length := by have := congrArg List.length hb; simpa using this
  have hnL : n < L.length := by omega
  have k := k hnL
  have hbn : es[n].b = L[n].b := by
    have h1 : (es.map EN.b)[n]? = (L.map (·.b))[n]? := by rw [hb]
    rw [List.getElem?_map, List.getElem?_map, List.getElem?_eq_getElem hn, List.getElem?_eq_getElem hnL] at h1
    simpa using h1
  have hes : es.length ≤ 400 := by have := ok.n; simpa using this
  have hcl : (cells L).length = L.length := by unfold cells; simp
  have hi : (sdL q lk mb M ts es ++ (cells L ++ (X :: Rs)))[4 + n]? = some (varP kPl L[n].b ⟨L[n].sl, (L[n].nx : Int)⟩) := by
    rw [List.getElem?_append_right (by show 4 ≤ 4 + n; omega)]
    have : 4 + n - (sdL q lk mb M ts es).length = n := by show 4 + n - 4 = n; omega
    rw [this, List.getElem?_append_left (by omega)]
    unfold cells
    rw [List.getElem?_map, List.getElem?_eq_getElem hnL]; rfl
  have hjx : ∀ (C : List HP), C.length = L.length → (C ++ (X :: Rs))[L.length]? = some X := fun C hC => by
    rw [List.getElem?_append_right (by omega), hC, Nat.sub_self]; rfl
  have hj : (sdL q lk mb M ts es ++ (cells L ++ (X :: Rs)))[4 + L.length]? = some X := by
    rw [List.getElem?_append_right (by show 4 ≤ 4 + L.length; omega)]
    have : 4 + L.length - (sdL q lk mb M ts es).length = L.length := by show 4 + L.length - 4 = L.length; omega
    rw [this]; exact hjx _ hcl
  have hset : (sdL q lk mb M ts es ++ (cells L ++ (X :: Rs))).set (4 + n) (varP kPl L[n].b ⟨L[n].sl, ((L[n].nx + 1 : Nat) : Int)⟩) = sdL q lk mb M ts es ++ (cells (bump L n) ++ (X :: Rs)) := by
    rw [List.set_append, if_neg (by show ¬ 4 + n < 4; omega)]
    have : 4 + n - (sdL q lk mb M ts es).length = n := by show 4 + n - 4 = n; omega
    rw [this, List.set_append, if_pos (by omega), cells_bump hnL]
  have hXn : ∀ h F, X.p h F → MvRd h L[n].sl L[n].rows := fun h F p => hX h F p _ (List.getElem_mem hnL)
  unfold sched_Sched_step
  refine rd_some rfl (rd_some (by rw [add_mk]; exact varP.ld S fs_ts 0 rfl) ?_)
  obtain ⟨a, ha, h1⟩ := ldE fe_task S hn
  refine rd_some ha (rd_some h1 ?_)
  show sched_caught (some (tPlay, .pointer (some ⟨es[n].b, 0, none⟩))) h _
  rw [hbn]
  -- behind the step
  have rest : ∀ (fv : IF) (fl : Int) (A2 : AS) (es2 : List EN) (h4 : H) (ends : Bool), A2.Ok (B + 1) → es2.map EN.tk = A2.ts → es2.map EN.b = es.map EN.b → (AS.mk M (es.map EN.tk)).step n L[n].mv = (if ends then A2.endT n fl else A2) → SG F0 h0 h4 (faultP fv fl :: (sdL q lk mb A2.m ts es2 ++ (cells (bump L n) ++ (X :: Rs)))) →
      (if (fv, ends).2 = true then
    rd (some (⟨q, 0, none⟩ : Addr)) fun q4 =>
    rd (ld kL (q4.add 3) h4) fun x3 =>
    rd (some (⟨q, 0, none⟩ : Addr)) fun q5 =>
    rd (ld kL (q5.add 3) h4) fun x4 =>
    rd (ixA 4 x3 (n : Int)) fun q6 =>
    rd (st (kI .i64) (q6.add 1) 4 h4) fun h5 =>
    rd (ixA 4 x4 (n : Int)) fun q7 =>
    rd (st kIf (q7.add 3) (fv, ends).1 h5) fun h6 =>
    rd (some (⟨q, 0, none⟩ : Addr)) fun q8 =>
    rd (ld kP (q8.add 2) h6) fun x5 =>
    locks_Manager_Quit x5 (n : Int) h6 fun r2 h7 =>
    sched_Sched_granted (some ⟨q, 0, none⟩) r2 h7 fun r3 h8 =>
    Q () h8
  else
    Q () h4) := by
    intro fv fl A2 es2 h4 ends ok2 et eb hst S4
    have hn2 : n < es2.length := by rw [len_of_b eb]; exact hn
    cases ends with
    | false =>
      refine ite_f rfl (k es2 h4 ?_ eb ?_)
      · rw [hst]; exact et
      · rw [hst]; exact S4.tail
    | true =>
      have ht : ld kL ⟨q, 3, none⟩ h4 = some ts := varP.ld S4 fs_ts 1 rfl
      refine ite_t rfl (rd_some rfl (rd_some (by rw [add_mk]; exact ht) (rd_some rfl (rd_some (by rw [add_mk]; exact ht) ?_))))
      have S4' : SG F0 h0 h4 (sdL q lk mb A2.m ts es2 ++ (faultP fv fl :: (cells (bump L n) ++ (X :: Rs)))) := S4.perm (List.perm_middle (l₁ := sdL q lk mb A2.m ts es2)).symm
      obtain ⟨a, h5, ha, hs, S5⟩ := setE fe_st S4' hn2 4 { es2[n] with st := 4 } rfl ⟨rfl, rfl⟩
      refine rd_some ha (rd_some hs ?_)
      have hn3 : n < ((es2.set n { es2[n] with st := 4 }).map erow).length := by simpa using hn2
      obtain ⟨h6, hs6, S6⟩ := ownP.stF fe_fl S5 2 rfl (List.getElem?_eq_getElem hn3) rfl ha fv
      refine rd_some ha (rd_some hs6 ?_)
      have hg : ((es2.set n { es2[n] with st := 4 }).map erow)[n] = erow { es2[n] with st := 4 } := by rw [List.getElem_map, List.getElem_set_self]
      have S6 : SG F0 h0 h6 (varP kSd q (sd lk mb ts) :: mgrP mb A2.m :: ownP kEn ts (((es2.set n { es2[n] with st := 4 }).map erow).set n { ((es2.set n { es2[n] with st := 4 }).map erow)[n] with f3 := fv }) :: faultsP (es2.set n { es2[n] with st := 4 }) :: faultP fv fl :: (cells (bump L n) ++ (X :: Rs))) := S6
      rw [hg] at S6
      have e6 : ((es2.set n { es2[n] with st := 4 }).map erow).set n { erow { es2[n] with st := 4 } with f3 := fv } = (es2.set n { es2[n] with st := 4, fv := fv, fl := fl }).map erow := by
        rw [List.map_set, List.map_set, List.set_set]; rfl
      rw [e6] at S6
      have S7 : SG F0 h0 h6 (faultP fv fl :: faultsP (es2.set n { es2[n] with st := 4 }) :: varP kSd q (sd lk mb ts) :: mgrP mb A2.m :: ownP kEn ts ((es2.set n { es2[n] with st := 4, fv := fv, fl := fl }).map erow) :: (cells (bump L n) ++ (X :: Rs))) := (S6.front 3 rfl).front 4 rfl
      have S8 := fault_in (es' := es2.set n { es2[n] with st := 4, fv := fv, fl := fl }) S7 fun e he => by
        rcases List.mem_or_eq_of_mem_set he with he | rfl
        · obtain ⟨i, hi, rfl⟩ := List.getElem_of_mem he
          by_cases c : n = i
          · subst c
            refine .inr ⟨(es2.set n { es2[n] with st := 4 })[n]'(by simpa using hn2), List.getElem_mem _, ?_⟩
            rw [List.getElem_set_self]; exact ⟨rfl, rfl⟩
          · refine .inr ⟨(es2.set n { es2[n] with st := 4 })[i]'(by simpa using hi), List.getElem_mem _, ?_⟩
            rw [List.getElem_set_ne c]; exact ⟨rfl, rfl⟩
        · exact .inl ⟨rfl, rfl⟩
      have S9 : SG F0 h0 h6 (sdL q lk mb A2.m ts (es2.set n { es2[n] with st := 4, fv := fv, fl := fl }) ++ (cells (bump L n) ++ (X :: Rs))) := ((S8.front 3 rfl).front 3 rfl).front 3 rfl
      have et3 : (es2.set n { es2[n] with st := 4, fv := fv, fl := fl }).map EN.tk = A2.ts.modify n fun t => { t with st := 4, fl := fl } := by
        rw [← et]; exact modT_set hn2 _ { es2[n] with st := 4, fv := fv, fl := fl } rfl
      have eb3 : (es2.set n { es2[n] with st := 4, fv := fv, fl := fl }).map EN.b = es.map EN.b := (set_b hn2 { es2[n] with st := 4, fv := fv, fl := fl } rfl).trans eb
      generalize es2.set n { es2[n] with st := 4, fv := fv, fl := fl } = es3 at S9 et3 eb3
      have hl3 := len_of_b eb3
      refine rd_some rfl (rd_some (by rw [add_mk]; exact varP.ld S9 fs_m 0 rfl) ?_)
      refine S9.go1 1 rfl (quit_spec ok2.m (by omega) (n : Int)) fun g h7 S10 => ?_
      have S10 : SG F0 h0 h7 (ownP (kI .i64) g (A2.m.quit n).1 :: (sdL q lk mb (A2.m.quit n).2 ts es3 ++ (cells (bump L n) ++ (X :: Rs)))) := S10
      have hql : (A2.m.quit n).1.length ≤ B + 1 := by
        have hmb := ok2.m.b
        unfold AM.quit
        split
        · rename_i i hi
          have := thr_told A2.m.queue (A2.m.has.eraseIdx i) []
          show (thr (A2.m.has.eraseIdx i) [] A2.m.queue).2.2.length ≤ _
          omega
        · split
          · rename_i i hi
            have := thr_told (A2.m.queue.eraseIdx i) A2.m.has []
            have := List.length_eraseIdx_le A2.m.queue i
            show (thr A2.m.has [] (A2.m.queue.eraseIdx i)).2.2.length ≤ _
            omega
          · simp
      have htold : ∀ x ∈ (A2.m.quit n).1, ∃ m : Nat, x = m ∧ m < es3.length := by
        refine AS.quit_told (P := fun x => ∃ m : Nat, x = m ∧ m < es3.length) _ fun c hc => ?_
        obtain ⟨m, h1, h2⟩ := ok2.t c hc
        have : A2.ts.length = es2.length := by rw [← et, List.length_map]
        have := len_of_b eb
        exact ⟨m, h1, by omega⟩
      refine granted_spec S10 (by omega) htold fun h8 S11 => k (grantE es3 (A2.m.quit n).1) h8 ?_ ((grantE_b _ _).trans eb3) ?_
      · rw [hst, grantE_tk, et3]; rfl
      · rw [hst]; exact S11.tail
  refine caught_spec (X := X) (rows := L[n].rows) S (4 + n) (4 + L.length) (by omega) hi hj hXn (by have := hnx _ (List.getElem_mem hnL); omega) (fun hp h1 S1 => ?_) (fun hp pb h1 S1 => ?_)
  · rw [hset] at S1
    have hpan : isPan L[n].mv.k = false := hp
    refine S1.cell (K := kMv) (x := (curR L[n].rows L[n].nx).v) fun q3 h3 S3 _ => ?_
    have S3 : SG F0 h0 h3 (varP kMv q3 (curR L[n].rows L[n].nx).v :: (sdL q lk mb M ts es ++ (cells (bump L n) ++ (X :: Rs)))) := S3
    have hmv : (⟨(curR L[n].rows L[n].nx).v.f0, (curR L[n].rows L[n].nx).l, (curR L[n].rows L[n].nx).v.f2, (curR L[n].rows L[n].nx).w⟩ : MV) = L[n].mv := rfl
    refine jn_q (fun s h4 => ∃ es2, s.2 = ((AS.mk M (es.map EN.tk)).move n L[n].mv).1.1 ∧ es2.map EN.tk = ((AS.mk M (es.map EN.tk)).move n L[n].mv).2.ts ∧ es2.map EN.b = es.map EN.b ∧ SG F0 h0 h4 (faultP s.1 ((AS.mk M (es.map EN.tk)).move n L[n].mv).1.2 :: (sdL q lk mb ((AS.mk M (es.map EN.tk)).move n L[n].mv).2.m ts es2 ++ (cells (bump L n) ++ (X :: Rs))))) (fun K1 hK1 => ite_t rfl (rd_some (varP.ld S3 (Fld.whole kMv) 0 rfl) ?_)) ?_
    · have hbl : (cells (bump L n)).length = L.length := by unfold cells; rw [List.length_map, bump_len]
      have S5 : SG F0 h0 h3 (sdL q lk mb M ts es ++ (cells (bump L n) ++ (X :: Rs))) := S3.tail
      refine move_spec (lk := lk) hn ok (by omega) (X := X) (mv := (curR L[n].rows L[n].nx).v) (l := (curR L[n].rows L[n].nx).l) (w := (curR L[n].rows L[n].nx).w) L.length (hjx _ hbl) (fun h F p => (hXn h F p).cur L[n].nx) S5 fun fv es2 h4 et eb S6 => ?_
      rw [hmv] at et S6 ⊢
      exact hK1 _ h4 ⟨es2, rfl, et, eb, S6⟩
    · rintro ⟨fv, ends⟩ h4 ⟨es2, he, et, eb, S4⟩
      have he : ends = ((AS.mk M (es.map EN.tk)).move n L[n].mv).1.1 := he
      refine rest fv _ _ es2 h4 ends (ok.move (by rw [List.length_map]; exact hn) L[n].mv) et eb ?_ S4
      unfold AS.step
      rw [if_neg (by rw [hpan]; decide), he]
  · rw [hset] at S1
    have hpan : isPan L[n].mv.k = true := hp
    refine S1.cell (K := kMv) (x := zMv) fun q3 h3 S3 _ => ?_
    have S3 : SG F0 h0 h3 (varP kMv q3 zMv :: (sdL q lk mb M ts es ++ (cells (bump L n) ++ (X :: Rs)))) := S3
    refine jn_i (ite_f rfl ?_)
    refine rest (some (tPan, .pointer (some ⟨pb, 0, none⟩))) 42 (AS.mk M (es.map EN.tk)) es h3 true (ok.mono (by omega)) rfl rfl ?_ (faultP.pan pb S3.tail)
    unfold AS.step
    rw [if_pos hpan, if_pos rfl]
end
end Go.Proofs.YtomngllmnhdmlaaGreat
/- The lock's numbers in this seat; Lock and Unlock as words. Printed by mu.py. -/
namespace Go.Proofs.YtomngllmnhdmlaaGreat
open Go Go.Tr
set_option linter.unusedVariables false
abbrev muLink : Go.Conc.Locks.MuLink := { lock := 21, unlock := 22, ilock := 36, iunlock := 37, lockSlow := 48, unlockSlow := 51, disable := 44, enable := 46, acquire := 47, relMerge := 49, cas32 := 45, add32 := 50, tMutex := 63, tIMutex := 61, tPMutex := 94, tPIMutex := 104, tPI32 := 106, tUP := 108, tNoCopy := 58, tU32 := 59 }
theorem muLib : Go.Conc.Locks.MuLib Tryz.prog muLink :=
  ⟨Tryz.func21, Tryz.func22, Tryz.func36, Tryz.func37, Tryz.func44, Tryz.func46, Tryz.func47, Tryz.func49, Tryz.func45, Tryz.func50, Tryz.underlying61, Tryz.runUnderlying61, Tryz.sizeOf61, Tryz.isAgg61, Tryz.zeroValue61, Tryz.underlying63, Tryz.runUnderlying63, Tryz.sizeOf63, Tryz.isAgg63, Tryz.zeroValue63, Tryz.underlying94, Tryz.runUnderlying94, Tryz.sizeOf94, Tryz.isAgg94, Tryz.zeroValue94, Tryz.underlying104, Tryz.runUnderlying104, Tryz.sizeOf104, Tryz.isAgg104, Tryz.zeroValue104, Tryz.underlying106, Tryz.runUnderlying106, Tryz.sizeOf106, Tryz.isAgg106, Tryz.zeroValue106, Tryz.underlying108, Tryz.runUnderlying108, Tryz.sizeOf108, Tryz.isAgg108, Tryz.zeroValue108, Tryz.underlying58, Tryz.runUnderlying58, Tryz.sizeOf58, Tryz.isAgg58, Tryz.zeroValue58, Tryz.underlying21, Tryz.runUnderlying21, Tryz.sizeOf21, Tryz.isAgg21, Tryz.zeroValue21, by kernel_rfl⟩
def sync_Mutex_Lock (a0 : Option Addr) (h : H) (Q : Unit → H → Prop) : Prop := ∃ a, a0 = some a ∧ ld (kI .i32) a h = some 0 ∧ rd (st (kI .i32) a 1 h) fun h' => Q () h'
theorem sync_Mutex_Lock.sound {a0 : Option Addr} {h : H} {Q : Unit → H → Prop} (hF : sync_Mutex_Lock a0 h Q) : CallsH Tryz.prog 21 (List.toArray (α := Value) [.pointer a0]) h fun v h' => ∃ x : Unit, v = .tuple #[] ∧ Q x h' := by
  obtain ⟨a, rfl, hl, h', hs, hQ⟩ := hF
  intro c d
  obtain ⟨s1, s2, rfl⟩ := st_int hs
  refine (Go.MuLone.lock_free muLib a (c.w h d) (ld_int hl) s2).mono ?_
  rintro e w' ⟨rfl, rfl⟩
  exact ⟨_, _, d, rfl, set_w c h d a _, (), rfl, hQ⟩
def muUnlock (a : Addr) (h : H) (K : H → Prop) : Prop := ld (kI .i32) a h = some 1 ∧ rd (st (kI .i32) a 0 h) K
theorem muUnlock.undo {a : Addr} {h : H} {K : H → Prop} (hF : muUnlock a h K) : Undo Tryz.prog ⟨.fn (.func 22) #[], #[.pointer (some a)]⟩ h K := by
  obtain ⟨hl, h', hs, hK⟩ := hF
  obtain ⟨s1, s2, rfl⟩ := st_int hs
  refine ⟨_, _, _, _, rfl, fun w => run_invoke_func Tryz.func22 rfl rfl _ w, fun c d => ?_⟩
  refine (Go.MuLone.unlock_deferred muLib a .returning (c.w h d) (ld_int hl) s2).mono ?_
  rintro e u w' ⟨rfl, rfl, rfl⟩
  exact ⟨rfl, _, _, d, rfl, set_w c h d a _, hK⟩
end Go.Proofs.YtomngllmnhdmlaaGreat
/- (*spate/sched.Sched).Pick, as a predicate over the heap, and that the code comes to it. Printed by gen.py. -/
namespace Go.Proofs.YtomngllmnhdmlaaGreat
open Go Go.Tr
set_option linter.unusedVariables false
set_option maxRecDepth 100000
set_option maxHeartbeats 400000
/-- (*spate/sched.Sched).Pick -/
def sched_Sched_Pick (a0 : Option Addr) (a1 : Int) (h : H) (Q : (Int × Bool) → H → Prop) : Prop :=
  rd a0 fun q0 =>
  sync_Mutex_Lock (some (q0.add 0)) h fun r1 h1 =>
  sched_Sched_ready (some q0) h1 fun r2 h2 =>
  if ((r2.len : Int) == 0) = true then
    muUnlock (q0.add 0) h2 fun h3 =>
    Q (0, false) h3
  else
    rd (remI a1 (r2.len : Int)) fun x1 =>
    jn (fun (k1 : Int → H → Prop) =>
      if (decide (x1 < 0)) = true then
        k1 (IntKind.i64.wrap (x1 + (r2.len : Int))) h2
      else
        k1 x1 h2) fun s1 h4 =>
    rd (ixA 1 r2 s1) fun q1 =>
    rd (ld (kI .i64) q1 h4) fun x2 =>
    sched_Sched_step (some q0) x2 h4 fun r3 h5 =>
    rd (ixA 1 r2 s1) fun q2 =>
    rd (ld (kI .i64) q2 h5) fun x3 =>
    muUnlock (q0.add 0) h5 fun h6 =>
    Q (x3, true) h6
theorem sched_Sched_Pick.sound {a0 : Option Addr} {a1 : Int} {h : H} {Q : (Int × Bool) → H → Prop} (hF : sched_Sched_Pick a0 a1 h Q) :
    CallsH Tryz.prog 10 (List.toArray (α := Value) [.pointer a0, .int .i64 a1]) h fun v h' => ∃ x : Int × Bool, v = .tuple #[.int .i64 x.1, .bool x.2] ∧ Q x h' := by
  obtain ⟨q0, rfl, hF⟩ := hF
  refine CallsH.of_bodyD ⟨.fn (.func 22) #[], List.toArray (α := Value) [.pointer (some (q0.add 0))]⟩ Tryz.func10 rfl 40 rfl rfl ?_
  refine WPd.pre ?_
  refine WP.region ?_
  refine EvK.pure (v := .int .i64 0) (w_none rfl) rfl rfl (f_assign rfl rfl) ?_
  refine EvK.pure (v := .bool false) (w_none rfl) rfl rfl (f_assign rfl rfl) ?_
  refine EvK.nil ?_
  refine WPd.pre ?_
  refine WP.region ?_
  refine EvK.pure (v := .pointer (some q0)) (w_none rfl) rfl rfl (f_move rfl rfl) ?_
  refine EvK.pure (v := .pointer (some q0)) (w_none rfl) rfl rfl (f_nilCheck rfl rfl) ?_
  refine EvK.pure (v := .pointer (some (q0.add 0))) (w_none rfl) rfl rfl (f_fieldAddr fd66_0 rfl rfl) ?_
  refine EvK.call (w_none rfl) rfl rfl (enterH Tryz.func21 rfl rfl rfl rfl (sync_Mutex_Lock.sound hF)) ?_
  rintro _ h1 ⟨r1, rfl, hF⟩
  refine EvK.nil ?_
  refine WPd.deferL rfl rfl ?_
  refine EvK.pure (v := .pointer (some q0)) (w_none rfl) rfl rfl (f_move rfl rfl) ?_
  refine EvK.pure (v := .pointer (some q0)) (w_none rfl) rfl rfl (f_nilCheck rfl rfl) ?_
  refine EvK.pure (v := .pointer (some (q0.add 0))) (w_none rfl) rfl rfl (f_fieldAddr fd66_0 rfl rfl) ?_
  refine EvK.nil ⟨w_none rfl, f_defer rfl rfl, ?_⟩
  refine WP.seq ?_
  refine WP.region ?_
  refine EvK.pure (v := .pointer (some q0)) (w_none rfl) rfl rfl (f_move rfl rfl) ?_
  refine EvK.call (w_none rfl) rfl rfl (enterH Tryz.func23 rfl rfl rfl rfl (sched_Sched_ready.sound hF)) ?_
  rintro _ h2 ⟨r2, rfl, hF⟩
  refine EvK.pure (v := Sl.val r2) (w_none rfl) rfl rfl (f_assign rfl rfl) ?_
  refine EvK.nil ?_
  refine WP.seq ?_
  refine WP.seq ?_
  refine WP.region ?_
  refine EvK.pure (v := Sl.val r2) (w_none rfl) rfl rfl (f_move rfl rfl) ?_
  refine EvK.pure (v := .int .i64 (r2.len : Int)) (w_none rfl) rfl rfl (f_lenL (s := r2) Tryz.underlying51 rfl rfl) ?_
  refine EvK.pure (v := .bool ((r2.len : Int) == 0)) (w_none rfl) rfl rfl (f_eql rfl rfl rfl) ?_
  refine EvK.nil ?_
  rcases ite_inv hF with ⟨c1, hF⟩ | ⟨c1, hF⟩
  · refine WP.cond_true _ rfl c1 ?_
    refine WP.seq ?_
    refine WP.region ?_
    refine EvK.pure (v := .int .i64 0) (w_none rfl) rfl rfl (f_assign rfl rfl) ?_
    refine EvK.pure (v := .bool false) (w_none rfl) rfl rfl (f_assign rfl rfl) ?_
    refine EvK.nil ?_
    refine WP.ret ?_
    refine Undo.mono (muUnlock.undo hF) fun h3 hF => ?_
    exact Ret.mk (vs := [.int .i64 0, .bool false]) (0, false) ⟨rfl, rfl, trivial⟩ rfl hF
  · refine WP.cond_false _ rfl c1 ?_
    refine WP.skip ?_
    refine WP.seq ?_
    refine WP.region ?_
    refine EvK.pure (v := .int .i64 a1) (w_none rfl) rfl rfl (f_move rfl rfl) ?_
    refine EvK.pure (v := Sl.val r2) (w_none rfl) rfl rfl (f_move rfl rfl) ?_
    refine EvK.pure (v := .int .i64 (r2.len : Int)) (w_none rfl) rfl rfl (f_lenL (s := r2) Tryz.underlying51 rfl rfl) ?_
    obtain ⟨x1, hx1, hF⟩ := hF
    refine EvK.pure (v := .int .i64 x1) (w_none rfl) rfl rfl (f_rem rfl rfl rfl hx1) ?_
    refine EvK.pure (v := .int .i64 x1) (w_none rfl) rfl rfl (f_assign rfl rfl) ?_
    refine EvK.nil ?_
    refine WP.joinF (fun (s1 : Int) => [(7, .int .i64 s1), (0, .pointer (some q0)), (6, Sl.val r2)]) hF ?_ ?_
    · intro s1 E0 h4 hF
      refine WP.seq ?_
      refine WP.region ?_
      refine EvK.pure (v := .pointer (some q0)) (w_none rfl) rfl rfl (f_move rfl rfl) ?_
      refine EvK.pure (v := Sl.val r2) (w_none rfl) rfl rfl (f_move rfl rfl) ?_
      refine EvK.pure (v := .int .i64 s1) (w_none rfl) rfl rfl (f_move rfl rfl) ?_
      obtain ⟨q1, hq1, hF⟩ := hF
      refine EvK.pure (v := .pointer (some q1)) (w_none rfl) rfl rfl (f_indexAddr (s := r2) Tryz.underlying51 ty3.size rfl rfl rfl hq1) ?_
      obtain ⟨x2, hx2, hF⟩ := hF
      refine EvK.read (v := .int .i64 x2) (w_none rfl) rfl rfl (f_load (kI .i64) ty3 rfl rfl hx2 rfl) ?_
      refine EvK.call (w_none rfl) rfl rfl (enterH Tryz.func24 rfl rfl rfl rfl (sched_Sched_step.sound hF)) ?_
      rintro _ h5 ⟨r3, rfl, hF⟩
      refine EvK.nil ?_
      refine WP.seq ?_
      refine WP.region ?_
      refine EvK.pure (v := Sl.val r2) (w_none rfl) rfl rfl (f_move rfl rfl) ?_
      refine EvK.pure (v := .int .i64 s1) (w_none rfl) rfl rfl (f_move rfl rfl) ?_
      obtain ⟨q2, hq2, hF⟩ := hF
      refine EvK.pure (v := .pointer (some q2)) (w_none rfl) rfl rfl (f_indexAddr (s := r2) Tryz.underlying51 ty3.size rfl rfl rfl hq2) ?_
      obtain ⟨x3, hx3, hF⟩ := hF
      refine EvK.read (v := .int .i64 x3) (w_none rfl) rfl rfl (f_load (kI .i64) ty3 rfl rfl hx3 rfl) ?_
      refine EvK.pure (v := .int .i64 x3) (w_none rfl) rfl rfl (f_assign rfl rfl) ?_
      refine EvK.pure (v := .bool true) (w_none rfl) rfl rfl (f_assign rfl rfl) ?_
      refine EvK.nil ?_
      refine WP.ret ?_
      refine Undo.mono (muUnlock.undo hF) fun h6 hF => ?_
      exact Ret.mk (vs := [.int .i64 x3, .bool true]) (x3, true) ⟨rfl, rfl, trivial⟩ rfl hF
    · intro k1 hF
      refine WP.seq ?_
      refine WP.region ?_
      refine EvK.pure (v := .int .i64 x1) (w_none rfl) rfl rfl (f_move rfl rfl) ?_
      refine EvK.pure (v := .bool (decide (x1 < 0))) (w_none rfl) rfl rfl (f_lss rfl rfl rfl) ?_
      refine EvK.nil ?_
      rcases ite_inv hF with ⟨c2, hF⟩ | ⟨c2, hF⟩
      · refine WP.cond_true _ rfl c2 ?_
        refine WP.region ?_
        refine EvK.pure (v := .int .i64 x1) (w_none rfl) rfl rfl (f_move rfl rfl) ?_
        refine EvK.pure (v := Sl.val r2) (w_none rfl) rfl rfl (f_move rfl rfl) ?_
        refine EvK.pure (v := .int .i64 (r2.len : Int)) (w_none rfl) rfl rfl (f_lenL (s := r2) Tryz.underlying51 rfl rfl) ?_
        refine EvK.pure (v := .int .i64 (IntKind.i64.wrap (x1 + (r2.len : Int)))) (w_none rfl) rfl rfl (f_add rfl rfl rfl) ?_
        refine EvK.pure (v := .int .i64 (IntKind.i64.wrap (x1 + (r2.len : Int)))) (w_none rfl) rfl rfl (f_assign rfl rfl) ?_
        refine EvK.nil ?_
        exact KE.mk (IntKind.i64.wrap (x1 + (r2.len : Int))) ⟨rfl, rfl, rfl, trivial⟩ hF
      · refine WP.cond_false _ rfl c2 ?_
        refine WP.skip ?_
        exact KE.mk x1 ⟨rfl, rfl, rfl, trivial⟩ hF
end Go.Proofs.YtomngllmnhdmlaaGreat
/- (*spate/sched.Sched).Round, as a predicate over the heap, and that the code comes to it. Printed by gen.py. -/
namespace Go.Proofs.YtomngllmnhdmlaaGreat
open Go Go.Tr
set_option linter.unusedVariables false
set_option maxRecDepth 100000
set_option maxHeartbeats 400000
def sched_Sched_Round.b1 (p0 : Addr) (p14 : Sl) (p15 : Int) (s : Int × Int) (h : H) (K : (Int × Int) ⊕ Int → H → Prop) : Prop :=
  if (decide (s.2 < p15)) = true then
    jn (fun (k2 : Int → H → Prop) =>
      rd (ixA 1 p14 s.2) fun q1 =>
      rd (ld (kI .i64) q1 h) fun x1 =>
      rd (ld kL (p0.add 3) h) fun x2 =>
      rd (ixA 4 x2 x1) fun q2 =>
      rd (ld (kI .i64) (q2.add 1) h) fun x3 =>
      if (x3 == 1) = true then
        sched_Sched_step (some p0) x1 h fun r3 h6 =>
        k2 (IntKind.i64.wrap (s.1 + 1)) h6
      else
        k2 s.1 h) fun s2 h5 =>
    K (.inl (s2, IntKind.i64.wrap (s.2 + 1))) h5
  else
    K (.inr s.1) h
/-- (*spate/sched.Sched).Round -/
def sched_Sched_Round (a0 : Option Addr) (h : H) (Q : Int → H → Prop) : Prop :=
  rd a0 fun q0 =>
  sync_Mutex_Lock (some (q0.add 0)) h fun r1 h1 =>
  jn (fun (k1 : Int → H → Prop) =>
    sched_Sched_ready (some q0) h1 fun r2 h4 =>
    loopE (sched_Sched_Round.b1 q0 r2 (r2.len : Int)) (0, 0) h4 (fun r4 hh => k1 r4 hh)) fun s1 h2 =>
  muUnlock (q0.add 0) h2 fun h3 =>
  Q s1 h3
theorem sched_Sched_Round.sound {a0 : Option Addr} {h : H} {Q : Int → H → Prop} (hF : sched_Sched_Round a0 h Q) :
    CallsH Tryz.prog 12 (List.toArray (α := Value) [.pointer a0]) h fun v h' => ∃ x : Int, v = .int .i64 x ∧ Q x h' := by
  obtain ⟨q0, rfl, hF⟩ := hF
  refine CallsH.of_bodyD ⟨.fn (.func 22) #[], List.toArray (α := Value) [.pointer (some (q0.add 0))]⟩ Tryz.func12 rfl 36 rfl rfl ?_
  refine WPd.pre ?_
  refine WP.region ?_
  refine EvK.pure (v := .int .i64 0) (w_none rfl) rfl rfl (f_assign rfl rfl) ?_
  refine EvK.nil ?_
  refine WPd.pre ?_
  refine WP.region ?_
  refine EvK.pure (v := .pointer (some q0)) (w_none rfl) rfl rfl (f_move rfl rfl) ?_
  refine EvK.pure (v := .pointer (some q0)) (w_none rfl) rfl rfl (f_nilCheck rfl rfl) ?_
  refine EvK.pure (v := .pointer (some (q0.add 0))) (w_none rfl) rfl rfl (f_fieldAddr fd66_0 rfl rfl) ?_
  refine EvK.call (w_none rfl) rfl rfl (enterH Tryz.func21 rfl rfl rfl rfl (sync_Mutex_Lock.sound hF)) ?_
  rintro _ h1 ⟨r1, rfl, hF⟩
  refine EvK.nil ?_
  refine WPd.deferL rfl rfl ?_
  refine EvK.pure (v := .pointer (some q0)) (w_none rfl) rfl rfl (f_move rfl rfl) ?_
  refine EvK.pure (v := .pointer (some q0)) (w_none rfl) rfl rfl (f_nilCheck rfl rfl) ?_
  refine EvK.pure (v := .pointer (some (q0.add 0))) (w_none rfl) rfl rfl (f_fieldAddr fd66_0 rfl rfl) ?_
  refine EvK.nil ⟨w_none rfl, f_defer rfl rfl, ?_⟩
  refine WP.seq ?_
  refine WP.region ?_
  refine EvK.pure (v := .int .i64 0) (w_none rfl) rfl rfl (f_assign rfl rfl) ?_
  refine EvK.nil ?_
  refine WP.joinF (fun (s1 : Int) => [(3, .int .i64 s1)]) hF ?_ ?_
  · intro s1 E0 h2 hF
    refine WP.seq ?_
    refine WP.region ?_
    refine EvK.pure (v := .int .i64 s1) (w_none rfl) rfl rfl (f_move rfl rfl) ?_
    refine EvK.pure (v := .int .i64 s1) (w_none rfl) rfl rfl (f_assign rfl rfl) ?_
    refine EvK.nil ?_
    refine WP.ret ?_
    refine Undo.mono (muUnlock.undo hF) fun h3 hF => ?_
    exact Ret.mk (vs := [.int .i64 s1]) s1 ⟨rfl, trivial⟩ rfl hF
  · intro k1 hF
    refine WP.seq ?_
    refine WP.region ?_
    refine EvK.pure (v := .pointer (some q0)) (w_none rfl) rfl rfl (f_move rfl rfl) ?_
    refine EvK.call (w_none rfl) rfl rfl (enterH Tryz.func23 rfl rfl rfl rfl (sched_Sched_ready.sound hF)) ?_
    rintro _ h4 ⟨r2, rfl, hF⟩
    refine EvK.pure (v := .int .i64 (r2.len : Int)) (w_none rfl) rfl rfl (f_lenL (s := r2) Tryz.underlying51 rfl rfl) ?_
    refine EvK.pure (v := .int .i64 0) (w_none rfl) rfl rfl (f_move rfl rfl) ?_
    refine EvK.nil ?_
    refine WP.block ?_
    refine WP.loopF (fun (s2 : Int × Int) => [(3, .int .i64 s2.1), (16, .int .i64 s2.2), (0, .pointer (some q0)), (14, Sl.val r2), (15, .int .i64 (r2.len : Int))]) hF ⟨rfl, rfl, rfl, rfl, rfl, trivial⟩ ?_
    intro k2 s2 E0 h5 hF
    refine WP.seq ?_
    refine WP.region ?_
    refine EvK.pure (v := .bool (decide (s2.2 < (r2.len : Int)))) (w_none rfl) rfl rfl (f_lss rfl rfl rfl) ?_
    refine EvK.nil ?_
    refine WP.seq ?_
    rcases ite_inv hF with ⟨c1, hF⟩ | ⟨c1, hF⟩
    · refine WP.cond_true _ rfl c1 ?_
      refine WP.skip ?_
      refine WP.joinF (fun (s3 : Int) => [(3, .int .i64 s3), (0, .pointer (some q0)), (14, Sl.val r2), (15, .int .i64 (r2.len : Int)), (16, .int .i64 s2.2)]) hF ?_ ?_
      · intro s3 E0 h6 hF
        refine WP.region ?_
        refine EvK.pure (v := .int .i64 (IntKind.i64.wrap (s2.2 + 1))) (w_none rfl) rfl rfl (f_add rfl rfl rfl) ?_
        refine EvK.pure (v := .int .i64 (IntKind.i64.wrap (s2.2 + 1))) (w_none rfl) rfl rfl (f_move rfl rfl) ?_
        refine EvK.nil ?_
        exact KE.mk (s3, IntKind.i64.wrap (s2.2 + 1)) ⟨rfl, rfl, rfl, rfl, rfl, trivial⟩ hF
      · intro k3 hF
        refine WP.block ?_
        refine WP.seq ?_
        refine WP.region ?_
        obtain ⟨q1, hq1, hF⟩ := hF
        refine EvK.pure (v := .pointer (some q1)) (w_none rfl) rfl rfl (f_indexAddr (s := r2) Tryz.underlying51 ty3.size rfl rfl rfl hq1) ?_
        obtain ⟨x1, hx1, hF⟩ := hF
        refine EvK.read (v := .int .i64 x1) (w_none rfl) rfl rfl (f_load (kI .i64) ty3 rfl rfl hx1 rfl) ?_
        refine EvK.pure (v := .int .i64 x1) (w_none rfl) rfl rfl (f_assign rfl rfl) ?_
        refine EvK.nil ?_
        refine WP.seq ?_
        refine WP.region ?_
        refine EvK.pure (v := .pointer (some q0)) (w_none rfl) rfl rfl (f_move rfl rfl) ?_
        refine EvK.pure (v := .pointer (some q0)) (w_none rfl) rfl rfl (f_nilCheck rfl rfl) ?_
        refine EvK.pure (v := .pointer (some (q0.add 3))) (w_none rfl) rfl rfl (f_fieldAddr fd66_2 rfl rfl) ?_
        obtain ⟨x2, hx2, hF⟩ := hF
        refine EvK.read (v := Sl.val x2) (w_none rfl) rfl rfl (f_load kL ty64 rfl rfl hx2 rfl) ?_
        refine EvK.pure (v := .int .i64 x1) (w_none rfl) rfl rfl (f_move rfl rfl) ?_
        obtain ⟨q2, hq2, hF⟩ := hF
        refine EvK.pure (v := .pointer (some q2)) (w_none rfl) rfl rfl (f_indexAddr (s := x2) Tryz.underlying64 ty78.size rfl rfl rfl hq2) ?_
        refine EvK.pure (v := .pointer (some (q2.add 1))) (w_none rfl) rfl rfl (f_fieldAddr fd78_1 rfl rfl) ?_
        obtain ⟨x3, hx3, hF⟩ := hF
        refine EvK.read (v := .int .i64 x3) (w_none rfl) rfl rfl (f_load (kI .i64) ty3 rfl rfl hx3 rfl) ?_
        refine EvK.pure (v := .bool (x3 == 1)) (w_none rfl) rfl rfl (f_eql rfl rfl rfl) ?_
        refine EvK.nil ?_
        rcases ite_inv hF with ⟨c2, hF⟩ | ⟨c2, hF⟩
        · refine WP.cond_true _ rfl c2 ?_
          refine WP.seq ?_
          refine WP.region ?_
          refine EvK.pure (v := .pointer (some q0)) (w_none rfl) rfl rfl (f_move rfl rfl) ?_
          refine EvK.pure (v := .int .i64 x1) (w_none rfl) rfl rfl (f_move rfl rfl) ?_
          refine EvK.call (w_none rfl) rfl rfl (enterH Tryz.func24 rfl rfl rfl rfl (sched_Sched_step.sound hF)) ?_
          rintro _ h7 ⟨r3, rfl, hF⟩
          refine EvK.nil ?_
          refine WP.region ?_
          refine EvK.pure (v := .int .i64 s2.1) (w_none rfl) rfl rfl (f_move rfl rfl) ?_
          refine EvK.pure (v := .int .i64 (IntKind.i64.wrap (s2.1 + 1))) (w_none rfl) rfl rfl (f_add rfl rfl rfl) ?_
          refine EvK.pure (v := .int .i64 (IntKind.i64.wrap (s2.1 + 1))) (w_none rfl) rfl rfl (f_assign rfl rfl) ?_
          refine EvK.nil ?_
          exact KE.mk (IntKind.i64.wrap (s2.1 + 1)) ⟨rfl, rfl, rfl, rfl, rfl, trivial⟩ hF
        · refine WP.cond_false _ rfl c2 ?_
          refine WP.skip ?_
          exact KE.mk s2.1 ⟨rfl, rfl, rfl, rfl, rfl, trivial⟩ hF
    · refine WP.cond_false _ rfl c1 ?_
      refine WP.exit ?_
      exact KE.mk s2.1 ⟨rfl, trivial⟩ hF
end Go.Proofs.YtomngllmnhdmlaaGreat
/- (*spate/sched.Sched).Wake, as a predicate over the heap, and that the code comes to it. Printed by gen.py. -/
namespace Go.Proofs.YtomngllmnhdmlaaGreat
open Go Go.Tr
set_option linter.unusedVariables false
set_option maxRecDepth 100000
set_option maxHeartbeats 400000
/-- (*spate/sched.Sched).Wake -/
def sched_Sched_Wake (a0 : Option Addr) (a1 : Int) (h : H) (Q : Int → H → Prop) : Prop :=
  rd a0 fun q0 =>
  sync_Mutex_Lock (some (q0.add 0)) h fun r1 h1 =>
  sched_Sched_wake (some q0) a1 h1 fun r2 h2 =>
  muUnlock (q0.add 0) h2 fun h3 =>
  Q r2 h3
theorem sched_Sched_Wake.sound {a0 : Option Addr} {a1 : Int} {h : H} {Q : Int → H → Prop} (hF : sched_Sched_Wake a0 a1 h Q) :
    CallsH Tryz.prog 14 (List.toArray (α := Value) [.pointer a0, .int .i64 a1]) h fun v h' => ∃ x : Int, v = .int .i64 x ∧ Q x h' := by
  obtain ⟨q0, rfl, hF⟩ := hF
  refine CallsH.of_bodyD ⟨.fn (.func 22) #[], List.toArray (α := Value) [.pointer (some (q0.add 0))]⟩ Tryz.func14 rfl 15 rfl rfl ?_
  refine WPd.pre ?_
  refine WP.region ?_
  refine EvK.pure (v := .int .i64 0) (w_none rfl) rfl rfl (f_assign rfl rfl) ?_
  refine EvK.nil ?_
  refine WPd.pre ?_
  refine WP.region ?_
  refine EvK.pure (v := .pointer (some q0)) (w_none rfl) rfl rfl (f_move rfl rfl) ?_
  refine EvK.pure (v := .pointer (some q0)) (w_none rfl) rfl rfl (f_nilCheck rfl rfl) ?_
  refine EvK.pure (v := .pointer (some (q0.add 0))) (w_none rfl) rfl rfl (f_fieldAddr fd66_0 rfl rfl) ?_
  refine EvK.call (w_none rfl) rfl rfl (enterH Tryz.func21 rfl rfl rfl rfl (sync_Mutex_Lock.sound hF)) ?_
  rintro _ h1 ⟨r1, rfl, hF⟩
  refine EvK.nil ?_
  refine WPd.deferL rfl rfl ?_
  refine EvK.pure (v := .pointer (some q0)) (w_none rfl) rfl rfl (f_move rfl rfl) ?_
  refine EvK.pure (v := .pointer (some q0)) (w_none rfl) rfl rfl (f_nilCheck rfl rfl) ?_
  refine EvK.pure (v := .pointer (some (q0.add 0))) (w_none rfl) rfl rfl (f_fieldAddr fd66_0 rfl rfl) ?_
  refine EvK.nil ⟨w_none rfl, f_defer rfl rfl, ?_⟩
  refine WP.seq ?_
  refine WP.region ?_
  refine EvK.pure (v := .pointer (some q0)) (w_none rfl) rfl rfl (f_move rfl rfl) ?_
  refine EvK.pure (v := .int .i64 a1) (w_none rfl) rfl rfl (f_move rfl rfl) ?_
  refine EvK.call (w_none rfl) rfl rfl (enterH Tryz.func28 rfl rfl rfl rfl (sched_Sched_wake.sound hF)) ?_
  rintro _ h2 ⟨r2, rfl, hF⟩
  refine EvK.pure (v := .int .i64 r2) (w_none rfl) rfl rfl (f_assign rfl rfl) ?_
  refine EvK.nil ?_
  refine WP.ret ?_
  refine Undo.mono (muUnlock.undo hF) fun h3 hF => ?_
  exact Ret.mk (vs := [.int .i64 r2]) r2 ⟨rfl, trivial⟩ rfl hF
end Go.Proofs.YtomngllmnhdmlaaGreat
/- (*spate/sched.Sched).Ready, as a predicate over the heap, and that the code comes to it. Printed by gen.py. -/
namespace Go.Proofs.YtomngllmnhdmlaaGreat
open Go Go.Tr
set_option linter.unusedVariables false
set_option maxRecDepth 100000
set_option maxHeartbeats 400000
/-- (*spate/sched.Sched).Ready -/
def sched_Sched_Ready (a0 : Option Addr) (h : H) (Q : Sl → H → Prop) : Prop :=
  rd a0 fun q0 =>
  sync_Mutex_Lock (some (q0.add 0)) h fun r1 h1 =>
  sched_Sched_ready (some q0) h1 fun r2 h2 =>
  muUnlock (q0.add 0) h2 fun h3 =>
  Q r2 h3
theorem sched_Sched_Ready.sound {a0 : Option Addr} {h : H} {Q : Sl → H → Prop} (hF : sched_Sched_Ready a0 h Q) :
    CallsH Tryz.prog 30 (List.toArray (α := Value) [.pointer a0]) h fun v h' => ∃ x : Sl, v = Sl.val x ∧ Q x h' := by
  obtain ⟨q0, rfl, hF⟩ := hF
  refine CallsH.of_bodyD ⟨.fn (.func 22) #[], List.toArray (α := Value) [.pointer (some (q0.add 0))]⟩ Tryz.func30 rfl 12 rfl rfl ?_
  refine WPd.pre ?_
  refine WP.region ?_
  refine EvK.pure (v := Sl.val Sl.nil) (w_none rfl) rfl rfl (f_assign rfl rfl) ?_
  refine EvK.nil ?_
  refine WPd.pre ?_
  refine WP.region ?_
  refine EvK.pure (v := .pointer (some q0)) (w_none rfl) rfl rfl (f_move rfl rfl) ?_
  refine EvK.pure (v := .pointer (some q0)) (w_none rfl) rfl rfl (f_nilCheck rfl rfl) ?_
  refine EvK.pure (v := .pointer (some (q0.add 0))) (w_none rfl) rfl rfl (f_fieldAddr fd66_0 rfl rfl) ?_
  refine EvK.call (w_none rfl) rfl rfl (enterH Tryz.func21 rfl rfl rfl rfl (sync_Mutex_Lock.sound hF)) ?_
  rintro _ h1 ⟨r1, rfl, hF⟩
  refine EvK.nil ?_
  refine WPd.deferL rfl rfl ?_
  refine EvK.pure (v := .pointer (some q0)) (w_none rfl) rfl rfl (f_move rfl rfl) ?_
  refine EvK.pure (v := .pointer (some q0)) (w_none rfl) rfl rfl (f_nilCheck rfl rfl) ?_
  refine EvK.pure (v := .pointer (some (q0.add 0))) (w_none rfl) rfl rfl (f_fieldAddr fd66_0 rfl rfl) ?_
  refine EvK.nil ⟨w_none rfl, f_defer rfl rfl, ?_⟩
  refine WP.seq ?_
  refine WP.region ?_
  refine EvK.pure (v := .pointer (some q0)) (w_none rfl) rfl rfl (f_move rfl rfl) ?_
  refine EvK.call (w_none rfl) rfl rfl (enterH Tryz.func23 rfl rfl rfl rfl (sched_Sched_ready.sound hF)) ?_
  rintro _ h2 ⟨r2, rfl, hF⟩
  refine EvK.pure (v := Sl.val r2) (w_none rfl) rfl rfl (f_assign rfl rfl) ?_
  refine EvK.nil ?_
  refine WP.ret ?_
  refine Undo.mono (muUnlock.undo hF) fun h3 hF => ?_
  exact Ret.mk (vs := [Sl.val r2]) r2 ⟨rfl, trivial⟩ rfl hF
end Go.Proofs.YtomngllmnhdmlaaGreat
