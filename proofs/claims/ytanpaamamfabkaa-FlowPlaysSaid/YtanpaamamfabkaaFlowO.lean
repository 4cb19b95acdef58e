/- What is put, what is taken, and the flow between: order, each once, nothing lost. No heap. -/
import Derived.Test.YtanpaamamfabkaaFlowR
import Derived.Test.YtanpaamamfabkaaSep
namespace Go.Proofs.Ytanpaamamfabkaa
open Go Go.Tr
set_option linter.unusedVariables false
abbrev Tk := S51
def mine (m j : Nat) (x : Item) : Bool := x.f0 || routeA x.f1 m == (j : Int)
def pend (m j : Nat) : List Item × Nat → List Item
  | ([], _) => []
  | (x :: r, to) => (if mine m j x && !(x.f0 && decide (j < to)) then [x] else []) ++ r.filter (mine m j)
def srcB (i : Nat) (l : List Msg) : List Item := (l.filter fun t => t.f0 == (i : Int)).map (·.f1)
def srcT (i : Nat) (l : List Tk) : List Item := (l.filter fun t => t.f0 == (i : Int)).map (·.f1)
theorem pend_app (m j : Nat) (l : List Item) (to : Nat) (x : Item) (z : to ≠ 0 → ∃ y r, l = y :: r ∧ y.f0 = true) : pend m j (l ++ [x], to) = pend m j (l, to) ++ [x].filter (mine m j) := by
  cases l with
  | nil =>
    have : to = 0 := by
      rcases Nat.decEq to 0 with h | h
      · obtain ⟨_, _, h, _⟩ := z h; cases h
      · exact h
    subst this
    simp [pend, List.filter_cons]
  | cons y r => simp [pend, List.filter_append]
theorem pend_zero (m j : Nat) (l : List Item) : pend m j (l, 0) = l.filter (mine m j) := by
  cases l with
  | nil => rfl
  | cons y r => simp only [pend, List.filter_cons]; split <;> simp_all
theorem srcB_app (i : Nat) (l : List Msg) (x : Msg) : srcB i (l ++ [x]) = srcB i l ++ (if x.f0 == (i : Int) then [x.f1] else []) := by
  simp only [srcB, List.filter_append, List.map_append, List.filter_cons, List.filter_nil]; split <;> rfl
theorem srcT_app (i : Nat) (l : List Tk) (x : Tk) : srcT i (l ++ [x]) = srcT i l ++ (if x.f0 == (i : Int) then [x.f1] else []) := by
  simp only [srcT, List.filter_append, List.map_append, List.filter_cons, List.filter_nil]; split <;> rfl
theorem srcB_cons (i : Nat) (l : List Msg) (x : Msg) : srcB i (x :: l) = (if x.f0 == (i : Int) then [x.f1] else []) ++ srcB i l := by
  simp only [srcB, List.filter_cons]; split <;> rfl

def work (m : Nat) (q : List Item × Nat) : Nat := (q.1.map fun x => if x.f0 then m else 1).sum - q.2
def allWork (A : AF) : Nat := (A.bs.map (·.length)).sum + (A.qs.map (work A.bs.length)).sum
def took (T : List (List Tk)) : Nat := (T.map (·.length)).sum
theorem sum_set : ∀ (l : List Nat) (i a b : Nat), l[i]? = some a → (l.set i b).sum + a = l.sum + b
  | [], i, a, b, h => by simp at h
  | x :: l, 0, a, b, h => by simp at h; subst h; simp; omega
  | x :: l, i + 1, a, b, h => by
    have := sum_set l i a b (by simpa using h)
    simp; omega
theorem sum_map_set {α : Type} (f : α → Nat) (l : List α) (i : Nat) (a b : α) (h : l[i]? = some a) : ((l.set i b).map f).sum + f a = (l.map f).sum + f b := by
  rw [List.map_set]; exact sum_set _ _ _ _ (by rw [List.getElem?_map, h]; rfl)
theorem le_sum : ∀ (l : List Nat) (i a : Nat), l[i]? = some a → a ≤ l.sum
  | [], i, a, h => by simp at h
  | x :: l, 0, a, h => by simp at h; subst h; simp
  | x :: l, i + 1, a, h => by have := le_sum l i a (by simpa using h); simp; omega

structure OInv (A : AF) (P : List (List Item)) (T : List (List Tk)) (k : Nat) : Prop where
  ok : A.Ok
  lenP : P.length = A.qs.length
  lenT : T.length = A.bs.length
  z : ∀ (i : Nat) (q : List Item × Nat), A.qs[i]? = some q → q.2 ≠ 0 → ∃ y r, q.1 = y :: r ∧ y.f0 = true
  eq : ∀ (i j : Nat) (q : List Item × Nat) (b : List Msg) (p : List Item) (t : List Tk), A.qs[i]? = some q → A.bs[j]? = some b → P[i]? = some p → T[j]? = some t → srcT i t ++ srcB i b ++ pend A.bs.length j q = p.filter (mine A.bs.length j)
  kz : ∀ (i : Nat) (p : List Item), P[i]? = some p → ∀ x ∈ p, x.f1.size ≤ 32
  pl : ∀ (i : Nat) (p : List Item), P[i]? = some p → p.length ≤ k
  w : took T + allWork A ≤ 8 * k
theorem OInv.more {A : AF} {P : List (List Item)} {T : List (List Tk)} {k : Nat} (o : OInv A P T k) : OInv A P T (k + 1) :=
  { o with pl := fun i p h => Nat.le_succ_of_le (o.pl i p h), w := by have := o.w; omega }
theorem OInv.new {n m k : Nat} (h1 : 1 ≤ n) (h2 : n ≤ 8) (h3 : 1 ≤ m) (h4 : m ≤ 8) (h5 : 1 ≤ k) (h6 : k ≤ 64) : OInv (AF.new n m k) (List.replicate n []) (List.replicate m []) 0 where
  ok := AF.Ok.new h1 h2 h3 h4 h5 h6
  lenP := by simp [AF.new]
  lenT := by simp [AF.new]
  z i q h hz := by
    simp [AF.new, List.getElem?_replicate] at h
    obtain ⟨_, rfl⟩ := h
    simp at hz
  eq i j q b p t h1 h2 h3 h4 := by
    simp [AF.new, List.getElem?_replicate] at h1 h2 h3 h4
    obtain ⟨_, rfl⟩ := h1
    obtain ⟨_, rfl⟩ := h2
    obtain ⟨_, rfl⟩ := h3
    obtain ⟨_, rfl⟩ := h4
    rfl
  kz i p h x hx := by
    simp [List.getElem?_replicate] at h
    obtain ⟨_, rfl⟩ := h
    simp at hx
  pl i p h := by
    simp [List.getElem?_replicate] at h
    obtain ⟨_, rfl⟩ := h
    simp
  w := by simp [took, allWork, AF.new, work]

theorem put_some {A : AF} {s : Int} {x : Item} (h : (A.put s x).1 = 0) : ∃ (i : Nat) (q : List Item × Nat), s = (i : Int) ∧ A.qs[i]? = some q ∧ mayA x = 0 ∧ (A.put s x).2 = { A with qs := A.qs.set i (q.1 ++ [x], q.2) } := by
  rcases source_cases A s with hs | ⟨i, rfl, hi⟩
  · rw [put_bad x hs] at h; cases h
  · rw [put_good x hi] at h ⊢
    by_cases hm : mayA x = 0
    · rw [hm] at h ⊢
      by_cases h6 : (A.qs[i]).1.length = 65536
      · simp [h6] at h
      · exact ⟨i, A.qs[i], rfl, List.getElem?_eq_getElem hi, rfl, by simp [h6]⟩
    · have : (mayA x != 0) = true := by simpa using hm
      rw [this] at h
      exact absurd h hm
theorem put_none {A : AF} {s : Int} {x : Item} (h : (A.put s x).1 ≠ 0) : (A.put s x).2 = A := by
  rcases source_cases A s with hs | ⟨i, rfl, hi⟩
  · rw [put_bad x hs]
  · rw [put_good x hi] at h ⊢
    split
    · rfl
    · rename_i hm
      rw [if_neg hm] at h
      split
      · rfl
      · rename_i h6; rw [if_neg h6] at h; exact absurd rfl h
theorem OInv.put {A : AF} {P : List (List Item)} {T : List (List Tk)} {k : Nat} (o : OInv A P T k) {i : Nat} {x : Item} {q : List Item × Nat} {p : List Item} (hq : A.qs[i]? = some q) (hp : P[i]? = some p) (hm : mayA x = 0) (hs : (A.put (i : Int) x).2 = { A with qs := A.qs.set i (q.1 ++ [x], q.2) }) :
    OInv { A with qs := A.qs.set i (q.1 ++ [x], q.2) } (P.set i (p ++ [x])) T (k + 1) where
  ok := by rw [← hs]; exact o.ok.put _ _
  lenP := by simp [o.lenP]
  lenT := o.lenT
  z i' q' h hz := by
    rcases getElem?_set_cases h with ⟨rfl, rfl⟩ | ⟨_, h⟩
    · obtain ⟨y, r, e1, e2⟩ := o.z _ _ hq hz
      exact ⟨y, r ++ [x], by simp [e1], e2⟩
    · exact o.z _ _ h hz
  eq i' j q' b p' t h1 h2 h3 h4 := by
    rcases getElem?_set_cases h1 with ⟨rfl, rfl⟩ | ⟨hne, h1⟩
    · rcases getElem?_set_cases h3 with ⟨_, rfl⟩ | ⟨hne, _⟩
      · have e := o.eq _ _ _ _ _ _ hq h2 hp h4
        show srcT i' t ++ srcB i' b ++ pend A.bs.length j (q.1 ++ [x], q.2) = _
        rw [pend_app _ _ _ _ _ (o.z _ _ hq), List.filter_append, ← e]
        simp
      · exact absurd rfl hne
    · rcases getElem?_set_cases h3 with ⟨h, _⟩ | ⟨_, h3⟩
      · exact absurd h hne
      · exact o.eq _ _ _ _ _ _ h1 h2 h3 h4
  kz i' p' h y hy := by
    rcases getElem?_set_cases h with ⟨rfl, rfl⟩ | ⟨_, h⟩
    · rcases List.mem_append.1 hy with hy | hy
      · exact o.kz _ _ hp y hy
      · simp at hy; subst hy; exact may_size hm
    · exact o.kz _ _ h y hy
  pl i' p' h := by
    rcases getElem?_set_cases h with ⟨rfl, rfl⟩ | ⟨_, h⟩
    · have := o.pl _ _ hp; simp; omega
    · have := o.pl _ _ h; omega
  w := by
    have h := sum_map_set (work A.bs.length) A.qs i q (q.1 ++ [x], q.2) hq
    have h2 : work A.bs.length (q.1 ++ [x], q.2) ≤ work A.bs.length q + 8 := by
      have := o.ok.b8
      simp only [work, List.map_append, List.sum_append, List.map_cons, List.map_nil, List.sum_cons, List.sum_nil]
      split <;> omega
    have := o.w
    simp only [allWork] at this ⊢
    omega

/-- A Pass: nothing, or its head one box on. -/
theorem pass_cases {A : AF} (o : A.Ok) (s : Int) : (A.pass s).2 = A ∨ ∃ (i t : Nat) (x : Item) (r : List Item) (to : Nat) (b : List Msg), s = (i : Int) ∧ A.qs[i]? = some (x :: r, to) ∧ A.bs[t]? = some b ∧ (t : Int) = (if x.f0 then (to : Int) else routeA x.f1 A.bs.length) ∧
    (A.pass s).2 = { A with qs := A.qs.set i (AF.onward A.bs.length (x :: r, to)), bs := A.bs.set t (b ++ [⟨(i : Int), x⟩]) } := by
  rcases source_cases A s with hs | ⟨i, rfl, hi⟩
  · left; rw [pass_bad hs]
  · by_cases h : (A.toward (i : Int)).2 = 0
    · have hr := AF.toward_range o h
      unfold AF.pass
      unfold AF.toward at h hr
      have hn : ¬ ((i : Int) < 0) := by omega
      simp only [if_neg hn, Int.toNat_natCast] at h hr ⊢
      unfold AF.passQ
      simp only [h]
      have hq : ∃ x r to, A.qs[i]? = some (x :: r, to) := by
        unfold AF.towardQ at h
        split at h
        · cases h
        · cases h
        · rename_i x r to hq; exact ⟨x, r, to, hq⟩
      obtain ⟨x, r, to, hq⟩ := hq
      have hb : A.bs[(A.towardQ i).1.toNat]? = some A.bs[(A.towardQ i).1.toNat] := List.getElem?_eq_getElem hr.2
      rw [hq, hb]
      simp only
      by_cases hm : (A.bs[(A.towardQ i).1.toNat]).length = A.most
      · left; simp [hm]
      · right
        refine ⟨i, (A.towardQ i).1.toNat, x, r, to, _, rfl, hq, hb, ?_, by simp [hm]⟩
        have : ((A.towardQ i).1.toNat : Int) = (A.towardQ i).1 := by omega
        rw [this]
        unfold AF.towardQ
        rw [hq]
        simp only
        split <;> rfl
    · left
      unfold AF.pass
      unfold AF.toward at h
      have hn : ¬ ((i : Int) < 0) := by omega
      simp only [if_neg hn] at h ⊢
      have h' : ¬ (A.towardQ i).2 = 0 := h
      unfold AF.passQ
      simp [h']
theorem pend_onward {m j t : Nat} {x : Item} {r : List Item} {to : Nat} (hj : j < m) (hto : to < m) (ht : (t : Int) = if x.f0 then (to : Int) else routeA x.f1 m) :
    pend m j (x :: r, to) = (if j = t then [x] else []) ++ pend m j (AF.onward m (x :: r, to)) := by
  cases hx : x.f0 with
  | false =>
    rw [hx] at ht
    simp only [AF.onward, hx]
    simp only [Bool.false_eq_true, if_false] at ht ⊢
    rw [pend_zero]
    simp only [pend, mine, hx]
    by_cases e : j = t
    · subst e; simp [← ht]
    · have : ¬ (routeA x.f1 m = (j : Int)) := by omega
      simp [e, this]
  | true =>
    rw [hx] at ht
    simp only [if_true] at ht
    have ht' : t = to := by omega
    subst ht'
    simp only [AF.onward, hx, if_true]
    by_cases hlt : t + 1 < m
    · rw [if_pos hlt]
      simp only [pend, mine, hx]
      by_cases e : j = t
      · subst e; simp
      · by_cases e2 : j < t
        · have : j < t + 1 := by omega
          simp [e, e2, this]
        · have : ¬ j < t + 1 := by omega
          simp [e, e2, this]
    · rw [if_neg hlt, pend_zero]
      simp only [pend, mine, hx]
      by_cases e : j = t
      · subst e; simp
      · have : j < t := by omega
        simp [e, this]
theorem work_onward {m : Nat} {x : Item} {r : List Item} {to : Nat} (hto : to < m) (hx : to ≠ 0 → x.f0 = true) : work m (AF.onward m (x :: r, to)) + 1 ≤ work m (x :: r, to) := by
  cases h : x.f0 with
  | false =>
    have : to = 0 := by
      rcases Nat.decEq to 0 with h' | h'
      · have := hx h'; rw [h] at this; cases this
      · exact h'
    subst this
    simp [AF.onward, work, h]; omega
  | true =>
    simp only [AF.onward, h, if_true]
    split
    · simp [work, h]; omega
    · simp [work, h]; omega
theorem OInv.pass {A : AF} {P : List (List Item)} {T : List (List Tk)} {k : Nat} (o : OInv A P T k) (s : Int) : OInv (A.pass s).2 P T k := by
  rcases pass_cases o.ok s with h | ⟨i, t, x, r, to, b, rfl, hq, hb, ht, h⟩
  · rw [h]; exact o
  · have ok' := o.ok.pass (i : Int)
    rw [h] at ok' ⊢
    have hto := (o.ok.ql _ _ hq).2
    have hz := o.z _ _ hq
    have hxm : to ≠ 0 → x.f0 = true := fun hne => by
      obtain ⟨y, r', e1, e2⟩ := hz hne
      simp at e1; rw [e1.1]; exact e2
    refine ⟨ok', by simp [o.lenP], by simp [o.lenT], fun i' q' h' hne => ?_, fun i' j q' b' p t' h1 h2 h3 h4 => ?_, o.kz, o.pl, ?_⟩
    · rcases getElem?_set_cases h' with ⟨rfl, rfl⟩ | ⟨_, h'⟩
      · cases hx : x.f0 with
        | false => simp [AF.onward, hx] at hne
        | true =>
          simp only [AF.onward, hx, if_true] at hne ⊢
          split
          · exact ⟨x, r, rfl, hx⟩
          · rename_i hlt; rw [if_neg hlt] at hne; exact absurd rfl hne
      · exact o.z _ _ h' hne
    · simp only [List.length_set]
      have hjm : j < A.bs.length := by
        have := (List.getElem?_eq_some_iff.1 h2).1
        simpa using this
      rcases getElem?_set_cases h1 with ⟨rfl, rfl⟩ | ⟨hne, h1⟩
      · rcases getElem?_set_cases h2 with ⟨rfl, rfl⟩ | ⟨hne2, h2⟩
        · have e := o.eq _ _ _ _ _ _ hq hb h3 h4
          rw [pend_onward hjm hto ht] at e
          rw [← e, srcB_app]
          simp
        · have e := o.eq _ _ _ _ _ _ hq h2 h3 h4
          rw [pend_onward hjm hto ht] at e
          rw [← e]
          simp [hne2]
      · rename_i h1'
        clear h1'
        rcases getElem?_set_cases h2 with ⟨rfl, rfl⟩ | ⟨hne2, h2⟩
        · have e := o.eq _ _ _ _ _ _ h1 hb h3 h4
          rw [← e, srcB_app]
          have : ¬ ((i : Int) = (i' : Int)) := by omega
          simp [this]
        · exact o.eq _ _ _ _ _ _ h1 h2 h3 h4
    · have w := o.w
      have hle := le_sum _ _ _ (show (A.qs.map (work A.bs.length))[i]? = some (work A.bs.length (x :: r, to)) by rw [List.getElem?_map, hq]; rfl)
      have s1 := sum_map_set (·.length) A.bs t b (b ++ [⟨(i : Int), x⟩]) hb
      have s2 := sum_map_set (work A.bs.length) A.qs i (x :: r, to) (AF.onward A.bs.length (x :: r, to)) hq
      have s3 := work_onward (r := r) (to := to) hto hxm
      simp only [allWork, List.length_set, List.length_append, List.length_cons, List.length_nil] at w s1 ⊢
      omega
theorem take_cases (A : AF) (s : Int) : ((A.take s).1.2.2 ≠ 0 ∧ (A.take s).2 = A) ∨ ∃ (j : Nat) (m : Msg) (r : List Msg), s = (j : Int) ∧ A.bs[j]? = some (m :: r) ∧ (A.take s).1 = (m.f0, m.f1, 0) ∧ (A.take s).2 = { A with bs := A.bs.set j r } := by
  unfold AF.take
  by_cases hs : s < 0
  · left; simp [hs]
  · rw [if_neg hs]
    unfold AF.takeQ
    split
    · left; simp
    · left; simp
    · rename_i m r hb
      right
      exact ⟨s.toNat, m, r, by omega, hb, rfl, rfl⟩
theorem OInv.take {A : AF} {P : List (List Item)} {T : List (List Tk)} {k : Nat} (o : OInv A P T k) {j : Nat} {m : Msg} {r : List Msg} {t : List Tk} (hb : A.bs[j]? = some (m :: r)) (ht : T[j]? = some t) (hs : (A.take (j : Int)).2 = { A with bs := A.bs.set j r }) :
    OInv { A with bs := A.bs.set j r } P (T.set j (t ++ [⟨m.f0, m.f1⟩])) k where
  ok := by rw [← hs]; exact o.ok.take _
  lenP := o.lenP
  lenT := by simp [o.lenT]
  z := o.z
  kz := o.kz
  pl := o.pl
  eq i j' q b' p t' h1 h2 h3 h4 := by
    simp only [List.length_set]
    rcases getElem?_set_cases h2 with ⟨rfl, rfl⟩ | ⟨hne, h2⟩
    · rcases getElem?_set_cases h4 with ⟨_, rfl⟩ | ⟨hne, _⟩
      · have e := o.eq _ _ _ _ _ _ h1 hb h3 ht
        rw [← e, srcT_app, srcB_cons]
        simp
      · exact absurd rfl hne
    · rcases getElem?_set_cases h4 with ⟨h, _⟩ | ⟨_, h4⟩
      · exact absurd h hne
      · exact o.eq _ _ _ _ _ _ h1 h2 h3 h4
  w := by
    have w := o.w
    have s1 := sum_map_set (·.length) A.bs j (m :: r) r hb
    have s2 := sum_map_set (·.length) T j t (t ++ [⟨m.f0, m.f1⟩]) ht
    simp only [took, allWork, List.length_set, List.length_append, List.length_cons, List.length_nil] at w s1 s2 ⊢
    omega
theorem took_take {T : List (List Tk)} {j : Nat} {t : List Tk} (ht : T[j]? = some t) (x : Tk) : took (T.set j (t ++ [x])) = took T + 1 := by
  have := sum_map_set (·.length) T j t (t ++ [x]) ht
  simp only [took, List.length_append, List.length_cons, List.length_nil] at this ⊢
  omega

/-! to the end -/
def anyBox (A : AF) : Prop := ∃ (j : Nat) (b : List Msg), A.bs[j]? = some b ∧ b ≠ []
theorem not_empty {A : AF} (h : A.empty = false) : anyBox A ∨ ∃ (i : Nat) (q : List Item × Nat), A.qs[i]? = some q ∧ q.1 ≠ [] := by
  unfold AF.empty at h
  rw [Bool.and_eq_false_iff, List.all_eq_false, List.all_eq_false] at h
  rcases h with ⟨q, hq, hn⟩ | ⟨b, hb, hn⟩
  · obtain ⟨i, hi, rfl⟩ := List.getElem_of_mem hq
    exact .inr ⟨i, _, List.getElem?_eq_getElem hi, by simpa using hn⟩
  · obtain ⟨i, hi, rfl⟩ := List.getElem_of_mem hb
    exact .inl ⟨i, _, List.getElem?_eq_getElem hi, by simpa using hn⟩
theorem is_empty {A : AF} (h : A.empty = true) : (∀ (i : Nat) (q : List Item × Nat), A.qs[i]? = some q → q.1 = []) ∧ ∀ (j : Nat) (b : List Msg), A.bs[j]? = some b → b = [] := by
  unfold AF.empty at h
  rw [Bool.and_eq_true, List.all_eq_true, List.all_eq_true] at h
  exact ⟨fun i q hq => by simpa using h.1 q (List.mem_of_getElem? hq), fun j b hb => by simpa using h.2 b (List.mem_of_getElem? hb)⟩
theorem anyBox.pass {A : AF} (o : A.Ok) (h : anyBox A) (s : Int) : anyBox (A.pass s).2 := by
  rcases pass_cases o s with e | ⟨i, t, x, r, to, b, rfl, hq, hb, ht, e⟩
  · rw [e]; exact h
  · rw [e]
    have := (List.getElem?_eq_some_iff.1 hb).1
    exact ⟨t, _, List.getElem?_set_self this, by simp⟩
/-- A Pass of a queue that has something. -/
theorem pass_brings {A : AF} (o : A.Ok) {i : Nat} {q : List Item × Nat} (hq : A.qs[i]? = some q) (hne : q.1 ≠ []) : anyBox (A.pass (i : Int)).2 := by
  by_cases hany : anyBox A
  · exact hany.pass o _
  · have h0 : (A.toward (i : Int)).2 = 0 := by
      unfold AF.toward AF.towardQ
      have hn : ¬ ((i : Int) < 0) := by omega
      obtain ⟨l, to⟩ := q
      cases l with
      | nil => exact absurd rfl hne
      | cons x r =>
        rw [if_neg hn, Int.toNat_natCast, hq]
        simp only
        split <;> rfl
    rcases AF.pass_room o h0 with ⟨_, hb⟩ | ⟨_, _, hb⟩
    · exfalso
      obtain ⟨h1, h2⟩ := AF.toward_range o h0
      unfold AF.boxed at hb
      rw [if_neg (by omega), List.getElem?_eq_getElem h2] at hb
      simp only at hb
      have := o.m1
      exact hany ⟨_, _, List.getElem?_eq_getElem h2, fun e => by rw [e] at hb; simp at hb; omega⟩
    · obtain ⟨h1, h2⟩ := AF.toward_range o h0
      have h3 : 0 ≤ A.boxed (A.toward (i : Int)).1 := by
        unfold AF.boxed
        split
        · omega
        · split <;> omega
      unfold AF.boxed at hb
      rw [if_neg (by omega)] at hb
      cases hc : (A.pass (i : Int)).2.bs[(A.toward (i : Int)).1.toNat]? with
      | none =>
        rw [hc] at hb
        unfold AF.boxed at h3
        simp only at hb
        omega
      | some b =>
        refine ⟨_, b, hc, fun e => ?_⟩
        rw [hc, e] at hb
        unfold AF.boxed at h3
        simp only [List.length_nil] at hb
        omega
theorem pass_keeps {A : AF} (o : A.Ok) {s : Int} {i : Nat} (h : s ≠ (i : Int)) : (A.pass s).2.qs[i]? = A.qs[i]? := by
  rcases pass_cases o s with e | ⟨i', t, x, r, to, b, rfl, hq, hb, ht, e⟩
  · rw [e]
  · rw [e]
    exact List.getElem?_set_ne (fun e' => h (by rw [e']))
theorem take_keeps {A : AF} {s : Int} {j : Nat} (h : s ≠ (j : Int)) : (A.take s).2.bs[j]? = A.bs[j]? := by
  rcases take_cases A s with ⟨_, e⟩ | ⟨j', m, r, rfl, hb, _, e⟩
  · rw [e]
  · rw [e]
    exact List.getElem?_set_ne (fun e' => h (by rw [e']))
/-- The end: what was taken is what was put. -/
theorem OInv.done {A : AF} {P : List (List Item)} {T : List (List Tk)} {k : Nat} (o : OInv A P T k) (h : A.empty = true) {i j : Nat} {p : List Item} {t : List Tk} (hp : P[i]? = some p) (ht : T[j]? = some t) : p.filter (mine A.bs.length j) = srcT i t := by
  obtain ⟨h1, h2⟩ := is_empty h
  have hi : i < A.qs.length := by rw [← o.lenP]; exact (List.getElem?_eq_some_iff.1 hp).1
  have hj : j < A.bs.length := by rw [← o.lenT]; exact (List.getElem?_eq_some_iff.1 ht).1
  have e := o.eq i j _ _ p t (List.getElem?_eq_getElem hi) (List.getElem?_eq_getElem hj) hp ht
  have e1 := h1 _ _ (List.getElem?_eq_getElem hi)
  have e2 := h2 _ _ (List.getElem?_eq_getElem hj)
  rw [← e, e2]
  have : ∀ q : List Item × Nat, q.1 = [] → pend A.bs.length j q = [] := by
    rintro ⟨l, to⟩ hl; simp only at hl; subst hl; rfl
  rw [this _ e1]
  simp [srcB]
end Go.Proofs.Ytanpaamamfabkaa
