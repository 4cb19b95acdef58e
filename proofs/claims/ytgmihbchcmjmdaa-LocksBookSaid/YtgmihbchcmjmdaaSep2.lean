/- More parts: a slice of its own; a row of a grid told anew. -/
import Derived.Test.YtgmihbchcmjmdaaSep
namespace Go.Proofs.Ytgmihbchcmjmdaa
open Go Go.Tr
set_option linter.unusedVariables false
theorem SepL.perm {Ps Qs : List HP} (p : Ps.Perm Qs) : ∀ {h : H} {F : Nat → Prop}, SepL Ps h F → SepL Qs h F := by
  induction p with
  | nil => exact fun s => s
  | cons x _ ih => exact fun ⟨F1, F2, a, r, c, d⟩ => ⟨F1, F2, a, ih r, c, d⟩
  | swap x y l =>
    rintro h F ⟨F1, F2, a, ⟨F3, F4, a', r, c', d'⟩, c, d⟩
    refine ⟨F3, fun b => F1 b ∨ F4 b, a', ⟨F1, F4, a, r, fun b h1 h2 => c b h1 ((d' b).2 (.inr h2)), fun b => Iff.rfl⟩, fun b h1 h2 => ?_, fun b => ?_⟩
    · rcases h2 with h2 | h2
      · exact c b h2 ((d' b).2 (.inl h1))
      · exact c' b h1 h2
    · rw [d b, d' b]
      constructor
      · rintro (h | h | h)
        · exact .inr (.inl h)
        · exact .inl h
        · exact .inr (.inr h)
      · rintro (h | h | h)
        · exact .inr (.inl h)
        · exact .inl h
        · exact .inr (.inr h)
  | trans _ _ ih1 ih2 => exact fun s => ih2 (ih1 s)
theorem SG.perm {F0 : Nat → Prop} {h0 h : H} {Ps Qs : List HP} (S : SG F0 h0 h Ps) (p : Ps.Perm Qs) : SG F0 h0 h Qs := by
  obtain ⟨F, s, f⟩ := S
  exact ⟨F, s.perm p, f⟩
/-- Parts made apart, taken in as one. -/
theorem SG.take_in {F0 : Nat → Prop} {h0 h h' : H} {Ps Qs : List HP} (S : SG F0 h0 h Ps) (S' : SS h h' Qs) : SG F0 h0 h' (HP.all Qs :: Ps) := by
  have e := SS.e S'
  obtain ⟨F, s, f⟩ := S'
  refine S.add (P := HP.all Qs) s e fun b hb => ?_
  rcases f.new b hb with h | h
  · exact h.elim
  · exact h
def ownP {α : Type} (K : Kd α) (s : Sl) (xs : List α) : HP where
  p h F := Own K h F s xs ∧ ∀ b, F b → b < h.size
  st := fun ⟨o, l⟩ hs k => ⟨o.same fun b hb _ => k b hb, fun b hb => Nat.lt_of_lt_of_le (l b hb) hs⟩
  lt := fun ⟨_, l⟩ => l
section
variable {α : Type} {K : Kd α} {F0 : Nat → Prop} {h0 h : H} {Ps : List HP}
theorem ownP.len (S : SG F0 h0 h Ps) (i : Nat) {s : Sl} {xs : List α} (hi : Ps[i]? = some (ownP K s xs)) : s.len = xs.length := by
  obtain ⟨F1, ⟨o, _⟩, _⟩ := S.at i hi
  exact o.len
theorem ownP.get (S : SG F0 h0 h Ps) (i : Nat) {s : Sl} {xs : List α} (hi : Ps[i]? = some (ownP K s xs)) {j : Nat} (hj : j < xs.length) {n : Nat} (hn : n = K.n) : ∃ a, ixA n s (j : Int) = some a ∧ ld K a h = some xs[j] := by
  subst hn
  obtain ⟨F1, ⟨o, _⟩, _⟩ := S.at i hi
  exact o.get0 hj
theorem ownP.set (S : SG F0 h0 h Ps) (i : Nat) {s : Sl} {xs : List α} (hi : Ps[i]? = some (ownP K s xs)) {j : Nat} (hj : j < xs.length) (v : α) {n : Nat} (hn : n = K.n) : ∃ a h', ixA n s (j : Int) = some a ∧ st K a v h = some h' ∧ SG F0 h0 h' (Ps.set i (ownP K s (xs.set j v))) := by
  subst hn
  obtain ⟨F1, ⟨o, l⟩, back⟩ := S.at i hi
  obtain ⟨a, h', b, h1, h2, o', y, hF⟩ := o.set0 hj v
  exact ⟨a, h', h1, h2, back _ h' F1 ⟨o', fun b hb => by rw [y.1]; exact l b hb⟩ ⟨by rw [y.1]; exact Nat.le_refl _, fun k hk hn => y.2 k fun e => hn (e ▸ hF), fun _ h => .inl h⟩⟩
theorem SG.own {t : TypeId} {bytes : Nat} {z : α} (hK : 0 < K.n) (S : SG F0 h0 h Ps) {n : Nat} (hb : bytes * n ≤ 281474976710656) (hb2 : n < 4611686018427387904) {Q : Sl → H → Prop}
    (k : ∀ s h', SG F0 h0 h' (ownP K s (List.replicate n z) :: Ps) → Q s h') : mk K.n bytes t (K.enc z) (n : Int) (n : Int) h Q :=
  mk_own hK hb hb2 fun s h' es o A e y => k s h' (S.add (P := ownP K s _) (F1 := fun b => b = h.size) ⟨o, fun b hb => by omega⟩ e fun b hb => by omega)

/-- A row told anew by a slice made just now. -/
theorem gridP.new (S : SG F0 h0 h Ps) (i : Nat) {s : Sl} {xss : List (List α)} (hi : Ps[i]? = some (gridP K s xss)) {j : Nat} (hj : j < xss.length) {h' : H} (e : Ext h h') {c : Sl} {ys : List α} {F : Nat → Prop} (hF : ∀ b, F b → h.size ≤ b) (o : Own K h' F c ys) :
    SG F0 h0 h' (Ps.set i (gridM K s j c (xss.set j ys))) := by
  obtain ⟨F1, ⟨G, ss, g, rfl⟩, back⟩ := S.at i hi
  have hj' : j < ss.length := by rw [g.len]; exact hj
  refine back _ h' (fun b => (if h.size ≤ b ∧ b < h'.size then some (some j) else if G b = some (some j) then none else G b) ≠ none) ⟨fun b => if h.size ≤ b ∧ b < h'.size then some (some j) else if G b = some (some j) then none else G b, ss, ⟨?_, by rw [g.len]; simp, by simp [g.len], ?_, ?_⟩, rfl⟩ ⟨e.1, fun b hb _ => e.2 b hb, ?_⟩
  · refine (g.outer.ext e).mono fun b hb => ?_
    have := g.lt b (by rw [hb]; simp)
    rw [if_neg (fun x => by omega), if_neg (by rw [hb]; simp)]; exact hb
  · intro i' c1 xs hc1 hxs
    rcases Nat.decEq i' j with hne | rfl
    · rw [List.getElem?_set_ne (Ne.symm hne)] at hc1 hxs
      refine ((g.rows i' c1 xs hc1 hxs).ext e).mono fun b hb => ?_
      have := g.lt b (by rw [hb]; simp)
      rw [if_neg (fun x => by omega), if_neg (by rw [hb]; simpa using hne)]; exact hb
    · rw [List.getElem?_set_self hj'] at hc1
      rw [List.getElem?_set_self hj] at hxs
      cases hc1; cases hxs
      refine o.monoL fun b hb hlt => ?_
      rw [if_pos ⟨hF b hb, hlt⟩]
  · intro b hb
    by_cases x : h.size ≤ b ∧ b < h'.size
    · exact x.2
    · rw [if_neg x] at hb
      split at hb
      · exact absurd rfl hb
      · have := g.lt b hb
        have := e.1
        omega
  · intro b hb
    by_cases x : h.size ≤ b ∧ b < h'.size
    · exact .inr x.1
    · left
      have hb' : (if h.size ≤ b ∧ b < h'.size then some (some j) else if G b = some (some j) then none else G b) ≠ none := hb
      rw [if_neg x] at hb'
      split at hb'
      · exact absurd rfl hb'
      · exact hb'
/-- append([]T{}, row[1:]...) -/
theorem gridP.cut (hK : 0 < K.n) (S : SG F0 h0 h Ps) (i : Nat) {s : Sl} {xss : List (List α)} (hi : Ps[i]? = some (gridP K s xss)) {j : Nat} (hj : j < xss.length) {x : α} {r : List α} (hr : xss[j] = x :: r) {q : Addr} {c : Sl} {w : Nat} (hw : w = K.n)
    (hq : ixA 1 s (j : Int) = some q) (hc : ld kL q h = some c) {bytes : Nat} {t : TypeId} {z : α} (hb : (2 * r.length + 192) * bytes ≤ 281474976710656) (hb2 : r.length < 4611686018427387904) {Q : Sl → H → Prop}
    (k : ∀ c' h1, SG F0 h0 h1 (Ps.set i (gridM K s j c' (xss.set j r))) → Ext h h1 → Q c' h1) :
    rd (slx w c (some 1) none none) fun y => bs t 0 [] h fun x1 h1 => ap K.n bytes t (K.enc z) x1 y h1 Q := by
  subst hw
  obtain ⟨F1, ⟨G, ss, g, rfl⟩, _⟩ := S.at i hi
  have hj' : j < ss.length := by rw [g.len]; exact hj
  obtain ⟨a, h1, h2⟩ := g.outer.get0 hj'
  obtain rfl : a = q := by
    have h1' : ixA 1 s (j : Int) = some a := h1
    rw [hq] at h1'; exact (Option.some.inj h1').symm
  obtain rfl : c = ss[j] := by rw [hc] at h2; exact Option.some.inj h2
  have row := g.rows j _ _ (List.getElem?_eq_getElem hj') (List.getElem?_eq_getElem hj)
  rw [hr] at row
  obtain ⟨y, hy, oy, _⟩ := slx_lo row (k := 1) (by simp)
  refine rd_some hy ?_
  refine bs_own (K := K) [] rfl rfl fun x1 h34 o1 hl1 e1 z1 => ?_
  refine ap_own hK o1 (ys := r) ?_ (by have := oy.len; simpa using this) (by simpa using hb) (by simpa using hb2) fun c' h35 o2 f2 => ?_
  · have := (oy.ext e1).rdAll
    simpa using this
  · have e : Ext h h35 := ⟨Nat.le_trans e1.1 f2.1, fun b hb => by rw [f2.2 b (Nat.lt_of_lt_of_le hb e1.1) (fun x => by have x' : b = h.size := x; omega), e1.2 b hb]⟩
    refine k c' h35 (gridP.new S i hi hj e (F := fun b => b = h.size ∨ b = h34.size) (fun b hb => ?_) (by simpa using o2)) e
    have := e1.1
    rcases hb with hb | hb <;> omega
end
end Go.Proofs.Ytgmihbchcmjmdaa
