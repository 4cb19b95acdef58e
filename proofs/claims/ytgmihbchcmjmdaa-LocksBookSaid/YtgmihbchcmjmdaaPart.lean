/- Parts by name: nothing, one of a family, several as one; what a call does to the parts that it names, beside whatever else there is. -/
import Derived.Test.YtgmihbchcmjmdaaSep2
import Derived.Test.YtgmihbchcmjmdaaShow
import Derived.Test.YtgmihbchcmjmdaaFlds
namespace Go.Proofs.Ytgmihbchcmjmdaa
open Go Go.Tr
set_option linter.unusedVariables false

def HP.emp : HP where
  p _ F := ∀ b, ¬ F b
  st := fun x _ _ => x
  lt := fun x b hb => absurd hb (x b)
def HP.ex {α : Type} (P : α → HP) : HP where
  p h F := ∃ a, (P a).p h F
  st := fun ⟨a, x⟩ hs k => ⟨a, (P a).st x hs k⟩
  lt := fun ⟨a, x⟩ => (P a).lt x
/-- A part, and a fact that holds of no memory. -/
def HP.and (φ : Prop) (P : HP) : HP where
  p h F := φ ∧ P.p h F
  st := fun ⟨a, x⟩ hs k => ⟨a, P.st x hs k⟩
  lt := fun ⟨_, x⟩ => P.lt x

theorem SepL.append : ∀ {Ps Qs : List HP} {h : H} {F : Nat → Prop}, SepL (Ps ++ Qs) h F ↔ ∃ F1 F2, SepL Ps h F1 ∧ SepL Qs h F2 ∧ (∀ b, F1 b → ¬ F2 b) ∧ (∀ b, F b ↔ F1 b ∨ F2 b)
  | [], Qs, h, F => ⟨fun s => ⟨fun _ => False, F, fun _ h => h, s, fun _ h => h.elim, fun b => by simp⟩, fun ⟨F1, F2, a, b, _, d⟩ => by
      have : F = F2 := by
        funext k; apply propext; rw [d k]; exact ⟨fun x => x.elim (fun y => absurd y (a k)) id, .inr⟩
      rw [this]; exact b⟩
  | P :: Ps, Qs, h, F => by
    constructor
    · rintro ⟨F1, F2, a, r, c, d⟩
      obtain ⟨G1, G2, g1, g2, g3, g4⟩ := SepL.append.1 r
      refine ⟨fun b => F1 b ∨ G1 b, G2, ⟨F1, G1, a, g1, fun b h1 h2 => c b h1 ((g4 b).2 (.inl h2)), fun b => Iff.rfl⟩, g2, fun b h1 h2 => ?_, fun b => ?_⟩
      · rcases h1 with h1 | h1
        · exact c b h1 ((g4 b).2 (.inr h2))
        · exact g3 b h1 h2
      · rw [d b, g4 b, or_assoc]
    · rintro ⟨_, G2, ⟨F1, G1, a, g1, c, d⟩, g2, g3, g4⟩
      refine ⟨F1, fun b => G1 b ∨ G2 b, a, SepL.append.2 ⟨G1, G2, g1, g2, fun b h1 h2 => g3 b ((d b).2 (.inr h1)) h2, fun b => Iff.rfl⟩, fun b h1 h2 => ?_, fun b => ?_⟩
      · rcases h2 with h2 | h2
        · exact c b h1 h2
        · exact g3 b ((d b).2 (.inl h1)) h2
      · rw [g4 b, d b, or_assoc]

theorem perm_eraseIdx {α : Type _} : ∀ (l : List α) (i : Nat) (x : α), l[i]? = some x → (x :: l.eraseIdx i).Perm l
  | [], i, x, h => by simp at h
  | y :: l, 0, x, h => by
    obtain rfl : y = x := by simpa using h
    exact List.Perm.refl _
  | y :: l, i + 1, x, h => by
    have ih := perm_eraseIdx l i x (by simpa using h)
    rw [List.eraseIdx_cons_succ]
    exact (List.Perm.swap y x _).trans (ih.cons y)
section
variable {F0 : Nat → Prop} {h0 h h' : H} {Ps Qs : List HP} {P : HP}
theorem SG.imp (S : SG F0 h0 h Ps) (i : Nat) (hi : Ps[i]? = some P) (P' : HP) (k : ∀ F, P.p h F → P'.p h F) : SG F0 h0 h (Ps.set i P') := by
  obtain ⟨F1, a, back⟩ := S.at i hi
  exact back P' h F1 (k _ a) (Frm.refl _ _)
theorem SG.front (S : SG F0 h0 h Ps) (i : Nat) (hi : Ps[i]? = some P) : SG F0 h0 h (P :: Ps.eraseIdx i) := by
  exact S.perm (perm_eraseIdx Ps i P hi).symm
theorem SG.swap {Q : HP} (S : SG F0 h0 h (P :: Q :: Ps)) : SG F0 h0 h (Q :: P :: Ps) := S.perm (List.Perm.swap _ _ _)
theorem SG.flat (S : SG F0 h0 h (HP.all Qs :: Ps)) : SG F0 h0 h (Qs ++ Ps) := by
  obtain ⟨F, ⟨F1, F2, a, r, c, d⟩, f⟩ := S
  exact ⟨F, SepL.append.2 ⟨F1, F2, a, r, c, d⟩, f⟩
theorem SG.fold (Qs : List HP) (S : SG F0 h0 h (Qs ++ Ps)) : SG F0 h0 h (HP.all Qs :: Ps) := by
  obtain ⟨F, s, f⟩ := S
  obtain ⟨F1, F2, a, r, c, d⟩ := SepL.append.1 s
  exact ⟨F, ⟨F1, F2, a, r, c, d⟩, f⟩
theorem SG.unex {α : Type} {P : α → HP} (S : SG F0 h0 h (HP.ex P :: Ps)) : ∃ a, SG F0 h0 h (P a :: Ps) := by
  obtain ⟨F, ⟨F1, F2, ⟨a, x⟩, r, c, d⟩, f⟩ := S
  exact ⟨a, F, ⟨F1, F2, x, r, c, d⟩, f⟩
theorem SG.toex {α : Type} {P : α → HP} (a : α) (S : SG F0 h0 h (P a :: Ps)) : SG F0 h0 h (HP.ex P :: Ps) := by
  obtain ⟨F, ⟨F1, F2, x, r, c, d⟩, f⟩ := S
  exact ⟨F, ⟨F1, F2, ⟨a, x⟩, r, c, d⟩, f⟩
theorem SG.unand {φ : Prop} (S : SG F0 h0 h (HP.and φ P :: Ps)) : φ ∧ SG F0 h0 h (P :: Ps) := by
  obtain ⟨F, ⟨F1, F2, ⟨a, x⟩, r, c, d⟩, f⟩ := S
  exact ⟨a, F, ⟨F1, F2, x, r, c, d⟩, f⟩
theorem SG.toand {φ : Prop} (a : φ) (S : SG F0 h0 h (P :: Ps)) : SG F0 h0 h (HP.and φ P :: Ps) := by
  obtain ⟨F, ⟨F1, F2, x, r, c, d⟩, f⟩ := S
  exact ⟨F, ⟨F1, F2, ⟨a, x⟩, r, c, d⟩, f⟩
theorem SG.unemp (S : SG F0 h0 h (HP.emp :: Ps)) : SG F0 h0 h Ps := S.tail
theorem SG.toemp (S : SG F0 h0 h Ps) : SG F0 h0 h (HP.emp :: Ps) := S.add (P := HP.emp) (F1 := fun _ => False) (fun _ h => h) (Ext.refl h) fun _ h => h.elim
/-- Into a part; and back, with what was made there. -/
theorem SG.open (S : SG F0 h0 h Ps) (i : Nat) (hi : Ps[i]? = some P) :
    ∃ F, SG F h h [P] ∧ ∀ h' P' Rs, SG F h h' (P' :: Rs) → SG F0 h0 h' (Rs ++ Ps.set i P') := by
  have hl : i < Ps.length := by
    rcases Nat.lt_or_ge i Ps.length with hl | hl
    · exact hl
    · rw [List.getElem?_eq_none hl] at hi; cases hi
  obtain ⟨F, ⟨F1, F2, a, r, c, d⟩, f⟩ := S.front i hi
  refine ⟨F1, ⟨F1, ⟨F1, fun _ => False, a, fun _ h => h, fun _ _ h => h, fun b => by simp⟩, Frm.refl _ _⟩, fun h' P' Rs S' => ?_⟩
  obtain ⟨F', s', f'⟩ := S'
  have S2 : SG F0 h0 h' ((P' :: Rs) ++ Ps.eraseIdx i) := by
    refine ⟨fun b => F' b ∨ F2 b, SepL.append.2 ⟨F', F2, s', r.st f'.size fun b hb => f'.keep b (r.lt b hb) fun h1 => c b h1 hb, fun b h1 h2 => ?_, fun b => Iff.rfl⟩, f.trans ⟨f'.size, fun b hb hn => f'.keep b hb fun h1 => hn ((d b).2 (.inl h1)), fun b hb => ?_⟩⟩
    · rcases f'.new b h1 with x | x
      · exact c b x h2
      · have := r.lt b h2; omega
    · rcases hb with hb | hb
      · rcases f'.new b hb with x | x
        · exact .inl ((d b).2 (.inl x))
        · exact .inr x
      · exact .inl ((d b).2 (.inr hb))
  refine S2.perm ?_
  have hp : (Ps.set i P').Perm (P' :: Ps.eraseIdx i) := by
    have h2 := (perm_eraseIdx (Ps.set i P') i P' (List.getElem?_set_self hl)).symm
    rw [List.eraseIdx_set_eq] at h2
    exact h2
  have h3 : ((P' :: Rs) ++ Ps.eraseIdx i).Perm (Rs ++ (P' :: Ps.eraseIdx i)) := List.perm_middle.symm
  exact h3.trans (List.Perm.append_left Rs hp.symm)
theorem SG.open1 (S : SG F0 h0 h Ps) (i : Nat) (hi : Ps[i]? = some P) :
    ∃ F, SG F h h [P] ∧ ∀ h' P', SG F h h' [P'] → SG F0 h0 h' (Ps.set i P') := by
  obtain ⟨F, s, back⟩ := S.open i hi
  exact ⟨F, s, fun h' P' s' => back h' P' [] s'⟩
end

theorem SG.unfront {F0 : Nat → Prop} {h0 h : H} {Ps : List HP} {P : HP} (i : Nat) (hi : i < Ps.length) (S : SG F0 h0 h (P :: Ps.eraseIdx i)) : SG F0 h0 h (Ps.set i P) := by
  refine S.perm ?_
  have h2 := perm_eraseIdx (Ps.set i P) i P (List.getElem?_set_self hi)
  rw [List.eraseIdx_set_eq] at h2
  exact h2
/-- What f does, from heap h on, with the parts Ps: its answer, for some g, and the parts behind it. -/
def Does {γ β : Type} (h : H) (Ps : List HP) (f : (β → H → Prop) → Prop) (ans : γ → β) (R : γ → List HP) : Prop :=
  ∀ {F0 : Nat → Prop} {h0 : H} {Q : β → H → Prop}, SG F0 h0 h Ps → (∀ g h', SG F0 h0 h' (R g) → Q (ans g) h') → f Q
theorem SG.go {γ β : Type} {h0 h : H} {F0 : Nat → Prop} {Ps Qs : List HP} {f : (β → H → Prop) → Prop} {ans : γ → β} {R : γ → List HP} (S : SG F0 h0 h (Ps ++ Qs)) (t : Does h Ps f ans R) {Q : β → H → Prop} (k : ∀ g h', SG F0 h0 h' (R g ++ Qs) → Q (ans g) h') : f Q := by
  obtain ⟨F, s, g⟩ := S
  obtain ⟨F1, F2, a, r, c, d⟩ := SepL.append.1 s
  refine t (F0 := F1) (h0 := h) ⟨F1, a, Frm.refl _ _⟩ fun x h' ⟨F', s', f'⟩ => k x h' ⟨fun b => F' b ∨ F2 b, SepL.append.2 ⟨F', F2, s', r.st f'.size fun b hb => f'.keep b (r.lt b hb) fun h1 => c b h1 hb, fun b h1 h2 => ?_, fun b => Iff.rfl⟩, g.trans ⟨f'.size, fun b hb hn => f'.keep b hb fun h1 => hn ((d b).2 (.inl h1)), fun b hb => ?_⟩⟩
  · rcases f'.new b h1 with x | x
    · exact c b x h2
    · have := r.lt b h2; omega
  · rcases hb with hb | hb
    · rcases f'.new b hb with x | x
      · exact .inl ((d b).2 (.inl x))
      · exact .inr x
    · exact .inl ((d b).2 (.inr hb))
/-- The same, the one part at its place. -/
theorem SG.go1 {γ β : Type} {h0 h : H} {F0 : Nat → Prop} {Ps : List HP} {P : HP} {f : (β → H → Prop) → Prop} {ans : γ → β} {R : γ → HP} {E : γ → List HP} (S : SG F0 h0 h Ps) (i : Nat) (hi : Ps[i]? = some P) (t : Does h [P] f ans (fun x => R x :: E x)) {Q : β → H → Prop} (k : ∀ x h', SG F0 h0 h' (E x ++ Ps.set i (R x)) → Q (ans x) h') : f Q := by
  obtain ⟨F, s, back⟩ := S.open i hi
  exact t s fun x h' S' => k x h' (back h' _ _ S')
/-- A part that takes the place of an old one. -/
theorem SG.replace {F0 : Nat → Prop} {h0 h : H} {Ps : List HP} {P : HP} (S : SG F0 h0 h (P :: Ps)) (j : Nat) (hj : j < Ps.length) : SG F0 h0 h (Ps.set j P) := by
  have S2 := S.front (j + 1) (P := Ps[j]) (by rw [List.getElem?_cons_succ, List.getElem?_eq_getElem hj])
  rw [List.eraseIdx_cons_succ] at S2
  exact SG.unfront j hj S2.tail
section
variable {α : Type} {K : Kd α} {F0 : Nat → Prop} {h0 h : H} {Ps : List HP}
theorem ownP.rds (S : SG F0 h0 h Ps) (i : Nat) {s : Sl} {xs : List α} (hi : Ps[i]? = some (ownP K s xs)) : Rds K h s xs := by
  obtain ⟨F1, ⟨o, _⟩, _⟩ := S.at i hi
  exact o.rds
/-- A slice that came to be just now. -/
theorem SG.made (S : SG F0 h0 h Ps) {h' : H} (e : Ext h h') {s : Sl} {xs : List α} (o : Own K h' (fun b => h.size ≤ b) s xs) : SG F0 h0 h' (ownP K s xs :: Ps) :=
  S.add (P := ownP K s xs) (F1 := fun b => h.size ≤ b ∧ b < h'.size) ⟨o.monoL fun b hb hl => ⟨hb, hl⟩, fun b hb => hb.2⟩ e fun b hb => hb.1
/-- append(s, x...) -/
theorem ownP.app (hK : 0 < K.n) (S : SG F0 h0 h Ps) (i : Nat) {s x : Sl} {xs ys : List α} (hi : Ps[i]? = some (ownP K s xs)) (R : Rds K h x ys) {bytes : Nat} {t : TypeId} {z : α} (hb : (2 * (xs.length + ys.length) + 192) * bytes ≤ 281474976710656) (hb2 : xs.length + ys.length < 4611686018427387904) {Q : Sl → H → Prop}
    (k : ∀ s' h', SG F0 h0 h' (Ps.set i (ownP K s' (xs ++ ys))) → Q s' h') : ap K.n bytes t (K.enc z) s x h Q := by
  obtain ⟨F1, ⟨o, l⟩, back⟩ := S.at i hi
  refine ap_own hK o R.rdAll R.len hb hb2 fun s' h' o' f => k s' h' (back _ h' (fun b => (F1 b ∨ b = h.size) ∧ b < h'.size) ⟨o'.monoL fun b hb hl => ⟨hb, hl⟩, fun b hb => hb.2⟩ ⟨f.1, f.2, fun b hb => ?_⟩)
  rcases hb.1 with hb | hb
  · exact .inl hb
  · exact .inr (by omega)
/-- append(nil, x...) -/
theorem SG.copied (hK : 0 < K.n) (S : SG F0 h0 h Ps) {s x : Sl} {ys : List α} (hs : s.cap = 0) (hs2 : s.len = 0) (R : Rds K h x ys) {bytes : Nat} {t : TypeId} {z : α} (hb : (2 * ys.length + 192) * bytes ≤ 281474976710656) (hb2 : ys.length < 4611686018427387904) {Q : Sl → H → Prop}
    (k : ∀ s' h', Ext h h' → SG F0 h0 h' (ownP K s' ys :: Ps) → Q s' h') : ap K.n bytes t (K.enc z) s x h Q := by
  have o : Own K h (fun _ => False) s [] := ⟨by simp [hs2], .inl ⟨hs, rfl⟩⟩
  refine ap_own hK o R.rdAll R.len (by simpa using hb) (by simpa using hb2) fun s' h' o' f => ?_
  have e : Ext h h' := ⟨f.1, fun b hb => f.2 b hb id⟩
  refine k s' h' e (S.made e ?_)
  rw [List.nil_append] at o'
  exact o'.mono fun b hb => by
    rcases hb with hb | hb
    · exact hb.elim
    · omega
end
section
variable {α β : Type} {K : Kd α} {Fk : Kd β} {off : Nat} {g : α → β} {p : α → β → α} {F0 : Nat → Prop} {h0 h : H} {Ps : List HP}
/-- A field of an element, its place known. -/
theorem ownP.ldF (f : Fld K Fk off g p) (S : SG F0 h0 h Ps) (i : Nat) {s : Sl} {xs : List α} (hi : Ps[i]? = some (ownP K s xs)) {j : Nat} {x : α} (hj : xs[j]? = some x) {n : Nat} (hn : n = K.n) {a : Addr} (ha : ixA n s (j : Int) = some a) : ld Fk (a.add off) h = some (g x) := by
  subst hn
  obtain ⟨hj', rfl⟩ := List.getElem?_eq_some_iff.1 hj
  obtain ⟨F1, ⟨o, _⟩, _⟩ := S.at i hi
  obtain ⟨a', h1, h2⟩ := o.get f hj'
  rw [ha] at h1; cases h1; exact h2
theorem ownP.stF (f : Fld K Fk off g p) (S : SG F0 h0 h Ps) (i : Nat) {s : Sl} {xs : List α} (hi : Ps[i]? = some (ownP K s xs)) {j : Nat} {x : α} (hj : xs[j]? = some x) {n : Nat} (hn : n = K.n) {a : Addr} (ha : ixA n s (j : Int) = some a) (v : β) :
    ∃ h', st Fk (a.add off) v h = some h' ∧ SG F0 h0 h' (Ps.set i (ownP K s (xs.set j (p x v)))) := by
  subst hn
  obtain ⟨hj', rfl⟩ := List.getElem?_eq_some_iff.1 hj
  obtain ⟨F1, ⟨o, l⟩, back⟩ := S.at i hi
  obtain ⟨a', h', b, h1, h2, o', y, hF⟩ := o.set f hj' v
  rw [ha] at h1; cases h1
  exact ⟨h', h2, back _ h' F1 ⟨o', fun b hb => by rw [y.1]; exact l b hb⟩ ⟨by rw [y.1]; exact Nat.le_refl _, fun k hk hn => y.2 k fun e => hn (e ▸ hF), fun _ h => .inl h⟩⟩
theorem ownP.stF2 (f : Fld K Fk off g p) (S : SG F0 h0 h Ps) (i : Nat) {s : Sl} {xs : List α} {j : Nat} {x : α} (hi : Ps[i]? = some (ownP K s (xs.set j x))) (hj : j < xs.length) {n : Nat} (hn : n = K.n) {a : Addr} (ha : ixA n s (j : Int) = some a) (v : β) :
    ∃ h', st Fk (a.add off) v h = some h' ∧ SG F0 h0 h' (Ps.set i (ownP K s (xs.set j (p x v)))) := by
  obtain ⟨h', h1, h2⟩ := ownP.stF f S i hi (List.getElem?_set_self hj) hn ha v
  rw [List.set_set] at h2
  exact ⟨h', h1, h2⟩
theorem ownP.ldW (S : SG F0 h0 h Ps) (i : Nat) {s : Sl} {xs : List α} (hi : Ps[i]? = some (ownP K s xs)) {j : Nat} {x : α} (hj : xs[j]? = some x) {n : Nat} (hn : n = K.n) {a : Addr} (ha : ixA n s (j : Int) = some a) : ld K a h = some x := by
  have := ownP.ldF (Fld.whole K) S i hi hj hn ha
  simpa [Addr.add] using this
theorem ownP.stW (S : SG F0 h0 h Ps) (i : Nat) {s : Sl} {xs : List α} (hi : Ps[i]? = some (ownP K s xs)) {j : Nat} {x : α} (hj : xs[j]? = some x) {n : Nat} (hn : n = K.n) {a : Addr} (ha : ixA n s (j : Int) = some a) (v : α) :
    ∃ h', st K a v h = some h' ∧ SG F0 h0 h' (Ps.set i (ownP K s (xs.set j v))) := by
  obtain ⟨h', h1, h2⟩ := ownP.stF (Fld.whole K) S i hi hj hn ha v
  exact ⟨h', by simpa [Addr.add] using h1, h2⟩
theorem ownP.ix (S : SG F0 h0 h Ps) (i : Nat) {s : Sl} {xs : List α} (hi : Ps[i]? = some (ownP K s xs)) {j : Nat} (hj : j < xs.length) {n : Nat} (hn : n = K.n) : ∃ a, ixA n s (j : Int) = some a := by
  obtain ⟨a, h1, _⟩ := ownP.get S i hi hj hn
  exact ⟨a, h1⟩
end
theorem zipWith_set {α β γ : Type _} (f : α → β → γ) : ∀ (l : List α) (m : List β) (i : Nat) (a : α) (b : β), (List.zipWith f l m).set i (f a b) = List.zipWith f (l.set i a) (m.set i b)
  | [], m, i, a, b => by simp
  | x :: l, [], i, a, b => by simp
  | x :: l, y :: m, 0, a, b => by simp
  | x :: l, y :: m, i + 1, a, b => by simp [zipWith_set f l m i a b]
theorem set_same {α : Type _} {l : List α} {i : Nat} {a : α} (h : l[i]? = some a) : l.set i a = l := by
  apply List.ext_getElem?
  intro j
  by_cases e : i = j
  · subst e
    have : i < l.length := (List.getElem?_eq_some_iff.1 h).1
    rw [List.getElem?_set_self this, h]
  · rw [List.getElem?_set_ne e]
theorem emps {F0 : Nat → Prop} {h0 h : H} {Rs : List HP} : ∀ (n : Nat), SG F0 h0 h Rs → SG F0 h0 h (List.replicate n HP.emp ++ Rs)
  | 0, S => S
  | n + 1, S => (emps n S).toemp
def HP.bot : HP where
  p _ _ := False
  st := fun x _ _ => x
  lt := fun x _ _ => x.elim
theorem SG.rot {F0 : Nat → Prop} {h0 h : H} {Ps : List HP} {P : HP} (S : SG F0 h0 h (P :: Ps)) : SG F0 h0 h (Ps ++ [P]) := S.perm (List.perm_append_comm (l₁ := [P]))
theorem SG.unrot {F0 : Nat → Prop} {h0 h : H} {Ps : List HP} {P : HP} (S : SG F0 h0 h (Ps ++ [P])) : SG F0 h0 h (P :: Ps) := S.perm (List.perm_append_comm (l₂ := [P]))
/-- copy(d, s), the target the longer. -/
theorem cpy_pre {α : Type} {K : Kd α} {h : H} {F : Nat → Prop} {d s : Sl} {xs ys : List α} (o : Own K h F d xs) (R : Rds K h s ys) (hl : ys.length ≤ xs.length) :
    ∃ h', cpy K.n d s h = some h' ∧ Own K h' F d (ys ++ xs.drop ys.length) ∧ Fr F h h' ∧ h'.size = h.size := by
  have h1 := o.len
  have h2 := R.len
  unfold cpy
  have hm : min s.len d.len = ys.length := by omega
  rw [hm, R.rdSl (Nat.le_refl _), Option.bind_some, List.take_length]
  obtain ⟨_, ⟨hc0, rfl⟩ | ⟨b, pre, post, rest, ha, hF, hc, A⟩⟩ := o
  · have e2 := List.length_eq_zero_iff.1 (by simpa using hl : ys.length = 0)
    subst e2
    refine ⟨h, ?_, ⟨by simpa using h1, .inl ⟨hc0, rfl⟩⟩, Fr.refl _ _, rfl⟩
    unfold wrSl
    cases d.a <;> rfl
  · have hll := encs_len K (pre ++ (xs ++ (post ++ rest)))
    have hly := encs_len K ys
    have e1 : (pre ++ (xs ++ (post ++ rest))).length * K.n = pre.length * K.n + xs.length * K.n + (post ++ rest).length * K.n := by simp only [List.length_append, Nat.add_mul]; omega
    have hle : ys.length * K.n ≤ xs.length * K.n := Nat.mul_le_mul_right _ hl
    obtain ⟨h', hw, B, O⟩ := Blk.wr (o := pre.length * K.n) (vs := encs K ys) A (by rw [hll, hly, e1]; omega) (encs_one K ys)
    refine ⟨h', by unfold wrSl; rw [ha]; simpa using hw, ⟨by simp; omega, .inr ⟨b, pre, post, rest, ha, hF, by simp; omega, ?_⟩⟩, Fr.only O hF, O.1⟩
    have e2 : encs K (pre ++ (xs ++ (post ++ rest))) = encs K pre ++ encs K xs ++ encs K (post ++ rest) := by simp only [encs_append, List.append_assoc]
    have e3 : pre.length * K.n = (encs K pre).length + 0 := by rw [encs_len]; rfl
    rw [e2, e3, splice_mid _ _ _ _ _ (by rw [hly, encs_len]; omega)] at B
    have e4 : splice (encs K xs) 0 (encs K ys) = encs K ys ++ encs K (xs.drop ys.length) := by
      unfold splice
      rw [List.take_zero, List.nil_append, hly, Nat.zero_add]
      congr 1
      conv => lhs; rw [← List.take_append_drop ys.length xs, encs_append]
      have e7 : ys.length * K.n = (encs K (xs.take ys.length)).length := by rw [encs_len, List.length_take, Nat.min_eq_left hl]
      rw [e7, List.drop_left]
    rw [e4] at B
    unfold Arr
    have e5 : encs K (pre ++ (ys ++ xs.drop ys.length ++ (post ++ rest))) = encs K pre ++ (encs K ys ++ encs K (xs.drop ys.length)) ++ encs K (post ++ rest) := by simp only [encs_append, List.append_assoc]
    rw [e5]; exact B
theorem ownP.cpy {α : Type} {K : Kd α} {F0 : Nat → Prop} {h0 h : H} {Ps : List HP} (S : SG F0 h0 h Ps) (i : Nat) {d s : Sl} {xs ys : List α} (hi : Ps[i]? = some (ownP K d xs)) (R : Rds K h s ys) (hl : ys.length ≤ xs.length) {n : Nat} (hn : n = K.n) :
    ∃ h', Tr.cpy n d s h = some h' ∧ SG F0 h0 h' (Ps.set i (ownP K d (ys ++ xs.drop ys.length))) := by
  subst hn
  obtain ⟨F1, ⟨o, l⟩, back⟩ := S.at i hi
  obtain ⟨h', h1, o', f, z⟩ := cpy_pre o R hl
  exact ⟨h', h1, back _ h' F1 ⟨o', fun b hb => by rw [z]; exact l b hb⟩ ⟨f.1, f.2, fun _ h => .inl h⟩⟩
/-- s[:n], within the capacity, by the numbers alone. -/
theorem slx_num {w : Nat} {s : Sl} {n : Nat} (hn : n ≤ s.cap) : slx w s none (some (n : Int)) none = some ⟨s.a, n, s.cap⟩ := by
  have hb : bndI (n : Int) s.cap = some n := by unfold bndI; rw [if_pos (by omega)]; simp
  unfold slx
  simp only [Option.bind_some, hb, Option.map_some, Nat.sub_zero, Nat.zero_mul]
  congr 1
  split
  · rfl
  · cases hs : s.a with
    | none => simp
    | some a => simp [Addr.add]
theorem within_spec {h : H} {a n r : Int} (hn : 0 < n) (hn2 : n < 4611686018427387904) (hr : remI a n = some r) : 0 ≤ (if r < 0 then IntKind.i64.wrap (r + n) else r) ∧ (if r < 0 then IntKind.i64.wrap (r + n) else r) < n := by
  unfold remI at hr
  rw [if_neg (by omega)] at hr
  simp only [Option.some.injEq] at hr
  have h1 := Int.tmod_lt_of_pos a hn
  have h2 : -n < a.tmod n := by
    have := Int.tmod_lt_of_pos (-a) hn
    rw [Int.neg_tmod] at this
    omega
  rw [hr] at h1 h2
  split
  · rw [wrap64_id (by omega) (by omega)]; omega
  · omega
/-- Ways that meet: what holds there. -/
theorem jn_q {α : Type} {m : (α → H → Prop) → Prop} {Q : α → H → Prop} (P : α → H → Prop) (hm : ∀ K : α → H → Prop, (∀ a h', P a h' → K a h') → m K) (k : ∀ a h', P a h' → Q a h') : jn m Q := hm Q k
end Go.Proofs.Ytgmihbchcmjmdaa
