/- Parts of the heap that stay apart: each part with the blocks it holds; a step on one part leaves the others. -/
import Derived.Test.YtgmihbchcmjmdaaHeap2
namespace Go.Proofs.Ytgmihbchcmjmdaa
open Go Go.Tr
set_option linter.unusedVariables false

/-- From F in h to F' in h': other blocks as they were, new ones behind. -/
structure Frm (F F' : Nat → Prop) (h h' : H) : Prop where
  size : h.size ≤ h'.size
  keep : ∀ b, b < h.size → ¬ F b → h'[b]? = h[b]?
  new : ∀ b, F' b → F b ∨ h.size ≤ b
theorem Frm.refl (F : Nat → Prop) (h : H) : Frm F F h h := ⟨Nat.le_refl _, fun _ _ _ => rfl, fun _ h => .inl h⟩
theorem Frm.trans {F G J : Nat → Prop} {a b c : H} (x : Frm F G a b) (y : Frm G J b c) : Frm F J a c :=
  ⟨Nat.le_trans x.size y.size, fun i hi hn => by
    rw [y.keep i (Nat.lt_of_lt_of_le hi x.size) (fun hG => by
      rcases x.new i hG with h | h
      · exact hn h
      · omega)]
    exact x.keep i hi hn,
   fun i hJ => by
    rcases y.new i hJ with h | h
    · exact x.new i h
    · exact .inr (Nat.le_trans x.size h)⟩
theorem Frm.ext {F : Nat → Prop} {a b : H} (e : Ext a b) : Frm F F a b := ⟨e.1, fun i hi _ => e.2 i hi, fun _ h => .inl h⟩
theorem Frm.fr {F F' : Nat → Prop} {a b : H} (x : Frm F F' a b) : Fr F a b := ⟨x.size, x.keep⟩

structure HP where
  p : H → (Nat → Prop) → Prop
  st : ∀ {h h' : H} {F : Nat → Prop}, p h F → h.size ≤ h'.size → (∀ b, F b → h'[b]? = h[b]?) → p h' F
  lt : ∀ {h : H} {F : Nat → Prop}, p h F → ∀ b, F b → b < h.size
def SepL : List HP → H → (Nat → Prop) → Prop
  | [], _, F => ∀ b, ¬ F b
  | P :: Ps, h, F => ∃ F1 F2, P.p h F1 ∧ SepL Ps h F2 ∧ (∀ b, F1 b → ¬ F2 b) ∧ (∀ b, F b ↔ F1 b ∨ F2 b)
theorem SepL.st : ∀ {Ps : List HP} {h h' : H} {F : Nat → Prop}, SepL Ps h F → h.size ≤ h'.size → (∀ b, F b → h'[b]? = h[b]?) → SepL Ps h' F
  | [], _, _, _, x, _, _ => x
  | P :: Ps, h, h', F, ⟨F1, F2, a, b, c, d⟩, hs, e => ⟨F1, F2, P.st a hs fun b hb => e b ((d b).2 (.inl hb)), SepL.st b hs fun b hb => e b ((d b).2 (.inr hb)), c, d⟩
theorem SepL.lt : ∀ {Ps : List HP} {h : H} {F : Nat → Prop}, SepL Ps h F → ∀ b, F b → b < h.size
  | [], _, _, x, b, hb => absurd hb (x b)
  | P :: Ps, h, F, ⟨F1, F2, a, r, c, d⟩, b, hb => by
    rcases (d b).1 hb with h1 | h1
    · exact P.lt a b h1
    · exact SepL.lt r b h1
theorem SepL.at : ∀ {Ps : List HP} {h : H} {F : Nat → Prop} (i : Nat) {P : HP}, SepL Ps h F → Ps[i]? = some P →
    ∃ F1, P.p h F1 ∧ (∀ b, F1 b → F b) ∧ ∀ (P' : HP) (h' : H) (F1' : Nat → Prop), P'.p h' F1' → Frm F1 F1' h h' → ∃ F', SepL (Ps.set i P') h' F' ∧ Frm F F' h h'
  | P :: Ps, h, F, 0, Q, ⟨F1, F2, a, r, c, d⟩, e => by
    obtain rfl : P = Q := by simpa using e
    refine ⟨F1, a, fun b hb => (d b).2 (.inl hb), fun P' h' F1' hp f => ⟨fun b => F1' b ∨ F2 b, ⟨F1', F2, hp, r.st f.size fun b hb => f.keep b (r.lt b hb) fun h1 => c b h1 hb, fun b h1 h2 => ?_, fun b => Iff.rfl⟩, f.size, fun b hb hn => f.keep b hb fun h1 => hn ((d b).2 (.inl h1)), fun b hb => ?_⟩⟩
    · rcases f.new b h1 with h | h
      · exact c b h h2
      · have := r.lt b h2; omega
    · rcases hb with hb | hb
      · rcases f.new b hb with h | h
        · exact .inl ((d b).2 (.inl h))
        · exact .inr h
      · exact .inl ((d b).2 (.inr hb))
  | P :: Ps, h, F, i + 1, Q, ⟨F1, F2, a, r, c, d⟩, e => by
    obtain ⟨G, g, sub, back⟩ := SepL.at i (P := Q) r (by simpa using e)
    refine ⟨G, g, fun b hb => (d b).2 (.inr (sub b hb)), fun P' h' G' hp f => ?_⟩
    obtain ⟨F2', r', f'⟩ := back P' h' G' hp f
    refine ⟨fun b => F1 b ∨ F2' b, ⟨F1, F2', P.st a f'.size fun b hb => f'.keep b (P.lt a b hb) fun h2 => c b hb h2, r', fun b h1 h2 => ?_, fun b => Iff.rfl⟩, f'.size, fun b hb hn => f'.keep b hb fun h1 => hn ((d b).2 (.inr h1)), fun b hb => ?_⟩
    · rcases f'.new b h2 with h | h
      · exact c b h1 h
      · have := P.lt a b h1; omega
    · rcases hb with hb | hb
      · exact .inl ((d b).2 (.inl hb))
      · rcases f'.new b hb with h | h
        · exact .inl ((d b).2 (.inr h))
        · exact .inr h

/-- Parts apart, that came from F0's blocks in h0 or were made since; what else h0 held as it was. -/
def SG (F0 : Nat → Prop) (h0 h : H) (Ps : List HP) : Prop := ∃ F, SepL Ps h F ∧ Frm F0 F h0 h
abbrev SS (h0 h : H) (Ps : List HP) : Prop := SG (fun _ => False) h0 h Ps
theorem SS.nil {h0 h : H} (e : Ext h0 h) : SS h0 h [] := ⟨fun _ => False, fun _ h => h, Frm.ext e⟩
theorem SS.e {h0 h : H} {Ps : List HP} (S : SS h0 h Ps) : Ext h0 h := by
  obtain ⟨F, _, f⟩ := S
  exact ⟨f.size, fun b hb => f.keep b hb id⟩
section
variable {F0 : Nat → Prop} {h0 h h' : H} {Ps : List HP}
theorem SG.at (S : SG F0 h0 h Ps) (i : Nat) {P : HP} (hi : Ps[i]? = some P) :
    ∃ F1, P.p h F1 ∧ ∀ (P' : HP) (h' : H) (F1' : Nat → Prop), P'.p h' F1' → Frm F1 F1' h h' → SG F0 h0 h' (Ps.set i P') := by
  obtain ⟨F, s, f⟩ := S
  obtain ⟨F1, a, sub, back⟩ := s.at i hi
  refine ⟨F1, a, fun P' h' F1' hp g => ?_⟩
  obtain ⟨F', s', f'⟩ := back P' h' F1' hp g
  exact ⟨F', s', f.trans f'⟩
theorem SG.ext (S : SG F0 h0 h Ps) (x : Ext h h') : SG F0 h0 h' Ps := by
  obtain ⟨F, s, f⟩ := S
  exact ⟨F, s.st x.1 fun b hb => x.2 b (s.lt b hb), f.trans (Frm.ext x)⟩
/-- A part more, of blocks made just now. -/
theorem SG.add (S : SG F0 h0 h Ps) {P : HP} {F1 : Nat → Prop} (hp : P.p h' F1) (x : Ext h h') (hn : ∀ b, F1 b → h.size ≤ b) : SG F0 h0 h' (P :: Ps) := by
  obtain ⟨F, s, f⟩ := S
  refine ⟨fun b => F1 b ∨ F b, ⟨F1, F, hp, s.st x.1 fun b hb => x.2 b (s.lt b hb), fun b h1 h2 => ?_, fun b => Iff.rfl⟩, f.trans ⟨x.1, fun b hb _ => x.2 b hb, fun b hb => ?_⟩⟩
  · have := hn b h1; have := s.lt b h2; omega
  · rcases hb with hb | hb
    · exact .inr (hn b hb)
    · exact .inl hb
/-- A part less. -/
theorem SG.tail {P : HP} (S : SG F0 h0 h (P :: Ps)) : SG F0 h0 h Ps := by
  obtain ⟨F, ⟨F1, F2, a, r, c, d⟩, f⟩ := S
  exact ⟨F2, r, f.size, f.keep, fun b hb => f.new b ((d b).2 (.inr hb))⟩
end
/-- Several parts as one. -/
def HP.all (Ps : List HP) : HP where
  p h F := SepL Ps h F
  st := fun s hs e => s.st hs e
  lt := fun s => s.lt
/-- Into such a part, and back. -/
theorem SG.into {F0 : Nat → Prop} {h0 h : H} {Ps : List HP} (S : SG F0 h0 h Ps) (i : Nat) {Qs : List HP} (hi : Ps[i]? = some (HP.all Qs)) :
    ∃ F, SG F h h Qs ∧ ∀ h' Qs', SG F h h' Qs' → SG F0 h0 h' (Ps.set i (HP.all Qs')) := by
  obtain ⟨F, s, back⟩ := S.at i hi
  exact ⟨F, ⟨F, s, Frm.refl _ _⟩, fun h' Qs' ⟨F', s', f'⟩ => back _ h' F' s' f'⟩

/-- A variable in a cell of its own. -/
def varP {α : Type} (K : Kd α) (b : Nat) (x : α) : HP where
  p h F := Var K h b x ∧ F = fun k => k = b
  st := fun ⟨v, e⟩ _ k => ⟨v.same (k b (by rw [e])), e⟩
  lt := fun ⟨v, e⟩ k hk => by rw [e] at hk; subst hk; exact Blk.lt v
theorem varP.ld {α β : Type} {K : Kd α} {Fk : Kd β} {off : Nat} {get : α → β} {put : α → β → α} {F0 : Nat → Prop} {h0 h : H} {Ps : List HP} (S : SG F0 h0 h Ps) (f : Fld K Fk off get put) (i : Nat) {b : Nat} {x : α} (hi : Ps[i]? = some (varP K b x)) : Tr.ld Fk ⟨b, off, none⟩ h = some (get x) := by
  obtain ⟨F1, ⟨v, _⟩, _⟩ := S.at i hi
  exact v.ld f
theorem varP.st {α β : Type} {K : Kd α} {Fk : Kd β} {off : Nat} {get : α → β} {put : α → β → α} {F0 : Nat → Prop} {h0 h : H} {Ps : List HP} (S : SG F0 h0 h Ps) (f : Fld K Fk off get put) (i : Nat) {b : Nat} {x : α} (hi : Ps[i]? = some (varP K b x)) (v : β) :
    ∃ h', Tr.st Fk ⟨b, off, none⟩ v h = some h' ∧ SG F0 h0 h' (Ps.set i (varP K b (put x v))) ∧ Only b h h' := by
  obtain ⟨F1, ⟨w, rfl⟩, back⟩ := S.at i hi
  obtain ⟨h', s, w', o⟩ := w.st f v
  exact ⟨h', s, back _ h' _ ⟨w', rfl⟩ ⟨by rw [o.1]; exact Nat.le_refl _, fun k hk hn => o.2 k hn, fun _ h => .inl h⟩, o⟩
/-- A variable made, and written. -/
theorem SG.cell {α : Type} {K : Kd α} {t : TypeId} {z x : α} {F0 : Nat → Prop} {h0 h : H} {Ps : List HP} (S : SG F0 h0 h Ps) {Q : Addr → H → Prop} (k : ∀ b h', SG F0 h0 h' (varP K b x :: Ps) → Ext h h' → Q ⟨b, 0, none⟩ h') :
    al t (K.enc z) h fun q h1 => rd (Tr.st K q x h1) fun h2 => Q q h2 := by
  refine al_var fun b h1 eb V1 e1 z1 => ?_
  have S1 : SG F0 h0 h1 (varP K b z :: Ps) := S.add (P := varP K b z) ⟨V1, rfl⟩ e1 fun k hk => by show h.size ≤ k; have : k = b := hk; omega
  obtain ⟨h2, s2, S2, o⟩ := varP.st S1 (Fld.whole K) 0 rfl x
  refine ⟨h2, s2, k b h2 S2 ⟨by rw [o.1]; exact e1.1, fun i hi => by rw [o.2 i (by omega), e1.2 i hi]⟩⟩
theorem SG.var {α : Type} {K : Kd α} {t : TypeId} {x : α} {F0 : Nat → Prop} {h0 h : H} {Ps : List HP} (S : SG F0 h0 h Ps) {Q : Addr → H → Prop} (k : ∀ b h', SG F0 h0 h' (varP K b x :: Ps) → Ext h h' → Q ⟨b, 0, none⟩ h') : al t (K.enc x) h Q :=
  al_var fun b h1 eb V1 e1 z1 => k b h1 (S.add (P := varP K b x) ⟨V1, rfl⟩ e1 fun k hk => by show h.size ≤ k; have : k = b := hk; omega) e1

/-- A slice of slices: G tells whose each block is. -/
structure GOwn {α : Type} (K : Kd α) (h : H) (G : Nat → Option (Option Nat)) (s : Sl) (ss rs : List Sl) (xss : List (List α)) : Prop where
  outer : Own kL h (fun b => G b = some none) s ss
  len : ss.length = xss.length
  len' : rs.length = xss.length
  rows : ∀ (i : Nat) (c : Sl) (xs : List α), rs[i]? = some c → xss[i]? = some xs → Own K h (fun b => G b = some (some i)) c xs
  lt : ∀ b, G b ≠ none → b < h.size
theorem GOwn.st {α : Type} {K : Kd α} {h h' : H} {G : Nat → Option (Option Nat)} {s : Sl} {ss rs : List Sl} {xss : List (List α)} (g : GOwn K h G s ss rs xss) (hs : h.size ≤ h'.size) (k : ∀ b, G b ≠ none → h'[b]? = h[b]?) : GOwn K h' G s ss rs xss :=
  ⟨g.outer.same fun b hb _ => k b (by rw [hb]; simp), g.len, g.len', fun i c xs h1 h2 => (g.rows i c xs h1 h2).same fun b hb _ => k b (by rw [hb]; simp), fun b hb => Nat.lt_of_lt_of_le (g.lt b hb) hs⟩
def gridP {α : Type} (K : Kd α) (s : Sl) (xss : List (List α)) : HP where
  p h F := ∃ G ss, GOwn K h G s ss ss xss ∧ F = fun b => G b ≠ none
  st := fun ⟨G, ss, g, e⟩ hs k => ⟨G, ss, g.st hs fun b hb => k b (by rw [e]; exact hb), e⟩
  lt := fun ⟨G, ss, g, e⟩ b hb => g.lt b (by rw [e] at hb; exact hb)
/-- The same, row j told anew, but not yet written into the outer slice. -/
def gridM {α : Type} (K : Kd α) (s : Sl) (j : Nat) (c : Sl) (xss : List (List α)) : HP where
  p h F := ∃ G ss, GOwn K h G s ss (ss.set j c) xss ∧ F = fun b => G b ≠ none
  st := fun ⟨G, ss, g, e⟩ hs k => ⟨G, ss, g.st hs fun b hb => k b (by rw [e]; exact hb), e⟩
  lt := fun ⟨G, ss, g, e⟩ b hb => g.lt b (by rw [e] at hb; exact hb)
theorem gridP.len {α : Type} {K : Kd α} {F0 : Nat → Prop} {h0 h : H} {Ps : List HP} (S : SG F0 h0 h Ps) (i : Nat) {s : Sl} {xss : List (List α)} (hi : Ps[i]? = some (gridP K s xss)) : s.len = xss.length := by
  obtain ⟨F1, ⟨G, ss, g, _⟩, _⟩ := S.at i hi
  rw [g.outer.len, g.len]
theorem gridP.get {α : Type} {K : Kd α} {F0 : Nat → Prop} {h0 h : H} {Ps : List HP} (S : SG F0 h0 h Ps) (i : Nat) {s : Sl} {xss : List (List α)} (hi : Ps[i]? = some (gridP K s xss)) {j : Nat} (hj : j < xss.length) :
    ∃ q c, ixA 1 s (j : Int) = some q ∧ ld kL q h = some c ∧ ∃ F, Own K h F c xss[j] := by
  obtain ⟨F1, ⟨G, ss, g, _⟩, _⟩ := S.at i hi
  have hj' : j < ss.length := by rw [g.len]; exact hj
  obtain ⟨a, h1, h2⟩ := g.outer.get0 hj'
  exact ⟨a, ss[j], h1, h2, _, g.rows j _ _ (List.getElem?_eq_getElem hj') (List.getElem?_eq_getElem hj)⟩
/-- One more at a row's end. -/
theorem gridP.app {α : Type} {K : Kd α} (hK : 0 < K.n) {F0 : Nat → Prop} {h0 h : H} {Ps : List HP} (S : SG F0 h0 h Ps) (i : Nat) {s : Sl} {xss : List (List α)} (hi : Ps[i]? = some (gridP K s xss)) {j : Nat} (hj : j < xss.length) (x : α) {q : Addr} {c : Sl}
    (hq : ixA 1 s (j : Int) = some q) (hc : ld kL q h = some c) {bytes : Nat} {t : TypeId} {z : α} (hb : (2 * (xss[j].length + 1) + 192) * bytes ≤ 281474976710656) (hb2 : xss[j].length + 1 < 4611686018427387904) {Q : Sl → H → Prop}
    (k : ∀ c' h1, SG F0 h0 h1 (Ps.set i (gridM K s j c' (xss.set j (xss[j] ++ [x])))) → Q c' h1) :
    bs t 1 (K.enc x) h fun x1 h1 => ap K.n bytes t (K.enc z) c x1 h1 Q := by
  obtain ⟨F1, ⟨G, ss, g, rfl⟩, back⟩ := S.at i hi
  have hj' : j < ss.length := by rw [g.len]; exact hj
  obtain ⟨a, h1, h2⟩ := g.outer.get0 hj'
  obtain rfl : a = q := by
    have h1' : ixA 1 s (j : Int) = some a := h1
    rw [hq] at h1'; exact (Option.some.inj h1').symm
  obtain rfl : c = ss[j] := by rw [hc] at h2; exact Option.some.inj h2
  have row := g.rows j _ _ (List.getElem?_eq_getElem hj') (List.getElem?_eq_getElem hj)
  refine bs_own (K := K) [x] (by simp [encs]) rfl fun x1 h34 o1 hl1 e1 z1 => ?_
  refine ap_own hK (row.ext e1) (ys := [x]) ?_ hl1 hb hb2 fun c' h35 o2 f2 => ?_
  · have := o1.rdAll
    exact this
  refine k c' h35 (back _ h35 (fun b => (if b = h34.size ∧ h34.size < h35.size then some (some j) else G b) ≠ none) ⟨fun b => if b = h34.size ∧ h34.size < h35.size then some (some j) else G b, ss, ⟨?_, by rw [g.len]; simp, by simp [g.len], ?_, ?_⟩, rfl⟩ ⟨Nat.le_trans e1.1 f2.1, ?_, ?_⟩)
  · have o : Own kL h35 (fun b => G b = some none) s ss := g.outer.same fun b hb hlt => by
      rw [f2.2 b (Nat.lt_of_lt_of_le hlt e1.1) (fun h => by have h' : G b = some (some j) := h; rw [hb] at h'; cases h'), e1.2 b hlt]
    refine o.mono fun b hb => ?_
    have := g.lt b (by rw [hb]; simp)
    rw [if_neg (fun e => by omega)]; exact hb
  · intro i' c1 xs hc1 hxs
    rcases Nat.decEq i' j with hne | rfl
    · rw [List.getElem?_set_ne (Ne.symm hne)] at hc1 hxs
      have o := g.rows i' c1 xs hc1 hxs
      have o' : Own K h35 (fun b => G b = some (some i')) c1 xs := o.same fun b hb hlt => by
        rw [f2.2 b (Nat.lt_of_lt_of_le hlt e1.1) (fun h => by have h' : G b = some (some j) := h; rw [hb] at h'; exact hne (by simpa using h')), e1.2 b hlt]
      refine o'.mono fun b hb => ?_
      have := g.lt b (by rw [hb]; simp)
      rw [if_neg (fun e => by omega)]; exact hb
    · rw [List.getElem?_set_self hj'] at hc1
      rw [List.getElem?_set_self hj] at hxs
      cases hc1; cases hxs
      refine o2.monoL fun b hb hlt => ?_
      rcases hb with hb | hb
      · by_cases e : b = h34.size ∧ h34.size < h35.size
        · rw [if_pos e]
        · rw [if_neg e]; exact hb
      · rw [if_pos ⟨hb, by omega⟩]
  · intro b hb
    by_cases e : b = h34.size ∧ h34.size < h35.size
    · omega
    · rw [if_neg e] at hb
      have := g.lt b hb
      have := e1.1
      have := f2.1
      omega
  · intro b hlt hn
    rw [f2.2 b (Nat.lt_of_lt_of_le hlt e1.1) (fun h => hn (by show G b ≠ none; rw [h]; simp)), e1.2 b hlt]
  · intro b hb
    by_cases e : b = h34.size ∧ h34.size < h35.size
    · right; rw [e.1]; exact e1.1
    · left; show G b ≠ none; have hb' : (if b = h34.size ∧ h34.size < h35.size then some (some j) else G b) ≠ none := hb; rw [if_neg e] at hb'; exact hb'
theorem gridM.st {α : Type} {K : Kd α} {F0 : Nat → Prop} {h0 h : H} {Ps : List HP} (S : SG F0 h0 h Ps) (i : Nat) {s c : Sl} {j : Nat} {xss : List (List α)} (hi : Ps[i]? = some (gridM K s j c xss)) (hj : j < xss.length) :
    ∃ q h', ixA 1 s (j : Int) = some q ∧ st kL q c h = some h' ∧ SG F0 h0 h' (Ps.set i (gridP K s xss)) := by
  obtain ⟨F1, ⟨G, ss, g, rfl⟩, back⟩ := S.at i hi
  have hj' : j < ss.length := by rw [g.len]; exact hj
  obtain ⟨a, h', b, h1, h2, h3, h4, h5⟩ := g.outer.set0 hj' c
  refine ⟨a, h', h1, h2, back _ h' (fun b => G b ≠ none) ⟨G, ss.set j c, ⟨h3, by simp [g.len], g.len', fun i' c1 xs hc1 hxs => (g.rows i' c1 xs hc1 hxs).same fun k hk _ => h4.2 k (fun e => ?_), fun k hk => by rw [h4.1]; exact g.lt k hk⟩, rfl⟩ ⟨by rw [h4.1]; exact Nat.le_refl _, fun k hk hn => h4.2 k (fun e => hn (by subst e; show G k ≠ none; rw [h5]; simp)), fun _ h => .inl h⟩⟩
  subst e; rw [h5] at hk; cases hk
/-- So many empty rows, just made. -/
theorem SG.grid {α : Type} (K : Kd α) {t : TypeId} {bytes : Nat} {F0 : Nat → Prop} {h0 h : H} {Ps : List HP} (S : SG F0 h0 h Ps) {n : Nat} (hb : bytes * n ≤ 281474976710656) (hb2 : n < 4611686018427387904) {Q : Sl → H → Prop}
    (k : ∀ s h', SG F0 h0 h' (gridP K s (List.replicate n []) :: Ps) → Ext h h' → Q s h') : mk kL.n bytes t (kL.enc Sl.nil) (n : Int) (n : Int) h Q := by
  refine mk_own (by decide) hb hb2 fun s h' es o A e z => k s h' (S.add (F1 := fun b => (if b = h.size then some none else (none : Option (Option Nat))) ≠ none) ⟨fun b => if b = h.size then some none else none, List.replicate n Sl.nil, ⟨o.mono fun b hb => by rw [if_pos hb], by simp, by simp, fun i c xs h1 h2 => ?_, fun b hb => ?_⟩, rfl⟩ e fun b hb => ?_) e
  · rw [List.getElem?_replicate] at h1 h2
    split at h1
    · rw [if_pos (by assumption)] at h2
      cases h1; cases h2; exact Own.nil _ _ _
    · cases h1
  · by_cases e : b = h.size
    · omega
    · rw [if_neg e] at hb; exact absurd rfl hb
  · by_cases e : b = h.size
    · omega
    · have hb' : (if b = h.size then some none else (none : Option (Option Nat))) ≠ none := hb
      rw [if_neg e] at hb'; exact absurd rfl hb'
end Go.Proofs.Ytgmihbchcmjmdaa
