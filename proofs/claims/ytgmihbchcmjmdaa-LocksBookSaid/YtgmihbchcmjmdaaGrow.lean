/- Rows that are told, written over and grown: each row and what it grew to, in one array still, or apart. -/
import Derived.Test.YtgmihbchcmjmdaaLoop
namespace Go.Proofs.Ytgmihbchcmjmdaa
open Go Go.Tr
set_option linter.unusedVariables false
theorem Own.front {α : Type} {K : Kd α} {h : H} {F : Nat → Prop} {s : Sl} {xs ys : List α} (o : Own K h F s (xs ++ ys)) : Own K h F ⟨s.a, xs.length, s.cap⟩ xs := by
  obtain ⟨h1, ⟨hc, he⟩ | ⟨b, pre, post, rest, ha, hF, hc, A⟩⟩ := o
  · exact ⟨rfl, .inl ⟨hc, (List.append_eq_nil_iff.1 he).1⟩⟩
  · refine ⟨rfl, .inr ⟨b, pre, ys ++ post, rest, ha, hF, by simp at hc ⊢; omega, ?_⟩⟩
    simpa [List.append_assoc] using A
theorem ap_shape {size bytes : Nat} {elem : TypeId} {z : List Value} {s x : Sl} {h : H} {Q0 Q : Sl → H → Prop} (hF : ap size bytes elem z s x h Q0)
    (k : ∀ s' h', Q0 s' h' → (s' = ⟨s.a, s.len + x.len, s.cap⟩ ∨ (s'.a = some ⟨h.size, 0, none⟩ ∧ Ext h h')) → Q s' h') : ap size bytes elem z s x h Q := by
  obtain ⟨new, hn, hF⟩ := hF
  refine ⟨new, hn, ?_⟩
  split at hF
  · rename_i hle
    rw [if_pos hle]
    obtain ⟨h', hw, q⟩ := hF
    exact ⟨h', hw, k _ _ q (.inl rfl)⟩
  · rename_i hle
    rw [if_neg hle]
    obtain ⟨hb, old, ho, q⟩ := hF
    exact ⟨hb, old, ho, fun cap h1 h2 => k _ _ (q cap h1 h2) (.inr ⟨rfl, Ext.push _ _⟩)⟩
section
variable {α : Type} {K : Kd α}
def rowP (K : Kd α) (ss ms : Sl) (xs zs : List α) : HP where
  p h F := (ss = ⟨ms.a, xs.length, ms.cap⟩ ∧ (∃ ys, zs = xs ++ ys) ∧ (ownP K ms zs).p h F) ∨ SepL [ownP K ss xs, ownP K ms zs] h F
  st := fun x hs k => x.imp (fun ⟨a, b, c⟩ => ⟨a, b, (ownP K ms zs).st c hs k⟩) fun s => s.st hs k
  lt := fun x => x.elim (fun ⟨_, _, c⟩ => (ownP K ms zs).lt c) fun s => s.lt
variable {F0 : Nat → Prop} {h0 h : H} {Ps : List HP} {ss ms : Sl} {xs zs : List α}
theorem rowP.start {F : Nat → Prop} (o : (ownP K ss xs).p h F) : (rowP K ss ss xs xs).p h F := by
  refine .inl ⟨?_, ⟨[], by simp⟩, o⟩
  obtain ⟨⟨h1, _⟩, _⟩ := o
  rw [← h1]
theorem rowP.rds1 (S : SG F0 h0 h Ps) (i : Nat) (hi : Ps[i]? = some (rowP K ss ms xs zs)) : Rds K h ss xs := by
  obtain ⟨F1, p, _⟩ := S.at i hi
  rcases p with ⟨e, ⟨ys, rfl⟩, o, _⟩ | s
  · rw [e]; exact (Own.front o).rds
  · obtain ⟨F2, F3, ⟨o, _⟩, _⟩ := s
    exact o.rds
theorem rowP.rds2 (S : SG F0 h0 h Ps) (i : Nat) (hi : Ps[i]? = some (rowP K ss ms xs zs)) : Rds K h ms zs := by
  obtain ⟨F1, p, _⟩ := S.at i hi
  rcases p with ⟨e, ⟨ys, rfl⟩, o, _⟩ | s
  · exact o.rds
  · obtain ⟨F2, F3, _, ⟨F4, F5, ⟨o, _⟩, _⟩, _⟩ := s
    exact o.rds
/-- One more behind what it grew to. -/
theorem rowP.push (hK : 0 < K.n) (S : SG F0 h0 h Ps) (i : Nat) (hi : Ps[i]? = some (rowP K ss ms xs zs)) {x : Sl} {ys : List α} (R : Rds K h x ys) {bytes : Nat} {t : TypeId} {z : α} (hb : (2 * (zs.length + ys.length) + 192) * bytes ≤ 281474976710656) (hb2 : zs.length + ys.length < 4611686018427387904) {Q : Sl → H → Prop}
    (k : ∀ s' h', SG F0 h0 h' (Ps.set i (rowP K ss s' xs (zs ++ ys))) → Q s' h') : ap K.n bytes t (K.enc z) ms x h Q := by
  obtain ⟨F1, p, back⟩ := S.at i hi
  rcases p with ⟨e, ⟨vs, rfl⟩, o, l⟩ | s
  · refine ap_shape (ap_own hK o R.rdAll R.len hb hb2 (Q := fun s' h' => Own K h' (fun b => F1 b ∨ b = h.size) s' (xs ++ vs ++ ys) ∧ Fr F1 h h') fun _ _ a b => ⟨a, b⟩) ?_
    rintro s' h' ⟨o', f⟩ (rfl | ⟨ha, ex⟩)
    · refine k _ h' (back _ h' F1 (.inl ⟨e, ⟨vs ++ ys, by rw [List.append_assoc]⟩, ?_, fun b hb => Nat.lt_of_lt_of_le (l b hb) f.1⟩) ⟨f.1, f.2, fun _ h => .inl h⟩)
      have hcap := o'.le_cap
      obtain ⟨h1, ⟨hc, he⟩ | ⟨b, pre, post, rest, ha, hF, hc, A⟩⟩ := o'
      · exact ⟨h1, .inl ⟨hc, he⟩⟩
      · obtain ⟨_, ⟨hc0, he0⟩ | ⟨b0, pre0, post0, rest0, ha0, hF0, _, A0⟩⟩ := o
        · have hcap : (xs ++ vs ++ ys).length ≤ ms.cap := hcap
          exact ⟨h1, .inl ⟨hc0, List.length_eq_zero_iff.1 (by omega)⟩⟩
        · refine ⟨h1, .inr ⟨b, pre, post, rest, ha, ?_, hc, A⟩⟩
          have ha : ms.a = some ⟨b, pre.length * K.n, none⟩ := ha
          have : some (⟨b0, pre0.length * K.n, none⟩ : Addr) = some ⟨b, pre.length * K.n, none⟩ := by rw [← ha0, ← ha]
          simp only [Option.some.injEq, Addr.mk.injEq] at this
          rw [← this.1]; exact hF0
    · have e2 : ss = ⟨ms.a, xs.length, ms.cap⟩ := e
      refine k _ h' (back _ h' (fun b => F1 b ∨ (h.size ≤ b ∧ b < h'.size)) (.inr ⟨F1, fun b => h.size ≤ b ∧ b < h'.size, ⟨?_, fun b hb => Nat.lt_of_lt_of_le (l b hb) ex.1⟩, ⟨fun b => h.size ≤ b ∧ b < h'.size, fun _ => False, ⟨?_, fun b hb => hb.2⟩, fun _ h => h, fun _ _ h => h, fun b => by simp⟩, fun b h1 h2 => by have := l b h1; omega, fun b => Iff.rfl⟩) ⟨ex.1, fun b hb _ => ex.2 b hb, fun b hb => ?_⟩)
      · rw [e2]
        exact (Own.front o).same fun b _ hb => ex.2 b hb
      · obtain ⟨h1, ⟨hc, he⟩ | ⟨b, pre, post, rest, ha', hF, hc, A⟩⟩ := o'
        · exact ⟨h1, .inl ⟨hc, he⟩⟩
        · have : some (⟨b, pre.length * K.n, none⟩ : Addr) = some ⟨h.size, 0, none⟩ := by rw [← ha, ← ha']
          simp only [Option.some.injEq, Addr.mk.injEq] at this
          refine ⟨h1, .inr ⟨b, pre, post, rest, ha', ⟨by omega, Blk.lt A⟩, hc, A⟩⟩
      · rcases hb with hb | hb
        · exact .inl hb
        · exact .inr hb.1
  · have S2 : SG F1 h h [ownP K ss xs, ownP K ms zs] := ⟨F1, s, Frm.refl _ _⟩
    refine ownP.app hK S2 1 rfl R hb hb2 fun s' h' S3 => ?_
    obtain ⟨F', s3, f3⟩ := S3
    exact k s' h' (back _ h' F' (.inr s3) f3)
end
/-- A row that was told: as it is now, and what it grew to. -/
structure GR (α : Type) where
  ss : Sl
  ms : Sl
  xs : List α
  zs : List α
section
variable {α : Type} {K : Kd α}
def tellP (K : Kd α) (R : List (GR α)) : HP := HP.all (R.map fun r => ownP K r.ss r.xs)
def bookP (K : Kd α) (R : List (GR α)) : HP := HP.all (R.map fun r => rowP K r.ss r.ms r.xs r.zs)
variable {F0 : Nat → Prop} {h0 h : H} {Ps Rs : List HP} {R : List (GR α)}
theorem SepL.mapI {β : Type _} {f g : β → HP} : ∀ (l : List β) {F : Nat → Prop}, (∀ a ∈ l, ∀ F, (f a).p h F → (g a).p h F) → SepL (l.map f) h F → SepL (l.map g) h F
  | [], _, _, s => s
  | a :: l, F, k, ⟨F1, F2, x, r, c, d⟩ => ⟨F1, F2, k a List.mem_cons_self F1 x, SepL.mapI l (fun b hb => k b (List.mem_cons_of_mem _ hb)) r, c, d⟩
theorem tellP.rds (S : SG F0 h0 h Ps) (i : Nat) (hi : Ps[i]? = some (tellP K R)) {j : Nat} (hj : j < R.length) : Rds K h R[j].ss R[j].xs := by
  obtain ⟨F, s, _⟩ := S.into i hi
  exact ownP.rds s j (by rw [List.getElem?_map, List.getElem?_eq_getElem hj]; rfl)
theorem tellP.set (S : SG F0 h0 h Ps) (i : Nat) (hi : Ps[i]? = some (tellP K R)) {j : Nat} (hj : j < R.length) {k : Nat} (hk : k < R[j].xs.length) (v : α) {n : Nat} (hn : n = K.n) :
    ∃ a h', ixA n R[j].ss (k : Int) = some a ∧ st K a v h = some h' ∧ SG F0 h0 h' (Ps.set i (tellP K (R.set j { R[j] with xs := R[j].xs.set k v }))) := by
  obtain ⟨F, s, back⟩ := S.into i hi
  obtain ⟨a, h', h1, h2, s'⟩ := ownP.set s j (by rw [List.getElem?_map, List.getElem?_eq_getElem hj]; rfl) hk v hn
  refine ⟨a, h', h1, h2, ?_⟩
  have e : (R.set j { R[j] with xs := R[j].xs.set k v }).map (fun r => ownP K r.ss r.xs) = (R.map fun r => ownP K r.ss r.xs).set j (ownP K R[j].ss (R[j].xs.set k v)) := by rw [List.map_set]
  unfold tellP
  rw [e]
  exact back _ _ s'
theorem tellP.nil (S : SG F0 h0 h Rs) : SG F0 h0 h (tellP K [] :: Rs) := SG.fold [] S
theorem tellP.add {s : Sl} {xs : List α} (S : SG F0 h0 h (ownP K s xs :: tellP K R :: Rs)) : SG F0 h0 h (tellP K (R ++ [⟨s, s, xs, xs⟩]) :: Rs) := by
  have S2 := S.swap.flat
  have : SG F0 h0 h (((R ++ [(⟨s, s, xs, xs⟩ : GR α)]).map fun r => ownP K r.ss r.xs) ++ Rs) := by
    rw [List.map_append, List.append_assoc]; exact S2
  exact SG.fold _ this
theorem bookP.start (S : SG F0 h0 h (tellP K R :: Rs)) (hR : ∀ r ∈ R, r.ms = r.ss ∧ r.zs = r.xs) : SG F0 h0 h (bookP K R :: Rs) := by
  refine S.imp 0 rfl (bookP K R) fun F s => SepL.mapI R (fun r hr F p => ?_) s
  rw [(hR r hr).1, (hR r hr).2]
  exact rowP.start p
theorem bookP.rds1 (S : SG F0 h0 h Ps) (i : Nat) (hi : Ps[i]? = some (bookP K R)) {j : Nat} (hj : j < R.length) : Rds K h R[j].ss R[j].xs := by
  obtain ⟨F, s, _⟩ := S.into i hi
  exact rowP.rds1 s j (by rw [List.getElem?_map, List.getElem?_eq_getElem hj]; rfl)
theorem bookP.rds2 (S : SG F0 h0 h Ps) (i : Nat) (hi : Ps[i]? = some (bookP K R)) {j : Nat} (hj : j < R.length) : Rds K h R[j].ms R[j].zs := by
  obtain ⟨F, s, _⟩ := S.into i hi
  exact rowP.rds2 s j (by rw [List.getElem?_map, List.getElem?_eq_getElem hj]; rfl)
theorem bookP.push (hK : 0 < K.n) (S : SG F0 h0 h Ps) (i : Nat) (hi : Ps[i]? = some (bookP K R)) {j : Nat} (hj : j < R.length) (v : α) {bytes : Nat} {t : TypeId} {z : α} (hb : (2 * (R[j].zs.length + 1) + 192) * bytes ≤ 281474976710656) (hb2 : R[j].zs.length + 1 < 4611686018427387904) {Q : Sl → H → Prop}
    (k : ∀ s' h', SG F0 h0 h' (Ps.set i (bookP K (R.set j { R[j] with ms := s', zs := R[j].zs ++ [v] }))) → Q s' h') : bs t 1 (K.enc v) h fun x h' => ap K.n bytes t (K.enc z) R[j].ms x h' Q := by
  refine bs_own (K := K) [v] (by simp [encs]) (by simp) fun x h1 o1 hl1 e1 z1 => ?_
  obtain ⟨F, s, back⟩ := (S.ext e1).into i hi
  refine rowP.push hK s j (by rw [List.getElem?_map, List.getElem?_eq_getElem hj]; rfl) o1.rds (by simpa using hb) (by simpa using hb2) fun s' h' S' => k s' h' ?_
  have e : (R.set j { R[j] with ms := s', zs := R[j].zs ++ [v] }).map (fun r => rowP K r.ss r.ms r.xs r.zs) = (R.map fun r => rowP K r.ss r.ms r.xs r.zs).set j (rowP K R[j].ss s' R[j].xs (R[j].zs ++ [v])) := by rw [List.map_set]
  unfold bookP
  rw [e]
  exact back _ _ S'
end
end Go.Proofs.Ytgmihbchcmjmdaa
