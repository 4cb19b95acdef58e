/- The heap by whole blocks: what is read, what is written, what stays. No program in sight. -/
import Derived.Test.YtgmihbchcmjmdaaStep
namespace Go.Tr
open Go

@[simp] theorem add_mk (b o n : Nat) : (⟨b, o, none⟩ : Addr).add n = ⟨b, o + n, none⟩ := by
  unfold Addr.add; split
  · rename_i h; subst h; rfl
  · rfl

/-- Block b holds these cells, and each may be written. -/
def Blk (h : H) (b : Nat) (cs : List Value) : Prop := ∃ e fz, h[b]? = some (.cells cs.toArray e fz) ∧ ∀ o, o < cs.length → ¬ (fz.1 ≤ o ∧ o < fz.2)

theorem Blk.lt {h : H} {b : Nat} {cs : List Value} (B : Blk h b cs) : b < h.size := by
  obtain ⟨e, fz, hb, _⟩ := B
  rcases Nat.lt_or_ge b h.size with hl | hl
  · exact hl
  · rw [Array.getElem?_eq_none hl] at hb; cases hb
theorem Blk.same {h h' : H} {b : Nat} {cs : List Value} (B : Blk h b cs) (e : h'[b]? = h[b]?) : Blk h' b cs := by
  obtain ⟨t, fz, hb, hf⟩ := B
  exact ⟨t, fz, by rw [e, hb], hf⟩
theorem Blk.inj {h : H} {b : Nat} {cs cs' : List Value} (B : Blk h b cs) (B' : Blk h b cs') : cs = cs' := by
  obtain ⟨t, fz, hb, hf⟩ := B
  obtain ⟨t', fz', hb', hf'⟩ := B'
  rw [hb] at hb'
  simp at hb'
  exact hb'.1
theorem Blk.ext {h h' : H} {b : Nat} {cs : List Value} (B : Blk h b cs) (e : Ext h h') : Blk h' b cs := B.same (e.2 b B.lt)
theorem Blk.push (h : H) (cs : List Value) (t : TypeId) : Blk (h.push (.cells cs.toArray t)) h.size cs := ⟨t, (0, 0), getElem_push _ _, by intro o _; simp⟩
theorem Blk.push_fz (h : H) (cs : Array Value) (t : TypeId) (n : Nat) (hn : cs.size ≤ n) : Blk (h.push (.cells cs t (n, n + 1))) h.size cs.toList := ⟨t, (n, n + 1), by rw [getElem_push], by intro o ho; simp at ho ⊢; omega⟩
theorem Blk.hcell {h : H} {b : Nat} {cs : List Value} (B : Blk h b cs) (o : Nat) : hcell h ⟨b, o, none⟩ = cs[o]? := by
  obtain ⟨t, fz, hb, hf⟩ := B
  simp [Tr.hcell, hb]
theorem Blk.hfrozen {h : H} {b : Nat} {cs : List Value} (B : Blk h b cs) {o : Nat} (ho : o < cs.length) : hfrozen h ⟨b, o, none⟩ = false := by
  obtain ⟨t, fz, hb, hf⟩ := B
  have := hf o ho
  simp only [Tr.hfrozen, hb]
  simp only [Bool.and_eq_false_iff, decide_eq_false_iff_not]
  omega
theorem Blk.rdFrom {h : H} {b : Nat} {cs : List Value} (B : Blk h b cs) (o : Nat) : ∀ (n i : Nat), o + i + n ≤ cs.length → rdFrom h ⟨b, o, none⟩ i n = some ((cs.drop (o + i)).take n)
  | 0, i, _ => by simp [Tr.rdFrom]
  | n + 1, i, hn => by
    simp only [Tr.rdFrom, add_mk, B.hcell, B.rdFrom o n (i + 1) (by omega)]
    have h1 : o + i < cs.length := by omega
    rw [List.getElem?_eq_getElem h1]
    have : cs.drop (o + i) = cs[o + i] :: cs.drop (o + (i + 1)) := by rw [List.drop_eq_getElem_cons h1]; rfl
    rw [this]; simp
theorem Blk.rd {h : H} {b : Nat} {cs : List Value} (B : Blk h b cs) {o n : Nat} (hn : o + n ≤ cs.length) : rdCells h ⟨b, o, none⟩ n = some ((cs.drop o).take n) := B.rdFrom o n 0 (by omega)
theorem Blk.ld {α : Type} {K : Kd α} {h : H} {b : Nat} {cs : List Value} (B : Blk h b cs) {o : Nat} {x : α} (hn : o + K.n ≤ cs.length) (hx : (cs.drop o).take K.n = K.enc x) : ld K ⟨b, o, none⟩ h = some x := by
  unfold Tr.ld
  rw [B.rd hn, Option.bind_some, hx, K.full]

theorem splice_len {l : List Value} {o : Nat} {vs : List Value} (h : o + vs.length ≤ l.length) : (splice l o vs).length = l.length := by
  unfold splice; simp; omega
/-- Only block b is another. -/
def Only (b : Nat) (h h' : H) : Prop := h'.size = h.size ∧ ∀ k, k ≠ b → h'[k]? = h[k]?
theorem Only.refl (b : Nat) (h : H) : Only b h h := ⟨rfl, fun _ _ => rfl⟩
theorem Only.trans {b : Nat} {x y z : H} (p : Only b x y) (q : Only b y z) : Only b x z := ⟨q.1.trans p.1, fun k hk => (q.2 k hk).trans (p.2 k hk)⟩
theorem Blk.wrFrom {b : Nat} (o : Nat) : ∀ (vs : List Value) (i : Nat) (h : H) (cs : List Value), Blk h b cs → o + i + vs.length ≤ cs.length → (∀ v ∈ vs, v.oneCell' = true) →
    ∃ h', wrFrom ⟨b, o, none⟩ vs i h = some h' ∧ Blk h' b (splice cs (o + i) vs) ∧ Only b h h'
  | [], i, h, cs, B, _, _ => ⟨h, rfl, by simpa [splice] using B, Only.refl _ _⟩
  | v :: vs, i, h, cs, B, hn, h1 => by
    have hlt : o + i < cs.length := by simp at hn; omega
    have B' : Blk (hset h ⟨b, o + i, none⟩ v) b (cs.set (o + i) v) := by
      obtain ⟨t, fz, hb, hf⟩ := B
      refine ⟨t, fz, ?_, by intro o' ho'; exact hf o' (by simpa using ho')⟩
      simp only [hset, Array.getElem?_modify, if_true, hb, Option.map_some]
      simp
    have O' : Only b h (hset h ⟨b, o + i, none⟩ v) := ⟨by simp [hset], fun k hk => by simp only [hset, Array.getElem?_modify]; rw [if_neg (Ne.symm hk)]⟩
    obtain ⟨h', hw, B'', O''⟩ := Blk.wrFrom o vs (i + 1) _ _ B' (by simp at hn ⊢; omega) (fun u hu => h1 u (by simp [hu]))
    refine ⟨h', ?_, ?_, O'.trans O''⟩
    · simp only [Tr.wrFrom, add_mk, B.hcell, List.getElem?_eq_getElem hlt, Option.bind_some, B.hfrozen hlt, h1 v (by simp)]
      simpa using hw
    · rw [← Nat.add_assoc, set_splice cs (o + i) v vs (by simp at hn; omega)] at B''
      exact B''
theorem Blk.wr {h : H} {b : Nat} {cs : List Value} (B : Blk h b cs) {o : Nat} {vs : List Value} (hn : o + vs.length ≤ cs.length) (h1 : ∀ v ∈ vs, v.oneCell' = true) :
    ∃ h', wrCells h ⟨b, o, none⟩ vs = some h' ∧ Blk h' b (splice cs o vs) ∧ Only b h h' := by
  obtain ⟨h', a, c, d⟩ := Blk.wrFrom o vs 0 h cs B (by omega) h1
  exact ⟨h', a, by simpa using c, d⟩

/-! ### typed blocks -/
/-- A part of a kind: where it lies, how it is read and written. -/
structure Fld {α β : Type} (K : Kd α) (F : Kd β) (off : Nat) (get : α → β) (put : α → β → α) : Prop where
  le : off + F.n ≤ K.n
  get : ∀ x, ((K.enc x).drop off).take F.n = F.enc (get x)
  put : ∀ x v, splice (K.enc x) off (F.enc v) = K.enc (put x v)
theorem Fld.whole {α : Type} (K : Kd α) : Fld K K 0 (fun x => x) (fun _ v => v) := ⟨by simp, fun x => by rw [List.drop_zero, List.take_of_length_le (by simp [K.len])], fun x v => by
  unfold splice
  rw [List.take_zero, List.drop_of_length_le (by simp [K.len]), List.nil_append, List.append_nil]⟩

def encs {α : Type} (K : Kd α) (xs : List α) : List Value := xs.flatMap K.enc
theorem encs_len {α : Type} (K : Kd α) : ∀ (xs : List α), (encs K xs).length = xs.length * K.n
  | [] => by simp [encs]
  | x :: xs => by
    have := encs_len K xs
    simp only [encs, List.flatMap_cons, List.length_append, K.len, List.length_cons] at this ⊢
    rw [this, Nat.add_mul]; omega
theorem encs_append {α : Type} (K : Kd α) (xs ys : List α) : encs K (xs ++ ys) = encs K xs ++ encs K ys := by simp [encs]
theorem encs_one {α : Type} (K : Kd α) : ∀ (xs : List α), ∀ v ∈ encs K xs, v.oneCell' = true := fun xs v hv => by
  simp only [encs, List.mem_flatMap] at hv
  obtain ⟨x, _, hx⟩ := hv
  exact K.one x v hx
theorem encs_inj {α : Type} (K : Kd α) (hn : 0 < K.n) : ∀ (xs ys : List α), encs K xs = encs K ys → xs = ys
  | [], [], _ => rfl
  | [], y :: ys, h => by have := congrArg List.length h; rw [encs_len, encs_len] at this; simp [Nat.add_mul] at this; omega
  | x :: xs, [], h => by have := congrArg List.length h; rw [encs_len, encs_len] at this; simp [Nat.add_mul] at this; omega
  | x :: xs, y :: ys, h => by
    simp only [encs, List.flatMap_cons] at h
    have := List.append_inj h (by simp [K.len])
    have e1 : x = y := by have := congrArg K.dec this.1; rw [K.full, K.full] at this; exact Option.some.inj this
    rw [e1, encs_inj K hn xs ys this.2]
def Arr {α : Type} (K : Kd α) (h : H) (b : Nat) (xs : List α) : Prop := Blk h b (encs K xs)
theorem Arr.inj {α : Type} {K : Kd α} (hn : 0 < K.n) {h : H} {b : Nat} {xs ys : List α} (A : Arr K h b xs) (B : Arr K h b ys) : xs = ys := encs_inj K hn xs ys (Blk.inj A B)
theorem encs_split {α : Type} (K : Kd α) (xs : List α) (i : Nat) (hi : i < xs.length) : encs K xs = encs K (xs.take i) ++ K.enc xs[i] ++ encs K (xs.drop (i + 1)) := by
  have : xs = xs.take i ++ ([xs[i]] ++ xs.drop (i + 1)) := by simp
  conv => lhs; rw [this]
  rw [encs_append, encs_append]; simp [encs]
theorem drop_take_mid (a m z : List Value) (o n : Nat) (h : o + n ≤ m.length) : ((a ++ m ++ z).drop (a.length + o)).take n = (m.drop o).take n := by
  rw [List.append_assoc, List.drop_append, List.drop_of_length_le (by omega)]
  have : a.length + o - a.length = o := by omega
  rw [this, List.nil_append, List.drop_append_of_le_length (by omega), List.take_append_of_le_length (by simp; omega)]
theorem Arr.ld {α β : Type} {K : Kd α} {F : Kd β} {off : Nat} {get : α → β} {put : α → β → α} (f : Fld K F off get put) {h : H} {b : Nat} {xs : List α} (A : Arr K h b xs) {i : Nat} (hi : i < xs.length) {o : Nat} (ho : o = i * K.n + off) : ld F ⟨b, o, none⟩ h = some (get xs[i]) := by
  subst ho
  have hl := encs_len K xs
  have h1 : (xs.take i).length = i := by simp; omega
  have h2 : (encs K (xs.take i)).length = i * K.n := by rw [encs_len, h1]
  have hle : (i + 1) * K.n ≤ xs.length * K.n := Nat.mul_le_mul_right _ hi
  rw [Nat.add_mul] at hle
  have := f.le
  refine Blk.ld A (by rw [hl]; omega) ?_
  rw [encs_split K xs i hi, ← h2, drop_take_mid _ _ _ _ _ (by rw [K.len]; exact f.le), f.get]
theorem splice_mid (a m z : List Value) (o : Nat) (vs : List Value) (h : o + vs.length ≤ m.length) : splice (a ++ m ++ z) (a.length + o) vs = a ++ splice m o vs ++ z := by
  unfold splice
  rw [List.append_assoc a m z, List.take_append, List.take_of_length_le (by omega), List.drop_append, List.drop_of_length_le (by omega)]
  have e1 : a.length + o - a.length = o := by omega
  have e2 : a.length + o + vs.length - a.length = o + vs.length := by omega
  rw [e1, e2, List.take_append_of_le_length (by omega), List.drop_append_of_le_length (by omega)]
  simp
theorem Arr.st {α β : Type} {K : Kd α} {F : Kd β} {off : Nat} {get : α → β} {put : α → β → α} (f : Fld K F off get put) {h : H} {b : Nat} {xs : List α} (A : Arr K h b xs) {i : Nat} (hi : i < xs.length) {o : Nat} (ho : o = i * K.n + off) (v : β) :
    ∃ h', st F ⟨b, o, none⟩ v h = some h' ∧ Arr K h' b (xs.set i (put xs[i] v)) ∧ Only b h h' := by
  subst ho
  have hl := encs_len K xs
  have h1 : (xs.take i).length = i := by simp; omega
  have h2 : (encs K (xs.take i)).length = i * K.n := by rw [encs_len, h1]
  have hle : (i + 1) * K.n ≤ xs.length * K.n := Nat.mul_le_mul_right _ hi
  rw [Nat.add_mul] at hle
  have := f.le
  obtain ⟨h', hw, B, O⟩ := Blk.wr (vs := F.enc v) (o := i * K.n + off) A (by rw [hl, F.len]; omega) (F.one v)
  refine ⟨h', hw, ?_, O⟩
  rw [encs_split K xs i hi, ← h2, splice_mid _ _ _ _ _ (by rw [K.len, F.len]; exact f.le), f.put] at B
  unfold Arr
  have hi' : i < (xs.set i (put xs[i] v)).length := by simpa using hi
  rw [encs_split K _ i hi']
  simpa [List.take_set_of_le, List.drop_set_of_lt] using B
theorem Arr.same {α : Type} {K : Kd α} {h h' : H} {b : Nat} {xs : List α} (A : Arr K h b xs) (e : h'[b]? = h[b]?) : Arr K h' b xs := Blk.same A e

/-- A struct's variable. -/
def Var {α : Type} (K : Kd α) (h : H) (b : Nat) (x : α) : Prop := Blk h b (K.enc x)
theorem Var.arr {α : Type} {K : Kd α} {h : H} {b : Nat} {x : α} (V : Var K h b x) : Arr K h b [x] := by unfold Arr encs; unfold Var at V; simpa using V
theorem Arr.var {α : Type} {K : Kd α} {h : H} {b : Nat} {x : α} (V : Arr K h b [x]) : Var K h b x := by unfold Arr encs at V; unfold Var; simpa using V
theorem Var.ld {α β : Type} {K : Kd α} {F : Kd β} {off : Nat} {get : α → β} {put : α → β → α} (f : Fld K F off get put) {h : H} {b : Nat} {x : α} (V : Var K h b x) : Tr.ld F ⟨b, off, none⟩ h = some (get x) :=
  Arr.ld f V.arr (i := 0) (by simp) (by simp)
theorem Var.st {α β : Type} {K : Kd α} {F : Kd β} {off : Nat} {get : α → β} {put : α → β → α} (f : Fld K F off get put) {h : H} {b : Nat} {x : α} (V : Var K h b x) (v : β) : ∃ h', Tr.st F ⟨b, off, none⟩ v h = some h' ∧ Var K h' b (put x v) ∧ Only b h h' := by
  obtain ⟨h', a, A, O⟩ := Arr.st f V.arr (i := 0) (by simp) (o := off) (by simp) v
  exact ⟨h', a, Arr.var A, O⟩
theorem Var.same {α : Type} {K : Kd α} {h h' : H} {b : Nat} {x : α} (A : Var K h b x) (e : h'[b]? = h[b]?) : Var K h' b x := Blk.same A e
theorem Var.push {α : Type} (K : Kd α) (h : H) (x : α) (t : TypeId) : Var K (h.push (.cells (K.enc x).toArray t)) h.size x := Blk.push h _ t
theorem Arr.push {α : Type} (K : Kd α) (h : H) (xs : List α) (t : TypeId) : Arr K (h.push (.cells (encs K xs).toArray t)) h.size xs := Blk.push h _ t

/-! ### a slice and the list that it shows -/
/-- Slice s shows xs; where it has an array, its block is one of F's. -/
def Own {α : Type} (K : Kd α) (h : H) (F : Nat → Prop) (s : Sl) (xs : List α) : Prop :=
  s.len = xs.length ∧ ((s.cap = 0 ∧ xs = []) ∨ ∃ b pre post rest, s.a = some ⟨b, pre.length * K.n, none⟩ ∧ F b ∧ s.cap = xs.length + post.length ∧ Arr K h b (pre ++ (xs ++ (post ++ rest))))
theorem Own.nil {α : Type} (K : Kd α) (h : H) (F : Nat → Prop) : Own K h F Sl.nil [] := ⟨rfl, .inl ⟨rfl, rfl⟩⟩
theorem Own.cap0 {α : Type} (K : Kd α) (h : H) (F : Nat → Prop) (a : Option Addr) : Own K h F ⟨a, 0, 0⟩ [] := ⟨rfl, .inl ⟨rfl, rfl⟩⟩
theorem Own.len {α : Type} {K : Kd α} {h : H} {F : Nat → Prop} {s : Sl} {xs : List α} (o : Own K h F s xs) : s.len = xs.length := o.1
theorem Own.le_cap {α : Type} {K : Kd α} {h : H} {F : Nat → Prop} {s : Sl} {xs : List α} (o : Own K h F s xs) : xs.length ≤ s.cap := by
  obtain ⟨h1, ⟨_, rfl⟩ | ⟨b, pre, post, rest, _, _, h2, _⟩⟩ := o
  · simp
  · omega
theorem Own.mono {α : Type} {K : Kd α} {h : H} {F G : Nat → Prop} {s : Sl} {xs : List α} (o : Own K h F s xs) (k : ∀ b, F b → G b) : Own K h G s xs :=
  ⟨o.1, o.2.imp id fun ⟨b, pre, post, rest, h1, h2, h3⟩ => ⟨b, pre, post, rest, h1, k b h2, h3⟩⟩
theorem Own.same {α : Type} {K : Kd α} {h h' : H} {F : Nat → Prop} {s : Sl} {xs : List α} (o : Own K h F s xs) (e : ∀ b, F b → b < h.size → h'[b]? = h[b]?) : Own K h' F s xs :=
  ⟨o.1, o.2.imp id fun ⟨b, pre, post, rest, h1, h2, h3, h4⟩ => ⟨b, pre, post, rest, h1, h2, h3, h4.same (e b h2 (Blk.lt h4))⟩⟩
theorem Own.monoL {α : Type} {K : Kd α} {h : H} {F G : Nat → Prop} {s : Sl} {xs : List α} (o : Own K h F s xs) (k : ∀ b, F b → b < h.size → G b) : Own K h G s xs :=
  ⟨o.1, o.2.imp id fun ⟨b, pre, post, rest, h1, h2, h3, h4⟩ => ⟨b, pre, post, rest, h1, k b h2 (Blk.lt h4), h3, h4⟩⟩
theorem Own.ext {α : Type} {K : Kd α} {h h' : H} {F : Nat → Prop} {s : Sl} {xs : List α} (o : Own K h F s xs) (e : Ext h h') : Own K h' F s xs := o.same fun b _ hb => e.2 b hb
/-- The array's place, where there is an element. -/
theorem Own.at {α : Type} {K : Kd α} {h : H} {F : Nat → Prop} {s : Sl} {xs : List α} (o : Own K h F s xs) (hne : 0 < xs.length) :
    ∃ b pre post, s.a = some ⟨b, pre.length * K.n, none⟩ ∧ F b ∧ Arr K h b (pre ++ (xs ++ post)) := by
  obtain ⟨h1, ⟨_, rfl⟩ | ⟨b, pre, post, rest, h2, h3, _, h4⟩⟩ := o
  · simp at hne
  · exact ⟨b, pre, post ++ rest, h2, h3, h4⟩
theorem ixA_own {α : Type} {K : Kd α} {h : H} {F : Nat → Prop} {s : Sl} {xs : List α} (o : Own K h F s xs) {i : Nat} (hi : i < xs.length) {b pn : Nat} (ha : s.a = some ⟨b, pn, none⟩) : ixA K.n s (i : Int) = some ⟨b, pn + i * K.n, none⟩ := by
  unfold ixA
  rw [ha]
  have : s.len = xs.length := o.1
  simp only
  rw [if_pos (by omega)]
  simp
/-- Reading an element, or a part of it. -/
theorem Own.get {α β : Type} {K : Kd α} {Fk : Kd β} {off : Nat} {g : α → β} {p : α → β → α} (f : Fld K Fk off g p) {h : H} {F : Nat → Prop} {s : Sl} {xs : List α} (o : Own K h F s xs) {i : Nat} (hi : i < xs.length) :
    ∃ a, ixA K.n s (i : Int) = some a ∧ ld Fk (a.add off) h = some (g xs[i]) := by
  obtain ⟨b, pre, post, ha, hF, A⟩ := o.at (by omega)
  refine ⟨_, ixA_own o hi ha, ?_⟩
  rw [add_mk]
  have hl : pre.length + i < (pre ++ (xs ++ post)).length := by simp; omega
  have := Arr.ld f A (i := pre.length + i) hl (o := pre.length * K.n + i * K.n + off) (by rw [Nat.add_mul])
  rw [this]
  congr 2
  rw [List.getElem_append_right (by omega)]
  simp only [Nat.add_sub_cancel_left]
  rw [List.getElem_append_left hi]
theorem Own.get0 {α : Type} {K : Kd α} {h : H} {F : Nat → Prop} {s : Sl} {xs : List α} (o : Own K h F s xs) {i : Nat} (hi : i < xs.length) :
    ∃ a, ixA K.n s (i : Int) = some a ∧ ld K a h = some xs[i] := by
  obtain ⟨a, h1, h2⟩ := o.get (Fld.whole K) hi
  refine ⟨a, h1, ?_⟩
  simpa [Addr.add] using h2
/-- Writing an element, or a part of it. -/
theorem Own.set {α β : Type} {K : Kd α} {Fk : Kd β} {off : Nat} {g : α → β} {p : α → β → α} (f : Fld K Fk off g p) {h : H} {F : Nat → Prop} {s : Sl} {xs : List α} (o : Own K h F s xs) {i : Nat} (hi : i < xs.length) (v : β) :
    ∃ a h' b, ixA K.n s (i : Int) = some a ∧ st Fk (a.add off) v h = some h' ∧ Own K h' F s (xs.set i (p xs[i] v)) ∧ Only b h h' ∧ F b := by
  have o' := o
  obtain ⟨h1, ⟨_, rfl⟩ | ⟨b, pre, post, rest, ha, hF, hc, A⟩⟩ := o
  · simp at hi
  · have hl : pre.length + i < (pre ++ (xs ++ (post ++ rest))).length := by simp; omega
    obtain ⟨h', hs, A', O⟩ := Arr.st f A hl (o := pre.length * K.n + i * K.n + off) (by rw [Nat.add_mul]) v
    refine ⟨_, h', b, ixA_own o' hi ha, by rw [add_mk]; exact hs, ⟨by simpa using h1, .inr ⟨b, pre, post, rest, ha, hF, by simpa using hc, ?_⟩⟩, O, hF⟩
    have e1 : (pre ++ (xs ++ (post ++ rest)))[pre.length + i] = xs[i] := by
      rw [List.getElem_append_right (by omega)]
      simp only [Nat.add_sub_cancel_left]
      rw [List.getElem_append_left hi]
    rw [e1] at A'
    rw [List.set_append_right _ _ (by omega)] at A'
    simp only [Nat.add_sub_cancel_left] at A'
    rw [List.set_append_left _ _ hi] at A'
    exact A'
theorem Own.set0 {α : Type} {K : Kd α} {h : H} {F : Nat → Prop} {s : Sl} {xs : List α} (o : Own K h F s xs) {i : Nat} (hi : i < xs.length) (v : α) :
    ∃ a h' b, ixA K.n s (i : Int) = some a ∧ st K a v h = some h' ∧ Own K h' F s (xs.set i v) ∧ Only b h h' ∧ F b := by
  obtain ⟨a, h', b, h1, h2, h3, h4⟩ := o.set (Fld.whole K) hi v
  exact ⟨a, h', b, h1, by simpa [Addr.add] using h2, h3, h4⟩
/-- All of it, read. -/
theorem Own.rdSl {α : Type} {K : Kd α} {h : H} {F : Nat → Prop} {s : Sl} {xs : List α} (o : Own K h F s xs) {n : Nat} (hn : n ≤ xs.length) : rdSl K.n s n h = some (encs K (xs.take n)) := by
  obtain ⟨h1, ⟨_, rfl⟩ | ⟨b, pre, post, rest, ha, hF, hc, A⟩⟩ := o
  · obtain rfl : n = 0 := by simpa using hn
    unfold Tr.rdSl
    cases s.a <;> simp [rdCells, Tr.rdFrom, encs]
  · unfold Tr.rdSl
    rw [ha]
    simp only
    have hl := encs_len K (pre ++ (xs ++ (post ++ rest)))
    have h2 : (pre ++ (xs ++ (post ++ rest))).length * K.n = pre.length * K.n + xs.length * K.n + (post ++ rest).length * K.n := by simp only [List.length_append, Nat.add_mul]; omega
    have h3 : n * K.n ≤ xs.length * K.n := Nat.mul_le_mul_right _ hn
    rw [Blk.rd A (by rw [hl, h2]; omega)]
    congr 1
    rw [encs_append, encs_append, ← List.append_assoc]
    have e1 : pre.length * K.n = (encs K pre).length + 0 := by rw [encs_len]; rfl
    rw [e1, drop_take_mid _ _ _ _ _ (by rw [encs_len]; omega), List.drop_zero]
    have : xs = xs.take n ++ xs.drop n := by simp
    conv => lhs; rw [this, encs_append]
    have e2 : n * K.n = (encs K (xs.take n)).length := by rw [encs_len, List.length_take, Nat.min_eq_left hn]
    rw [e2, List.take_left]

theorem Own.rdAll {α : Type} {K : Kd α} {h : H} {F : Nat → Prop} {s : Sl} {xs : List α} (o : Own K h F s xs) : Tr.rdSl K.n s s.len h = some (encs K xs) := by
  rw [o.len, o.rdSl (Nat.le_refl _), List.take_length]

/-! ### frames -/
/-- What was there and is none of F's is as it was. -/
def Fr (F : Nat → Prop) (h h' : H) : Prop := h.size ≤ h'.size ∧ ∀ b, b < h.size → ¬ F b → h'[b]? = h[b]?
theorem Fr.refl (F : Nat → Prop) (h : H) : Fr F h h := ⟨Nat.le_refl _, fun _ _ _ => rfl⟩
theorem Fr.trans {F G : Nat → Prop} {a b c : H} (x : Fr F a b) (y : Fr G b c) (k : ∀ i, i < a.size → G i → F i) : Fr F a c :=
  ⟨Nat.le_trans x.1 y.1, fun i hi hn => (y.2 i (by have := x.1; omega) fun g => hn (k i hi g)).trans (x.2 i hi hn)⟩
theorem Fr.mono {F G : Nat → Prop} {a b : H} (x : Fr F a b) (k : ∀ i, i < a.size → F i → G i) : Fr G a b := ⟨x.1, fun i hi hn => x.2 i hi fun f => hn (k i hi f)⟩
theorem Fr.ext {F : Nat → Prop} {a b : H} (e : Ext a b) : Fr F a b := ⟨e.1, fun i hi _ => e.2 i hi⟩
theorem Fr.only {F : Nat → Prop} {a b : H} {k : Nat} (o : Only k a b) (hk : F k) : Fr F a b := ⟨by rw [o.1]; exact Nat.le_refl _, fun i _ hn => o.2 i fun e => hn (e ▸ hk)⟩
theorem Fr.push {F : Nat → Prop} (h : H) (o : Obj) : Fr F h (h.push o) := Fr.ext (Ext.push h o)
end Go.Tr
