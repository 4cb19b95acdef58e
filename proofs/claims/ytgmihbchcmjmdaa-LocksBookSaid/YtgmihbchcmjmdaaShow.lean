/- The elements of a slice, in a heap: read whole, read in part, cut; and as bytes. No program in sight. -/
import Derived.Test.YtgmihbchcmjmdaaHeap2
import Derived.Test.YtgmihbchcmjmdaaKinds
namespace Go.Tr
open Go
set_option linter.unusedVariables false

structure Rds {α : Type} (K : Kd α) (h : H) (s : Sl) (xs : List α) : Prop where
  len : s.len = xs.length
  cap : s.len ≤ s.cap
  at_ : ∀ (i : Nat) (hi : i < xs.length), ∃ a, s.a = some a ∧ ld K (a.add (i * K.n)) h = some xs[i]
section
variable {α : Type} {K : Kd α} {h h' : H} {s : Sl} {xs : List α}
theorem Rds.ext (R : Rds K h s xs) (e : Ext h h') : Rds K h' s xs :=
  ⟨R.len, R.cap, fun i hi => by obtain ⟨a, ha, hl⟩ := R.at_ i hi; exact ⟨a, ha, ld_ext e hl⟩⟩
theorem Rds.ix (R : Rds K h s xs) {i : Nat} (hi : i < xs.length) {n : Nat} (hn : n = K.n) : ∃ a, ixA n s (i : Int) = some a ∧ ld K a h = some xs[i] := by
  obtain ⟨a, ha, hl⟩ := R.at_ i hi
  refine ⟨_, ?_, hl⟩
  unfold ixA
  rw [ha, hn]
  have : i < s.len := by rw [R.len]; exact hi
  simp [this]
theorem Rds.nil (a : Option Addr) (c : Nat) : Rds K h ⟨a, 0, c⟩ [] := ⟨rfl, Nat.zero_le _, fun i hi => absurd hi (by simp)⟩
theorem Own.rds {F : Nat → Prop} (o : Own K h F s xs) : Rds K h s xs := by
  refine ⟨o.len, by rw [o.len]; exact o.le_cap, fun i hi => ?_⟩
  obtain ⟨a, h1, h2⟩ := o.get0 hi
  unfold ixA at h1
  cases hs : s.a with
  | none => rw [hs] at h1; cases h1
  | some b =>
    rw [hs] at h1
    simp only at h1
    split at h1
    · simp at h1; subst h1; exact ⟨b, rfl, h2⟩
    · cases h1
theorem add_add (a : Addr) (o j : Nat) : (a.add o).add j = a.add (o + j) := by
  unfold Addr.add
  by_cases h1 : j = 0
  · subst h1; simp
  · by_cases h2 : o = 0
    · subst h2; simp
    · rw [if_neg h1, if_neg h2, if_neg (by omega)]
      simp [Nat.add_assoc]
theorem rdFrom_add (a : Addr) (o : Nat) : ∀ (n i : Nat), rdFrom h (a.add o) i n = rdFrom h a (o + i) n
  | 0, i => rfl
  | n + 1, i => by
    show ((hcell h ((a.add o).add i)).bind fun v => (rdFrom h (a.add o) (i + 1) n).map fun r => v :: r) = ((hcell h (a.add (o + i))).bind fun v => (rdFrom h a (o + i + 1) n).map fun r => v :: r)
    rw [add_add, rdFrom_add a o n (i + 1), Nat.add_assoc]
theorem rdFrom_append (a : Addr) : ∀ (n m i : Nat) (l r : List Value), rdFrom h a i n = some l → rdFrom h a (i + n) m = some r → rdFrom h a i (n + m) = some (l ++ r)
  | 0, m, i, l, r, h1, h2 => by
    simp [rdFrom] at h1; subst h1
    rw [Nat.zero_add]; simpa using h2
  | n + 1, m, i, l, r, h1, h2 => by
    simp only [rdFrom, Option.bind_eq_some_iff, Option.map_eq_some_iff] at h1
    obtain ⟨v, hv, t, ht, rfl⟩ := h1
    have ih := rdFrom_append a n m (i + 1) t r ht (by rw [show i + 1 + n = i + (n + 1) by omega]; exact h2)
    rw [show n + 1 + m = (n + m) + 1 by omega]
    simp only [rdFrom, hv, ih, Option.bind_some, Option.map_some, List.cons_append]
theorem Rds.rdSl (R : Rds K h s xs) {n : Nat} (hn : n ≤ xs.length) : rdSl K.n s n h = some (encs K (xs.take n)) := by
  unfold Tr.rdSl
  cases hs : s.a with
  | none =>
    have : xs.length = 0 := by
      rcases Nat.eq_zero_or_pos xs.length with h0 | h0
      · exact h0
      · obtain ⟨a, ha, _⟩ := R.at_ 0 h0
        rw [hs] at ha; cases ha
    have : n = 0 := by omega
    subst this
    simp [encs]
  | some a =>
    have key : ∀ m, m ≤ xs.length → rdFrom h a 0 (m * K.n) = some (encs K (xs.take m)) := by
      intro m
      induction m with
      | zero => intro _; simp [rdFrom, encs]
      | succ m ih =>
        intro hm
        have h1 := ih (by omega)
        obtain ⟨a', ha', hl⟩ := R.at_ m (by omega)
        rw [hs] at ha'
        obtain rfl : a = a' := Option.some.inj ha'
        unfold ld rdCells at hl
        obtain ⟨l, h2, h3⟩ := Option.bind_eq_some_iff.1 hl
        rw [rdFrom_add] at h2
        have h4 := K.sound _ _ h3
        subst h4
        have := rdFrom_append a (m * K.n) K.n 0 _ _ h1 (by rw [Nat.zero_add]; simpa using h2)
        rw [Nat.add_mul, Nat.one_mul, this, List.take_succ_eq_append_getElem (by omega), encs_append]
        simp [encs]
    exact key n hn
theorem Rds.rdAll (R : Rds K h s xs) : Tr.rdSl K.n s s.len h = some (encs K xs) := by
  rw [R.len, R.rdSl (Nat.le_refl _), List.take_length]
/-- s[lo:hi], by what it shows. -/
theorem Rds.cut (R : Rds K h s xs) {l n : Nat} (hl : l ≤ n) (hn : n ≤ xs.length) (c : Nat) (hc : n ≤ c) : Rds K h ⟨if c = l then s.a else s.a.map (fun a : Addr => a.add (l * K.n)), n - l, c - l⟩ ((xs.take n).drop l) := by
  refine ⟨by simp; omega, by simp; omega, fun i hi => ?_⟩
  simp only [List.length_drop, List.length_take] at hi
  obtain ⟨a, ha, hl⟩ := R.at_ (l + i) (by omega)
  refine ⟨a.add (l * K.n), ?_, ?_⟩
  · simp only
    rw [if_neg (by omega), ha]; rfl
  · rw [add_add, ← Nat.add_mul, hl]
    simp
theorem Rds.slx_hi (R : Rds K h s xs) {n : Nat} (hn : n ≤ xs.length) {w : Nat} (hw : w = K.n) : ∃ s', slx w s none (some (n : Int)) none = some s' ∧ Rds K h s' (xs.take n) ∧ s'.len = n := by
  subst hw
  have h1 := R.len
  have h2 := R.cap
  have hb : bndI (n : Int) s.cap = some n := by unfold bndI; rw [if_pos (by omega)]; simp
  have e : slx K.n s none (some (n : Int)) none = some ⟨if s.cap = 0 then s.a else s.a.map (fun a : Addr => a.add (0 * K.n)), n - 0, s.cap - 0⟩ := by unfold slx; simp only [Option.bind_some, hb, Option.map_some]
  refine ⟨_, e, ?_, rfl⟩
  have := R.cut (l := 0) (Nat.zero_le n) hn s.cap (by omega)
  rwa [List.drop_zero] at this
theorem Rds.slx_lo (R : Rds K h s xs) {n : Nat} (hn : n ≤ xs.length) {w : Nat} (hw : w = K.n) : ∃ s', slx w s (some (n : Int)) none none = some s' ∧ Rds K h s' (xs.drop n) ∧ s'.len = xs.length - n := by
  subst hw
  have h1 := R.len
  have h2 := R.cap
  have hb : bndI (n : Int) s.len = some n := by unfold bndI; rw [if_pos (by omega)]; simp
  have e : slx K.n s (some (n : Int)) none none = some ⟨if s.cap = n then s.a else s.a.map (fun a : Addr => a.add (n * K.n)), s.len - n, s.cap - n⟩ := by unfold slx; simp only [Option.bind_some, hb, Option.map_some]
  refine ⟨_, e, ?_, by rw [← h1]⟩
  have := R.cut (l := n) (n := xs.length) hn (Nat.le_refl _) s.cap (by omega)
  rw [List.take_length] at this
  rw [h1]; exact this
end

theorem Rds.pre {α : Type} {K : Kd α} {h : H} {s : Sl} {xs : List α} (R : Rds K h s xs) {n : Nat} (hn : n ≤ xs.length) : Rds K h ⟨s.a, n, s.cap⟩ (xs.take n) :=
  ⟨by simp; omega, by have := R.len; have := R.cap; simp; omega, fun i hi => by
    obtain ⟨a, h1, h2⟩ := R.at_ i (by simp at hi; omega)
    exact ⟨a, h1, by rw [h2]; simp⟩⟩

theorem rdFrom_of (h : H) (a : Addr) : ∀ (n i : Nat) (cs : List Value), cs.length = n → (∀ j, j < n → hcell h (a.add (i + j)) = cs[j]?) → rdFrom h a i n = some cs
  | 0, i, [], _, _ => rfl
  | n + 1, i, c :: cs, hl, hx => by
    have h0 := hx 0 (by omega)
    rw [Nat.add_zero] at h0
    have hr := rdFrom_of h a n (i + 1) cs (by simpa using hl) (fun j hj => by have := hx (j + 1) (by omega); rw [show i + (j + 1) = i + 1 + j by omega] at this; simpa using this)
    show ((hcell h (a.add i)).bind fun v => (rdFrom h a (i + 1) n).map fun r => v :: r) = _
    rw [h0, hr]; rfl
theorem rdFrom_get (h : H) (a : Addr) : ∀ (n i : Nat) (cs : List Value), rdFrom h a i n = some cs → ∀ j, j < n → hcell h (a.add (i + j)) = cs[j]?
  | 0, i, cs, _, j, hj => by omega
  | n + 1, i, cs, hr, j, hj => by
    simp only [rdFrom, Option.bind_eq_some_iff, Option.map_eq_some_iff] at hr
    obtain ⟨v, hv, r, hr, rfl⟩ := hr
    cases j with
    | zero => simpa using hv
    | succ j =>
      have := rdFrom_get h a n (i + 1) r hr j (by omega)
      rw [show i + 1 + j = i + (j + 1) by omega] at this
      simpa using this
/-- A part of what lies there. -/
theorem ld_fld {α β : Type} {K : Kd α} {Fk : Kd β} {off : Nat} {g : α → β} {p : α → β → α} (f : Fld K Fk off g p) {a : Addr} {h : H} {x : α} (hx : ld K a h = some x) : ld Fk (a.add off) h = some (g x) := by
  unfold ld rdCells at *
  obtain ⟨cs, h1, h2⟩ := Option.bind_eq_some_iff.1 hx
  have h3 := K.sound _ _ h2
  subst h3
  have h4 := f.le
  have h5 := f.get x
  have h6 := rdFrom_get h a _ _ _ h1
  rw [rdFrom_add, rdFrom_of h a Fk.n (off + 0) (Fk.enc (g x)) (Fk.len _) (fun j hj => ?_), Option.bind_some, Fk.full]
  have h7 := h6 (off + j) (by omega)
  rw [Nat.zero_add] at h7
  rw [Nat.add_zero, h7, ← h5, List.getElem?_take_of_lt hj, List.getElem?_drop]

/-! bytes -/
def toB (xs : List Int) : ByteArray := ⟨(xs.map fun n => UInt8.ofNat n.toNat).toArray⟩
theorem asBytes_encs : ∀ (xs : List Int), asBytes (encs (kI .u8) xs) = some (xs.map fun n => UInt8.ofNat n.toNat)
  | [] => rfl
  | x :: xs => by
    have h : encs (kI .u8) (x :: xs) = .int .u8 x :: encs (kI .u8) xs := rfl
    rw [h]
    simp only [asBytes, asBytes_encs xs, Option.map_some, List.map_cons]
theorem Rds.b2s {h : H} {s : Sl} {xs : List Int} (R : Rds (kI .u8) h s xs) : b2s s h = some (toB xs) := by
  unfold Tr.b2s
  have : Tr.rdSl 1 s s.len h = some (encs (kI .u8) xs) := R.rdAll
  rw [this, Option.bind_some, asBytes_encs, Option.map_some]; rfl
end Go.Tr
