/- Parts of kinds, put together: pairs, structs, arrays. -/
import Derived.Test.YtgmihbchcmjmdaaHeap2
import Derived.Test.YtgmihbchcmjmdaaKinds
namespace Go.Tr
open Go
theorem Fld.fst {α β γ : Type} {A : Kd α} {B : Kd β} {G : Kd γ} {off : Nat} {g : α → γ} {p : α → γ → α} (f : Fld A G off g p) : Fld (kPair A B) G off (fun x => g x.1) (fun x v => (p x.1 v, x.2)) where
  le := by have := f.le; show off + G.n ≤ A.n + B.n; omega
  get x := by
    have h1 := f.le
    have h2 := A.len x.1
    show ((A.enc x.1 ++ B.enc x.2).drop off).take G.n = _
    rw [List.drop_append_of_le_length (by omega), List.take_append_of_le_length (by simp; omega), f.get]
  put x v := by
    have h1 := f.le
    have h2 := A.len x.1
    have h3 := G.len v
    show splice (A.enc x.1 ++ B.enc x.2) off (G.enc v) = A.enc (p x.1 v) ++ B.enc x.2
    rw [← f.put]
    have := splice_mid [] (A.enc x.1) (B.enc x.2) off (G.enc v) (by omega)
    simpa using this
theorem Fld.snd {α β γ : Type} {A : Kd α} {B : Kd β} {G : Kd γ} {off : Nat} {g : β → γ} {p : β → γ → β} (f : Fld B G off g p) : Fld (kPair A B) G (A.n + off) (fun x => g x.2) (fun x v => (x.1, p x.2 v)) where
  le := by have := f.le; show A.n + off + G.n ≤ A.n + B.n; omega
  get x := by
    have h2 := A.len x.1
    show ((A.enc x.1 ++ B.enc x.2).drop (A.n + off)).take G.n = _
    rw [← h2, List.drop_length_add_append, f.get]
  put x v := by
    have h1 := f.le
    have h2 := A.len x.1
    have h3 := G.len v
    have h4 := B.len x.2
    show splice (A.enc x.1 ++ B.enc x.2) (A.n + off) (G.enc v) = A.enc x.1 ++ B.enc (p x.2 v)
    rw [← f.put, ← h2]
    have := splice_mid (A.enc x.1) (B.enc x.2) [] off (G.enc v) (by omega)
    simpa using this
theorem Fld.iso {α β γ : Type} {A : Kd α} {G : Kd γ} {off : Nat} {g : α → γ} {p : α → γ → α} (f : Fld A G off g p) {to : β → α} {fr : α → β} {h1 : ∀ x, fr (to x) = x} {h2 : ∀ y, to (fr y) = y} : Fld (kIso A to fr h1 h2) G off (fun y => g (to y)) (fun y v => fr (p (to y) v)) where
  le := f.le
  get x := f.get _
  put x v := by
    show splice (A.enc (to x)) off (G.enc v) = A.enc (to (fr (p (to x) v)))
    rw [h2, f.put]
theorem Fld.arr {α : Type} (K : Kd α) (n i : Nat) (hi : i < n) : Fld (kA n K) K (i * K.n) (fun x => x.l[i]'(by rw [x.h]; exact hi)) (fun x v => x.set i v) where
  le := by
    have : (i + 1) * K.n ≤ n * K.n := Nat.mul_le_mul_right _ hi
    rw [Nat.add_mul] at this
    show i * K.n + K.n ≤ n * K.n
    omega
  get x := by
    have hl : i < x.l.length := by rw [x.h]; exact hi
    show ((encs K x.l).drop (i * K.n)).take K.n = _
    have h1 : (encs K (x.l.take i)).length = i * K.n := by rw [encs_len, List.length_take, Nat.min_eq_left (by omega)]
    rw [encs_split K x.l i hl, ← h1]
    have := drop_take_mid (encs K (x.l.take i)) (K.enc x.l[i]) (encs K (x.l.drop (i + 1))) 0 K.n (by rw [K.len]; omega)
    rw [Nat.add_zero] at this
    rw [this, List.drop_zero, List.take_of_length_le (by rw [K.len]; omega)]
  put x v := by
    have hl : i < x.l.length := by rw [x.h]; exact hi
    show splice (encs K x.l) (i * K.n) (K.enc v) = encs K (x.l.set i v)
    have h1 : (encs K (x.l.take i)).length = i * K.n := by rw [encs_len, List.length_take, Nat.min_eq_left (by omega)]
    have hl' : i < (x.l.set i v).length := by simpa using hl
    have e1 : (x.l.set i v).take i = x.l.take i := by rw [List.take_set_of_le (Nat.le_refl _)]
    have e2 : (x.l.set i v).drop (i + 1) = x.l.drop (i + 1) := by rw [List.drop_set_of_lt (Nat.lt_succ_self i)]
    rw [encs_split K x.l i hl, encs_split K _ i hl', e1, e2, List.getElem_set_self, ← h1]
    have := splice_mid (encs K (x.l.take i)) (K.enc x.l[i]) (encs K (x.l.drop (i + 1))) 0 (K.enc v) (by rw [K.len, K.len]; omega)
    simp only [Nat.add_zero] at this
    rw [this]
    congr 2
    unfold splice
    rw [List.take_zero, List.nil_append, List.drop_of_length_le (by rw [K.len, K.len]; omega), List.append_nil]
/-- A part of a part. -/
theorem Fld.comp {α β γ : Type} {K : Kd α} {F : Kd β} {G : Kd γ} {o1 o2 : Nat} {g1 : α → β} {p1 : α → β → α} {g2 : β → γ} {p2 : β → γ → β} (f1 : Fld K F o1 g1 p1) (f2 : Fld F G o2 g2 p2) : Fld K G (o1 + o2) (fun x => g2 (g1 x)) (fun x v => p1 x (p2 (g1 x) v)) where
  le := by have := f1.le; have := f2.le; omega
  get x := by
    have h1 := f2.get (g1 x)
    rw [← f1.get, List.drop_take, List.drop_drop, List.take_take] at h1
    have := f2.le
    rw [Nat.min_eq_left (by omega)] at h1
    exact h1
  put x v := by
    have h1 := f2.put (g1 x) v
    have h2 := f1.put x (p2 (g1 x) v)
    have e1 := f1.le
    have e2 := f2.le
    have l1 := K.len x
    have l2 := G.len v
    have l3 := F.len (g1 x)
    rw [← h2, ← h1, ← f1.get]
    unfold splice
    have l4 : (((K.enc x).drop o1).take F.n).length = F.n := by simp; omega
    simp only [List.length_append, List.length_take, List.length_drop, l1, l2]
    have e3 : min o2 (min F.n (K.n - o1)) + G.n + (min F.n (K.n - o1) - (o2 + G.n)) = F.n := by omega
    rw [e3]
    rw [List.take_take, Nat.min_eq_left (by omega), ← List.append_assoc, ← List.append_assoc, List.take_add]
    simp only [List.append_assoc]
    congr 3
    rw [List.drop_take, List.drop_drop]
    have e4 : (K.enc x).drop (o1 + o2 + G.n) = ((K.enc x).drop (o1 + (o2 + G.n))).take (F.n - (o2 + G.n)) ++ (K.enc x).drop (o1 + F.n) := by
      rw [show o1 + o2 + G.n = o1 + (o2 + G.n) by omega]
      conv => lhs; rw [← List.take_append_drop (F.n - (o2 + G.n)) ((K.enc x).drop (o1 + (o2 + G.n)))]
      rw [List.drop_drop, show o1 + (o2 + G.n) + (F.n - (o2 + G.n)) = o1 + F.n by omega]
    rw [e4]
theorem wrap64_id {n : Int} (h0 : -9223372036854775808 ≤ n) (h1 : n < 9223372036854775808) : IntKind.i64.wrap n = n := by
  have e : IntKind.i64.bits = 64 := rfl
  have s : IntKind.i64.signed = true := rfl
  unfold IntKind.wrap
  rw [e, s]
  have h2 : (2 : Int) ^ 64 = 18446744073709551616 := by decide
  have h3 : (2 : Int) ^ (64 - 1) = 9223372036854775808 := by decide
  simp only [h2, h3, Bool.true_and, ge_iff_le, decide_eq_true_eq]
  by_cases hn : 0 ≤ n
  · have : n % 18446744073709551616 = n := Int.emod_eq_of_lt hn (by omega)
    rw [this, if_neg (by omega)]
  · have : n % 18446744073709551616 = n + 18446744073709551616 := by omega
    rw [this, if_pos (by omega)]; omega
theorem ixR_at {b o n size : Nat} {i : Nat} (hi : i < n) : ixR n size ⟨b, o, none⟩ (i : Int) = some ⟨b, o + i * size, none⟩ := by
  unfold ixR
  rw [if_pos (by omega), add_mk, Int.toNat_natCast]
end Go.Tr
