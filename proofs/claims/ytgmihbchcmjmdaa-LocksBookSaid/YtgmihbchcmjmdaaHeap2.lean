/- Slices grown, made, cut and copied, by the lists that they show; loops. -/
import Derived.Test.YtgmihbchcmjmdaaHeap
namespace Go.Tr
open Go

theorem jn_i {α : Type} {m : (α → H → Prop) → Prop} {Q : α → H → Prop} (k : m Q) : jn m Q := k
/-- Ways that come to one value, the heap as it was. -/
theorem jn_c {α : Type} {m : (α → H → Prop) → Prop} {Q : α → H → Prop} (c : α) (h : H) (hm : ∀ K : α → H → Prop, K c h → m K) (k : Q c h) : jn m Q := hm Q k
theorem ite_t {c : Bool} {A B : Prop} (h : c = true) (k : A) : if c = true then A else B := by rw [if_pos h]; exact k
theorem ite_f {c : Bool} {A B : Prop} (h : c = false) (k : B) : if c = true then A else B := by rw [h, if_neg (by simp)]; exact k
theorem ite_b {c : Bool} {A B : Prop} (kt : c = true → A) (kf : c = false → B) : if c = true then A else B := by
  cases c
  · exact ite_f rfl (kf rfl)
  · exact ite_t rfl (kt rfl)
theorem loopE_rule {σ β : Type} {body : σ → H → (σ ⊕ β → H → Prop) → Prop} {s : σ} {h : H} {Q : β → H → Prop} (I : Nat → σ → H → Prop) (n : Nat) (h0 : I n s h)
    (step : ∀ (n : Nat) (s : σ) (h : H) (K : σ ⊕ β → H → Prop), I n s h → (∀ m s' h', m < n → I m s' h' → K (.inl s') h') → (∀ b h', Q b h' → K (.inr b) h') → body s h K) : loopE body s h Q := by
  have key : ∀ n k s h, n < k → I n s h → loopW body k s h Q := by
    intro n
    induction n using Nat.strongRecOn with
    | _ n ih =>
      intro k s h hk hI
      cases k with
      | zero => omega
      | succ k => exact step n s h _ hI (fun m s' h' hm hI' => ih m hm k s' h' (by omega) hI') (fun b h' q => q)
  exact ⟨n + 1, key n (n + 1) s h (by omega) h0⟩

theorem growBy_le (n B : Nat) (hB : n + (n + 768) / 4 ≤ B) : ∀ (r c : Nat), c ≤ B → Builtin.growBy n r c ≤ B
  | 0, c, h => h
  | r + 1, c, h => by
    unfold Builtin.growBy
    split
    · exact h
    · exact growBy_le n B hB r _ (by omega)
theorem nextcap_le (n c : Nat) (h : c < n) : Builtin.nextslicecap n c ≤ 2 * n + 192 := by
  unfold Builtin.nextslicecap
  split
  · omega
  · split
    · omega
    · exact growBy_le n _ (by omega) 4 c (by omega)

theorem getD_mod (l : List Value) (hl : 0 < l.length) : ∀ (n i : Nat), i < n * l.length → (List.replicate n l).flatten[i]? = l[i % l.length]?
  | 0, i, h => by omega
  | n + 1, i, h => by
    simp only [List.replicate_succ, List.flatten_cons]
    rw [Nat.add_mul] at h
    by_cases hi : i < l.length
    · rw [List.getElem?_append_left hi, Nat.mod_eq_of_lt hi]
    · rw [List.getElem?_append_right (by omega), getD_mod l hl n (i - l.length) (by omega)]
      congr 1
      conv => rhs; rw [show i = (i - l.length) + l.length from by omega, Nat.add_mod_right]
theorem encs_replicate {α : Type} (K : Kd α) (z : α) (n : Nat) : encs K (List.replicate n z) = (List.replicate n (K.enc z)).flatten := by
  unfold encs; rw [List.flatMap_def, List.map_replicate]
theorem mkCells_encs {α : Type} (K : Kd α) (z : α) (n : Nat) (hK : 0 < K.n) : mkCells (K.enc z) (n * K.n) = encs K (List.replicate n z) := by
  rw [encs_replicate]
  have hl := K.len z
  unfold mkCells
  apply List.ext_getElem?
  intro i
  by_cases hi : i < n * K.n
  · rw [List.getElem?_map, List.getElem?_range hi, getD_mod (K.enc z) (by omega) n i (by rw [hl]; exact hi)]
    have : i % (K.enc z).length < (K.enc z).length := Nat.mod_lt _ (by omega)
    simp [this]
  · have h2 : ((List.replicate n (K.enc z)).flatten).length = n * K.n := by rw [← encs_replicate, encs_len]; simp
    rw [List.getElem?_eq_none (by simp; omega), List.getElem?_eq_none (by omega)]
theorem zCells_encs {α : Type} (K : Kd α) (z : α) (n : Nat) (hK : 0 < K.n) : zCells (K.enc z) n = encs K (List.replicate n z) := by
  rw [← mkCells_encs K z n hK]
  unfold zCells mkCells
  rw [K.len]
  simp [K.len]

/-- append. -/
theorem ap_own {α : Type} {K : Kd α} (hK : 0 < K.n) {bytes : Nat} {t : TypeId} {z : α} {h : H} {F : Nat → Prop} {s x : Sl} {xs ys : List α} (o : Own K h F s xs) (hy : rdSl K.n x x.len h = some (encs K ys)) (hl : x.len = ys.length)
    (hb : (2 * (xs.length + ys.length) + 192) * bytes ≤ 281474976710656) (hb2 : xs.length + ys.length < 4611686018427387904) {Q : Sl → H → Prop}
    (k : ∀ s' h', Own K h' (fun b => F b ∨ b = h.size) s' (xs ++ ys) → Fr F h h' → Q s' h') : ap K.n bytes t (K.enc z) s x h Q := by
  refine ⟨_, hy, ?_⟩
  have h1 := o.len
  rw [h1, hl]
  split
  · rename_i hle
    obtain ⟨_, ⟨hc0, rfl⟩ | ⟨b, pre, post, rest, ha, hF, hc, A⟩⟩ := o
    · have e2 : ys.length = 0 := by rw [hc0] at hle; simp at hle; simp [hle]
      have e4 := List.length_eq_zero_iff.1 e2
      subst e4
      refine ⟨h, ?_, k _ _ ⟨by simp, .inl ⟨hc0, rfl⟩⟩ (Fr.refl _ _)⟩
      unfold wrSl
      cases s.a <;> rfl
    · have hll := encs_len K (pre ++ (xs ++ (post ++ rest)))
      have hly := encs_len K ys
      have e1 : (pre ++ (xs ++ (post ++ rest))).length * K.n = pre.length * K.n + xs.length * K.n + post.length * K.n + rest.length * K.n := by simp only [List.length_append, Nat.add_mul]; omega
      have e2 : ys.length * K.n ≤ post.length * K.n := Nat.mul_le_mul_right _ (by omega)
      obtain ⟨h', hw, B, O⟩ := Blk.wr (o := pre.length * K.n + xs.length * K.n) (vs := encs K ys) A (by rw [hll, hly, e1]; omega) (encs_one K ys)
      refine ⟨h', by unfold wrSl; rw [ha]; simpa using hw, k _ _ ?_ (Fr.only O hF)⟩
      refine ⟨by simp, .inr ⟨b, pre, post.drop ys.length, rest, ha, .inl hF, by simp; omega, ?_⟩⟩
      unfold Arr
      have e3 : encs K (pre ++ (xs ++ (post ++ rest))) = encs K (pre ++ xs) ++ encs K (post ++ rest) ++ [] := by rw [← List.append_assoc, encs_append]; simp
      have e4 : pre.length * K.n + xs.length * K.n = (encs K (pre ++ xs)).length + 0 := by rw [encs_len]; simp [Nat.add_mul]
      rw [e3, e4, splice_mid _ _ _ _ _ (by rw [hly, encs_len, List.length_append, Nat.add_mul]; omega)] at B
      have e5 : splice (encs K (post ++ rest)) 0 (encs K ys) = encs K ys ++ encs K (post.drop ys.length ++ rest) := by
        unfold splice
        simp only [List.take_zero, List.nil_append, Nat.zero_add]
        congr 1
        rw [hly]
        have e6 : post ++ rest = post.take ys.length ++ (post.drop ys.length ++ rest) := by rw [← List.append_assoc, List.take_append_drop]
        conv => lhs; rw [e6, encs_append]
        have e7 : ys.length * K.n = (encs K (post.take ys.length)).length := by rw [encs_len, List.length_take, Nat.min_eq_left (by omega)]
        rw [e7, List.drop_left]
      rw [e5] at B
      have e8 : encs K (pre ++ (xs ++ ys ++ (post.drop ys.length ++ rest))) = encs K (pre ++ xs) ++ (encs K ys ++ encs K (post.drop ys.length ++ rest)) ++ [] := by
        simp only [encs_append, List.append_assoc, List.append_nil]
      rw [e8]; exact B
  · rename_i hle
    have hcap := o.le_cap
    refine ⟨⟨by omega, Nat.le_trans (Nat.mul_le_mul_right _ (nextcap_le _ _ (by omega))) hb⟩, _, o.rdSl (Nat.le_refl _), fun cap hc1 hc2 => k _ _ ?_ (Fr.push h _)⟩
    refine ⟨by simp, .inr ⟨h.size, [], List.replicate (cap - (xs.length + ys.length)) z, [], by simp, .inr rfl, by simp; omega, ?_⟩⟩
    rw [zCells_encs K z _ hK, List.take_length]
    have : encs K xs ++ encs K ys ++ encs K (List.replicate (cap - (xs.length + ys.length)) z) = encs K ([] ++ (xs ++ ys ++ (List.replicate (cap - (xs.length + ys.length)) z ++ []))) := by simp only [List.nil_append, List.append_nil, encs_append]
    rw [this]
    exact Arr.push K h _ t

/-- make. -/
theorem mk_own {α : Type} {K : Kd α} (hK : 0 < K.n) {bytes : Nat} {t : TypeId} {z : α} {h : H} {n : Nat} (hb : bytes * n ≤ 281474976710656) (hb2 : n < 4611686018427387904) {Q : Sl → H → Prop}
    (k : ∀ s' h', s' = ⟨some ⟨h.size, 0, none⟩, n, n⟩ → Own K h' (fun b => b = h.size) s' (List.replicate n z) → Arr K h' h.size (List.replicate n z) → Ext h h' → h'.size = h.size + 1 → Q s' h') : mk K.n bytes t (K.enc z) (n : Int) (n : Int) h Q := by
  have hb' : (bytes : Int) * (n : Int) ≤ 281474976710656 := by
    rw [← Int.natCast_mul]; omega
  refine ⟨⟨by omega, by omega, hb', by omega⟩, ?_⟩
  have e : (n : Int).toNat = n := Int.toNat_natCast n
  rw [e, mkCells_encs K z n hK]
  have A : Arr K (h.push (.cells (encs K (List.replicate n z)).toArray t)) h.size (List.replicate n z) := Arr.push K h _ t
  exact k _ _ rfl ⟨by simp, .inr ⟨h.size, [], [], [], by simp, rfl, by simp, by simpa using A⟩⟩ A (Ext.push _ _) (Array.size_push ..)

/-- A slice literal. -/
theorem bs_own {α : Type} {K : Kd α} {t : TypeId} {n : Nat} {cs : List Value} {h : H} (ys : List α) (hc : cs = encs K ys) (hn : n = ys.length) {Q : Sl → H → Prop}
    (k : ∀ s' h', Own K h' (fun b => b = h.size) s' ys → s'.len = ys.length → Ext h h' → h'.size = h.size + 1 → Q s' h') : bs t n cs h Q := by
  subst hc hn
  have A : Arr K (h.push (.cells (encs K ys).toArray t)) h.size ys := Arr.push K h _ t
  exact k _ _ ⟨rfl, .inr ⟨h.size, [], [], [], by simp, rfl, by simp, by simpa using A⟩⟩ rfl (Ext.push _ _) (Array.size_push ..)
/-- A new variable. -/
theorem al_var {α : Type} {K : Kd α} {t : TypeId} {x : α} {h : H} {Q : Addr → H → Prop} (k : ∀ b h', b = h.size → Var K h' b x → Ext h h' → h'.size = h.size + 1 → Q ⟨b, 0, none⟩ h') : al t (K.enc x) h Q :=
  k _ _ rfl (Var.push K h x t) (Ext.push _ _) (Array.size_push ..)

/-- s[k:] -/
theorem slx_lo {α : Type} {K : Kd α} {h : H} {F : Nat → Prop} {s : Sl} {xs : List α} (o : Own K h F s xs) {k : Nat} (hk : k ≤ xs.length) :
    ∃ s', slx K.n s (some (k : Int)) none none = some s' ∧ Own K h F s' (xs.drop k) ∧ (∀ a', s'.a = some a' → ∃ a, s.a = some a) := by
  have h1 := o.len
  have h2 := o.le_cap
  have hb : bndI (k : Int) s.len = some k := by unfold bndI; rw [if_pos (by omega)]; simp
  refine ⟨⟨if s.cap = k then s.a else s.a.map (fun a => a.add (k * K.n)), s.len - k, s.cap - k⟩, ?_, ?_, ?_⟩
  · unfold slx; simp [hb]
  · obtain ⟨_, ⟨hc0, rfl⟩ | ⟨b, pre, post, rest, ha, hF, hc, A⟩⟩ := o
    · exact ⟨by simp at hk ⊢; omega, .inl ⟨by simp; omega, by simp⟩⟩
    · refine ⟨by simp [h1], .inr ?_⟩
      by_cases e : s.cap = k
      · have e1 : xs.length = k := by omega
        have e2 : post = [] := List.length_eq_zero_iff.1 (by omega)
        subst e2
        refine ⟨b, pre, [], xs ++ rest, by simp [e, ha], hF, by simp; omega, ?_⟩
        rw [List.drop_of_length_le (by omega)]
        simpa using A
      · refine ⟨b, pre ++ xs.take k, post, rest, ?_, hF, by simp; omega, ?_⟩
        · have : min k xs.length = k := Nat.min_eq_left hk
          simp [e, ha, Nat.add_mul, this]
        · have : pre ++ xs.take k ++ (xs.drop k ++ (post ++ rest)) = pre ++ (xs ++ (post ++ rest)) := by
            rw [List.append_assoc, ← List.append_assoc (xs.take k), List.take_append_drop]
          rw [this]; exact A
  · intro a' ha'
    simp only at ha'
    split at ha'
    · exact ⟨a', ha'⟩
    · cases hs : s.a with
      | none => rw [hs] at ha'; cases ha'
      | some a => exact ⟨a, rfl⟩
/-- s[:n] -/
theorem slx_hi {α : Type} {K : Kd α} {h : H} {F : Nat → Prop} {s : Sl} {xs : List α} (o : Own K h F s xs) {n : Nat} (hn : n ≤ xs.length) :
    slx K.n s none (some (n : Int)) none = some ⟨s.a, n, s.cap⟩ ∧ Own K h F ⟨s.a, n, s.cap⟩ (xs.take n) := by
  have h1 := o.len
  have h2 := o.le_cap
  have hb : bndI (n : Int) s.cap = some n := by unfold bndI; rw [if_pos (by omega)]; simp
  constructor
  · unfold slx
    simp only [Option.bind_some, hb, Option.map_some, Nat.sub_zero, Nat.zero_mul]
    congr 1
    split
    · rfl
    · cases hs : s.a with
      | none => simp
      | some a => simp [Addr.add]
  · refine ⟨by simp [Nat.min_eq_left hn], ?_⟩
    obtain ⟨_, ⟨hc0, rfl⟩ | ⟨b, pre, post, rest, ha, hF, hc, A⟩⟩ := o
    · exact .inl ⟨hc0, by simp⟩
    · refine .inr ⟨b, pre, xs.drop n ++ post, rest, ha, hF, by simp; omega, ?_⟩
      have : pre ++ (xs.take n ++ (xs.drop n ++ post ++ rest)) = pre ++ (xs ++ (post ++ rest)) := by
        rw [List.append_assoc (xs.drop n), ← List.append_assoc (xs.take n), List.take_append_drop]
      rw [this]; exact A
/-- copy, the target no longer than the source. -/
theorem cpy_own {α : Type} {K : Kd α} {h : H} {F G : Nat → Prop} {d s : Sl} {xs ys : List α} (o : Own K h F d xs) (os : Own K h G s ys) (hl : xs.length = ys.length) :
    ∃ h', cpy K.n d s h = some h' ∧ Own K h' F d ys ∧ Fr F h h' ∧ h'.size = h.size := by
  have h1 := o.len
  have h2 := os.len
  unfold cpy
  have hm : min s.len d.len = ys.length := by omega
  rw [hm, os.rdSl (Nat.le_refl _), Option.bind_some, List.take_length]
  obtain ⟨_, ⟨hc0, rfl⟩ | ⟨b, pre, post, rest, ha, hF, hc, A⟩⟩ := o
  · have e2 := List.length_eq_zero_iff.1 (by simpa using hl.symm : ys.length = 0)
    subst e2
    refine ⟨h, ?_, ⟨by simpa using h1, .inl ⟨hc0, rfl⟩⟩, Fr.refl _ _, rfl⟩
    unfold wrSl
    cases d.a <;> rfl
  · have hll := encs_len K (pre ++ (xs ++ (post ++ rest)))
    have hly := encs_len K ys
    have e1 : (pre ++ (xs ++ (post ++ rest))).length * K.n = pre.length * K.n + xs.length * K.n + (post ++ rest).length * K.n := by simp only [List.length_append, Nat.add_mul]; omega
    rw [hl] at e1
    obtain ⟨h', hw, B, O⟩ := Blk.wr (o := pre.length * K.n) (vs := encs K ys) A (by rw [hll, hly, e1]; omega) (encs_one K ys)
    refine ⟨h', by unfold wrSl; rw [ha]; simpa using hw, ⟨by omega, .inr ⟨b, pre, post, rest, ha, hF, by omega, ?_⟩⟩, Fr.only O hF, O.1⟩
    have e2 : encs K (pre ++ (xs ++ (post ++ rest))) = encs K pre ++ encs K xs ++ encs K (post ++ rest) := by simp only [encs_append, List.append_assoc]
    have e3 : pre.length * K.n = (encs K pre).length + 0 := by rw [encs_len]; rfl
    rw [e2, e3, splice_mid _ _ _ _ _ (by rw [hly, encs_len, hl]; omega)] at B
    have e4 : splice (encs K xs) 0 (encs K ys) = encs K ys := by
      unfold splice
      rw [List.take_zero, List.drop_of_length_le (by rw [encs_len, hly, hl]; omega), List.nil_append, List.append_nil]
    rw [e4] at B
    unfold Arr
    have e5 : encs K (pre ++ (ys ++ (post ++ rest))) = encs K pre ++ encs K ys ++ encs K (post ++ rest) := by simp only [encs_append, List.append_assoc]
    rw [e5]; exact B
/-- []byte(s) -/
def bytesI (s : ByteArray) : List Int := s.data.toList.map fun b => (b.toNat : Int)
theorem s2b_own {t : TypeId} {s : ByteArray} {h : H} (hs : s.size < 9223372036854775808) {Q : Sl → H → Prop}
    (k : ∀ s' h', Own (kI .u8) h' (fun b => b = h.size) s' (bytesI s) → Ext h h' → h'.size = h.size + 1 → Q s' h') : s2b t s h Q := by
  refine ⟨hs, fun cap h1 h2 => k _ _ ?_ (Ext.push _ _) (Array.size_push ..)⟩
  have hd : s.data.toList.length = s.size := rfl
  have hsz : (Array.map (fun b => Value.int IntKind.u8 ↑b.toNat) s.data ++ Array.replicate (cap - s.size) (Value.int IntKind.u8 0)).size = cap := by
    have : s.data.size = s.size := rfl
    simp; omega
  refine ⟨by simp [bytesI], .inr ⟨h.size, [], List.replicate (cap - s.size) 0, [], by simp, rfl, by simp [bytesI]; omega, ?_⟩⟩
  have B := Blk.push_fz h (Array.map (fun b => Value.int IntKind.u8 ↑b.toNat) s.data ++ Array.replicate (cap - s.size) (Value.int IntKind.u8 0)) t cap (by omega)
  unfold Arr
  have e : encs (kI .u8) ([] ++ (bytesI s ++ (List.replicate (cap - s.size) 0 ++ []))) = (Array.map (fun b => Value.int IntKind.u8 ↑b.toNat) s.data ++ Array.replicate (cap - s.size) (Value.int IntKind.u8 0)).toList := by
    simp only [List.nil_append, List.append_nil, encs_append, encs_replicate]
    simp [encs, bytesI, kI, List.flatMap_map]
    have : ∀ n, (List.replicate n [Value.int IntKind.u8 0]).flatten = List.replicate n (Value.int IntKind.u8 0) := by
      intro n; induction n with
      | zero => rfl
      | succ n ih => simp [List.replicate_succ, ih]
    simp [List.flatMap_def]
    induction s.data.toList with
    | nil => rfl
    | cons b l ih => simp [ih]
  rw [e]; exact B
end Go.Tr
