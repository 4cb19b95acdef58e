/- The rules by which a printed walk goes, and the words of the printed functions. -/
import Derived.Test.YtgmihbchcmjmdaaPrim
namespace Go.Tr
open Go

/-! ### words -/
def rd {α : Type} (o : Option α) (K : α → Prop) : Prop := ∃ x, o = some x ∧ K x
def jn {α : Type} (m : (α → H → Prop) → Prop) (Q : α → H → Prop) : Prop := m Q
def sumK {σ β : Type} (f : σ → H → Prop) (g : β → H → Prop) : σ ⊕ β → H → Prop
  | .inl s, h => f s h
  | .inr b, h => g b h
def loopW {σ β : Type} (body : σ → H → (σ ⊕ β → H → Prop) → Prop) : Nat → σ → H → (β → H → Prop) → Prop
  | 0, _, _, _ => False
  | k + 1, s, h, Q => body s h (sumK (fun s' h' => loopW body k s' h' Q) Q)
def loopE {σ β : Type} (body : σ → H → (σ ⊕ β → H → Prop) → Prop) (s : σ) (h : H) (Q : β → H → Prop) : Prop := ∃ k, loopW body k s h Q
theorem rd_some {α : Type} {o : Option α} {K : α → Prop} {x : α} (h : o = some x) (k : K x) : rd o K := ⟨x, h, k⟩
theorem rd_eq {α : Type} {o : Option α} {x : α} (h : o = some x) (K : α → Prop) : rd o K = K x := by
  subst h; simp [rd]

/-! slices -/
def rdSl (size : Nat) (s : Sl) (n : Nat) (h : H) : Option (List Value) :=
  match s.a with
  | some a => rdCells h a (n * size)
  | none => some []
def wrSl (size : Nat) (s : Sl) (at_ : Nat) (l : List Value) (h : H) : Option H :=
  match s.a with
  | some a => wrCells h (a.add (at_ * size)) l
  | none => some h
def mkCells (z : List Value) (n : Nat) : List Value := (List.range n).map fun i => z.toArray[i % z.toArray.size]!
def zCells (z : List Value) (n : Nat) : List Value := (List.range (n * z.length)).map fun i => z.toArray[i % z.length]!
/-- append: in place where there is room, else in new memory of whatever capacity. -/
def ap (size bytes : Nat) (elem : TypeId) (z : List Value) (s x : Sl) (h : H) (Q : Sl → H → Prop) : Prop :=
  ∃ new, rdSl size x x.len h = some new ∧
    if s.len + x.len ≤ s.cap then ∃ h', wrSl size s s.len new h = some h' ∧ Q ⟨s.a, s.len + x.len, s.cap⟩ h'
    else (s.len + x.len < 9223372036854775808 ∧ Builtin.nextslicecap (s.len + x.len) s.cap * bytes ≤ 281474976710656) ∧
      ∃ old, rdSl size s s.len h = some old ∧
        ∀ cap, s.len + x.len ≤ cap → cap < 9223372036854775808 → Q ⟨some ⟨h.size, 0, none⟩, s.len + x.len, cap⟩ (h.push (.cells (old ++ new ++ zCells z (cap - (s.len + x.len))).toArray elem))
def mk (size bytes : Nat) (elem : TypeId) (z : List Value) (l c : Int) (h : H) (Q : Sl → H → Prop) : Prop :=
  (0 ≤ l ∧ l ≤ c ∧ (bytes : Int) * c ≤ 281474976710656 ∧ c < 9223372036854775808) ∧ Q ⟨some ⟨h.size, 0, none⟩, l.toNat, c.toNat⟩ (h.push (.cells (mkCells z (c.toNat * size)).toArray elem))
def bndI (i : Int) (y : Nat) : Option Nat := if 0 ≤ i ∧ i ≤ (y : Int) then some i.toNat else none
def slx (size : Nat) (s : Sl) (lo hi mx : Option Int) : Option Sl :=
  (match mx with | some v => bndI v s.cap | none => some s.cap).bind fun m =>
  (match hi, mx with | some v, some _ => bndI v m | some v, none => bndI v s.cap | none, none => some s.len | none, some _ => none).bind fun h =>
  (match lo with | some v => bndI v h | none => some 0).map fun l => ⟨if m = l then s.a else s.a.map (fun a : Addr => a.add (l * size)), h - l, m - l⟩
def slS (s : ByteArray) (lo hi : Option Int) : Option ByteArray :=
  (match hi with | some v => bndI v s.size | none => some s.size).bind fun h =>
  (match lo with | some v => bndI v h | none => some 0).map fun l => s.extract l h
def cpy (size : Nat) (d s : Sl) (h : H) : Option H :=
  (rdSl size s (min s.len d.len) h).bind fun l => wrSl size d 0 l h
/-- []byte(s): new memory of whatever capacity. -/
def s2b (elem : TypeId) (s : ByteArray) (h : H) (Q : Sl → H → Prop) : Prop :=
  s.size < 9223372036854775808 ∧ ∀ cap, s.size ≤ cap → cap < 9223372036854775808 → Q ⟨some ⟨h.size, 0, none⟩, s.size, cap⟩ (h.push (.cells (s.data.map (fun b => Value.int .u8 b.toNat) ++ Array.replicate (cap - s.size) (.int .u8 0)) elem (cap, cap + 1)))

section
variable {P : Program} {E : Env} {o : Oper}

theorem run_firstCells {size : Nat} {s : Sl} {n : Nat} {h : H} {l : List Value} (hr : rdSl size s n h = some l) (c : Ctx) (d : Nat) : (Builtin.firstCells size n (.slice s.a s.len s.cap)).run P (c.w h d) = .ok l.toArray (c.w h d) := by
  unfold rdSl at hr
  unfold Builtin.firstCells
  cases ha : s.a with
  | some a => rw [ha] at hr; exact run_loadCells c h d a _ l hr
  | none => rw [ha] at hr; simp at hr; subst hr; simp

theorem zeroCells_eq (z : List Value) (n : Nat) : Builtin.zeroCells z.toArray n = (zCells z n).toArray := by
  unfold Builtin.zeroCells zCells
  apply Array.ext' ; simp

theorem run_append {t e ty : TypeId} {i : TypeInfo} {z : Value} {zc : List Value} {size bytes : Nat} (ht : P.underlying t = some (.slice e)) (hi : P.info? e = some i) (hz : i.zero = some z) (hzc : z.cells = zc.toArray) (hs : i.size = size) (hb : i.bytes = bytes)
    {s x : Sl} {h : H} {Q : Sl → H → Prop} (hF : ap size bytes e zc s x h Q) (c : Ctx) (d : Nat) :
    ∃ s' h' d', (Builtin.append_ #[t, t] ty #[s.val, x.val]).run P (c.w h d) = .ok s'.val (c.w h' d') ∧ Q s' h' := by
  obtain ⟨new, hn, hF⟩ := hF
  subst hs hb
  have hinfo : ∀ w : World, (typeInfo e).run P w = .ok i w := fun w => by simp [typeInfo, hi]
  have hsz : ∀ w : World, (sizeOf e).run P w = .ok i.size w := fun w => by simp [sizeOf, hinfo]
  have hzv : ∀ w : World, (zeroValue e).run P w = .ok z w := fun w => by simp [zeroValue, hinfo, hz]
  have hfx := fun (c : Ctx) (d : Nat) => run_firstCells (P := P) hn c d
  have hund : ∀ w : World, (underlying t).run P w = .ok (.slice e) w := run_underlying' ht
  split at hF
  · rename_i hle
    obtain ⟨h', hw, q⟩ := hF
    refine ⟨_, h', d, ?_, q⟩
    simp only [Builtin.append_, Sl.val, List.getElem?_toArray, List.getElem?_cons_zero, List.getElem?_cons_succ, Sem.run_bind, hund, Result.andThen_ok, hsz, Sem.run_pure, Bool.false_eq_true, if_false, Builtin.lenOf, hle, if_true, Bool.not_false]
    rw [hfx c d]
    simp only [Result.andThen_ok]
    unfold wrSl at hw
    cases ha : s.a with
    | none => rw [ha] at hw; simp at hw; subst hw; simp
    | some a =>
      rw [ha] at hw
      simp only [Sem.run_bind, run_storeCells c d (a.add (s.len * i.size)) new 0 h h' hw, Result.andThen_ok, Sem.run_pure]
  · rename_i hle
    obtain ⟨⟨hlt, hcap⟩, old, ho, q⟩ := hF
    have hfo := fun (c : Ctx) (d : Nat) => run_firstCells (P := P) ho c d
    have hmax : ¬ (((s.len + x.len : Nat) : Int) > IntKind.i64.max ∧ (False ∨ i.bytes = 0)) := by
      rintro ⟨h1, _⟩
      have : IntKind.i64.max = 9223372036854775807 := by decide
      omega
    have hcap' : ¬ (Builtin.nextslicecap (s.len + x.len) s.cap * i.bytes > 2 ^ 48) := by
      have : (2 : Nat) ^ 48 = 281474976710656 := by decide
      omega
    have hcut := c.tape d (.appendCap (s.len + x.len) s.cap e)
    have hb1 : s.len + x.len ≤ Question.cut (.appendCap (s.len + x.len) s.cap e) (c.tape d (.appendCap (s.len + x.len) s.cap e)) := by
      simp only [Question.cut]; omega
    have hb2 : Question.cut (.appendCap (s.len + x.len) s.cap e) (c.tape d (.appendCap (s.len + x.len) s.cap e)) < 9223372036854775808 := by
      simp only [Question.cut]
      have := Nat.mod_lt (c.tape d (.appendCap (s.len + x.len) s.cap e)) (show 0 < 2 ^ 63 - (s.len + x.len) by omega)
      omega
    refine ⟨_, _, d + 1, ?_, q _ hb1 hb2⟩
    simp only [Builtin.append_, Sl.val, List.getElem?_toArray, List.getElem?_cons_zero, List.getElem?_cons_succ, Sem.run_bind, hund, Result.andThen_ok, hsz, Sem.run_pure, Bool.false_eq_true, if_false, Builtin.lenOf, hle, hinfo, hmax, hcap', run_choose, Question.forced, run_askRoom]
    have hfo' := hfo c (d + 1)
    have hfx' := hfx c (d + 1)
    have hw1 : ({ c.w h d with drawn := (c.w h d).drawn + 1 } : World) = c.w h (d + 1) := rfl
    rw [hw1, hfo']
    simp only [Result.andThen_ok, Bool.not_false, if_true]
    rw [hfx']
    simp only [Result.andThen_ok, hzv, newRow, Sem.run_bind, run_newObj, Sem.run_pure, hzc, zeroCells_eq]
    simp only [List.append_toArray]
    rfl
theorem f_append {t e : TypeId} {i : TypeInfo} {z : Value} {zc : List Value} {size bytes : Nat} (ht : P.underlying t = some (.slice e)) (hi : P.info? e = some i) (hz : i.zero = some z) (hzc : z.cells = zc.toArray) (hs : i.size = size) (hb : i.bytes = bytes)
    {s x : Sl} {h : H} {u y : Operand} (ho : o.op = .call { callee := .builtin .append, args := #[u, y], argTypes := #[t, t] }) (hu : evE E u = s.val) (hy : evE E y = x.val) {Q : Sl → H → Prop} (hF : ap size bytes e zc s x h Q) :
    RunH P (execOp (evE E) o) h fun v h' => ∃ s' : Sl, v = s'.val ∧ Q s' h' := fun c d => by
  obtain ⟨s', h', d', hr, q⟩ := run_append (ty := o.type) ht hi hz hzc hs hb hF c d
  refine ⟨_, h', d', .inl ?_, s', rfl, q⟩
  rw [run_call_builtin _ ho]
  simp [builtin, hu, hy, hr]

structure ElemOK (P : Program) (e size bytes : Nat) (zc : List Value) : Prop where
  h : ∃ i z, P.info? e = some i ∧ i.zero = some z ∧ z.cells = zc.toArray ∧ i.size = size ∧ i.bytes = bytes
theorem f_appendE {t e : TypeId} {zc : List Value} {size bytes : Nat} (ht : P.underlying t = some (.slice e)) (hE : ElemOK P e size bytes zc)
    {s x : Sl} {h : H} {u y : Operand} (ho : o.op = .call { callee := .builtin .append, args := #[u, y], argTypes := #[t, t] }) (hu : evE E u = s.val) (hy : evE E y = x.val) {Q : Sl → H → Prop} (hF : ap size bytes e zc s x h Q) :
    RunH P (execOp (evE E) o) h fun v h' => ∃ s' : Sl, v = s'.val ∧ Q s' h' := by
  obtain ⟨i, z, hi, hz, hzc, hs, hb⟩ := hE.h
  exact f_append ht hi hz hzc hs hb ho hu hy hF

theorem mkCells_eq (z : List Value) (n : Nat) : ((Array.range n).map fun i => z.toArray[i % z.toArray.size]!) = (mkCells z n).toArray := by
  unfold mkCells; apply Array.ext'; simp
theorem wrap_i64 {n : Int} (h0 : 0 ≤ n) (h1 : n < 9223372036854775808) : IntKind.i64.wrap n = n := by
  have e : IntKind.i64.bits = 64 := rfl
  have s : IntKind.i64.signed = true := rfl
  unfold IntKind.wrap
  rw [e, s]
  have h2 : (2 : Int) ^ 64 = 18446744073709551616 := by decide
  have h3 : (2 : Int) ^ (64 - 1) = 9223372036854775808 := by decide
  simp only [h2, h3]
  have : n % 18446744073709551616 = n := Int.emod_eq_of_lt h0 (by omega)
  simp only [this]
  rw [if_neg]
  simp; omega
theorem f_makeSlice {t e : TypeId} {zc : List Value} {size bytes : Nat} (ht : P.underlying t = some (.slice e)) (hE : ElemOK P e size bytes zc) {x y : Operand} {l m : Int} {h : H} (ho : o.op = .makeSlice t x y) (hx : evE E x = .int .i64 l) (hy : evE E y = .int .i64 m)
    {Q : Sl → H → Prop} (hF : mk size bytes e zc l m h Q) : AllocAt P (execOp (evE E) o) h fun v h' => ∃ s' : Sl, v = s'.val ∧ Q s' h' := fun c d => by
  obtain ⟨i, z, hi, hz, hzc, hs, hb⟩ := hE.h
  subst hs hb
  obtain ⟨⟨h0, h1, h2, h3⟩, q⟩ := hF
  have hinfo : ∀ w : World, (typeInfo e).run P w = .ok i w := fun w => by simp [typeInfo, hi]
  have hsz : ∀ w : World, (sizeOf e).run P w = .ok i.size w := fun w => by simp [sizeOf, hinfo]
  have hzv : ∀ w : World, (zeroValue e).run P w = .ok z w := fun w => by simp [zeroValue, hinfo, hz]
  have w1 := wrap_i64 (n := m) (by omega) h3
  have w2 := wrap_i64 (n := l) h0 (by omega)
  have hp : (2 : Int) ^ 48 = 281474976710656 := by decide
  have hc1 : ¬ (m < 0) := by omega
  have hc2 : ¬ ((i.bytes : Int) * m > 281474976710656) := by omega
  have hc3 : ¬ (l < 0) := by omega
  have hc4 : ¬ (l > m) := by omega
  refine ⟨_, _, d, .inl ?_, Ext.push _ _, _, rfl, q⟩
  simp only [execOp, ho, hx, hy, Instr.makeSlice, Sem.run_bind, run_underlying' ht, Result.andThen_ok, asInt, asIntOf, Sem.run_pure, hinfo, w1, w2, hp, hc1, hc2, hc3, hc4, decide_false, Bool.or_false, Bool.false_eq_true, if_false, run_askRoom, hsz]
  by_cases hn : m.toNat * i.size = 0
  · simp only [hn, if_true, Sem.run_pure, Result.andThen_ok, newRow, Sem.run_bind, run_newObj]
    have e0 : ((Array.range 0).map fun i => (#[] : Array Value)[i % (#[] : Array Value).size]!) = (mkCells zc 0).toArray := by simp [mkCells]
    rw [e0]; rfl
  · simp only [hn, if_false, Sem.run_pure, Result.andThen_ok, newRow, Sem.run_bind, run_newObj, hzv, hzc, mkCells_eq]
    rfl

theorem run_sliceBound {v : Value} {k : IntKind} {i : Int} {y n : Nat} {code : BoundsCode} (hv : v = .int k i) (hb : bndI i y = some n) (w : World) : (Instr.sliceBound v y code).run P w = .ok n w := by
  subst hv
  unfold bndI at hb
  split at hb
  · rename_i h
    simp only [Option.some.injEq] at hb
    simp [Instr.sliceBound, asIntOf, h, hb]
  · cases hb
/-- A bound as it stands in the slots, and as a number. -/
def bndV (E : Env) : Option Operand → Option Int → Prop
  | none, none => True
  | some x, some i => ∃ k, evE E x = .int k i
  | _, _ => False
theorem bndV_none : bndV E none none := trivial
theorem bndV_some {x : Operand} {k : IntKind} {i : Int} (h : evE E x = .int k i) : bndV E (some x) (some i) := ⟨k, h⟩
theorem f_slice {t e : TypeId} {size : Nat} (ht : P.underlying t = some (.slice e)) (hsz : (P.info? e).map (·.size) = some size) {x : Operand} {lo hi mx : Option Operand} {s r : Sl} {l m u : Option Int} (ho : o.op = .slice t x lo hi mx) (hx : evE E x = s.val)
    (hl : bndV E lo l) (hh : bndV E hi m) (hm : bndV E mx u) (hr : slx size s l m u = some r) : PureAt P (execOp (evE E) o) r.val := fun w => by
  unfold slx at hr
  simp only [Option.bind_eq_some_iff, Option.map_eq_some_iff] at hr
  obtain ⟨M, hM, N, hN, L, hL, rfl⟩ := hr
  have key : (Instr.sliceBounds true s.len s.cap (lo.map (evE E)) (hi.map (evE E)) (mx.map (evE E))).run P w = .ok (L, N, M) w := by
    unfold Instr.sliceBounds
    cases mx with
    | none =>
      cases u with
      | some _ => exact hm.elim
      | none =>
        simp only [Option.some.injEq] at hM
        subst hM
        cases hi with
        | none =>
          cases m with
          | some _ => exact hh.elim
          | none =>
            simp only [Option.some.injEq] at hN; subst hN
            cases lo with
            | none =>
              cases l with
              | some _ => exact hl.elim
              | none => simp only [Option.some.injEq] at hL; subst hL; simp
            | some y =>
              cases l with
              | none => exact hl.elim
              | some i => obtain ⟨k, hk⟩ := hl; simp [run_sliceBound hk hL]
        | some y' =>
          cases m with
          | none => exact hh.elim
          | some j =>
            obtain ⟨k', hk'⟩ := hh
            cases lo with
            | none =>
              cases l with
              | some _ => exact hl.elim
              | none => simp only [Option.some.injEq] at hL; subst hL; simp [run_sliceBound hk' hN]
            | some y =>
              cases l with
              | none => exact hl.elim
              | some i => obtain ⟨k, hk⟩ := hl; simp [run_sliceBound hk' hN, run_sliceBound hk hL]
    | some y'' =>
      cases u with
      | none => exact hm.elim
      | some u' =>
        obtain ⟨k'', hk''⟩ := hm
        cases hi with
        | none =>
          cases m with
          | some _ => exact hh.elim
          | none => cases hN
        | some y' =>
          cases m with
          | none => exact hh.elim
          | some j =>
            obtain ⟨k', hk'⟩ := hh
            cases lo with
            | none =>
              cases l with
              | some _ => exact hl.elim
              | none => simp only [Option.some.injEq] at hL; subst hL; simp [run_sliceBound hk'' hM, run_sliceBound hk' hN]
            | some y =>
              cases l with
              | none => exact hl.elim
              | some i => obtain ⟨k, hk⟩ := hl; simp [run_sliceBound hk'' hM, run_sliceBound hk' hN, run_sliceBound hk hL]
  simp only [execOp, ho, hx, Instr.sliceAt, Instr.slice, Sl.val, Sem.run_bind, run_underlying' ht, Result.andThen_ok, key, run_sizeOf hsz, Sem.run_pure]
theorem f_sliceS {t : TypeId} (ht : P.underlying t = some .string) {x : Operand} {lo hi : Option Operand} {s r : ByteArray} {l m : Option Int} (ho : o.op = .slice t x lo hi none) (hx : evE E x = .string s)
    (hl : bndV E lo l) (hh : bndV E hi m) (hr : slS s l m = some r) : PureAt P (execOp (evE E) o) (.string r) := fun w => by
  unfold slS at hr
  simp only [Option.bind_eq_some_iff, Option.map_eq_some_iff] at hr
  obtain ⟨N, hN, L, hL, rfl⟩ := hr
  have key : (Instr.sliceBounds false s.size s.size (lo.map (evE E)) (hi.map (evE E)) none).run P w = .ok (L, N, s.size) w := by
    unfold Instr.sliceBounds
    cases hi with
    | none =>
      cases m with
      | some _ => exact hh.elim
      | none =>
        simp only [Option.some.injEq] at hN; subst hN
        cases lo with
        | none =>
          cases l with
          | some _ => exact hl.elim
          | none => simp only [Option.some.injEq] at hL; subst hL; simp
        | some y =>
          cases l with
          | none => exact hl.elim
          | some i => obtain ⟨k, hk⟩ := hl; simp [run_sliceBound hk hL]
    | some y' =>
      cases m with
      | none => exact hh.elim
      | some j =>
        obtain ⟨k', hk'⟩ := hh
        cases lo with
        | none =>
          cases l with
          | some _ => exact hl.elim
          | none => simp only [Option.some.injEq] at hL; subst hL; simp [run_sliceBound hk' hN]
        | some y =>
          cases l with
          | none => exact hl.elim
          | some i => obtain ⟨k, hk⟩ := hl; simp [run_sliceBound hk' hN, run_sliceBound hk hL]
  simp only [execOp, ho, hx, Instr.sliceAt, Instr.slice, Sem.run_bind, run_underlying' ht, Result.andThen_ok, Option.map_none, Option.isSome_none, Bool.false_eq_true, if_false, Sem.run_pure, key]
theorem f_buildSlice {t e : TypeId} {n size bytes : Nat} {zc : List Value} {parts : Array (Nat × Operand)} {cells : List Value} {h : H} (ht : P.underlying t = some (.slice e)) (hE : ElemOK P e size bytes zc) (hn : n * size ≤ 16777216) (ho : o.op = .buildSlice t n parts)
    (hf : Instr.fill (fun i => some (i * size, size)) (mkCells (if n * size = 0 then [] else zc) (n * size)).toArray (parts.map fun (i, x) => (i, evE E x)).toList = some cells.toArray) :
    AllocAt P (execOp (evE E) o) h fun u h' => u = (Sl.mk (some ⟨h.size, 0, none⟩) n n).val ∧ h' = h.push (.cells cells.toArray e) := fun c d => by
  obtain ⟨i, z, hi, hz, hzc, hs, hb⟩ := hE.h
  subst hs hb
  have hinfo : ∀ w : World, (typeInfo e).run P w = .ok i w := fun w => by simp [typeInfo, hi]
  have hsz : ∀ w : World, (sizeOf e).run P w = .ok i.size w := fun w => by simp [sizeOf, hinfo]
  have hzv : ∀ w : World, (zeroValue e).run P w = .ok z w := fun w => by simp [zeroValue, hinfo, hz]
  have hp : (2 : Nat) ^ 24 = 16777216 := by decide
  have hle : ¬ (n * i.size > 2 ^ 24) := by omega
  refine ⟨_, _, d, .inl ?_, Ext.push _ _, rfl, rfl⟩
  simp only [execOp, ho, Instr.buildSlice, Sem.run_bind, run_underlying' ht, hsz, Result.andThen_ok, hle, if_false, Sem.run_pure]
  by_cases h0 : n * i.size = 0
  · simp only [h0, if_true] at hf ⊢
    simp only [Sem.run_bind, Sem.run_pure, Result.andThen_ok]
    have : ((Array.range 0).map fun i => (#[] : Array Value)[i % (#[] : Array Value).size]!) = (mkCells [] 0).toArray := by simp [mkCells]
    rw [this, hf]
    simp only [newRow, Sem.run_bind, run_newObj, Result.andThen_ok, Sem.run_pure]
    rfl
  · simp only [h0, if_false] at hf ⊢
    simp only [Sem.run_bind, hzv, Sem.run_pure, Result.andThen_ok, hzc, mkCells_eq]
    rw [hf]
    simp only [newRow, Sem.run_bind, run_newObj, Result.andThen_ok, Sem.run_pure]
    rfl
theorem f_copy {t e : TypeId} {size : Nat} (ht : P.underlying t = some (.slice e)) (hsz : (P.info? e).map (·.size) = some size) {x y : Operand} {ts : Array TypeId} {s r : Sl} {h h' : H} (ht0 : ts[0]? = some t) (ho : o.op = .call { callee := .builtin .copy, args := #[x, y], argTypes := ts })
    (hx : evE E x = s.val) (hy : evE E y = r.val) (hc : cpy size s r h = some h') : RunH P (execOp (evE E) o) h fun v h1 => v = .int .i64 (min r.len s.len : Nat) ∧ h1 = h' := fun c d => by
  unfold cpy at hc
  simp only [Option.bind_eq_some_iff] at hc
  obtain ⟨l, hl, hw⟩ := hc
  refine ⟨_, h', d, .inl ?_, rfl, rfl⟩
  rw [run_call_builtin _ ho]
  simp only [builtin, Sem.run_bind, Builtin.copy_, List.map_toArray, List.map_cons, List.map_nil, hx, hy, Sl.val, ht0, List.getElem?_toArray, List.getElem?_cons_zero, List.getElem?_cons_succ, run_underlying' ht, Result.andThen_ok, Builtin.lenOf, Sem.run_pure, run_sizeOf hsz]
  have hmin : Nat.min r.len s.len = min r.len s.len := rfl
  rw [hmin, run_firstCells (P := P) hl c d]
  simp only [Result.andThen_ok]
  unfold wrSl at hw
  cases ha : s.a with
  | none => rw [ha] at hw; simp at hw; subst hw; simp [goInt]
  | some a =>
    rw [ha] at hw
    have : a.add (0 * size) = a := by simp [Addr.add]
    simp only [this] at hw
    simp only [Sem.run_bind, run_storeCells c d a l 0 h h' hw, Result.andThen_ok, Sem.run_pure, goInt]
theorem getElem_push (h : H) (o : Obj) : (h.push o)[h.size]? = some o := by simp
theorem modify_push (h : H) (o : Obj) (f : Obj → Obj) : (h.push o).modify h.size f = h.push (f o) := by
  apply Array.ext_getElem?
  intro i
  rw [Array.getElem?_modify, Array.getElem?_push, Array.getElem?_push]
  by_cases e : i = h.size
  · subst e; simp
  · rw [if_neg e, if_neg e, if_neg (Ne.symm e)]
theorem run_markStringish (c : Ctx) (h : H) (d : Nat) (cs : Array Value) (e : TypeId) : (markStringish ⟨h.size, 0, none⟩).run P (c.w (h.push (.cells cs e)) d) = .ok () (c.w (h.push (.cells cs e (cs.size, cs.size + 1))) d) := by
  have h1 : (c.w (h.push (.cells cs e)) d).shape? h.size = some (e, cs.size) := by simp [World.shape?]
  simp only [markStringish, Sem.run_bind, run_shape, h1, Result.andThen_ok, run_freeze]
  congr 1
  unfold World.freeze
  rw [if_neg (by decide)]
  simp only [Ctx.w, modify_push]
  simp
theorem f_s2b {s t e : TypeId} {x : Operand} {b : ByteArray} {h : H} {u : TypeDesc} (hs : P.underlying s = some u) (ht : P.underlying t = some (.slice e)) (he : P.underlying e = some (.int .u8)) (ho : o.op = .convert s t x) (hx : evE E x = .string b) {Q : Sl → H → Prop} (hF : s2b e b h Q) :
    AllocAt P (execOp (evE E) o) h fun v h' => ∃ s' : Sl, v = s'.val ∧ Q s' h' := fun c d => by
  obtain ⟨hlt, q⟩ := hF
  have hb1 : b.size ≤ Question.cut (.appendCap b.size 0 e) (c.tape d (.appendCap b.size 0 e)) := by
    simp only [Question.cut]; omega
  have hb2 : Question.cut (.appendCap b.size 0 e) (c.tape d (.appendCap b.size 0 e)) < 9223372036854775808 := by
    simp only [Question.cut]
    have := Nat.mod_lt (c.tape d (.appendCap b.size 0 e)) (show 0 < 2 ^ 63 - b.size by omega)
    omega
  refine ⟨_, _, d + 1, .inl ?_, Ext.push _ _, _, rfl, q _ hb1 hb2⟩
  have hsz : (Array.map (fun b => Value.int IntKind.u8 ↑b.toNat) b.data ++ Array.replicate (Question.cut (.appendCap b.size 0 e) (c.tape d (.appendCap b.size 0 e)) - b.size) (Value.int IntKind.u8 0)).size = Question.cut (.appendCap b.size 0 e) (c.tape d (.appendCap b.size 0 e)) := by
    have : b.data.size = b.size := rfl
    simp; omega
  simp only [execOp, ho, hx, convert, Sem.run_bind, run_underlying' hs, run_underlying' ht, run_underlying' he, Result.andThen_ok, Conv.stringToBytes, run_choose, Question.forced, Bool.false_eq_true, if_false, newRow, run_newObj, Sem.run_pure]
  have h1 := run_markStringish (P := P) c h (d + 1) (Array.map (fun b => Value.int IntKind.u8 ↑b.toNat) b.data ++ Array.replicate (Question.cut (.appendCap b.size 0 e) (c.tape d (.appendCap b.size 0 e)) - b.size) (Value.int IntKind.u8 0)) e
  rw [hsz] at h1
  have h2 : ∀ x : Sem Unit, x.run P (c.w (h.push (.cells (Array.map (fun b => Value.int IntKind.u8 ↑b.toNat) b.data ++ Array.replicate (Question.cut (.appendCap b.size 0 e) (c.tape d (.appendCap b.size 0 e)) - b.size) (Value.int IntKind.u8 0)) e)) (d + 1)) = x.run P { heap := (c.w h d).heap.push (.cells (Array.map (fun b => Value.int IntKind.u8 ↑b.toNat) b.data ++ Array.replicate (Question.cut (.appendCap b.size 0 e) ((c.w h d).tape (c.w h d).drawn (.appendCap b.size 0 e)) - b.size) (Value.int IntKind.u8 0)) e), tape := (c.w h d).tape, drawn := (c.w h d).drawn + 1, os := (c.w h d).os, output := (c.w h d).output } := fun _ => rfl
  rw [h2] at h1
  have h3 : (c.w h d).heap.size = h.size := rfl
  rw [h3, h1]
  rfl

/-! ### steps of a walk -/
variable {n : Nat} {ops : Array Oper} {l : List Oper} {h : H} {K : Env → H → Prop} {d i : Nat}
theorem w_none {y : Nat → Option Bool} (hg : o.guard = none) : Region.wanted o y = true := by simp [Region.wanted, hg]
theorem w_some {y : Nat → Option Bool} {j : Nat} {b e : Bool} (hg : o.guard = some (j, b)) (hy : y j = some e) (he : e = b) : Region.wanted o y = true := by simp [Region.wanted, hg, hy, he]
theorem w_not {y : Nat → Option Bool} {j : Nat} {b e : Bool} (hg : o.guard = some (j, b)) (hy : y j = some e) (he : e = !b) : Region.wanted o y = false := by
  simp only [Region.wanted, hg, hy, he]; cases b <;> simp
theorem w_undef {y : Nat → Option Bool} {j : Nat} {b : Bool} (hg : o.guard = some (j, b)) (hy : y j = none) : Region.wanted o y = false := by
  simp [Region.wanted, hg, hy]
theorem dst_ok (hd : o.dst = some d) (hn : Nat.blt d n = true) : ∀ k, o.dst = some k → k < n := fun k hk => by
  rw [hd] at hk; cases hk; rw [Nat.blt_eq] at hn; exact hn
theorem EvK.nil (hk : K E h) : EvK P n ops [] E h K := hk
theorem EvK.pure {v : Value} (hw : Region.wanted o (yE ops E) = true) (hd : o.dst = some d) (hn : Nat.blt d n = true) (f : PureAt P (execOp (evE E) o) v) (k : EvK P n ops l (upd E d v) h K) : EvK P n ops (o :: l) E h K :=
  ⟨dst_ok hd hn, by rw [if_pos hw]; exact .inl ((f.readAt h).runH (by rw [hd]; exact k))⟩
theorem EvK.read {v : Value} (hw : Region.wanted o (yE ops E) = true) (hd : o.dst = some d) (hn : Nat.blt d n = true) (f : ReadAt P (execOp (evE E) o) h v) (k : EvK P n ops l (upd E d v) h K) : EvK P n ops (o :: l) E h K :=
  ⟨dst_ok hd hn, by rw [if_pos hw]; exact .inl (f.runH (by rw [hd]; exact k))⟩
theorem EvK.alloc {QV : Value → H → Prop} (hw : Region.wanted o (yE ops E) = true) (hd : o.dst = some d) (hn : Nat.blt d n = true) (f : AllocAt P (execOp (evE E) o) h QV) (k : ∀ v h', QV v h' → EvK P n ops l (upd E d v) h' K) : EvK P n ops (o :: l) E h K :=
  ⟨dst_ok hd hn, by rw [if_pos hw]; exact .inl (RunH.mono f fun v h' q => by rw [hd]; exact k v h' q.2)⟩
theorem EvK.run {QV : Value → H → Prop} (hw : Region.wanted o (yE ops E) = true) (hd : o.dst = some d) (hn : Nat.blt d n = true) (f : RunH P (execOp (evE E) o) h QV) (k : ∀ v h', QV v h' → EvK P n ops l (upd E d v) h' K) : EvK P n ops (o :: l) E h K :=
  ⟨dst_ok hd hn, by rw [if_pos hw]; exact .inl (f.mono fun v h' q => by rw [hd]; exact k v h' q)⟩
theorem EvK.runN {QV : Value → H → Prop} (hw : Region.wanted o (yE ops E) = true) (hd : o.dst = none) (f : RunH P (execOp (evE E) o) h QV) (k : ∀ v h', QV v h' → EvK P n ops l E h' K) : EvK P n ops (o :: l) E h K :=
  ⟨fun k hk => (by rw [hd] at hk; cases hk), by rw [if_pos hw]; exact .inl (f.mono fun v h' q => by rw [hd]; exact k v h' q)⟩
theorem EvK.call {QV : Value → H → Prop} (hw : Region.wanted o (yE ops E) = true) (hd : o.dst = some d) (hn : Nat.blt d n = true) (f : EnterH P (execOp (evE E) o) h QV) (k : ∀ v h', QV v h' → EvK P n ops l (upd E d v) h' K) : EvK P n ops (o :: l) E h K :=
  ⟨dst_ok hd hn, by rw [if_pos hw]; exact .inr (let ⟨f, args, e, r⟩ := f; ⟨f, args, e, r.mono fun v h' q => by rw [hd]; exact k v h' q⟩)⟩
theorem EvK.callN {QV : Value → H → Prop} (hw : Region.wanted o (yE ops E) = true) (hd : o.dst = none) (f : EnterH P (execOp (evE E) o) h QV) (k : ∀ v h', QV v h' → EvK P n ops l E h' K) : EvK P n ops (o :: l) E h K :=
  ⟨fun k hk => (by rw [hd] at hk; cases hk), by rw [if_pos hw]; exact .inr (let ⟨f, args, e, r⟩ := f; ⟨f, args, e, r.mono fun v h' q => by rw [hd]; exact k v h' q⟩)⟩
theorem EvK.not (hw : Region.wanted o (yE ops E) = false) (hd : o.dst = some d) (hn : Nat.blt d n = true) (k : EvK P n ops l (upd E d undef) h K) : EvK P n ops (o :: l) E h K :=
  ⟨dst_ok hd hn, by rw [hw, hd]; exact k⟩
theorem EvK.notN (hw : Region.wanted o (yE ops E) = false) (hd : o.dst = none) (k : EvK P n ops l E h K) : EvK P n ops (o :: l) E h K :=
  ⟨fun k hk => (by rw [hd] at hk; cases hk), by rw [hw, hd]; exact k⟩

theorem EvA.nil {listed : Array Bool} (hr : Region.ready .any ops listed = []) (hk : K E h) : EvA P ops 0 listed E h K := ⟨hr, hk⟩
theorem EvA.pure {f : Nat} {listed : Array Bool} {v : Value} (i : Nat) (hs : Region.noSelect ops = true) (ho : ops[i]? = some o) (hfree : Region.free .any ops listed i = true) (hr : (Region.ready .any ops listed).contains i = true) (hw : Region.wanted o (yE ops E) = true) (hd : o.dst = some d)
    (ff : PureAt P (execOp (evE E) o) v) (k : EvA P ops f (listed.setIfInBounds i true) (upd E d v) h K) : EvA P ops (f + 1) listed E h K :=
  EvA.first hs ho f listed E h hfree (by simpa using hr) hw ff (by rw [hd]; exact k)
theorem EvA.alts {f : Nat} {listed : Array Bool} (l : List Nat) (hr : Region.ready .any ops listed = l) (hne : l.isEmpty = false) (h1 : ∀ i, i ∈ l → ∃ o, ops[i]? = some o ∧ StepA P ops o E h fun v h' => EvA P ops f (listed.setIfInBounds i true) (updo E o.dst v) h' K) : EvA P ops (f + 1) listed E h K := by
  subst hr
  exact ⟨fun e => (by rw [e] at hne; cases hne), h1⟩
theorem forall_two {p : Nat → Prop} {a : Nat} {l : List Nat} (h1 : p a) (h2 : ∀ i, i ∈ l → p i) : ∀ i, i ∈ a :: l → p i := fun i hi => by
  rcases List.mem_cons.1 hi with rfl | hi
  · exact h1
  · exact h2 i hi
theorem forall_nil {p : Nat → Prop} : ∀ i, i ∈ ([] : List Nat) → p i := fun _ h => by cases h
theorem StepA.alloc {f : Nat} {listed : Array Bool} {QV : Value → H → Prop} (ho : ops[i]? = some o) (hw : Region.wanted o (yE ops E) = true) (hd : o.dst = some d) (ff : AllocAt P (execOp (evE E) o) h QV) (k : ∀ v h', QV v h' → EvA P ops f (listed.setIfInBounds i true) (upd E d v) h' K) :
    ∃ o, ops[i]? = some o ∧ StepA P ops o E h fun v h' => EvA P ops f (listed.setIfInBounds i true) (updo E o.dst v) h' K :=
  ⟨o, ho, by unfold StepA; rw [if_pos hw]; exact .inl (RunH.mono ff fun v h' q => by rw [hd]; exact k v h' q.2)⟩
/-- A call of a function by name. -/
theorem enterH {f : FuncId} {fn : Func} {args : Array Operand} {ats : Array TypeId} {vs : List Value} {QV : Value → H → Prop} (hf : P.funcs[f]? = some fn) (hnm : (fn.name == "runtime.NumGoroutine") = false) (hb : fn.body.isNone = false)
    (ho : o.op = .call { callee := .value (.func f), args := args, argTypes := ats }) (hv : args.toList.map (evE E) = vs) (hc : CallsH P f vs.toArray h QV) : EnterH P (execOp (evE E) o) h QV :=
  have hv : args.map (evE E) = vs.toArray := by rw [← hv]; apply Array.ext'; simp
  ⟨f, vs.toArray, fun c d => ⟨d, by simp only [execOp, ho, resolve, evE, Deferred.ofValue, Sem.run_bind, Sem.run_pure, Result.andThen_ok, invoke, callFunc, run_program, hf, hnm, hb, Bool.false_eq_true, if_false, Array.append_empty, Array.empty_append, hv]⟩, hc⟩

variable {cs : List Cls} {r : List Nat} {pend : List Pend}
theorem chk_yes {ks : List Nat} {i : Nat} {x : Sem Next} {v : Value} (hc : ks.contains i = true) (f : ReadAt P x h v) : bif ks.contains (Pend.mk i x v).i then ReadAt P (Pend.mk i x v).s h (Pend.mk i x v).v else True := by
  simp only [hc, cond_true]; exact f
theorem chk_no {ks : List Nat} {i : Nat} {x : Sem Next} {v : Value} (hc : ks.contains i = false) : bif ks.contains (Pend.mk i x v).i then ReadAt P (Pend.mk i x v).s h (Pend.mk i x v).v else True := by
  simp only [hc, cond_false]
theorem EvI.nil (hk : K E h) : EvI P ops cs [] pend E h K := hk
theorem EvI.pure {v : Value} (ho : ops[i]? = some o) (hc : cs.getD i (.eff []) = .pure) (hw : Region.wanted o (yE ops E) = true) (hd : o.dst = some d) (f : PureAt P (execOp (evE E) o) v) (k : EvI P ops cs r pend (upd E d v) h K) : EvI P ops cs (i :: r) pend E h K := by
  rw [EvI_cons ho, hc, if_pos hw, hd]; exact ⟨v, f, k⟩
theorem EvI.read {v : Value} (ho : ops[i]? = some o) (hc : cs.getD i (.eff []) = .read) (hw : Region.wanted o (yE ops E) = true) (hd : o.dst = some d) (f : ReadAt P (execOp (evE E) o) h v) (k : EvI P ops cs r (⟨i, execOp (evE E) o, v⟩ :: pend) (upd E d v) h K) : EvI P ops cs (i :: r) pend E h K := by
  rw [EvI_cons ho, hc, if_pos hw, hd]; exact ⟨v, f, k⟩
theorem EvI.alloc {QV : Value → H → Prop} (ho : ops[i]? = some o) (hc : cs.getD i (.eff []) = .alloc) (hw : Region.wanted o (yE ops E) = true) (hd : o.dst = some d) (f : AllocAt P (execOp (evE E) o) h QV) (k : ∀ v h', QV v h' → EvI P ops cs r pend (upd E d v) h' K) : EvI P ops cs (i :: r) pend E h K := by
  rw [EvI_cons ho, hc, if_pos hw, hd]; exact RunH.mono f fun v h' q => ⟨q.1, k v h' q.2⟩
theorem EvI.run {ks : List Nat} {QV : Value → H → Prop} (ho : ops[i]? = some o) (hc : cs.getD i (.eff []) = .eff ks) (hw : Region.wanted o (yE ops E) = true) (hd : o.dst = some d) (f : RunH P (execOp (evE E) o) h QV) (k : ∀ v h', QV v h' → Chk P ks h' pend ∧ EvI P ops cs r pend (upd E d v) h' K) : EvI P ops cs (i :: r) pend E h K := by
  rw [EvI_cons ho, hc, if_pos hw, hd]; exact .inl (f.mono fun v h' q => k v h' q)
theorem EvI.runN {ks : List Nat} {QV : Value → H → Prop} (ho : ops[i]? = some o) (hc : cs.getD i (.eff []) = .eff ks) (hw : Region.wanted o (yE ops E) = true) (hd : o.dst = none) (f : RunH P (execOp (evE E) o) h QV) (k : ∀ v h', QV v h' → Chk P ks h' pend ∧ EvI P ops cs r pend E h' K) : EvI P ops cs (i :: r) pend E h K := by
  rw [EvI_cons ho, hc, if_pos hw, hd]; exact .inl (f.mono fun v h' q => k v h' q)
theorem EvI.call {ks : List Nat} {QV : Value → H → Prop} (ho : ops[i]? = some o) (hc : cs.getD i (.eff []) = .eff ks) (hw : Region.wanted o (yE ops E) = true) (hd : o.dst = some d) (f : EnterH P (execOp (evE E) o) h QV) (k : ∀ v h', QV v h' → Chk P ks h' pend ∧ EvI P ops cs r pend (upd E d v) h' K) : EvI P ops cs (i :: r) pend E h K := by
  rw [EvI_cons ho, hc, if_pos hw, hd]; exact .inr (let ⟨f, args, e, r⟩ := f; ⟨f, args, e, r.mono fun v h' q => k v h' q⟩)
theorem EvI.callN {ks : List Nat} {QV : Value → H → Prop} (ho : ops[i]? = some o) (hc : cs.getD i (.eff []) = .eff ks) (hw : Region.wanted o (yE ops E) = true) (hd : o.dst = none) (f : EnterH P (execOp (evE E) o) h QV) (k : ∀ v h', QV v h' → Chk P ks h' pend ∧ EvI P ops cs r pend E h' K) : EvI P ops cs (i :: r) pend E h K := by
  rw [EvI_cons ho, hc, if_pos hw, hd]; exact .inr (let ⟨f, args, e, r⟩ := f; ⟨f, args, e, r.mono fun v h' q => k v h' q⟩)
theorem EvI.not (ho : ops[i]? = some o) (hw : Region.wanted o (yE ops E) = false) (hd : o.dst = some d) (k : EvI P ops cs r pend (upd E d undef) h K) : EvI P ops cs (i :: r) pend E h K := by
  rw [EvI_cons ho, hw, hd]; exact k
theorem EvI.notN (ho : ops[i]? = some o) (hw : Region.wanted o (yE ops E) = false) (hd : o.dst = none) (k : EvI P ops cs r pend E h K) : EvI P ops cs (i :: r) pend E h K := by
  rw [EvI_cons ho, hw, hd]; exact k

/-! ### code, by the printed words -/
variable {Q : QE}
theorem KE.mk {α : Type} {ag : α → List (Nat × Value)} {k : α → H → Prop} (x : α) (hA : Agree E (ag x)) (hk : k x h) : ∃ x, Agree E (ag x) ∧ k x h := ⟨x, hA, hk⟩
theorem WP.joinF {α : Type} {x y : Code} {m : (α → H → Prop) → Prop} {QQ : α → H → Prop} (ag : α → List (Nat × Value)) (hF : jn m QQ)
    (rest : ∀ x E0 h, QQ x h → WP P n y Q (updL E0 (ag x)) h) (first : ∀ k : α → H → Prop, m k → WP P n x (thenE (fun E h => ∃ x, Agree E (ag x) ∧ k x h) Q) E h) : WP P n (.seq x y) Q E h :=
  WP.join (fun E h => ∃ x, Agree E (ag x) ∧ QQ x h) (fun E h ⟨x, hA, hq⟩ => WP.rebase (ag x) hA fun E0 => rest x E0 h hq) (first QQ hF)
theorem WP.scopeF {α : Type} {c rest : Code} {m : (α → H → Prop) → Prop} {QQ : α → H → Prop} (l : Nat) (hf : findLabel c l = some rest) (ag : α → List (Nat × Value)) (hF : jn m QQ)
    (hr : ∀ x E0 h, QQ x h → WP P n rest (gotoE l (fun _ _ => False) Q) (updL E0 (ag x)) h) (first : ∀ k : α → H → Prop, m k → WP P n c (gotoE l (fun E h => ∃ x, Agree E (ag x) ∧ k x h) Q) E h) : WP P n (.scope c) Q E h :=
  WP.scope l hf (fun E h => ∃ x, Agree E (ag x) ∧ QQ x h) (fun _ _ ⟨x, hA, hq⟩ => WP.rebase (ag x) hA fun E0 => hr x E0 _ hq) (first QQ hF)
theorem WP.loopF {σ β : Type} {y : Code} {body : σ → H → (σ ⊕ β → H → Prop) → Prop} {s : σ} {QQ : β → H → Prop} (ag : σ → List (Nat × Value)) (hF : loopE body s h QQ) (h0 : Agree E (ag s))
    (round : ∀ (k : σ → H → Prop) (s : σ) (E0 : Env) (h : H), body s h (sumK k QQ) → WP P n y (thenE (fun E h => ∃ s', Agree E (ag s') ∧ k s' h) Q) (updL E0 (ag s)) h) : WP P n (.loop y) Q E h := by
  obtain ⟨μ, hF⟩ := hF
  refine WP.loop μ (fun m E h => ∃ s, Agree E (ag s) ∧ loopW body m s h QQ) ⟨s, h0, hF⟩ ?_
  rintro m E h ⟨s, hA, hF⟩
  cases m with
  | zero => exact hF.elim
  | succ m =>
    refine WP.rebase (ag s) hA fun E0 => ?_
    refine (round _ s E0 h hF).mono fun e E h q => ?_
    cases e with
    | normal => obtain ⟨s', hA', q⟩ := q; exact ⟨m, Nat.lt_succ_self m, s', hA', q⟩
    | _ => exact q
/-- Inside a region: what is computed on several ways goes on as one. -/
theorem EvK.joinF {α : Type} {l1 l2 : List Oper} {m : (α → H → Prop) → Prop} {QQ : α → H → Prop} (ag : α → List (Nat × Value)) (hF : jn m QQ)
    (rest : ∀ x E0 h, QQ x h → EvK P n ops l2 (updL E0 (ag x)) h K) (first : ∀ k : α → H → Prop, m k → EvK P n ops l1 E h (fun E h => ∃ x, Agree E (ag x) ∧ k x h)) : EvK P n ops (l1 ++ l2) E h K := by
  have h1 := EvK.mono (K' := fun E h => EvK P n ops l2 E h K) (fun E h ⟨x, hA, q⟩ => by have := rest x E h q; rwa [updL_self _ _ hA] at this) l1 E h (first QQ hF)
  clear hF first rest
  induction l1 generalizing E h with
  | nil => exact h1
  | cons o l ih =>
    refine ⟨h1.1, ?_⟩
    have h2 := h1.2
    split <;> rename_i hw
    · rw [if_pos hw] at h2; exact h2.mono fun v h' q => ih q
    · rw [if_neg hw] at h2; exact ih h2
theorem ite_inv {c : Bool} {A B : Prop} (h : if c = true then A else B) : (c = true ∧ A) ∨ (c = false ∧ B) := by
  cases c <;> simp at h
  · exact .inr ⟨rfl, h⟩
  · exact .inl ⟨rfl, h⟩
theorem Ret.mk {fn : Func} {α : Type} {val : α → Value} {q : α → H → Prop} {vs : List Value} (x : α) (hr : ResOK P E h fn.results.toList vs) (hv : tupleOf vs = val x) (hq : q x h) : ∃ vs, ResOK P E h fn.results.toList vs ∧ ∃ x, tupleOf vs = val x ∧ q x h := ⟨vs, hr, x, hv, hq⟩
theorem f_boxF {t : TypeId} {x : Operand} {v : Value} {cs : List Value} {KF : Addr → H → Prop} (ho : o.op = .box t x) (hx : evE E x = v) (hc : v.cells = cs.toArray) (hF : al t cs h KF) :
    AllocAt P (execOp (evE E) o) h fun u h' => ∃ a, u = .pointer (some a) ∧ KF a h' :=
  RunH.mono (f_box ho hx hc) fun v h' q => ⟨q.1, by obtain ⟨_, rfl, rfl⟩ := q; exact ⟨_, rfl, hF⟩⟩
theorem f_allocF {t : TypeId} {z : Value} {cs : List Value} {KF : Addr → H → Prop} (hz : (P.info? t).bind (·.zero) = some z) (ho : o.op = .alloc t) (hc : z.cells = cs.toArray) (hF : al t cs h KF) :
    AllocAt P (execOp (evE E) o) h fun u h' => ∃ a, u = .pointer (some a) ∧ KF a h' :=
  RunH.mono (f_alloc hz ho hc) fun v h' q => ⟨q.1, by obtain ⟨_, rfl, rfl⟩ := q; exact ⟨_, rfl, hF⟩⟩
/-- A slice literal. -/
def bs (t : TypeId) (n : Nat) (cs : List Value) (h : H) (K : Sl → H → Prop) : Prop := K ⟨some ⟨h.size, 0, none⟩, n, n⟩ (h.push (.cells cs.toArray t))
theorem f_buildSliceF {t e : TypeId} {m size bytes : Nat} {zc : List Value} {parts : Array (Nat × Operand)} {cells : List Value} {pl : List (Nat × List Value)} {KF : Sl → H → Prop} (ht : P.underlying t = some (.slice e)) (hE : ElemOK P e size bytes zc) (hn : m * size ≤ 16777216) (ho : o.op = .buildSlice t m parts)
    (hp : parts.toList.map (fun p => (p.1, (evE E p.2).cells.toList)) = pl) (hf : fillL (fun i => some (i * size, size)) (mkCells (if m * size = 0 then [] else zc) (m * size)) pl = some cells) (hF : bs e m cells h KF) :
    AllocAt P (execOp (evE E) o) h fun u h' => ∃ s : Sl, u = s.val ∧ KF s h' := by
  have h4 := fill_of_fillL (fun i => some (i * size, size)) (parts.toList.map fun p => (p.1, evE E p.2)) pl _ cells (by rw [List.map_map]; exact hp) hf
  exact RunH.mono (f_buildSlice ht hE hn ho (by rw [Array.toList_map]; exact h4)) fun v h' q => ⟨q.1, by obtain ⟨_, rfl, rfl⟩ := q; exact ⟨_, rfl, hF⟩⟩
theorem f_pickT {c x y : Operand} {b : Bool} {v : Value} (ho : o.op = .pick c x y) (hc : evE E c = .bool b) (hb : b = true) (hx : evE E x = v) : PureAt P (execOp (evE E) o) v := f_pick ho hc (by rw [hb]; exact hx)
theorem f_pickF {c x y : Operand} {b : Bool} {v : Value} (ho : o.op = .pick c x y) (hc : evE E c = .bool b) (hb : b = false) (hy : evE E y = v) : PureAt P (execOp (evE E) o) v := f_pick ho hc (by rw [hb]; exact hy)
end
end Go.Tr
