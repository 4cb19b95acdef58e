/- Arrays as a kind; slices compared with nil; bytes as a string; calls of functions without a body. -/
import Derived.Test.YtgmihbchcmjmdaaStep
namespace Go.Tr
open Go

/-! ### arrays -/
structure Ar (n : Nat) (α : Type) where
  l : List α
  h : l.length = n
def Ar.rep (n : Nat) {α : Type} (x : α) : Ar n α := ⟨List.replicate n x, List.length_replicate⟩
def Ar.set {n : Nat} {α : Type} (x : Ar n α) (i : Nat) (v : α) : Ar n α := ⟨x.l.set i v, by rw [List.length_set]; exact x.h⟩
def decN {α : Type} (K : Kd α) : Nat → List Value → Option (List α)
  | 0, [] => some []
  | 0, _ :: _ => none
  | n + 1, l => (K.dec (l.take K.n)).bind fun a => (decN K n (l.drop K.n)).map fun r => a :: r
theorem decN_sound {α : Type} (K : Kd α) : ∀ (n : Nat) (l : List Value) (xs : List α), decN K n l = some xs → xs.length = n ∧ xs.flatMap K.enc = l
  | 0, [], xs, h => by simp [decN] at h; subst h; simp
  | 0, _ :: _, xs, h => by simp [decN] at h
  | n + 1, l, xs, h => by
    simp only [decN, Option.bind_eq_some_iff, Option.map_eq_some_iff] at h
    obtain ⟨a, ha, r, hr, rfl⟩ := h
    obtain ⟨h1, h2⟩ := decN_sound K n _ _ hr
    refine ⟨by simp [h1], ?_⟩
    simp only [List.flatMap_cons, h2, K.sound _ _ ha, List.take_append_drop]
theorem decN_full {α : Type} (K : Kd α) : ∀ (xs : List α), decN K xs.length (xs.flatMap K.enc) = some xs
  | [] => rfl
  | x :: xs => by
    have h1 : (K.enc x ++ xs.flatMap K.enc).take K.n = K.enc x := by rw [← K.len x, List.take_left]
    have h2 : (K.enc x ++ xs.flatMap K.enc).drop K.n = xs.flatMap K.enc := by rw [← K.len x, List.drop_left]
    simp only [List.length_cons, decN, List.flatMap_cons, h1, h2, K.full, Option.bind_some, decN_full K xs, Option.map_some]
theorem flatMap_len {α : Type} (K : Kd α) : ∀ (xs : List α), (xs.flatMap K.enc).length = xs.length * K.n
  | [] => by simp
  | x :: xs => by simp only [List.flatMap_cons, List.length_append, K.len, List.length_cons, flatMap_len K xs, Nat.add_mul]; omega
def kA {α : Type} (n : Nat) (K : Kd α) : Kd (Ar n α) where
  n := n * K.n
  agg := true
  enc x := x.l.flatMap K.enc
  dec l := (decN K n l).bind fun xs => if h : xs.length = n then some ⟨xs, h⟩ else none
  len x := by rw [flatMap_len, x.h]
  one x v h := by
    simp only [List.mem_flatMap] at h
    obtain ⟨y, _, h⟩ := h
    exact K.one y v h
  sound l x h := by
    simp only [Option.bind_eq_some_iff] at h
    obtain ⟨xs, h1, h2⟩ := h
    split at h2
    · simp at h2; subst h2; exact (decN_sound K n l xs h1).2
    · cases h2
  full x := by
    obtain ⟨l, rfl⟩ := x
    rw [decN_full K l, Option.bind_some, dif_pos rfl]
  single h := by cases h

section
variable {P : Program} {E : Env} {o : Oper}

/-! ### a slice compared with nil -/
theorem eqIn_slN {t e : TypeId} {s : Sl} (hu : P.underlying t = some (.slice e)) (d : Nat) (w : World) : (Op.equalIn (d + 1) t (.slice s.a s.len s.cap) (.slice none 0 0)).run P w = .ok s.a.isNone w := by
  unfold Op.equalIn
  simp only [Sem.run_bind, run_underlying' hu, Result.andThen_ok]
  cases s.a <;> simp
theorem f_leqln {t t' e : TypeId} {x y : Operand} {s : Sl} (hu : P.underlying t = some (.slice e)) (ho : o.op = .binOp .eql t x y t') (hx : evE E x = .slice s.a s.len s.cap) (hy : evE E y = .slice none 0 0) : PureAt P (execOp (evE E) o) (.bool s.a.isNone) := f_eqlOf ho hx hy (fun w => by simp [eqGuard]) rfl (fun d w => eqIn_slN hu (d + 4) w)
theorem f_lneqn {t t' e : TypeId} {x y : Operand} {s : Sl} (hu : P.underlying t = some (.slice e)) (ho : o.op = .binOp .neq t x y t') (hx : evE E x = .slice s.a s.len s.cap) (hy : evE E y = .slice none 0 0) : PureAt P (execOp (evE E) o) (.bool (!s.a.isNone)) := f_neqOf ho hx hy (fun w => by simp [eqGuard]) rfl (fun d w => eqIn_slN hu (d + 4) w)

/-! ### string(bytes) -/
def asBytes : List Value → Option (List UInt8)
  | [] => some []
  | .int .u8 n :: r => (asBytes r).map fun l => UInt8.ofNat n.toNat :: l
  | _ :: _ => none
def b2s (s : Sl) (h : H) : Option ByteArray := (rdSl 1 s s.len h).bind fun l => (asBytes l).map fun b => ⟨b.toArray⟩
theorem rdSl_ext {size n : Nat} {s : Sl} {h h' : H} {l : List Value} (e : Ext h h') (x : rdSl size s n h = some l) : rdSl size s n h' = some l := by
  unfold rdSl at *
  cases hs : s.a with
  | none => rw [hs] at x; exact x
  | some a => rw [hs] at x; exact rdFrom_ext e _ _ x
theorem run_pushes (w : World) : ∀ (l : List Value) (b : List UInt8) (acc : ByteArray), asBytes l = some b →
    (forIn (m := Sem) l acc fun c s =>
      match c with
      | .int .u8 n => pure (ForInStep.yield (s.push (UInt8.ofNat n.toNat)))
      | _ => do
        stuck (α := PUnit) "bytesToString: byte expected"
        pure (ForInStep.yield s)).run P w = .ok ⟨acc.data ++ b.toArray⟩ w
  | [], b, acc, h => by simp [asBytes] at h; subst h; simp
  | v :: l, b, acc, h => by
    cases v <;> try (simp [asBytes] at h; done)
    rename_i k n
    cases k <;> try (simp [asBytes] at h; done)
    simp only [asBytes, Option.map_eq_some_iff] at h
    obtain ⟨r, hr, rfl⟩ := h
    have ih := run_pushes w l r (acc.push (UInt8.ofNat n.toNat)) hr
    simp only [List.forIn_cons, Sem.run_bind, Sem.run_pure, Result.andThen_ok]
    rw [ih]
    congr 2
    simp [ByteArray.push]
theorem f_b2s {s t e : TypeId} {x : Operand} {sl : Sl} {h : H} {r : ByteArray} (hs : P.underlying s = some (.slice e)) (ht : P.underlying t = some .string) (he : P.underlying e = some (.int .u8)) (ho : o.op = .convert s t x) (hx : evE E x = sl.val) (hr : b2s sl h = some r) :
    ReadAt P (execOp (evE E) o) h (.string r) := fun c d h' ex => by
  unfold b2s at hr
  simp only [Option.bind_eq_some_iff, Option.map_eq_some_iff] at hr
  obtain ⟨l, hl, b, hb, rfl⟩ := hr
  have hl := rdSl_ext ex hl
  simp only [execOp, ho, hx, convert, Sem.run_bind, run_underlying' hs, run_underlying' ht, run_underlying' he, Result.andThen_ok, Sl.val]
  cases ha : sl.a with
  | none =>
    unfold rdSl at hl
    rw [ha] at hl
    simp at hl; subst hl
    simp [asBytes] at hb; subst hb
    simp [Conv.bytesToString]; rfl
  | some a =>
    unfold rdSl at hl
    rw [ha] at hl
    rw [Nat.mul_one] at hl
    have h1 := run_pushes (P := P) (c.w h' d) l b ByteArray.empty hb
    have h2 := run_loadCells (P := P) c h' d a sl.len l hl
    simp only [Conv.bytesToString, Sem.run_bind, h2, Result.andThen_ok]
    rw [← Array.forIn_toList]
    have h3 := congrArg (fun r : Result ByteArray => ((r.andThen fun a w' => Result.ok (Value.string a) w').andThen fun a w' => Result.ok (Next.value a) w')) h1
    refine Eq.trans ?_ (h3.trans ?_)
    · rfl
    · have e : (⟨ByteArray.empty.data ++ b.toArray⟩ : ByteArray) = ⟨b.toArray⟩ := by
        rw [show ByteArray.empty.data = #[] from rfl, Array.empty_append]
      rw [e]; rfl

/-! ### functions without a body -/
theorem run_extern {f : FuncId} {fn : Func} {args : Array Operand} {ats : Array TypeId} {vs : List Value} {e : Array Value → Sem Value} (hf : P.funcs[f]? = some fn) (hnm : (fn.name == "runtime.NumGoroutine") = false) (hb : fn.body.isNone = true) (h1 : (Extern.findNext fn).isNone = true) (h2 : Extern.find fn = some e)
    (ho : o.op = .call { callee := .value (.func f), args := args, argTypes := ats }) (hv : args.toList.map (evE E) = vs) (w : World) : (execOp (evE E) o).run P w = ((do pure (Next.value (← e vs.toArray))) : Sem Next).run P w := by
  have hv : args.map (evE E) = vs.toArray := by rw [← hv]; apply Array.ext'; simp
  have h1 : Extern.findNext fn = none := by cases h : Extern.findNext fn <;> simp [h] at h1 ⊢
  simp only [execOp, ho, resolve, evE, Deferred.ofValue, Sem.run_bind, Sem.run_pure, Result.andThen_ok, invoke, callFunc, run_program, hf, hnm, hb, Bool.false_eq_true, if_false, if_true, Array.append_empty, Array.empty_append, hv, run_mark, h1, h2]
theorem ld_int {k : IntKind} {a : Addr} {h : H} {x : Int} (hl : ld (kI k) a h = some x) : hcell h a = some (.int k x) := by
  unfold ld rdCells at hl
  simp only [Option.bind_eq_some_iff] at hl
  obtain ⟨l, h1, h2⟩ := hl
  have h3 := (kI k).sound _ _ h2
  subst h3
  have h4 : rdFrom h a 0 1 = some [.int k x] := h1
  simp only [rdFrom, Option.map_some, Option.bind_eq_some_iff, Option.some.injEq] at h4
  obtain ⟨v, hv, h5⟩ := h4
  have : a.add 0 = a := by simp [Addr.add]
  rw [this] at hv
  simp at h5; subst h5; exact hv
theorem st_int {k : IntKind} {a : Addr} {h h' : H} {x : Int} (hs : st (kI k) a x h = some h') : (hcell h a).isSome = true ∧ hfrozen h a = false ∧ h' = hset h a (.int k x) := by
  have h4 : wrFrom a [.int k x] 0 h = some h' := hs
  have : a.add 0 = a := by simp [Addr.add]
  simp only [wrFrom, this, Option.bind_eq_some_iff] at h4
  obtain ⟨u, hu, h5⟩ := h4
  split at h5
  · cases h5
  · rename_i hf
    have hf1 : hfrozen h a = false := by revert hf; cases hfrozen h a <;> simp
    exact ⟨by simp [hu], hf1, by simpa using h5.symm⟩
theorem run_loadA (c : Ctx) (h : H) (d : Nat) (a : Addr) (v : Value) (m : Mode) (hv : hcell h a = some v) : (load a m).run P (c.w h d) = .ok v (c.w h d) := by
  have : (c.w h d).cell? a = some v := hv
  simp only [load, Sem.run, this]
theorem run_storeA (c : Ctx) (h : H) (d : Nat) (a : Addr) (k : IntKind) (x : Int) (m : Mode) (h1 : (hcell h a).isSome = true) (h2 : hfrozen h a = false) : (store a (.int k x) m).run P (c.w h d) = .ok () (c.w (hset h a (.int k x)) d) := by
  obtain ⟨v, hv⟩ := Option.isSome_iff_exists.1 h1
  have e1 : (c.w h d).cell? a = some v := hv
  have e2 : (c.w h d).frozen? a = false := h2
  simp only [store, Sem.run, e1, e2, Bool.false_eq_true, if_false, set_w]
theorem f_atomAdd {f : FuncId} {fn : Func} {u y : Operand} {ats : Array TypeId} {k : IntKind} {a : Addr} {h h' : H} {x n : Int} (hf : P.funcs[f]? = some fn) (hnm : (fn.name == "runtime.NumGoroutine") = false) (hb : fn.body.isNone = true) (h1 : (Extern.findNext fn).isNone = true) (h2 : Extern.find fn = some (Extern.Atomic.update (Op.intArith .add) k true))
    (ho : o.op = .call { callee := .value (.func f), args := #[u, y], argTypes := ats }) (hu : evE E u = .pointer (some a)) (hy : evE E y = .int k n) (hl : ld (kI k) a h = some x) (hs : st (kI k) a (k.wrap (x + n)) h = some h') :
    RunH P (execOp (evE E) o) h fun v h1 => v = .int k (k.wrap (x + n)) ∧ h1 = h' := fun c d => by
  obtain ⟨s1, s2, rfl⟩ := st_int hs
  refine ⟨_, _, d, .inl ?_, rfl, rfl⟩
  rw [run_extern hf hnm hb h1 h2 ho (vs := [.pointer (some a), .int k n]) (by simp [hu, hy])]
  have e0 : Extern.Atomic.update (Op.intArith .add) k true #[.pointer (some a), .int k n] = (do let a ← asAddr (.pointer (some a)); let old ← Extern.Atomic.read (.int k) a; let new ← Op.intArith .add k (← asInt old) (← asInt (.int k n)); store a new .atomic; pure (if true then new else old)) := rfl
  rw [show List.toArray [Value.pointer (some a), .int k n] = #[.pointer (some a), .int k n] from rfl, e0]
  simp only [asAddr, Sem.run_bind, Sem.run_pure, Result.andThen_ok, Extern.Atomic.read, run_loadA c h d a _ .atomic (ld_int hl), if_true, asInt, asIntOf, Op.intArith, run_storeA c h d a k _ .atomic s1 s2]
theorem f_atomLoad {f : FuncId} {fn : Func} {u : Operand} {ats : Array TypeId} {k : IntKind} {a : Addr} {h : H} {x : Int} (hf : P.funcs[f]? = some fn) (hnm : (fn.name == "runtime.NumGoroutine") = false) (hb : fn.body.isNone = true) (h1 : (Extern.findNext fn).isNone = true) (h2 : Extern.find fn = some (Extern.Atomic.loadT (.int k)))
    (ho : o.op = .call { callee := .value (.func f), args := #[u], argTypes := ats }) (hu : evE E u = .pointer (some a)) (hl : ld (kI k) a h = some x) : ReadAt P (execOp (evE E) o) h (.int k x) := fun c d h' e => by
  rw [run_extern hf hnm hb h1 h2 ho (vs := [.pointer (some a)]) (by simp [hu])]
  have e0 : Extern.Atomic.loadT (.int k) #[.pointer (some a)] = (do Extern.Atomic.read (.int k) (← asAddr (.pointer (some a)))) := rfl
  rw [show List.toArray [Value.pointer (some a)] = #[.pointer (some a)] from rfl, e0]
  simp only [asAddr, Sem.run_bind, Sem.run_pure, Result.andThen_ok, Extern.Atomic.read, run_loadA c h' d a _ .atomic (hcell_ext e (ld_int hl)), if_true]
end
end Go.Tr
