/- Go's kinds of values as Lean types, memory read and written by them, and the operations' facts. -/
import Derived.Test.YtgmihbchcmjmdaaOrder
namespace Go.Tr
open Go

/-! ### kinds -/
structure Sl where
  a : Option Addr
  len : Nat
  cap : Nat
  deriving DecidableEq, Inhabited
def Sl.nil : Sl := ⟨none, 0, 0⟩
def Sl.val (s : Sl) : Value := .slice s.a s.len s.cap

/-- A Go type as a Lean type: its cells, its value, how cells are read back. -/
structure Kd (α : Type) where
  n : Nat
  agg : Bool
  enc : α → List Value
  dec : List Value → Option α
  len : ∀ x, (enc x).length = n
  one : ∀ x, ∀ v ∈ enc x, v.oneCell' = true
  sound : ∀ l x, dec l = some x → enc x = l
  full : ∀ x, dec (enc x) = some x
  single : agg = false → n = 1

def Kd.val {α : Type} (K : Kd α) (x : α) : Value := if K.agg then .agg (K.enc x).toArray else (K.enc x).headD undef

def kI (k : IntKind) : Kd Int where
  n := 1
  agg := false
  enc x := [.int k x]
  dec | [.int k' x] => if k' = k then some x else none
      | _ => none
  len _ := rfl
  one _ v h := by simp at h; subst h; rfl
  sound l x h := by
    split at h
    · rename_i k' y
      by_cases e : k' = k
      · subst e; simp at h; subst h; rfl
      · simp [e] at h
    · cases h
  full x := by simp
  single _ := rfl
def kB : Kd Bool where
  n := 1
  agg := false
  enc x := [.bool x]
  dec | [.bool x] => some x
      | _ => none
  len _ := rfl
  one _ v h := by simp at h; subst h; rfl
  sound l x h := by split at h <;> simp at h; subst h; rfl
  full x := rfl
  single _ := rfl
def kS : Kd ByteArray where
  n := 1
  agg := false
  enc x := [.string x]
  dec | [.string x] => some x
      | _ => none
  len _ := rfl
  one _ v h := by simp at h; subst h; rfl
  sound l x h := by split at h <;> simp at h; subst h; rfl
  full x := rfl
  single _ := rfl
def kP : Kd (Option Addr) where
  n := 1
  agg := false
  enc x := [.pointer x]
  dec | [.pointer x] => some x
      | _ => none
  len _ := rfl
  one _ v h := by simp at h; subst h; rfl
  sound l x h := by split at h <;> simp at h; subst h; rfl
  full x := rfl
  single _ := rfl
def kL : Kd Sl where
  n := 1
  agg := false
  enc x := [.slice x.a x.len x.cap]
  dec | [.slice a n c] => some ⟨a, n, c⟩
      | _ => none
  len _ := rfl
  one _ v h := by simp at h; subst h; rfl
  sound l x h := by split at h <;> simp at h; subst h; rfl
  full x := rfl
  single _ := rfl
def kM : Kd (Option Nat) where
  n := 1
  agg := false
  enc x := [.map x]
  dec | [.map x] => some x
      | _ => none
  len _ := rfl
  one _ v h := by simp at h; subst h; rfl
  sound l x h := by split at h <;> simp at h; subst h; rfl
  full x := rfl
  single _ := rfl
/-- A value of one cell, whatever it is (interfaces, functions). -/
abbrev OV := { v : Value // v.oneCell' = true }
def kV : Kd OV where
  n := 1
  agg := false
  enc x := [x.1]
  dec | [v] => if h : v.oneCell' = true then some ⟨v, h⟩ else none
      | _ => none
  len _ := rfl
  one x v h := by simp at h; subst h; exact x.2
  sound l x h := by
    split at h
    · split at h <;> simp at h
      subst h; rfl
    · cases h
  full x := by simp [x.2]
  single _ := rfl
def kU : Kd Unit where
  n := 0
  agg := true
  enc _ := []
  dec | [] => some ()
      | _ => none
  len _ := rfl
  one _ v h := by simp at h
  sound l x h := by split at h <;> simp at h; rfl
  full x := rfl
  single h := by cases h
def kPair {α β : Type} (A : Kd α) (B : Kd β) : Kd (α × β) where
  n := A.n + B.n
  agg := true
  enc x := A.enc x.1 ++ B.enc x.2
  dec l := (A.dec (l.take A.n)).bind fun a => (B.dec (l.drop A.n)).map fun b => (a, b)
  len x := by simp [A.len, B.len]
  one x v h := by
    rcases List.mem_append.1 h with h | h
    · exact A.one _ _ h
    · exact B.one _ _ h
  sound l x h := by
    simp only [Option.bind_eq_some_iff, Option.map_eq_some_iff] at h
    obtain ⟨a, ha, b, hb, rfl⟩ := h
    simp only [A.sound _ _ ha, B.sound _ _ hb, List.take_append_drop]
  full x := by
    have h1 : (A.enc x.1 ++ B.enc x.2).take A.n = A.enc x.1 := by rw [← A.len x.1, List.take_left]
    have h2 : (A.enc x.1 ++ B.enc x.2).drop A.n = B.enc x.2 := by rw [← A.len x.1, List.drop_left]
    simp only [h1, h2, A.full, B.full, Option.bind_some, Option.map_some]
  single h := by cases h
def kIso {α β : Type} (A : Kd α) (f : β → α) (g : α → β) (h1 : ∀ x, g (f x) = x) (h2 : ∀ y, f (g y) = y) : Kd β where
  n := A.n
  agg := true
  enc x := A.enc (f x)
  dec l := (A.dec l).map g
  len x := A.len _
  one x v h := A.one _ _ h
  sound l x h := by
    simp only [Option.map_eq_some_iff] at h
    obtain ⟨a, ha, rfl⟩ := h
    rw [h2]; exact A.sound _ _ ha
  full x := by rw [A.full]; simp [h1]
  single h := by cases h

theorem Kd.val_cells {α : Type} (K : Kd α) (x : α) : (K.val x).cells = (K.enc x).toArray := by
  unfold Kd.val
  split
  · rfl
  · rename_i h
    have h1 := K.single (by simpa using h)
    have h2 := K.len x
    rw [h1] at h2
    match he : K.enc x with
    | [v] =>
      have := K.one x v (by rw [he]; simp)
      simp only [List.headD_cons]
      cases v <;> simp [Value.cells, Value.oneCell'] at this ⊢
    | [] => rw [he] at h2; cases h2
    | _ :: _ :: _ => rw [he] at h2; simp at h2

/-! ### parts laid into a whole -/
def splice (l : List Value) (o : Nat) (vs : List Value) : List Value := l.take o ++ vs ++ l.drop (o + vs.length)
theorem set_splice (l : List Value) (o : Nat) (v : Value) (vs : List Value) (h : o + (vs.length + 1) ≤ l.length) : splice (l.set o v) (o + 1) vs = splice l o (v :: vs) := by
  unfold splice
  have h1 : (l.set o v).take (o + 1) = l.take o ++ [v] := by
    apply List.ext_getElem?
    intro i
    by_cases hi : i < o
    · rw [List.getElem?_take_of_lt (by omega), List.getElem?_append_left (by simp; omega), List.getElem?_take_of_lt hi, List.getElem?_set_ne (by omega)]
    · by_cases hi2 : i = o
      · subst hi2
        rw [List.getElem?_take_of_lt (by omega), List.getElem?_set_self (by omega), List.getElem?_append_right (by simp; omega)]
        have : min i l.length = i := by omega
        simp [this]
      · rw [List.getElem?_eq_none (by simp; omega), List.getElem?_eq_none (by simp; omega)]
  have h2 : (l.set o v).drop (o + 1 + vs.length) = l.drop (o + (v :: vs).length) := by
    rw [List.drop_set_of_lt (by omega)]
    simp; congr 1; omega
  rw [h1, h2]; simp
theorem foldl_splice : ∀ (vs : List Value) (o k : Nat) (l : List Value), o + k + vs.length ≤ l.length →
    ((vs.zipIdx k).foldl (fun cs p => cs.set (o + p.2) p.1) l) = splice l (o + k) vs
  | [], o, k, l, _ => by simp [splice]
  | v :: vs, o, k, l, h => by
    simp only [List.zipIdx_cons, List.foldl_cons]
    rw [foldl_splice vs o (k + 1) (l.set (o + k) v) (by simp at h ⊢; omega)]
    rw [← Nat.add_assoc, set_splice l (o + k) v vs (by simp at h; omega)]
theorem fold_array (vs : Array Value) (o : Nat) (cells : Array Value) (h : o + vs.size ≤ cells.size) :
    (vs.zipIdx.foldl (fun cs p => cs.setIfInBounds (o + p.2) p.1) cells) = (splice cells.toList o vs.toList).toArray := by
  apply Array.ext'
  rw [← Array.foldl_toList]
  have key : ∀ (l : List (Value × Nat)) (c : Array Value), (l.foldl (fun cs p => cs.setIfInBounds (o + p.2) p.1) c).toList = l.foldl (fun cs p => cs.set (o + p.2) p.1) c.toList := by
    intro l
    induction l with
    | nil => intro c; rfl
    | cons p l ih => intro c; simp only [List.foldl_cons]; rw [ih]; simp
  rw [key]
  have : vs.zipIdx.toList = vs.toList.zipIdx := by simp
  rw [this, foldl_splice vs.toList o 0 cells.toList (by simpa using h)]
  simp
def fillL (place : Nat → Option (Nat × Nat)) (cells : List Value) : List (Nat × List Value) → Option (List Value)
  | [] => some cells
  | (i, v) :: rest =>
    match place i with
    | none => none
    | some (off, size) => bif Nat.beq v.length size && Nat.ble (off + size) cells.length then fillL place (splice cells off v) rest else none
theorem fill_of_fillL (place : Nat → Option (Nat × Nat)) : ∀ (parts : List (Nat × Value)) (pl : List (Nat × List Value)) (cells : List Value) (r : List Value), parts.map (fun p => (p.1, p.2.cells.toList)) = pl → fillL place cells pl = some r →
    Instr.fill place cells.toArray parts = some r.toArray
  | [], pl, cells, r, h, hr => by
    subst h; simp [fillL] at hr; subst hr; rfl
  | (i, v) :: parts, pl, cells, r, h, hr => by
    subst h
    simp only [List.map_cons, fillL] at hr
    simp only [Instr.fill]
    cases hp : place i with
    | none => rw [hp] at hr; cases hr
    | some os =>
      obtain ⟨off, size⟩ := os
      rw [hp] at hr
      simp only at hr ⊢
      cases hc : (Nat.beq v.cells.toList.length size && Nat.ble (off + size) cells.length) with
      | false => rw [hc] at hr; cases hr
      | true =>
        rw [hc] at hr
        simp only [Bool.and_eq_true] at hc
        have h1 := Nat.eq_of_beq_eq_true hc.1
        have h2 := Nat.le_of_ble_eq_true hc.2
        simp only [Array.length_toList] at h1
        rw [if_neg (by simp; omega)]
        have h3 := fold_array v.cells off cells.toArray (by simp; omega)
        rw [h3]
        exact fill_of_fillL place parts _ _ r rfl hr

/-! ### the heap, by cells -/
def hcell (h : H) (a : Addr) : Option Value :=
  match h[a.block]? with
  | some (.cells c _ _) => if a.spot.isSome then none else c[a.off]?
  | _ => none
def hfrozen (h : H) (a : Addr) : Bool :=
  match h[a.block]? with
  | some (.cells _ _ (lo, hi)) => lo ≤ a.off && a.off < hi
  | _ => false
def hset (h : H) (a : Addr) (v : Value) : H :=
  h.modify a.block fun
      | .cells c elem frozen => .cells (if a.spot.isSome then c else c.setIfInBounds a.off v) elem frozen
      | o => o
theorem cell_w (c : Ctx) (h : H) (d : Nat) (a : Addr) : (c.w h d).cell? a = hcell h a := rfl
theorem frozen_w (c : Ctx) (h : H) (d : Nat) (a : Addr) : (c.w h d).frozen? a = hfrozen h a := rfl
theorem set_w (c : Ctx) (h : H) (d : Nat) (a : Addr) (v : Value) : (c.w h d).setCell a v = c.w (hset h a v) d := rfl

def rdFrom (h : H) (a : Addr) (i : Nat) : Nat → Option (List Value)
  | 0 => some []
  | n + 1 => (hcell h (a.add i)).bind fun v => (rdFrom h a (i + 1) n).map fun r => v :: r
def rdCells (h : H) (a : Addr) (n : Nat) : Option (List Value) := rdFrom h a 0 n
def wrFrom (a : Addr) : List Value → Nat → H → Option H
  | [], _, h => some h
  | v :: r, i, h => (hcell h (a.add i)).bind fun _ => if hfrozen h (a.add i) || !v.oneCell' then none else wrFrom a r (i + 1) (hset h (a.add i) v)
def wrCells (h : H) (a : Addr) (l : List Value) : Option H := wrFrom a l 0 h

theorem hcell_ext {h h' : H} (e : Ext h h') {a : Addr} {v : Value} (x : hcell h a = some v) : hcell h' a = some v := by
  have : a.block < h.size := by
    rcases Nat.lt_or_ge a.block h.size with hl | hl
    · exact hl
    · unfold hcell at x; rw [Array.getElem?_eq_none hl] at x; cases x
  unfold hcell at *
  rw [e.2 _ this]; exact x
theorem rdFrom_ext {h h' : H} (e : Ext h h') {a : Addr} : ∀ (n i : Nat) {l : List Value}, rdFrom h a i n = some l → rdFrom h' a i n = some l
  | 0, _, _, x => x
  | n + 1, i, l, x => by
    simp only [rdFrom, Option.bind_eq_some_iff, Option.map_eq_some_iff] at x ⊢
    obtain ⟨v, hv, r, hr, rfl⟩ := x
    exact ⟨v, hcell_ext e hv, r, rdFrom_ext e n _ hr, rfl⟩
theorem rdFrom_len {h : H} {a : Addr} : ∀ (n i : Nat) {l : List Value}, rdFrom h a i n = some l → l.length = n
  | 0, _, l, x => by simp [rdFrom] at x; simp [x]
  | n + 1, i, l, x => by
    simp only [rdFrom, Option.bind_eq_some_iff, Option.map_eq_some_iff] at x
    obtain ⟨v, hv, r, hr, rfl⟩ := x
    simp [rdFrom_len n _ hr]

def ld {α : Type} (K : Kd α) (a : Addr) (h : H) : Option α := (rdCells h a K.n).bind K.dec
def st {α : Type} (K : Kd α) (a : Addr) (x : α) (h : H) : Option H := wrCells h a (K.enc x)

theorem ld_ext {α : Type} {K : Kd α} {a : Addr} {h h' : H} (e : Ext h h') {x : α} (hx : ld K a h = some x) : ld K a h' = some x := by
  unfold ld at *
  simp only [Option.bind_eq_some_iff] at *
  obtain ⟨l, hl, hd⟩ := hx
  exact ⟨l, rdFrom_ext e _ _ hl, hd⟩

section
variable {P : Program}

theorem run_loadCellsFrom (c : Ctx) (h : H) (d : Nat) (a : Addr) : ∀ (n i : Nat) (acc : Array Value) (l : List Value), rdFrom h a i n = some l → (loadCellsFrom a i n acc).run P (c.w h d) = .ok (acc ++ l.toArray) (c.w h d)
  | 0, i, acc, l, x => by simp [rdFrom] at x; subst x; simp [loadCellsFrom]
  | n + 1, i, acc, l, x => by
    simp only [rdFrom, Option.bind_eq_some_iff, Option.map_eq_some_iff] at x
    obtain ⟨v, hv, r, hr, rfl⟩ := x
    simp only [loadCellsFrom, Sem.run_bind, run_load, cell_w, hv, Result.andThen_ok, run_loadCellsFrom c h d a n (i + 1) _ r hr]
    simp
theorem run_loadCells (c : Ctx) (h : H) (d : Nat) (a : Addr) (n : Nat) (l : List Value) (x : rdCells h a n = some l) : (loadCells a n).run P (c.w h d) = .ok l.toArray (c.w h d) := by
  unfold loadCells
  rw [run_loadCellsFrom c h d a n 0 #[] l x]; simp

theorem run_storeCells (c : Ctx) (d : Nat) (a : Addr) : ∀ (l : List Value) (i : Nat) (h h' : H), wrFrom a l i h = some h' → (storeCells a l i).run P (c.w h d) = .ok () (c.w h' d)
  | [], i, h, h', x => by simp [wrFrom] at x; subst x; simp [storeCells]
  | v :: l, i, h, h', x => by
    simp only [wrFrom, Option.bind_eq_some_iff] at x
    obtain ⟨u, hu, x⟩ := x
    split at x
    · cases x
    · rename_i hf
      have hf1 : hfrozen h (a.add i) = false := by revert hf; cases hfrozen h (a.add i) <;> simp
      have hf2 : v.oneCell' = true := by revert hf; cases v.oneCell' <;> simp
      simp only [storeCells, Sem.run_bind, run_store P _ _ _ _ hf2, cell_w, hu, frozen_w, hf1, set_w]
      simp only [Bool.false_eq_true, if_false, Result.andThen_ok]
      exact run_storeCells c d a l (i + 1) _ h' x

/-- What the model's table says of a type, and its kind: so many cells, in one piece or more. -/
structure TyOK (P : Program) (t : TypeId) (n : Nat) (agg : Bool) : Prop where
  size : (P.info? t).map (·.size) = some n
  agg : (P.underlying t).map (fun | .struct _ | .array _ _ => true | _ => false) = some agg

theorem run_sizeOf {t n : Nat} (h : (P.info? t).map (·.size) = some n) (w : World) : (sizeOf t).run P w = .ok n w := by
  simp only [Option.map_eq_some_iff] at h
  obtain ⟨i, hi, rfl⟩ := h
  simp [sizeOf, typeInfo, hi]
theorem run_isAgg {t : Nat} {b : Bool} (h : (P.underlying t).map (fun | .struct _ | .array _ _ => true | _ => false) = some b) (w : World) : (isAgg t).run P w = .ok b w := by
  simp only [Option.map_eq_some_iff] at h
  obtain ⟨i, hi, hb⟩ := h
  simp only [isAgg, underlying, Sem.run_bind, run_program, Result.andThen_ok, hi, Sem.run_pure]
  cases i <;> simp_all
theorem run_underlying' {t : Nat} {u : TypeDesc} (h : P.underlying t = some u) (w : World) : (underlying t).run P w = .ok u w := by
  simp [underlying, h]

theorem run_loadVar {α : Type} (K : Kd α) {t : TypeId} (T : TyOK P t K.n K.agg) {a : Addr} {h : H} {x : α} (hx : ld K a h = some x) (c : Ctx) (d : Nat) :
    (loadVar t a).run P (c.w h d) = .ok (K.val x) (c.w h d) := by
  unfold ld at hx
  simp only [Option.bind_eq_some_iff] at hx
  obtain ⟨l, hl, hd⟩ := hx
  have hs := K.sound _ _ hd
  have hagg : K.agg = true ∨ K.agg = false := by cases K.agg <;> simp
  unfold loadVar
  simp only [Sem.run_bind, run_isAgg T.agg, Result.andThen_ok]
  rcases hagg with ha | ha
  · simp only [ha, if_true, Sem.run_bind, run_sizeOf T.size, Result.andThen_ok, run_loadCells c h d a K.n l hl, Sem.run_pure, Kd.val, hs]
  · simp only [ha, Bool.false_eq_true, if_false, Kd.val]
    have h1 := K.single ha
    rw [h1] at hl
    simp only [rdCells, rdFrom, Option.map_some, Option.bind_eq_some_iff, Option.some.injEq] at hl
    obtain ⟨v, hv, rfl⟩ := hl
    have : a.add 0 = a := by simp [Addr.add]
    rw [this] at hv
    simp only [run_load, cell_w, hv, hs, List.headD_cons]

theorem run_storeVar {α : Type} (K : Kd α) {t : TypeId} (T : (P.info? t).map (·.size) = some K.n) {a : Addr} {h h' : H} {x : α} (hx : st K a x h = some h') (c : Ctx) (d : Nat) :
    (storeVar t a (K.val x)).run P (c.w h d) = .ok () (c.w h' d) := by
  unfold storeVar
  have hsz : (K.val x).cells.size = K.n := by rw [K.val_cells]; simp [K.len]
  simp only [Sem.run_bind, run_sizeOf T, Result.andThen_ok]
  rw [if_neg (by simp [hsz])]
  simp only [K.val_cells]
  exact run_storeCells c d a (K.enc x) 0 h h' hx

/-! ### operations -/
section
variable {E : Env} {o : Oper}
theorem f_move {x : Operand} {v : Value} (ho : o.op = .move x) (hx : evE E x = v) : PureAt P (execOp (evE E) o) v := fun w => by simp [execOp, ho, hx]
theorem f_assign {x : Operand} {v : Value} (ho : o.op = .assign x) (hx : evE E x = v) : PureAt P (execOp (evE E) o) v := fun w => by simp [execOp, ho, hx]
theorem f_pick {c x y : Operand} {b : Bool} {v : Value} (ho : o.op = .pick c x y) (hc : evE E c = .bool b) (hv : (if b then evE E x else evE E y) = v) : PureAt P (execOp (evE E) o) v := fun w => by
  subst hv
  cases b <;> simp [execOp, ho, hc, asBool]
theorem f_nilCheck {x : Operand} {a : Addr} (ho : o.op = .nilCheck x) (hx : evE E x = .pointer (some a)) : PureAt P (execOp (evE E) o) (.pointer (some a)) := fun w => by simp [execOp, ho, hx]
/-- A struct's field lies so far in, and is not empty. -/
structure FieldOK (P : Program) (s : TypeId) (f off : Nat) : Prop where
  h : ∃ fs fd, P.underlying s = some (.struct fs) ∧ fs[f]? = some fd ∧ fd.offset = off ∧ ∃ n, (P.info? fd.type).map (·.size) = some n ∧ n ≠ 0
theorem field_of {s : TypeId} {f off n : Nat} (h : ((P.underlying s).bind fun | .struct fs => fs[f]? | _ => none).map (fun f => (f.offset, (P.info? f.type).map (·.size))) = some (off, some n)) (hn : n ≠ 0) :
    ∃ fs fd, P.underlying s = some (.struct fs) ∧ fs[f]? = some fd ∧ fd.offset = off ∧ ∃ n, (P.info? fd.type).map (·.size) = some n ∧ n ≠ 0 := by
  simp only [Option.map_eq_some_iff, Option.bind_eq_some_iff, Prod.mk.injEq] at h
  obtain ⟨fd, ⟨u, hu, hf⟩, h1, h2⟩ := h
  cases u <;> simp at hf
  exact ⟨_, fd, hu, hf, h1, n, by simpa using h2, hn⟩
theorem f_fieldAddr {s : TypeId} {x : Operand} {f off : Nat} {a : Addr} (F : FieldOK P s f off) (ho : o.op = .fieldAddr s x f) (hx : evE E x = .pointer (some a)) : PureAt P (execOp (evE E) o) (.pointer (some (a.add off))) := fun w => by
  obtain ⟨fs, fd, h1, h2, rfl, n, h3, h4⟩ := F.h
  simp [execOp, ho, hx, Instr.fieldAt, run_underlying' h1, h2, Instr.sureAddr, fieldPlace, run_sizeOf h3, h4]
def ixA (size : Nat) (s : Sl) (i : Int) : Option Addr :=
  match s.a with
  | some a => if 0 ≤ i ∧ i < (s.len : Int) then some (a.add (i.toNat * size)) else none
  | none => none
theorem f_indexAddr {t e : TypeId} {x i : Operand} {s : Sl} {k : IntKind} {n : Int} {size : Nat} {a : Addr} (ht : P.underlying t = some (.slice e)) (hs : (P.info? e).map (·.size) = some size)
    (ho : o.op = .indexAddr t x i) (hx : evE E x = .slice s.a s.len s.cap) (hi : evE E i = .int k n) (ha : ixA size s n = some a) : PureAt P (execOp (evE E) o) (.pointer (some a)) := fun w => by
  unfold ixA at ha
  cases hb : s.a with
  | none => rw [hb] at ha; cases ha
  | some b =>
    rw [hb] at ha hx
    simp only at ha
    split at ha
    · rename_i hin
      simp only [Option.some.injEq] at ha
      simp [execOp, ho, hx, hi, Instr.indexAt, asIntOf, run_underlying' ht, hin, run_sizeOf hs, ← ha]
    · cases ha
def ixR (len size : Nat) (a : Addr) (i : Int) : Option Addr := if 0 ≤ i ∧ i < (len : Int) then some (a.add (i.toNat * size)) else none
theorem f_indexAddrR {t e : TypeId} {x i : Operand} {b a : Addr} {k : IntKind} {n : Int} {len size : Nat} (ht : P.underlying t = some (.array len e)) (hs : (P.info? e).map (·.size) = some size)
    (ho : o.op = .indexAddr t x i) (hx : evE E x = .pointer (some b)) (hi : evE E i = .int k n) (ha : ixR len size b n = some a) : PureAt P (execOp (evE E) o) (.pointer (some a)) := fun w => by
  unfold ixR at ha
  split at ha
  · rename_i hin
    simp only [Option.some.injEq] at ha
    simp [execOp, ho, hx, hi, Instr.indexAt, asIntOf, run_underlying' ht, Instr.sureAddr, hin, run_sizeOf hs, ← ha]
  · cases ha
theorem f_load {α : Type} (K : Kd α) {t : TypeId} (T : TyOK P t K.n K.agg) {x : Operand} {a : Addr} {h : H} {y : α} {v : Value} (ho : o.op = .load t x) (hx : evE E x = .pointer (some a)) (hl : ld K a h = some y) (hv : K.val y = v) : ReadAt P (execOp (evE E) o) h v := fun c d h' e => by
  subst hv
  simp only [execOp, ho, hx, Instr.loadAt, Instr.sureAddr, Sem.run_bind, Sem.run_pure, Result.andThen_ok]
  rw [run_loadVar K T (ld_ext e hl) c d]; rfl
theorem f_store {α : Type} (K : Kd α) {t : TypeId} (T : (P.info? t).map (·.size) = some K.n) {x y : Operand} {a : Addr} {h h' : H} {z : α} (ho : o.op = .store t x y) (hx : evE E x = .pointer (some a)) (hy : evE E y = K.val z) (hs : st K a z h = some h') :
    RunH P (execOp (evE E) o) h fun v h1 => v = undef ∧ h1 = h' := fun c d => ⟨undef, h', d, .inr ⟨by
  simp only [execOp, ho, hx, hy, Instr.storeAt, Instr.sureAddr, Sem.run_bind, Sem.run_pure, Result.andThen_ok]
  rw [run_storeVar K T hs c d]; rfl, rfl⟩, rfl, rfl⟩

/-- A new variable. -/
def al (t : TypeId) (cs : List Value) (h : H) (K : Addr → H → Prop) : Prop := K ⟨h.size, 0, none⟩ (h.push (.cells cs.toArray t))
theorem f_box {t : TypeId} {x : Operand} {v : Value} {cs : List Value} {h : H} (ho : o.op = .box t x) (hx : evE E x = v) (hc : v.cells = cs.toArray) :
    AllocAt P (execOp (evE E) o) h fun u h' => u = .pointer (some ⟨h.size, 0, none⟩) ∧ h' = h.push (.cells cs.toArray t) := fun c d =>
  ⟨_, _, d, .inl (by simp only [execOp, ho, hx, Instr.box, newVar, newRow, Sem.run_bind, run_newObj, Result.andThen_ok, Sem.run_pure, hc]; rfl), Ext.push _ _, rfl, rfl⟩
theorem f_alloc {t : TypeId} {z : Value} {cs : List Value} {h : H} (hz : (P.info? t).bind (·.zero) = some z) (ho : o.op = .alloc t) (hc : z.cells = cs.toArray) :
    AllocAt P (execOp (evE E) o) h fun u h' => u = .pointer (some ⟨h.size, 0, none⟩) ∧ h' = h.push (.cells cs.toArray t) := fun c d => by
  simp only [Option.bind_eq_some_iff] at hz
  obtain ⟨i, hi, hz⟩ := hz
  exact ⟨_, _, d, .inl (by simp only [execOp, ho, Instr.alloc, zeroValue, typeInfo, newVar, newRow, Sem.run_bind, run_program, hi, hz, run_newObj, Result.andThen_ok, Sem.run_pure, hc]; rfl), Ext.push _ _, rfl, rfl⟩

/-! structs built, and taken apart -/
theorem f_extract {x : Operand} {i : Nat} {vs : Array Value} {v : Value} (ho : o.op = .extract x i) (hx : evE E x = .tuple vs) (hv : vs[i]? = some v) : PureAt P (execOp (evE E) o) v := fun w => by
  simp [execOp, ho, hx, Instr.extract, hv]
structure StructOK (P : Program) (t : TypeId) (places : Array (Nat × Nat)) (zero : Array Value) : Prop where
  h : ∃ fs, P.underlying t = some (.struct fs) ∧ (∃ i z, P.info? t = some i ∧ i.zero = some z ∧ z.cells = zero) ∧ fs.toList.map (fun f => (f.offset, (P.info? f.type).map (·.size))) = places.toList.map (fun p => (p.1, some p.2))
theorem struct_of {t : TypeId} {places : Array (Nat × Nat)} {zero : Array Value} {z : Value} {l : List (Nat × Option Nat)} (h : (P.underlying t).map (fun | .struct fs => fs.toList.map (fun f => (f.offset, (P.info? f.type).map (·.size))) | _ => []) = some l) (hz : (P.info? t).bind (·.zero) = some z)
    (h0 : z.cells = zero) (hl : l = places.toList.map (fun p => (p.1, some p.2))) (hs : ∃ fs, P.underlying t = some (.struct fs)) :
    ∃ fs, P.underlying t = some (.struct fs) ∧ (∃ i z, P.info? t = some i ∧ i.zero = some z ∧ z.cells = zero) ∧ fs.toList.map (fun f => (f.offset, (P.info? f.type).map (·.size))) = places.toList.map (fun p => (p.1, some p.2)) := by
  obtain ⟨fs, hs⟩ := hs
  rw [hs] at h
  simp only [Option.map_some, Option.some.injEq] at h
  simp only [Option.bind_eq_some_iff] at hz
  obtain ⟨i, hi, hz⟩ := hz
  exact ⟨fs, hs, ⟨i, z, hi, hz, h0⟩, by rw [h, hl]⟩
theorem run_places (w : World) : ∀ (fs : List Field) (pl : List (Nat × Nat)), fs.map (fun f => (f.offset, (P.info? f.type).map (·.size))) = pl.map (fun p => (p.1, some p.2)) →
    (fs.mapM (m := Sem) fun f => do pure (f.offset, ← sizeOf f.type)).run P w = .ok pl w
  | [], pl, h => by cases pl with
    | nil => simp
    | cons => simp at h
  | f :: fs, pl, h => by
    cases pl with
    | nil => simp at h
    | cons p pl =>
      simp only [List.map_cons, List.cons.injEq, Prod.mk.injEq] at h
      obtain ⟨⟨h1, h2⟩, h3⟩ := h
      simp only [List.mapM_cons, Sem.run_bind, run_sizeOf h2, Result.andThen_ok, Sem.run_pure, run_places w fs pl h3, h1]
theorem f_build {t : TypeId} {parts : Array (Nat × Operand)} {places : Array (Nat × Nat)} {zero cells : List Value} {pl : List (Nat × List Value)} (S : StructOK P t places zero.toArray) (ho : o.op = .build t parts) (hp : parts.toList.map (fun p => (p.1, (evE E p.2).cells.toList)) = pl) (hf : fillL (places[·]?) zero pl = some cells) :
    PureAt P (execOp (evE E) o) (.agg cells.toArray) := fun w => by
  obtain ⟨fs, h1, ⟨i, z, hi, hz, h0⟩, h2⟩ := S.h
  have h3 := run_places (P := P) w fs.toList places.toList h2
  have h4 := fill_of_fillL (places[·]?) (parts.toList.map fun p => (p.1, evE E p.2)) pl zero cells (by rw [List.map_map]; exact hp) hf
  simp only [execOp, ho, Instr.build, zeroValue, typeInfo, Sem.run_bind, run_program, hi, hz, Result.andThen_ok, Sem.run_pure, run_underlying' h1, Array.mapM_eq_mapM_toList, Sem.run_map, h3, h0, Array.toList_map]
  simp only [Array.toArray_toList, h4, Sem.run_pure, Result.andThen_ok]
theorem f_field {α : Type} (K : Kd α) {s : TypeId} {x : Operand} {f : Nat} {fs : Array Field} {fd : Field} {cs : Array Value} {y : α} {v : Value} (h1 : P.underlying s = some (.struct fs)) (h2 : fs[f]? = some fd) (T : TyOK P fd.type K.n K.agg) (ho : o.op = .field s x f) (hx : evE E x = .agg cs)
    (hy : cs.extract fd.offset (fd.offset + K.n) = (K.enc y).toArray) (hv : K.val y = v) : PureAt P (execOp (evE E) o) v := fun w => by
  subst hv
  simp only [execOp, ho, hx, Instr.field, Sem.run_bind, run_underlying' h1, h2, Result.andThen_ok, part, run_isAgg T.agg, asAgg, Sem.run_pure]
  have hagg : K.agg = true ∨ K.agg = false := by cases K.agg <;> simp
  rcases hagg with ha | ha
  · simp only [ha, if_true, Sem.run_bind, run_sizeOf T.size, Result.andThen_ok, Sem.run_pure, hy, Kd.val]
  · have h3 := K.single ha
    have h4 := K.len y
    rw [h3] at hy h4
    simp only [ha, Bool.false_eq_true, if_false, Kd.val]
    match he : K.enc y with
    | [u] =>
      rw [he] at hy
      have : cs[fd.offset]? = some u := by
        have h5 := congrArg (fun a : Array Value => a[0]?) hy
        simp only [Array.getElem?_extract] at h5
        simp at h5
        by_cases hlt : fd.offset < cs.size
        · have : min (fd.offset + 1) cs.size = fd.offset + 1 := by omega
          simp [this, hlt] at h5 ⊢; exact h5
        · have : min (fd.offset + 1) cs.size = cs.size := by omega
          simp [this] at h5
          omega
      simp [this]
    | [] => rw [he] at h4; cases h4
    | _ :: _ :: _ => rw [he] at h4; simp at h4

/-! numbers -/
theorem f_unOp {u : UnOp} {t : TypeId} {x : Operand} {v y : Value} (ho : o.op = .unOp u t x) (hx : evE E x = y) (hr : ∀ w : World, (Op.unary u y).run P w = .ok v w) : PureAt P (execOp (evE E) o) v := fun w => by
  simp [execOp, ho, hx, hr]
theorem f_not {t : TypeId} {x : Operand} {b : Bool} (ho : o.op = .unOp .not t x) (hx : evE E x = .bool b) : PureAt P (execOp (evE E) o) (.bool (!b)) := f_unOp ho hx fun w => by simp [Op.unary]
theorem f_neg {t : TypeId} {x : Operand} {k : IntKind} {n : Int} (ho : o.op = .unOp .neg t x) (hx : evE E x = .int k n) : PureAt P (execOp (evE E) o) (.int k (k.wrap (0 - n))) := f_unOp ho hx fun w => by simp [Op.unary, Op.intArith]
theorem f_bin {b : BinOp} {t t' : TypeId} {x y : Operand} {v u z : Value} (ho : o.op = .binOp b t x y t') (hx : evE E x = u) (hy : evE E y = z) (hg : ∀ w : World, (eqGuard b t x y u z).run P w = .ok () w) (hr : ∀ w : World, (binOp b t u z).run P w = .ok v w) : PureAt P (execOp (evE E) o) v := fun w => by
  simp [execOp, ho, hx, hy, hg, hr]
theorem guard_int {b : BinOp} {t : TypeId} {x y : Operand} {k k' : IntKind} {n m : Int} (w : World) : (eqGuard b t x y (.int k n) (.int k' m)).run P w = .ok () w := by
  unfold eqGuard; cases b <;> simp
theorem f_add {t t' : TypeId} {x y : Operand} {k : IntKind} {n m : Int} (ho : o.op = .binOp .add t x y t') (hx : evE E x = .int k n) (hy : evE E y = .int k m) : PureAt P (execOp (evE E) o) (.int k (k.wrap (n + m))) := f_bin ho hx hy guard_int fun w => by simp [binOp, Op.intArith]
theorem f_sub {t t' : TypeId} {x y : Operand} {k : IntKind} {n m : Int} (ho : o.op = .binOp .sub t x y t') (hx : evE E x = .int k n) (hy : evE E y = .int k m) : PureAt P (execOp (evE E) o) (.int k (k.wrap (n - m))) := f_bin ho hx hy guard_int fun w => by simp [binOp, Op.intArith]
theorem f_mul {t t' : TypeId} {x y : Operand} {k : IntKind} {n m : Int} (ho : o.op = .binOp .mul t x y t') (hx : evE E x = .int k n) (hy : evE E y = .int k m) : PureAt P (execOp (evE E) o) (.int k (k.wrap (n * m))) := f_bin ho hx hy guard_int fun w => by simp [binOp, Op.intArith]
def quoI (k : IntKind) (n m : Int) : Option Int := if m = 0 then none else some (k.wrap (n.tdiv m))
def remI (n m : Int) : Option Int := if m = 0 then none else some (n.tmod m)
theorem f_quo {t t' : TypeId} {x y : Operand} {k : IntKind} {n m r : Int} (ho : o.op = .binOp .quo t x y t') (hx : evE E x = .int k n) (hy : evE E y = .int k m) (hr : quoI k n m = some r) : PureAt P (execOp (evE E) o) (.int k r) := f_bin ho hx hy guard_int fun w => by
  unfold quoI at hr
  split at hr
  · cases hr
  · rename_i h; simp at hr; simp [binOp, Op.intDiv, h, hr]
theorem f_rem {t t' : TypeId} {x y : Operand} {k : IntKind} {n m r : Int} (ho : o.op = .binOp .rem t x y t') (hx : evE E x = .int k n) (hy : evE E y = .int k m) (hr : remI n m = some r) : PureAt P (execOp (evE E) o) (.int k r) := f_bin ho hx hy guard_int fun w => by
  unfold remI at hr
  split at hr
  · cases hr
  · rename_i h; simp at hr; simp [binOp, Op.intDiv, h, hr]
def bitI (b : BinOp) (k : IntKind) (n m : Int) : Int :=
  let x := BitVec.ofInt k.bits n
  let y := BitVec.ofInt k.bits m
  k.wrap (match b with
  | .and => x &&& y
  | .or => x ||| y
  | .xor => x ^^^ y
  | _ => x &&& ~~~y : BitVec k.bits).toNat
theorem f_and {t t' : TypeId} {x y : Operand} {k : IntKind} {n m : Int} (ho : o.op = .binOp .and t x y t') (hx : evE E x = .int k n) (hy : evE E y = .int k m) : PureAt P (execOp (evE E) o) (.int k (bitI .and k n m)) := f_bin ho hx hy guard_int fun w => by simp [binOp, Op.intBits, bitI]
theorem f_or {t t' : TypeId} {x y : Operand} {k : IntKind} {n m : Int} (ho : o.op = .binOp .or t x y t') (hx : evE E x = .int k n) (hy : evE E y = .int k m) : PureAt P (execOp (evE E) o) (.int k (bitI .or k n m)) := f_bin ho hx hy guard_int fun w => by simp [binOp, Op.intBits, bitI]
theorem f_xor {t t' : TypeId} {x y : Operand} {k : IntKind} {n m : Int} (ho : o.op = .binOp .xor t x y t') (hx : evE E x = .int k n) (hy : evE E y = .int k m) : PureAt P (execOp (evE E) o) (.int k (bitI .xor k n m)) := f_bin ho hx hy guard_int fun w => by simp [binOp, Op.intBits, bitI]
def shlI (k : IntKind) (n m : Int) : Option Int := if m < 0 then none else some (k.wrap (n * 2 ^ (min m.toNat k.bits)))
def shrI (k : IntKind) (n m : Int) : Option Int := if m < 0 then none else some (n.fdiv (2 ^ (min m.toNat k.bits)))
theorem f_shl {t t' : TypeId} {x y : Operand} {k k' : IntKind} {n m r : Int} (ho : o.op = .binOp .shl t x y t') (hx : evE E x = .int k n) (hy : evE E y = .int k' m) (hr : shlI k n m = some r) : PureAt P (execOp (evE E) o) (.int k r) := f_bin ho hx hy guard_int fun w => by
  unfold shlI at hr
  split at hr
  · cases hr
  · rename_i h; simp at hr; simp [binOp, Op.shift, h, hr]
theorem f_shr {t t' : TypeId} {x y : Operand} {k k' : IntKind} {n m r : Int} (ho : o.op = .binOp .shr t x y t') (hx : evE E x = .int k n) (hy : evE E y = .int k' m) (hr : shrI k n m = some r) : PureAt P (execOp (evE E) o) (.int k r) := f_bin ho hx hy guard_int fun w => by
  unfold shrI at hr
  split at hr
  · cases hr
  · rename_i h; simp at hr; simp [binOp, Op.shift, h, hr]
section
variable {t t' : TypeId} {x y : Operand} {k : IntKind} {n m : Int}
theorem f_eql (ho : o.op = .binOp .eql t x y t') (hx : evE E x = .int k n) (hy : evE E y = .int k m) : PureAt P (execOp (evE E) o) (.bool (n == m)) := f_bin ho hx hy guard_int fun w => by simp [binOp, Op.intCmp]
theorem f_neq (ho : o.op = .binOp .neq t x y t') (hx : evE E x = .int k n) (hy : evE E y = .int k m) : PureAt P (execOp (evE E) o) (.bool (n != m)) := f_bin ho hx hy guard_int fun w => by simp [binOp, Op.intCmp]
theorem f_lss (ho : o.op = .binOp .lss t x y t') (hx : evE E x = .int k n) (hy : evE E y = .int k m) : PureAt P (execOp (evE E) o) (.bool (decide (n < m))) := f_bin ho hx hy guard_int fun w => by simp [binOp, Op.intCmp]
theorem f_leq (ho : o.op = .binOp .leq t x y t') (hx : evE E x = .int k n) (hy : evE E y = .int k m) : PureAt P (execOp (evE E) o) (.bool (decide (n ≤ m))) := f_bin ho hx hy guard_int fun w => by simp [binOp, Op.intCmp]
theorem f_gtr (ho : o.op = .binOp .gtr t x y t') (hx : evE E x = .int k n) (hy : evE E y = .int k m) : PureAt P (execOp (evE E) o) (.bool (decide (n > m))) := f_bin ho hx hy guard_int fun w => by simp [binOp, Op.intCmp]
theorem f_geq (ho : o.op = .binOp .geq t x y t') (hx : evE E x = .int k n) (hy : evE E y = .int k m) : PureAt P (execOp (evE E) o) (.bool (decide (n ≥ m))) := f_bin ho hx hy guard_int fun w => by simp [binOp, Op.intCmp]
end
theorem f_seql {t t' : TypeId} {x y : Operand} {a b : ByteArray} (ho : o.op = .binOp .eql t x y t') (hx : evE E x = .string a) (hy : evE E y = .string b) : PureAt P (execOp (evE E) o) (.bool (a.toList == b.toList)) := f_bin ho hx hy (fun w => by simp [eqGuard]) fun w => by simp [binOp, Op.stringOp]
theorem f_sneq {t t' : TypeId} {x y : Operand} {a b : ByteArray} (ho : o.op = .binOp .neq t x y t') (hx : evE E x = .string a) (hy : evE E y = .string b) : PureAt P (execOp (evE E) o) (.bool (!(a.toList == b.toList))) := f_bin ho hx hy (fun w => by simp [eqGuard]) fun w => by simp [binOp, Op.stringOp]
theorem run_equal {t : TypeId} {u z : Value} {r : Bool} {w : World} (h : ∀ d, (Op.equalIn (d + 5) t u z).run P w = .ok r w) : (Op.equal t u z).run P w = .ok r w := h 9995
theorem eqIn_bool {t : TypeId} {a b : Bool} (hu : P.underlying t = some .bool) (d : Nat) (w : World) : (Op.equalIn (d + 1) t (.bool a) (.bool b)).run P w = .ok (a == b) w := by
  unfold Op.equalIn; simp only [Sem.run_bind, run_underlying' hu, Result.andThen_ok, Sem.run_pure]
theorem eqIn_int {t : TypeId} {k k' : IntKind} {a b : Int} (hu : P.underlying t = some (.int k')) (d : Nat) (w : World) : (Op.equalIn (d + 1) t (.int k a) (.int k b)).run P w = .ok (a == b) w := by
  unfold Op.equalIn; simp only [Sem.run_bind, run_underlying' hu, Result.andThen_ok, Sem.run_pure, if_true]
theorem eqIn_string {t : TypeId} {a b : ByteArray} (hu : P.underlying t = some .string) (d : Nat) (w : World) : (Op.equalIn (d + 1) t (.string a) (.string b)).run P w = .ok (a == b) w := by
  unfold Op.equalIn; simp only [Sem.run_bind, run_underlying' hu, Result.andThen_ok, Sem.run_pure]
theorem eqIn_ptrN {t e : TypeId} {a : Option Addr} (hu : P.underlying t = some (.pointer e)) (d : Nat) (w : World) : (Op.equalIn (d + 1) t (.pointer a) (.pointer none)).run P w = .ok a.isNone w := by
  unfold Op.equalIn; simp only [Sem.run_bind, run_underlying' hu, Result.andThen_ok]; cases a <;> simp
theorem eqIn_nilP {t e : TypeId} {a : Option Addr} (hu : P.underlying t = some (.pointer e)) (d : Nat) (w : World) : (Op.equalIn (d + 1) t (.pointer none) (.pointer a)).run P w = .ok a.isNone w := by
  unfold Op.equalIn; simp only [Sem.run_bind, run_underlying' hu, Result.andThen_ok, Sem.run_pure]
theorem f_eqlOf {t t' : TypeId} {x y : Operand} {u z : Value} {r : Bool} (ho : o.op = .binOp .eql t x y t') (hx : evE E x = u) (hy : evE E y = z) (hg : ∀ w : World, (eqGuard .eql t x y u z).run P w = .ok () w)
    (hb : binOp .eql t u z = (do pure (.bool (← Op.equal t u z)))) (hr : ∀ (d : Nat) (w : World), (Op.equalIn (d + 5) t u z).run P w = .ok r w) : PureAt P (execOp (evE E) o) (.bool r) := f_bin ho hx hy hg fun w => by
  rw [hb]; simp only [Sem.run_bind, run_equal fun d => hr d w, Result.andThen_ok, Sem.run_pure]
theorem f_neqOf {t t' : TypeId} {x y : Operand} {u z : Value} {r : Bool} (ho : o.op = .binOp .neq t x y t') (hx : evE E x = u) (hy : evE E y = z) (hg : ∀ w : World, (eqGuard .neq t x y u z).run P w = .ok () w)
    (hb : binOp .neq t u z = (do pure (.bool (!(← Op.equal t u z))))) (hr : ∀ (d : Nat) (w : World), (Op.equalIn (d + 5) t u z).run P w = .ok r w) : PureAt P (execOp (evE E) o) (.bool (!r)) := f_bin ho hx hy hg fun w => by
  rw [hb]; simp only [Sem.run_bind, run_equal fun d => hr d w, Result.andThen_ok, Sem.run_pure]
theorem f_beql {t t' : TypeId} {x y : Operand} {a b : Bool} (hu : P.underlying t = some .bool) (ho : o.op = .binOp .eql t x y t') (hx : evE E x = .bool a) (hy : evE E y = .bool b) : PureAt P (execOp (evE E) o) (.bool (a == b)) := f_eqlOf ho hx hy (fun w => by simp [eqGuard]) rfl (fun d w => eqIn_bool hu (d + 4) w)
theorem f_bneq {t t' : TypeId} {x y : Operand} {a b : Bool} (hu : P.underlying t = some .bool) (ho : o.op = .binOp .neq t x y t') (hx : evE E x = .bool a) (hy : evE E y = .bool b) : PureAt P (execOp (evE E) o) (.bool (!(a == b))) := f_neqOf ho hx hy (fun w => by simp [eqGuard]) rfl (fun d w => eqIn_bool hu (d + 4) w)
theorem f_peqln {t t' e : TypeId} {x y : Operand} {a : Option Addr} (hu : P.underlying t = some (.pointer e)) (ho : o.op = .binOp .eql t x y t') (hx : evE E x = .pointer a) (hy : evE E y = .pointer none) : PureAt P (execOp (evE E) o) (.bool a.isNone) := f_eqlOf ho hx hy (fun w => by simp [eqGuard]) rfl (fun d w => eqIn_ptrN hu (d + 4) w)
theorem f_pneqn {t t' e : TypeId} {x y : Operand} {a : Option Addr} (hu : P.underlying t = some (.pointer e)) (ho : o.op = .binOp .neq t x y t') (hx : evE E x = .pointer a) (hy : evE E y = .pointer none) : PureAt P (execOp (evE E) o) (.bool (!a.isNone)) := f_neqOf ho hx hy (fun w => by simp [eqGuard]) rfl (fun d w => eqIn_ptrN hu (d + 4) w)
/-- The fields' own equalities. -/
def EqFs (P : Program) (k : Nat) (xs ys : Array Value) : List Field → List Bool → Prop
  | [], [] => True
  | f :: fs, b :: bs => f.name ≠ "_" ∧ (∃ u v, (∀ w : World, (part f.type xs f.offset).run P w = .ok u w) ∧ (∀ w : World, (part f.type ys f.offset).run P w = .ok v w) ∧ ∀ (d : Nat) (w : World), (Op.equalIn (d + k) f.type u v).run P w = .ok b w) ∧ EqFs P k xs ys fs bs
  | _, _ => False
theorem eqIn_struct {k : Nat} {t : TypeId} {fs : Array Field} {xs ys : Array Value} {bs : List Bool} (hu : P.underlying t = some (.struct fs)) (hst : P.stoodInHeld t = false) (he : EqFs P k xs ys fs.toList bs) (d : Nat) (w : World) : (Op.equalIn (d + k + 1) t (.agg xs) (.agg ys)).run P w = .ok (bs.all id) w := by
  unfold Op.equalIn
  simp only [Sem.run_bind, run_underlying' hu, Result.andThen_ok, run_program, hst, Bool.false_eq_true, if_false]
  rw [← Array.forIn_toList]
  generalize fs.toList = l at he
  clear hu
  induction l generalizing bs w with
  | nil =>
    cases bs with
    | nil => simp
    | cons => exact he.elim
  | cons f l ih =>
    cases bs with
    | nil => exact he.elim
    | cons b bs =>
      obtain ⟨hn, ⟨u, v, h1, h2, h3⟩, he⟩ := he
      simp only [List.forIn_cons, Sem.run_bind, if_pos hn, h1, h2, h3, Result.andThen_ok]
      cases b with
      | false => simp
      | true =>
        simp only [Bool.not_true, Bool.false_eq_true, if_false, Sem.run_pure, Result.andThen_ok]
        have := ih w he
        simpa using this
theorem part_one {t : TypeId} {cs : Array Value} {off : Nat} {v : Value} (T : TyOK P t 1 false) (h : cs[off]? = some v) (w : World) : (part t cs off).run P w = .ok v w := by
  simp only [part, Sem.run_bind, run_isAgg T.agg, Result.andThen_ok, Bool.false_eq_true, if_false, h, Sem.run_pure]
theorem part_agg {t : TypeId} {cs : Array Value} {off n : Nat} (T : TyOK P t n true) (w : World) : (part t cs off).run P w = .ok (.agg (cs.extract off (off + n))) w := by
  simp only [part, Sem.run_bind, run_isAgg T.agg, Result.andThen_ok, if_true, run_sizeOf T.size, Sem.run_pure]
theorem guard_struct {b : BinOp} {t : TypeId} {x y : Operand} {xs ys : Array Value} (h : P.eqGuardType P.depth t = false) (w : World) : (eqGuard b t x y (.agg xs) (.agg ys)).run P w = .ok () w := by
  unfold eqGuard
  cases b <;> simp [h]
theorem f_convI {s t : TypeId} {x : Operand} {k k' : IntKind} {n : Int} {u : TypeDesc} (hs : P.underlying s = some u) (ht : P.underlying t = some (.int k)) (ho : o.op = .convert s t x) (hx : evE E x = .int k' n) : PureAt P (execOp (evE E) o) (.int k (k.wrap n)) := fun w => by
  simp [execOp, ho, hx, convert, run_underlying' hs, run_underlying' ht, Conv.intToInt]

def ixS (s : ByteArray) (i : Int) : Option Int := if 0 ≤ i then (s[i.toNat]?).map fun b => (b.toNat : Int) else none
theorem f_indexS {t : TypeId} {x y : Operand} {s : ByteArray} {k : IntKind} {n r : Int} (ht : P.underlying t = some .string) (ho : o.op = .index t x y) (hx : evE E x = .string s) (hy : evE E y = .int k n) (hr : ixS s n = some r) : PureAt P (execOp (evE E) o) (.int .u8 r) := fun w => by
  unfold ixS at hr
  split at hr
  · rename_i h
    simp only [Option.map_eq_some_iff] at hr
    obtain ⟨b, hb, rfl⟩ := hr
    simp [execOp, ho, hx, hy, Instr.index, asIntOf, run_underlying' ht, h, hb]
  · cases hr

/-! slices -/
theorem run_call_builtin {b : Builtin} {args : Array Operand} {ats : Array TypeId} (w : World) (ho : o.op = .call { callee := .builtin b, args := args, argTypes := ats }) :
    (execOp (evE E) o).run P w = (builtin b ats o.type (args.map fun | .const _ => true | _ => false) (args.map (evE E))).run P w := by
  simp only [execOp, ho, resolve, Sem.run_bind, Sem.run_pure, Result.andThen_ok, invoke]
  rfl
theorem f_lenL {t e : TypeId} {x : Operand} {s : Sl} (ht : P.underlying t = some (.slice e)) (ho : o.op = .call { callee := .builtin .len, args := #[x], argTypes := #[t] }) (hx : evE E x = .slice s.a s.len s.cap) : PureAt P (execOp (evE E) o) (.int .i64 (s.len : Int)) := fun w => by
  rw [run_call_builtin w ho]; simp [builtin, Builtin.len_, hx, run_underlying' ht, goInt]
theorem f_lenS {t : TypeId} {x : Operand} {s : ByteArray} (ht : P.underlying t = some .string) (ho : o.op = .call { callee := .builtin .len, args := #[x], argTypes := #[t] }) (hx : evE E x = .string s) : PureAt P (execOp (evE E) o) (.int .i64 (s.size : Int)) := fun w => by
  rw [run_call_builtin w ho]; simp [builtin, Builtin.len_, hx, run_underlying' ht, goInt]
theorem f_capL {t e : TypeId} {x : Operand} {s : Sl} (ht : P.underlying t = some (.slice e)) (ho : o.op = .call { callee := .builtin .cap, args := #[x], argTypes := #[t] }) (hx : evE E x = .slice s.a s.len s.cap) : PureAt P (execOp (evE E) o) (.int .i64 (s.cap : Int)) := fun w => by
  rw [run_call_builtin w ho]; simp [builtin, Builtin.cap_, hx, run_underlying' ht, goInt]
theorem f_min2 {x y : Operand} {ts : Array TypeId} {k : IntKind} {n m : Int} (ho : o.op = .call { callee := .builtin .min, args := #[x, y], argTypes := ts }) (hx : evE E x = .int k n) (hy : evE E y = .int k m) : PureAt P (execOp (evE E) o) (.int k (if m < n then m else n)) := fun w => by
  rw [run_call_builtin w ho]; simp [builtin, Builtin.min_, Builtin.min2, hx, hy]
theorem f_max2 {x y : Operand} {ts : Array TypeId} {k : IntKind} {n m : Int} (ho : o.op = .call { callee := .builtin .max, args := #[x, y], argTypes := ts }) (hx : evE E x = .int k n) (hy : evE E y = .int k m) : PureAt P (execOp (evE E) o) (.int k (if m > n then m else n)) := fun w => by
  rw [run_call_builtin w ho]; simp [builtin, Builtin.max_, Builtin.max2, hx, hy]
end
end
end Go.Tr
