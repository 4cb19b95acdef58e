/- Interfaces, functions as values, maps: kinds, words, and the operations' facts. -/
import Derived.Test.YtgmihbchcmjmdaaKinds
namespace Go.Tr
open Go

/-! ### interfaces -/
abbrev IF := Option (TypeId × Value)
def IF.val : IF → Value
  | none => .nilIface
  | some (t, v) => .iface t v
def kIf : Kd IF where
  n := 1
  agg := false
  enc x := [x.val]
  dec | [.iface t v] => some (some (t, v))
      | [.nilIface] => some none
      | _ => none
  len _ := rfl
  one x v h := by simp at h; subst h; cases x <;> rfl
  sound l x h := by split at h <;> simp at h <;> subst h <;> rfl
  full x := by cases x <;> rfl
  single _ := rfl
theorem if_cells (x : IF) : x.val.cells = #[x.val] := by cases x <;> rfl
/-! ### functions as values -/
structure FVal where
  fn : Fn
  first : Array Value
  captured : Array Value
abbrev FV := Option FVal
def FV.val : FV → Value
  | none => .nilFunc
  | some f => .func f.fn f.first f.captured
def kFn : Kd FV where
  n := 1
  agg := false
  enc x := [x.val]
  dec | [.func f a b] => some (some ⟨f, a, b⟩)
      | [.nilFunc] => some none
      | _ => none
  len _ := rfl
  one x v h := by simp at h; subst h; cases x <;> rfl
  sound l x h := by split at h <;> simp at h <;> subst h <;> rfl
  full x := by cases x <;> rfl
  single _ := rfl

theorem fn_cells (x : FV) : x.val.cells = #[x.val] := by cases x <;> rfl
section
variable {P : Program} {E : Env} {o : Oper}
theorem eqIn_ifN {t : TypeId} {ms : Array (String × TypeId)} {x : IF} (hu : P.underlying t = some (.interface ms)) (d : Nat) (w : World) : (Op.equalIn (d + 1) t x.val .nilIface).run P w = .ok x.isNone w := by
  unfold Op.equalIn
  simp only [Sem.run_bind, run_underlying' hu, Result.andThen_ok]
  cases x with
  | none => simp [IF.val]
  | some x => simp [IF.val]
theorem guard_ifN {b : BinOp} {t : TypeId} {x : Operand} {v : Value} (w : World) : (eqGuard b t x (.const .nilIface) v .nilIface).run P w = .ok () w := by
  unfold eqGuard
  cases b <;> cases v <;> simp
theorem f_ieqln {t t' : TypeId} {ms : Array (String × TypeId)} {x : Operand} {a : IF} (hu : P.underlying t = some (.interface ms)) (ho : o.op = .binOp .eql t x (.const .nilIface) t') (hx : evE E x = a.val) : PureAt P (execOp (evE E) o) (.bool a.isNone) := f_eqlOf ho hx rfl guard_ifN (by cases a <;> rfl) (fun d w => eqIn_ifN hu (d + 4) w)
theorem f_ineqn {t t' : TypeId} {ms : Array (String × TypeId)} {x : Operand} {a : IF} (hu : P.underlying t = some (.interface ms)) (ho : o.op = .binOp .neq t x (.const .nilIface) t') (hx : evE E x = a.val) : PureAt P (execOp (evE E) o) (.bool (!a.isNone)) := f_neqOf ho hx rfl guard_ifN (by cases a <;> rfl) (fun d w => eqIn_ifN hu (d + 4) w)
theorem f_makeIf {t : TypeId} {x : Operand} {v : Value} {u : TypeDesc} (hu : P.underlying t = some u) (hn : (match u with | .interface _ => true | _ => false) = false) (ho : o.op = .makeInterface t x) (hx : evE E x = v) : PureAt P (execOp (evE E) o) (IF.val (some (t, v))) := fun w => by
  simp only [execOp, ho, hx, Instr.makeInterface, Sem.run_bind, run_underlying' hu, Result.andThen_ok]
  cases u <;> simp at hn ⊢ <;> rfl
theorem f_makeFunc {fn : Fn} {first cap : Array Operand} {vs us : List Value} (ho : o.op = .makeFunc fn first cap) (h1 : first.toList.map (evE E) = vs) (h2 : cap.toList.map (evE E) = us) : PureAt P (execOp (evE E) o) (FV.val (some ⟨fn, vs.toArray, us.toArray⟩)) := fun w => by
  have e1 : first.map (evE E) = vs.toArray := by rw [← h1]; apply Array.ext'; simp
  have e2 : cap.map (evE E) = us.toArray := by rw [← h2]; apply Array.ext'; simp
  simp only [execOp, ho, Instr.makeFunc, Sem.run_bind, Sem.run_pure, Result.andThen_ok, e1, e2]
  rfl
/-- A call of a function value. -/
def apF (P : Program) (f : FV) (args : List Value) (h : H) (K : Value → H → Prop) : Prop :=
  ∃ (g : FuncId) (first cap : List Value) (fn : Func), f = some ⟨.func g, first.toArray, cap.toArray⟩ ∧ P.funcs[g]? = some fn ∧ (fn.name == "runtime.NumGoroutine") = false ∧ fn.body.isNone = false ∧ CallsH P g (first ++ args ++ cap).toArray h K
theorem f_callV {x : Operand} {args : Array Operand} {ats : Array TypeId} {f : FV} {vs : List Value} {h : H} {QV : Value → H → Prop} (hx : evE E x = f.val)
    (ho : o.op = .call { callee := .value x, args := args, argTypes := ats }) (hv : args.toList.map (evE E) = vs) (hF : apF P f vs h QV) : EnterH P (execOp (evE E) o) h QV := by
  obtain ⟨g, first, cap, fn, rfl, hf, hnm, hb, hc⟩ := hF
  have hv : args.map (evE E) = vs.toArray := by rw [← hv]; apply Array.ext'; simp
  refine ⟨g, (first ++ vs ++ cap).toArray, fun c d => ⟨d, ?_⟩, hc⟩
  simp only [execOp, ho, resolve, hx, FV.val, Deferred.ofValue, Sem.run_bind, Sem.run_pure, Result.andThen_ok, invoke, callFunc, run_program, hf, hnm, hb, Bool.false_eq_true, if_false, hv]
  simp

/-! ### maps -/
def mget (r : Option Nat) (h : H) : Option (Array MapEntry × Nat) :=
  match r with
  | none => some (#[], 0)
  | some b => match h[b]? with
    | some (.map es c) => some (es, c)
    | _ => none
theorem mget_ext {r : Option Nat} {h h' : H} {x : Array MapEntry × Nat} (e : Ext h h') (hx : mget r h = some x) : mget r h' = some x := by
  unfold mget at *
  cases r with
  | none => exact hx
  | some b =>
    have hb : b < h.size := by
      rcases Nat.lt_or_ge b h.size with hl | hl
      · exact hl
      · simp only [Array.getElem?_eq_none hl] at hx; cases hx
    simp only [e.2 b hb]; exact hx
/-- What stands under a whole number in a map; whether it stands there. -/
def mlk {β : Type} (K : Kd β) (z : β) (kk : IntKind) (r : Option Nat) (n : Int) (h : H) : Option (β × Bool) :=
  (mget r h).bind fun x => (Instr.findNow (.int kk) (.int kk n) x.1.toList 0).bind fun
    | some (_, v) => (K.dec [v]).map fun y => (y, true)
    | none => some (z, false)
theorem mlk_ext {β : Type} {K : Kd β} {z : β} {kk : IntKind} {r : Option Nat} {n : Int} {h h' : H} {y : β × Bool} (e : Ext h h') (hx : mlk K z kk r n h = some y) : mlk K z kk r n h' = some y := by
  unfold mlk at *
  obtain ⟨x, h1, h2⟩ := Option.bind_eq_some_iff.1 hx
  exact Option.bind_eq_some_iff.2 ⟨x, mget_ext e h1, h2⟩
theorem val_of_dec {β : Type} {K : Kd β} (hK : K.agg = false) {v : Value} {y : β} (h : K.dec [v] = some y) : K.val y = v := by
  have := K.sound _ _ h
  unfold Kd.val
  rw [hK, this]; simp
theorem run_getMap (c : Ctx) (h : H) (d b : Nat) {es : Array MapEntry} {k : Nat} (hb : h[b]? = some (.map es k)) : (getObj b).run P (c.w h d) = .ok (.map es k) (c.w h d) := by
  have : (c.w h d).heap[b]? = some (.map es k) := hb
  simp only [getObj, Sem.run, this]
theorem run_checkKey {e : Bool} {t : TypeId} {k : IntKind} {n : Int} (ht : P.underlying t = some (.int k)) (d : Nat) (w : World) : (Instr.checkKey e (d + 1) t (.int k n)).run P w = .ok () w := by
  unfold Instr.checkKey
  simp only [Sem.run_bind, run_underlying' ht, Result.andThen_ok, Sem.run_pure]
theorem run_findKey {t : TypeId} {k : IntKind} {n : Int} {l : List MapEntry} {r : Option (Nat × Value)} (ht : P.underlying t = some (.int k)) (hr : Instr.findNow (.int k) (.int k n) l 0 = some r) (w : World) : (Instr.findKey t (.int k n) l).run P w = .ok r w := by
  unfold Instr.findKey
  simp only [Sem.run_bind, run_underlying' ht, Result.andThen_ok, hr, Sem.run_pure]
structure MapTy (P : Program) (t kt e : TypeId) (kk : IntKind) : Prop where
  u : P.underlying t = some (.map kt e)
  k : P.underlying kt = some (.int kk)
theorem run_lookup {β : Type} {K : Kd β} (hK : K.agg = false) {t kt e : TypeId} {kk : IntKind} {z y : β} {b ok : Bool} {r : Option Nat} {n : Int} {h : H} (M : MapTy P t kt e kk) (hz : (P.info? e).bind (·.zero) = some (K.val z)) (hr : mlk K z kk r n h = some (y, b)) (c : Ctx) (d : Nat) :
    (Instr.lookup t (.map r) (.int kk n) ok).run P (c.w h d) = .ok (if ok then .tuple #[K.val y, .bool b] else K.val y) (c.w h d) := by
  unfold mlk at hr
  obtain ⟨⟨es, cl⟩, h1, h2⟩ := Option.bind_eq_some_iff.1 hr
  obtain ⟨f, h3, h4⟩ := Option.bind_eq_some_iff.1 h2
  have hzv : ∀ w : World, (zeroValue e).run P w = .ok (K.val z) w := fun w => by
    simp only [Option.bind_eq_some_iff] at hz
    obtain ⟨i, hi, hz⟩ := hz
    simp [zeroValue, typeInfo, hi, hz]
  have rest : ((do
      Instr.checkKey es.isEmpty 10000 kt (.int kk n)
      let (v, ok') ← match ← Instr.findKey kt (.int kk n) es.toList with
        | some (_, v) => pure (v, true)
        | none => pure (← zeroValue e, false)
      pure (if ok then .tuple #[v, .bool ok'] else v)) : Sem Value).run P (c.w h d) = .ok (if ok then .tuple #[K.val y, .bool b] else K.val y) (c.w h d) := by
    simp only [Sem.run_bind, Result.andThen_ok, run_checkKey M.k 9999, run_findKey M.k h3]
    cases f with
    | none =>
      simp at h4; obtain ⟨rfl, rfl⟩ := h4
      simp only [Sem.run_bind, hzv, Result.andThen_ok, Sem.run_pure]
    | some f =>
      simp only [Option.map_eq_some_iff, Prod.mk.injEq] at h4
      obtain ⟨y', h5, rfl, rfl⟩ := h4
      simp only [Sem.run_bind, Sem.run_pure, Result.andThen_ok, val_of_dec hK h5]
  unfold Instr.lookup
  simp only [Sem.run_bind, run_underlying' M.u, Result.andThen_ok]
  unfold mget at h1
  cases r with
  | none =>
    simp at h1; obtain ⟨rfl, rfl⟩ := h1
    simp only [Sem.run_bind, Sem.run_pure, Result.andThen_ok] at rest ⊢
    exact rest
  | some b =>
    simp only at h1
    split at h1
    · rename_i hb
      simp at h1; obtain ⟨rfl, rfl⟩ := h1
      simp only [Sem.run_bind, run_getMap c h d b hb, Sem.run_pure, Result.andThen_ok] at rest ⊢
      exact rest
    · cases h1
theorem f_lookup {β : Type} {K : Kd β} (hK : K.agg = false) {t kt e : TypeId} {kk : IntKind} {z : β} {y : β × Bool} {r : Option Nat} {n : Int} {h : H} {u v : Operand} (M : MapTy P t kt e kk) (hz : (P.info? e).bind (·.zero) = some (K.val z)) (ho : o.op = .lookup t u v false) (hu : evE E u = .map r) (hv : evE E v = .int kk n) (hr : mlk K z kk r n h = some y) :
    ReadAt P (execOp (evE E) o) h (K.val y.1) := fun c d h' ex => by
  simp only [execOp, ho, hu, hv, Sem.run_bind, run_lookup (ok := false) hK M hz (mlk_ext ex hr) c d, Result.andThen_ok, Sem.run_pure]
  rfl
/-- A new map. -/
def mmk (h : H) (K : Option Nat → H → Prop) : Prop := K (some h.size) (h.push (.map #[] 0))
theorem f_makeMap {t : TypeId} {h : H} {Q : Option Nat → H → Prop} (ho : o.op = .makeMap t none) (hF : mmk h Q) : AllocAt P (execOp (evE E) o) h fun v h' => ∃ r : Option Nat, v = .map r ∧ Q r h' := fun c d =>
  ⟨_, _, d, .inl (by simp only [execOp, ho, Option.map_none, Instr.makeMap, Sem.run_bind, Sem.run_pure, Result.andThen_ok, run_newObj]; rfl), Ext.push _ _, _, rfl, hF⟩
def mln (r : Option Nat) (h : H) : Option Nat := (mget r h).map fun x => x.1.size
theorem mln_ext {r : Option Nat} {h h' : H} {n : Nat} (e : Ext h h') (hx : mln r h = some n) : mln r h' = some n := by
  unfold mln at *
  obtain ⟨x, h1, h2⟩ := Option.map_eq_some_iff.1 hx
  exact Option.map_eq_some_iff.2 ⟨x, mget_ext e h1, h2⟩
theorem f_lenM {t kt e : TypeId} {x : Operand} {r : Option Nat} {n : Nat} {h : H} (ht : P.underlying t = some (.map kt e)) (ho : o.op = .call { callee := .builtin .len, args := #[x], argTypes := #[t] }) (hx : evE E x = .map r) (hn : mln r h = some n) : ReadAt P (execOp (evE E) o) h (.int .i64 (n : Int)) := fun c d h' ex => by
  rw [run_call_builtin _ ho]
  have hn := mln_ext ex hn
  unfold mln at hn
  obtain ⟨⟨es, cl⟩, h1, rfl⟩ := Option.map_eq_some_iff.1 hn
  unfold mget at h1
  cases r with
  | none =>
    simp at h1; obtain ⟨rfl, rfl⟩ := h1
    simp [builtin, Builtin.len_, hx, run_underlying' ht, goInt]
  | some b =>
    simp only at h1
    split at h1
    · rename_i hb
      simp at h1; obtain ⟨rfl, rfl⟩ := h1
      simp only [builtin, Builtin.len_, List.map_toArray, List.map_cons, List.map_nil, hx, List.getElem?_toArray, List.getElem?_cons_zero, Sem.run_bind, run_underlying' ht, Result.andThen_ok, run_getMap c h' d b hb, Sem.run_pure, goInt]
    · cases h1
/-- m[n] = x -/
def mup {β : Type} (K : Kd β) (kk : IntKind) (r : Option Nat) (n : Int) (x : β) (h : H) : Option H :=
  r.bind fun b => match h[b]? with
    | some (.map es c) => (Instr.findNow (.int kk) (.int kk n) es.toList 0).map fun
      | some (i, _) => h.setIfInBounds b (.map (es.modify i fun e => { e with key := .int kk n, val := K.val x }) c)
      | none => h.setIfInBounds b (.map (es.push ⟨.int kk n, K.val x, c⟩) (c + 1))
    | _ => none
theorem findNow_key {kk : IntKind} {n : Int} : ∀ {l : List MapEntry} {i j : Nat} {v : Value}, Instr.findNow (.int kk) (.int kk n) l i = some (some (j, v)) → i ≤ j ∧ (l[j - i]?).map (·.key) = some (.int kk n)
  | [], i, j, v, h => by simp [Instr.findNow] at h
  | e :: l, i, j, v, h => by
    unfold Instr.findNow at h
    split at h
    · rename_i hs
      simp at h; obtain ⟨rfl, rfl⟩ := h
      refine ⟨Nat.le_refl _, ?_⟩
      simp only [Nat.sub_self, List.getElem?_cons_zero, Option.map_some]
      cases hk : e.key <;> rw [hk] at hs <;> simp [Instr.sameNow] at hs
      obtain ⟨rfl, rfl⟩ := hs
      rfl
    · have ih := findNow_key h
      refine ⟨by omega, ?_⟩
      rw [show j - i = (j - (i + 1)) + 1 by omega]
      simpa using ih.2
    · cases h
theorem run_setMap (c : Ctx) (h : H) (d b : Nat) {es : Array MapEntry} {k : Nat} (hb : h[b]? = some (.map es k)) (ob : Obj) : (setObj b ob).run P (c.w h d) = .ok () (c.w (h.setIfInBounds b ob) d) := by
  have : (c.w h d).heap[b]? = some (.map es k) := hb
  simp only [setObj, Sem.run, this]
  rfl
theorem run_mapUpdate {β : Type} {K : Kd β} {t kt e : TypeId} {kk : IntKind} {x : β} {r : Option Nat} {n : Int} {h h' : H} (M : MapTy P t kt e kk) (hr : mup K kk r n x h = some h') (c : Ctx) (d : Nat) :
    (Instr.mapUpdate t (.map r) (.int kk n) (K.val x)).run P (c.w h d) = .ok () (c.w h' d) := by
  unfold mup at hr
  obtain ⟨b, rfl, h1⟩ := Option.bind_eq_some_iff.1 hr
  split at h1
  · rename_i es cl hb
    obtain ⟨f, h2, h3⟩ := Option.map_eq_some_iff.1 h1
    unfold Instr.mapUpdate
    simp only [Sem.run_bind, run_underlying' M.u, Result.andThen_ok, run_getMap c h d b hb, run_checkKey M.k 9999, run_findKey M.k h2]
    cases f with
    | none =>
      simp only at h3
      subst h3
      simp only [run_setMap c h d b hb]
    | some f =>
      obtain ⟨i, v⟩ := f
      simp only at h3
      subst h3
      have hk := (findNow_key h2).2
      rw [Nat.sub_zero] at hk
      have hk' : (es[i]?).map (·.key) = some (.int kk n) := by simpa using hk
      have hst : (Instr.keyThatStays (.int kk n) (.int kk n)).run P (c.w h d) = .ok (.int kk n) (c.w h d) := by
        unfold Instr.keyThatStays
        have : Instr.sameBits 10000 (.int kk n) (.int kk n) = true := by
          show Instr.sameBits (9999 + 1) _ _ = true
          simp [Instr.sameBits]
        simp only [this, if_true, Sem.run_pure]
      simp only [hk', Option.getD_some, Sem.run_bind, hst, Result.andThen_ok, run_setMap c h d b hb]
  · cases h1
theorem f_mapUpdate {β : Type} {K : Kd β} {t kt e : TypeId} {kk : IntKind} {x : β} {r : Option Nat} {n : Int} {h h' : H} {u v z : Operand} (M : MapTy P t kt e kk) (ho : o.op = .mapUpdate t u v z) (hu : evE E u = .map r) (hv : evE E v = .int kk n) (hz : evE E z = K.val x) (hr : mup K kk r n x h = some h') :
    RunH P (execOp (evE E) o) h fun v h1 => v = undef ∧ h1 = h' := fun c d => ⟨undef, h', d, .inr ⟨by
  simp only [execOp, ho, hu, hv, hz, Sem.run_bind, run_mapUpdate M hr c d, Result.andThen_ok, Sem.run_pure], rfl⟩, rfl, rfl⟩
theorem f_insert {β : Type} {K : Kd β} {t kt e : TypeId} {kk : IntKind} {x : β} {r : Option Nat} {n : Int} {h h' : H} {u v z : Operand} (M : MapTy P t kt e kk) (ho : o.op = .insert t u v z) (hu : evE E u = .map r) (hv : evE E v = .int kk n) (hz : evE E z = K.val x) (hr : mup K kk r n x h = some h') :
    RunH P (execOp (evE E) o) h fun v h1 => v = undef ∧ h1 = h' := fun c d => ⟨undef, h', d, .inr ⟨by
  simp only [execOp, ho, hu, hv, hz, Sem.run_bind, run_mapUpdate M hr c d, Result.andThen_ok, Sem.run_pure], rfl⟩, rfl, rfl⟩

/-! ranging -/
def rng (r : Option Nat) (h : H) (K : Addr → H → Prop) : Prop :=
  match r with
  | none => K ⟨h.size, 0, none⟩ (h.push (.mapIter none 0 #[] 0))
  | some m => ∃ es c, h[m]? = some (.map es c) ∧ K ⟨h.size, 0, none⟩ (h.push (.mapIter (some m) c #[] c))
theorem f_rangeM {t kt e : TypeId} {x : Operand} {r : Option Nat} {h : H} {Q : Addr → H → Prop} (ht : P.underlying t = some (.map kt e)) (ho : o.op = .range t x) (hx : evE E x = .map r) (hF : rng r h Q) : AllocAt P (execOp (evE E) o) h fun v h' => ∃ a, v = .pointer (some a) ∧ Q a h' := fun c d => by
  unfold rng at hF
  cases r with
  | none =>
    exact ⟨_, _, d, .inl (by simp only [execOp, ho, hx, Instr.range, Sem.run_bind, run_underlying' ht, Sem.run_pure, Result.andThen_ok, run_newObj]; rfl), Ext.push _ _, _, rfl, hF⟩
  | some m =>
    obtain ⟨es, cl, hb, hF⟩ := hF
    exact ⟨_, _, d, .inl (by simp only [execOp, ho, hx, Instr.range, Sem.run_bind, run_underlying' ht, Sem.run_pure, Result.andThen_ok, run_getMap c h d m hb, run_newObj]; rfl), Ext.push _ _, _, rfl, hF⟩
/-- The next entry, whichever of those left; the end, if none of the old is left. -/
def nxt (it : Addr) (h : H) (K : Bool → H → Prop) : Prop :=
  it.off = 0 ∧ ∃ mo since seen last, h[it.block]? = some (.mapIter mo since seen last) ∧
    match mo with
    | none => K false h
    | some m => ∃ es clock, h[m]? = some (.map es clock) ∧ (!seen.isEmpty && !es.isEmpty && es.all (·.born ≥ last)) = false ∧
      (∀ e ∈ es, seen.contains e.born = false → K true (h.setIfInBounds it.block (.mapIter (some m) since (seen.push e.born) clock))) ∧
      ((∀ e ∈ es, seen.contains e.born = false → since ≤ e.born) → K false h)
theorem run_getIter (c : Ctx) (h : H) (d b : Nat) {mo : Option Nat} {since : Nat} {seen : Array Nat} {last : Nat} (hb : h[b]? = some (.mapIter mo since seen last)) : (getObj b).run P (c.w h d) = .ok (.mapIter mo since seen last) (c.w h d) := by
  have : (c.w h d).heap[b]? = some (.mapIter mo since seen last) := hb
  simp only [getObj, Sem.run, this]
theorem run_setIter (c : Ctx) (h : H) (d b : Nat) {mo : Option Nat} {since : Nat} {seen : Array Nat} {last : Nat} (hb : h[b]? = some (.mapIter mo since seen last)) (ob : Obj) : (setObj b ob).run P (c.w h d) = .ok () (c.w (h.setIfInBounds b ob) d) := by
  have : (c.w h d).heap[b]? = some (.mapIter mo since seen last) := hb
  simp only [setObj, Sem.run, this]
  rfl
theorem f_nextM {x : Operand} {it : Addr} {h : H} {Q : Bool → H → Prop} (ho : o.op = .next x false) (hx : evE E x = .pointer (some it)) (hF : nxt it h Q) : RunH P (execOp (evE E) o) h fun v h' => ∃ b vs, v = .tuple vs ∧ vs[0]? = some (.bool b) ∧ Q b h' := fun c d => by
  obtain ⟨h0, mo, since, seen, last, hi, hF⟩ := hF
  obtain ⟨blk, off, sp⟩ := it
  simp only at h0 hi hF
  subst h0
  cases mo with
  | none =>
    exact ⟨_, h, d, .inl (by simp only [execOp, ho, hx, Instr.next, Sem.run_bind, Sem.run_pure, Result.andThen_ok, run_getIter c h d blk hi]), false, #[.bool false], rfl, rfl, hF⟩
  | some m =>
    obtain ⟨es, clock, hm, hall, hK1, hK2⟩ := hF
    -- the candidates
    have run0 : ∀ (k : Value → H → Nat → Prop), True := fun _ => trivial
    let left := es.filter fun e => !seen.contains e.born
    let old := left.filter (·.born < since)
    let new := left.filter (·.born ≥ since)
    let cand : Array (Option MapEntry) := (if old.isEmpty then #[none] else #[]) ++ (old ++ new).map some
    have hpos : 0 < cand.size := by
      by_cases hold : old.isEmpty = true
      · simp only [cand, hold, if_true]; simp; omega
      · have : 0 < old.size := by
          rcases Nat.eq_zero_or_pos old.size with h0 | h0
          · exact absurd (by simp [Array.isEmpty, h0]) hold
          · exact h0
        simp only [cand, hold]; simp; omega
    have hdraw : ∃ (i d' : Nat), i < cand.size ∧ (choose (.mapNext cand.size)).run P (c.w h d) = .ok i (c.w h d') := by
      by_cases hf : cand.size ≤ 1
      · refine ⟨0, d, hpos, ?_⟩
        rw [run_choose]
        simp [Question.forced, hf]
      · refine ⟨Question.cut (.mapNext cand.size) (c.tape d (.mapNext cand.size)), d + 1, Nat.mod_lt _ hpos, ?_⟩
        rw [run_choose]
        have : Question.forced (.mapNext cand.size) = false := by simp [Question.forced]; omega
        rw [this]; rfl
    obtain ⟨i, d', hlt, hrun⟩ := hdraw
    have hmem : ∀ e, cand[i]? = some (some e) → e ∈ es ∧ seen.contains e.born = false := by
      intro e he
      have h1 : some e ∈ cand := Array.mem_of_getElem? he
      simp only [cand, Array.mem_append, Array.mem_map] at h1
      rcases h1 with h1 | ⟨e', h1, h2⟩
      · split at h1 <;> simp at h1
      · simp at h2; subst h2
        simp only [old, new, left, Array.mem_filter] at h1
        rcases h1 with h1 | h1
        · exact ⟨h1.1.1, by simpa using h1.1.2⟩
        · exact ⟨h1.1.1, by simpa using h1.1.2⟩
    have hnone : cand[i]? = some none → ∀ e ∈ es, seen.contains e.born = false → since ≤ e.born := by
      intro hn e he hs
      have h1 : (none : Option MapEntry) ∈ cand := Array.mem_of_getElem? hn
      simp only [cand, Array.mem_append, Array.mem_map] at h1
      rcases h1 with h1 | ⟨e', _, h2⟩
      · split at h1
        · rename_i hold
          rcases Nat.lt_or_ge e.born since with hb | hb
          · have : e ∈ old := by simp only [old, left, Array.mem_filter]; exact ⟨⟨he, by simpa using hs⟩, by simpa using hb⟩
            have : old = #[] := by simpa using hold
            simp_all
          · exact hb
        · simp at h1
      · simp at h2
    have hsome : ∃ z, cand[i]? = some z := ⟨_, Array.getElem?_eq_getElem hlt⟩
    obtain ⟨z, hz⟩ := hsome
    cases z with
    | none =>
      refine ⟨_, h, d', .inl ?_, false, #[.bool false], rfl, rfl, hK2 (hnone hz)⟩
      simp only [execOp, ho, hx, Instr.next, Sem.run_bind, Sem.run_pure, Result.andThen_ok, run_getIter c h d blk hi, run_getMap c h d m hm, hall, Bool.false_eq_true, if_false]
      have hz' := hz
      simp only [cand, old, new, left] at hz' hrun
      rw [hrun]
      simp only [Result.andThen_ok, hz', Sem.run_pure]
    | some e =>
      obtain ⟨he, hs⟩ := hmem e hz
      refine ⟨_, _, d', .inl ?_, true, #[.bool true, e.key, e.val], rfl, rfl, hK1 e he hs⟩
      simp only [execOp, ho, hx, Instr.next, Sem.run_bind, Sem.run_pure, Result.andThen_ok, run_getIter c h d blk hi, run_getMap c h d m hm, hall, Bool.false_eq_true, if_false]
      have hz' := hz
      simp only [cand, old, new, left] at hz' hrun
      rw [hrun]
      simp only [Result.andThen_ok, hz', Sem.run_bind, run_setIter c h d' blk hi, Sem.run_pure]
theorem f_extract0 {x : Operand} {i : Nat} {vs : Array Value} {v : Value} (hv : vs[i]? = some v) (ho : o.op = .extract x i) (hx : evE E x = .tuple vs) : PureAt P (execOp (evE E) o) v := f_extract ho hx hv
/-- The entry at which the last step stopped. -/
def Ent {β : Type} (K : Kd β) (kk : IntKind) (it : Addr) (h : H) (y : Int × β) : Prop :=
  it.off = 0 ∧ ∃ m since seen stepped es st e, h[it.block]? = some (.mapIter (some m) since seen stepped) ∧ seen.back? = some st ∧ h[m]? = some (.map es stepped) ∧ es.find? (·.born == st) = some e ∧ e.key = .int kk y.1 ∧ K.dec [e.val] = some y.2
def rdP {α : Type} (p : α → Prop) (K : α → Prop) : Prop := ∃ x, p x ∧ K x
theorem getE_ext {h h' : H} (e : Ext h h') {b : Nat} {ob : Obj} (hb : h[b]? = some ob) : h'[b]? = some ob := by
  have hlt : b < h.size := by
    rcases Nat.lt_or_ge b h.size with hl | hl
    · exact hl
    · simp only [Array.getElem?_eq_none hl] at hb; cases hb
  rw [e.2 b hlt]; exact hb
theorem f_entry {β : Type} {K : Kd β} (hK : K.agg = false) {kk : IntKind} {x : Operand} {it : Addr} {h : H} {y : Int × β} (ho : o.op = .entry x) (hx : evE E x = .pointer (some it)) (hr : Ent K kk it h y) : ReadAt P (execOp (evE E) o) h (.tuple #[.int kk y.1, K.val y.2]) := fun c d h' ex => by
  obtain ⟨h0, m, since, seen, stepped, es, st, e, hi, hst, hm, he, hkey, hz⟩ := hr
  obtain ⟨blk, off, sp⟩ := it
  simp only at h0 hi
  subst h0
  simp only [execOp, ho, hx, Instr.entry, Sem.run_bind, Sem.run_pure, Result.andThen_ok, run_getIter c h' d blk (getE_ext ex hi), hst, run_getMap c h' d m (getE_ext ex hm), bne_self_eq_false, Bool.false_eq_true, if_false, he, hkey, val_of_dec hK hz]
/-- clear(s) -/
def clr (z : List Value) (s : Sl) (h : H) : Option H :=
  match s.a with
  | none => some h
  | some a => if s.len = 0 then some h else wrCells h a (zCells z s.len)
theorem f_clear {t e : TypeId} {zc : List Value} {size bytes : Nat} (ht : P.underlying t = some (.slice e)) (hE : ElemOK P e size bytes zc) {x : Operand} {s : Sl} {h h' : H} (ho : o.op = .call { callee := .builtin .clear, args := #[x], argTypes := #[t] }) (hx : evE E x = s.val) (hc : clr zc s h = some h') :
    RunH P (execOp (evE E) o) h fun v h1 => v = .tuple #[] ∧ h1 = h' := fun c d => by
  refine ⟨_, h', d, .inl ?_, rfl, rfl⟩
  rw [run_call_builtin _ ho]
  obtain ⟨i, z, hi, hz, hzc, hs, hb⟩ := hE.h
  have hzv : ∀ w : World, (zeroValue e).run P w = .ok z w := fun w => by simp [zeroValue, typeInfo, hi, hz]
  unfold clr at hc
  cases ha : s.a with
  | none =>
    rw [ha] at hc; simp at hc; subst hc
    simp [builtin, Builtin.clear_, hx, Sl.val, ha, run_underlying' ht]
  | some a =>
    rw [ha] at hc
    simp only at hc
    by_cases h0 : s.len = 0
    · rw [if_pos h0] at hc; simp at hc; subst hc
      simp [builtin, Builtin.clear_, hx, Sl.val, ha, h0, run_underlying' ht]
    · rw [if_neg h0] at hc
      obtain ⟨n, hn⟩ : ∃ n, s.len = n + 1 := ⟨s.len - 1, by omega⟩
      have h1 := run_storeCells (P := P) c d a (zCells zc s.len) 0 h h' hc
      simp only [builtin, Builtin.clear_, List.map_toArray, List.map_cons, List.map_nil, hx, Sl.val, ha, List.getElem?_toArray, List.getElem?_cons_zero, Sem.run_bind, run_underlying' ht, Result.andThen_ok, hn, hzv, hzc, zeroCells_eq]
      rw [hn] at h1
      simp only [h1, Result.andThen_ok, Sem.run_pure]

/-! arrays of two whole numbers -/
def ar2 (x y : Int) : Ar 2 Int := ⟨[x, y], rfl⟩
def arr2eq (x y : Ar 2 Int) : Bool := x.l == y.l
theorem f_build2 {t e : TypeId} {k : IntKind} {x y : Operand} {z : Value} {a b : Int} (hu : P.underlying t = some (.array 2 e)) (T : TyOK P e 1 false) (hz : (P.info? t).bind (·.zero) = some z) (hz2 : z.cells.size = 2) (ho : o.op = .build t #[(0, x), (1, y)]) (hx : evE E x = .int k a) (hy : evE E y = .int k b) : PureAt P (execOp (evE E) o) (.agg #[.int k a, .int k b]) := fun w => by
  simp only [Option.bind_eq_some_iff] at hz
  obtain ⟨i, hi, hz⟩ := hz
  obtain ⟨cs, hcs⟩ : ∃ cs, z.cells = cs := ⟨_, rfl⟩
  obtain ⟨l, rfl⟩ : ∃ l : List Value, cs = l.toArray := ⟨cs.toList, by simp⟩
  match l with
  | [u, v] =>
    simp only [execOp, ho, Instr.build, zeroValue, typeInfo, Sem.run_bind, run_program, hi, hz, Result.andThen_ok, Sem.run_pure, run_underlying' hu, run_sizeOf T.size, hcs]
    simp [Instr.fill, hx, hy, Value.cells]
  | [] => simp [hcs] at hz2
  | [_] => simp [hcs] at hz2
  | _ :: _ :: _ :: _ => simp [hcs] at hz2
theorem eqIn_arr2 {t e : TypeId} {k : IntKind} (hu : P.underlying t = some (.array 2 e)) (he : P.underlying e = some (.int k)) (T : TyOK P e 1 false) (x y : Ar 2 Int) (d : Nat) (w : World) : (Op.equalIn (d + 2) t (Kd.val (kA 2 (kI k)) x) (Kd.val (kA 2 (kI k)) y)).run P w = .ok (arr2eq x y) w := by
  obtain ⟨l, hl⟩ := x
  obtain ⟨m, hm⟩ := y
  match l, hl, m, hm with
  | [a, b], _, [a', b'], _ =>
    have e1 : Kd.val (kA 2 (kI k)) ⟨[a, b], rfl⟩ = .agg #[.int k a, .int k b] := rfl
    have e2 : Kd.val (kA 2 (kI k)) ⟨[a', b'], rfl⟩ = .agg #[.int k a', .int k b'] := rfl
    have p : ∀ (cs : Array Value) (i : Nat) (v : Value), cs[i]? = some v → (part e cs i).run P w = .ok v w := fun cs i v h => part_one T h w
    rw [e1, e2]
    unfold Op.equalIn
    simp only [Sem.run_bind, run_underlying' hu, Result.andThen_ok, run_sizeOf T.size, Std.Legacy.Range.forIn_eq_forIn_range', Std.Legacy.Range.size]
    simp [List.range', p #[.int k a, .int k b] 0 (.int k a) rfl, p #[.int k a', .int k b'] 0 (.int k a') rfl, p #[.int k a, .int k b] 1 (.int k b) rfl, p #[.int k a', .int k b'] 1 (.int k b') rfl, eqIn_int he d, arr2eq]
    by_cases h1 : a = a'
    · subst h1
      by_cases h2 : b = b'
      · subst h2; simp
      · simp [h2]
    · simp [h1]
theorem f_a2neq {t t' e : TypeId} {k : IntKind} {u v : Operand} {x y : Ar 2 Int} (hu : P.underlying t = some (.array 2 e)) (he : P.underlying e = some (.int k)) (T : TyOK P e 1 false) (hg : P.eqGuardType P.depth t = false) (ho : o.op = .binOp .neq t u v t') (hx : evE E u = Kd.val (kA 2 (kI k)) x) (hy : evE E v = Kd.val (kA 2 (kI k)) y) : PureAt P (execOp (evE E) o) (.bool (!(arr2eq x y))) :=
  f_neqOf ho hx hy (fun w => guard_struct (xs := ((kA 2 (kI k)).enc x).toArray) (ys := ((kA 2 (kI k)).enc y).toArray) hg w) rfl (fun d w => eqIn_arr2 hu he T x y (d + 3) w)
theorem f_a2eql {t t' e : TypeId} {k : IntKind} {u v : Operand} {x y : Ar 2 Int} (hu : P.underlying t = some (.array 2 e)) (he : P.underlying e = some (.int k)) (T : TyOK P e 1 false) (hg : P.eqGuardType P.depth t = false) (ho : o.op = .binOp .eql t u v t') (hx : evE E u = Kd.val (kA 2 (kI k)) x) (hy : evE E v = Kd.val (kA 2 (kI k)) y) : PureAt P (execOp (evE E) o) (.bool (arr2eq x y)) :=
  f_eqlOf ho hx hy (fun w => guard_struct (xs := ((kA 2 (kI k)).enc x).toArray) (ys := ((kA 2 (kI k)).enc y).toArray) hg w) rfl (fun d w => eqIn_arr2 hu he T x y (d + 3) w)
end
end Go.Tr
