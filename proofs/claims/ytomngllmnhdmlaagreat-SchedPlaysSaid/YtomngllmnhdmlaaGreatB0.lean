/- Merged by merge.py: texts of this seat, one behind the other, in an order that builds. -/
import Derived.StillTail
import Derived.Tactics
import Derived.BigQuiet
import Derived.KernelRfl
import Derived.Below
import Derived.ScopeJumps
import Derived.Test.YtomngllmnhdmlaaGreatProg
/- A calculus over the kit's 'Code.wp' in which slots are a function and the world is its heap: the rules for straight code, branches, blocks, loops and calls. -/
namespace Go.Tr
open Go

abbrev H := Array Obj
abbrev Env := Nat → Value

structure Ctx where
  tape : Nat → Question → Nat
  os : Os
  out : Array (Nat × ByteArray)
def Ctx.w (c : Ctx) (h : H) (d : Nat) : World := ⟨h, c.tape, d, c.os, c.out⟩
@[simp] theorem Ctx.w_heap (c : Ctx) (h : H) (d : Nat) : (c.w h d).heap = h := rfl
theorem Ctx.of_world (w : World) : w = (Ctx.mk w.tape w.os w.output).w w.heap w.drawn := rfl

/-- What a call comes to, as the heap alone shows it. -/
def CallsH (P : Program) (f : FuncId) (args : Array Value) (h : H) (Q : Value → H → Prop) : Prop :=
  ∀ (c : Ctx) (d : Nat), Calls P f args (c.w h d) fun e w' => ∃ v h' d', e = .returned v ∧ w' = c.w h' d' ∧ Q v h'

theorem CallsH.mono {P : Program} {f : FuncId} {args : Array Value} {h : H} {Q Q' : Value → H → Prop} (hc : CallsH P f args h Q) (hq : ∀ v h', Q v h' → Q' v h') : CallsH P f args h Q' :=
  fun c d => (hc c d).mono fun _ _ ⟨v, h', d', he, hw, q⟩ => ⟨v, h', d', he, hw, hq _ _ q⟩

def upd (E : Env) (d : Nat) (v : Value) : Env := fun t => bif Nat.beq t d then v else E t
def updo (E : Env) : Option Nat → Value → Env
  | some d, v => upd E d v
  | none, _ => E
def evE (E : Env) : Operand → Value
  | .tmp t => E t
  | .const v => v
  | .global g => .pointer (some ⟨g, 0, none⟩)
  | .func f => .func (.func f) #[] #[]
def yE (ops : Array Oper) (E : Env) (j : Nat) : Option Bool :=
  match (ops[j]?).bind (·.dst) with
  | some d => (match E d with | .bool b => some b | _ => none)
  | none => none

theorem upd_same (E : Env) (d : Nat) (v : Value) : upd E d v d = v := by simp [upd]
theorem upd_ne (E : Env) {d t : Nat} (v : Value) (h : t ≠ d) : upd E d v t = E t := by
  have : Nat.beq t d = false := by
    rw [← Bool.not_eq_true]; intro e; exact h (Nat.eq_of_beq_eq_true e)
  simp [upd, this]
theorem upd_self {E : Env} {d : Nat} {v : Value} (h : E d = v) : upd E d v = E := by
  funext t
  by_cases e : t = d
  · subst e; rw [upd_same, h]
  · rw [upd_ne E v e]

/-- How many slots there are; what has been deferred. -/
structure NN where
  k : Nat
  ds : List Deferred
structure St (n : NN) (E : Env) (a : Act) : Prop where
  defers : a.defers = n.ds
  size : a.tmps.size = n.k
  tmps : ∀ t, a.tmps.getD t undef = E t

theorem St.eval {n : NN} {E : Env} {a : Act} (s : St n E a) : a.eval = evE E := by
  funext x
  cases x <;> simp only [Act.eval, evE]
  exact s.tmps _

theorem St.yielded {n : NN} {E : Env} {a : Act} (s : St n E a) (ops : Array Oper) : yielded ops a.tmps = yE ops E := by
  funext j
  unfold Go.yielded yE
  cases h : (ops[j]?).bind (·.dst) with
  | none => rfl
  | some d =>
    have := s.tmps d
    simp only [Option.bind_some]
    by_cases hd : d < a.tmps.size
    · have e : a.tmps[d]? = some (E d) := by
        rw [← this]; simp [hd]
      rw [e]; cases E d <;> rfl
    · have e : a.tmps[d]? = none := Array.getElem?_eq_none (Nat.le_of_not_lt hd)
      rw [e]
      have : E d = undef := by rw [← this]; simp [Array.getD, hd]
      rw [this]; rfl

theorem St.put {n : NN} {E : Env} {a : Act} (s : St n E a) (d : Option Nat) (v : Value) (hd : ∀ k, d = some k → k < n.k) : St n (updo E d v) (a.put d v) := by
  cases d with
  | none => exact s
  | some k =>
    refine ⟨s.defers, by simp [Act.put, s.size], fun t => ?_⟩
    have hk : k < a.tmps.size := by rw [s.size]; exact hd k rfl
    simp only [Act.put, updo]
    by_cases e : t = k
    · subst e; rw [upd_same]; simp [hk]
    · rw [upd_ne _ _ e, ← s.tmps t]
      simp only [Array.getD_eq_getD_getElem?, Array.getElem?_setIfInBounds]
      rw [if_neg (Ne.symm e)]

/-- One operation that runs in place: its value, the heap behind it; whatever the tape says. -/
def RunH (P : Program) (s : Sem Next) (h : H) (K : Value → H → Prop) : Prop :=
  ∀ (c : Ctx) (d : Nat), ∃ v h' d', (s.run P (c.w h d) = .ok (.value v) (c.w h' d') ∨ (s.run P (c.w h d) = .ok .skip (c.w h' d') ∧ v = undef)) ∧ K v h'
/-- One operation that calls. -/
def EnterH (P : Program) (s : Sem Next) (h : H) (K : Value → H → Prop) : Prop :=
  ∃ f args, (∀ (c : Ctx) (d : Nat), ∃ d', s.run P (c.w h d) = .ok (.enter f args) (c.w h d')) ∧ CallsH P f args h K
def StepH (P : Program) (o : Oper) (E : Env) (h : H) (K : Value → H → Prop) : Prop :=
  RunH P (execOp (evE E) o) h K ∨ EnterH P (execOp (evE E) o) h K

theorem RunH.mono {P : Program} {s : Sem Next} {h : H} {K K' : Value → H → Prop} (r : RunH P s h K) (k : ∀ v h', K v h' → K' v h') : RunH P s h K' :=
  fun c d => let ⟨v, h', d', e, q⟩ := r c d; ⟨v, h', d', e, k _ _ q⟩
theorem StepH.mono {P : Program} {o : Oper} {E : Env} {h : H} {K K' : Value → H → Prop} (r : StepH P o E h K) (k : ∀ v h', K v h' → K' v h') : StepH P o E h K' := by
  rcases r with r | ⟨f, args, e, r⟩
  · exact .inl (r.mono k)
  · exact .inr ⟨f, args, e, r.mono k⟩

/-- The rest of a region's operations, in the order of the list. -/
def EvK (P : Program) (n : NN) (ops : Array Oper) : List Oper → Env → H → (Env → H → Prop) → Prop
  | [], E, h, K => K E h
  | o :: l, E, h, K => (∀ k, o.dst = some k → k < n.k) ∧
    if Region.wanted o (yE ops E) then StepH P o E h (fun v h' => EvK P n ops l (updo E o.dst v) h' K) else EvK P n ops l (updo E o.dst undef) h K

theorem EvK.mono {P : Program} {n : NN} {ops : Array Oper} {K K' : Env → H → Prop} (k : ∀ E h, K E h → K' E h) : ∀ (l : List Oper) (E : Env) (h : H), EvK P n ops l E h K → EvK P n ops l E h K'
  | [], _, _, h => k _ _ h
  | o :: l, E, h, hh => by
    refine ⟨hh.1, ?_⟩
    have := hh.2
    split <;> rename_i hw
    · rw [if_pos hw] at this; exact this.mono fun v h' q => EvK.mono k l _ _ q
    · rw [if_neg hw] at this; exact EvK.mono k l _ _ this

theorem Oper.wp_of_stepH {P : Program} {n : NN} {o : Oper} {E : Env} {a : Act} {c : Ctx} {h : H} {d : Nat} {K : Value → H → Prop} {next : Act → World → Prop} {Q : Exit → Act → World → Prop}
    (s : St n E a) (hs : StepH P o E h K) (hk : ∀ v h' d', K v h' → next (a.put o.dst v) (c.w h' d')) : o.wp P a (c.w h d) next Q := by
  unfold Oper.wp
  rw [s.eval]
  rcases hs with r | ⟨f, args, e, r⟩
  · obtain ⟨v, h', d', e, q⟩ := r c d
    rcases e with e | ⟨e, rfl⟩ <;> rw [e]
    · exact hk _ _ _ q
    · exact hk _ _ _ q
  · obtain ⟨d', e⟩ := e c d
    rw [e, Oper.upon_enter]
    refine (r c d').mono ?_
    rintro _ _ ⟨v, h', d'', rfl, rfl, q⟩
    exact hk _ _ _ q

theorem wpList_of_evK {P : Program} {n : NN} {ops : Array Oper} {K : Env → H → Prop} {c : Ctx} {Q : Exit → Act → World → Prop}
    (hK : ∀ E h d a, K E h → St n E a → Q .normal a (c.w h d)) :
    ∀ (l : List Oper) (E : Env) (h : H) (d : Nat) (a : Act), St n E a → EvK P n ops l E h K → wpList P ops Q l a (c.w h d)
  | [], _, _, _, _, s, h => hK _ _ _ _ h s
  | o :: l, E, h, d, a, s, hh => by
    unfold wpList
    rw [s.yielded]
    have h2 := hh.2
    split <;> rename_i hw
    · rw [if_pos hw] at h2
      exact .inl (Oper.wp_of_stepH s h2 fun v h' d' q => wpList_of_evK hK l _ _ _ _ (s.put _ _ hh.1) q)
    · rw [if_neg hw] at h2
      exact wpList_of_evK hK l _ _ _ _ (s.put _ _ hh.1) h2

/-! ### code -/

abbrev QE := Exit → Env → H → Prop
/-- What the code comes to from slots E and heap h on. -/
def WP (P : Program) (n : NN) (cd : Code) (Q : QE) (E : Env) (h : H) : Prop :=
  ∀ (c : Ctx) (d : Nat) (a : Act), St n E a → cd.wp P (fun e a' w' => ∃ E' h' d', w' = c.w h' d' ∧ St n E' a' ∧ Q e E' h') a (c.w h d)

def thenE (K : Env → H → Prop) (Q : QE) : QE
  | .normal, E, h => K E h
  | e, E, h => Q e E h
def blockE (id : Nat) (Q : QE) : QE
  | .exit id', E, h => bif Nat.beq id' id then Q .normal E h else Q (.exit id') E h
  | e, E, h => Q e E h

section rules
variable {P : Program} {n : NN} {Q : QE} {E : Env} {h : H}

theorem WP.mono {cd : Code} {Q' : QE} (hh : WP P n cd Q E h) (k : ∀ e E h, Q e E h → Q' e E h) : WP P n cd Q' E h :=
  fun c d a s => wp_mono (hh c d a s) fun _ _ _ ⟨E', h', d', e1, e2, e3⟩ => ⟨E', h', d', e1, e2, k _ _ _ e3⟩
theorem WP.skip (hh : Q .normal E h) : WP P n .skip Q E h := fun _ d _ s => wp_skip ⟨E, h, d, rfl, s, hh⟩
theorem WP.label {l : Nat} (hh : Q .normal E h) : WP P n (.label l) Q E h := fun _ d _ s => wp_label ⟨E, h, d, rfl, s, hh⟩
theorem WP.exit {id : Nat} (hh : Q (.exit id) E h) : WP P n (.exit id) Q E h := fun _ d _ s => wp_exit ⟨E, h, d, rfl, s, hh⟩
theorem WP.goto {l : Nat} (hh : Q (.goto l) E h) : WP P n (.goto l) Q E h := fun _ d _ s => wp_goto ⟨E, h, d, rfl, s, hh⟩
theorem WP.ret (hh : Q .ret E h) : WP P n .ret Q E h := fun _ d _ s => wp_ret ⟨E, h, d, rfl, s, hh⟩
theorem WP.seq {x y : Code} (hh : WP P n x (thenE (WP P n y Q) Q) E h) : WP P n (.seq x y) Q E h := fun c d a s => by
  refine wp_seq (wp_mono (hh c d a s) ?_)
  rintro e a' w' ⟨E', h', d', rfl, s', q⟩
  cases e with
  | normal => exact q c d' a' s'
  | _ => exact ⟨E', h', d', rfl, s', q⟩
theorem WP.cond {x : Operand} {y z : Code} {t : Bool} (hx : evE E x = .bool t) (hh : WP P n (if t then y else z) Q E h) : WP P n (.cond x y z) Q E h :=
  fun c d a s => wp_cond (t := t) (by rw [s.eval]; exact hx) (hh c d a s)
theorem WP.cond_true {x : Operand} {y z : Code} (t : Bool) (hx : evE E x = .bool t) (ht : t = true) (hh : WP P n y Q E h) : WP P n (.cond x y z) Q E h :=
  WP.cond (t := true) (hx.trans (by rw [ht])) hh
theorem WP.cond_false {x : Operand} {y z : Code} (t : Bool) (hx : evE E x = .bool t) (ht : t = false) (hh : WP P n z Q E h) : WP P n (.cond x y z) Q E h :=
  WP.cond (t := false) (hx.trans (by rw [ht])) hh
theorem WP.block {id : Nat} {y : Code} (hh : WP P n y (blockE id Q) E h) : WP P n (.block id y) Q E h := fun c d a s => by
  refine wp_block (wp_mono (hh c d a s) ?_)
  rintro e a' w' ⟨E', h', d', rfl, s', q⟩
  cases e with
  | exit id' =>
    simp only [blockE] at q
    by_cases hid : id' = id
    · subst hid
      have : Nat.beq id' id' = true := Nat.beq_refl id'
      rw [this] at q
      simp only [Exit.inBlock, if_true]
      exact ⟨E', h', d', rfl, s', q⟩
    · have : Nat.beq id' id = false := by
        rw [← Bool.not_eq_true]; intro e; exact hid (Nat.eq_of_beq_eq_true e)
      rw [this] at q
      simp only [Exit.inBlock, hid, if_false]
      exact ⟨E', h', d', rfl, s', q⟩
  | _ => exact ⟨E', h', d', rfl, s', q⟩
def gotoE (l : Nat) (J : Env → H → Prop) (Q : QE) : QE
  | .goto l', E, h => bif Nat.beq l' l then J E h else False
  | e, E, h => Q e E h
/-- A scope with one label to which the run jumps ahead. -/
theorem WP.scope {c rest : Code} (l : Nat) (hf : findLabel c l = some rest) (J : Env → H → Prop) (hr : ∀ E h, J E h → WP P n rest (gotoE l (fun _ _ => False) Q) E h) (hh : WP P n c (gotoE l J Q) E h) : WP P n (.scope c) Q E h := fun C d a s => by
  have conv : ∀ (J' : Env → H → Prop) (J₀ : Act → World → Prop), (∀ E' h' d' a', J' E' h' → St n E' a' → J₀ a' (C.w h' d')) → ∀ (x : Code) (E : Env) (h : H) (d : Nat) (a : Act), St n E a → WP P n x (gotoE l J' Q) E h →
      x.wp P (Exit.jump l J₀ (fun e a' w' => ∃ E' h' d', w' = C.w h' d' ∧ St n E' a' ∧ Q e E' h')) a (C.w h d) := by
    intro J' J₀ hJ x E h d a s hx
    refine wp_mono (hx C d a s) ?_
    rintro e a' w' ⟨E', h', d', rfl, s', q⟩
    cases e with
    | goto l' =>
      simp only [gotoE] at q
      cases hb : Nat.beq l' l with
      | false => rw [hb] at q; exact q.elim
      | true => rw [hb] at q; exact ⟨Nat.eq_of_beq_eq_true hb, hJ _ _ _ _ q s'⟩
    | _ => exact ⟨E', h', d', rfl, s', q⟩
  refine wp_scope_jumps l (fun a' w' => ∃ E' h' d', w' = C.w h' d' ∧ St n E' a' ∧ J E' h') (fun _ _ => 0) hf ?_ ?_
  · exact conv J _ (fun E' h' d' a' q s' => ⟨E', h', d', rfl, s', q⟩) c E h d a s hh
  · rintro a' w' ⟨E', h', d', rfl, s', q⟩
    exact conv (fun _ _ => False) _ (fun _ _ _ _ q _ => q.elim) rest E' h' d' a' s' (hr _ _ q)
theorem WP.region {id : Nat} {l : List Oper} (hh : EvK P n l.toArray l E h (fun E h => Q .normal E h)) : WP P n (.region id l.toArray false) Q E h := fun c d a s =>
  wp_region_lit (wpList_of_evK (fun E' h' d' a' q s' => ⟨E', h', d', rfl, s', q⟩) l E h d a s hh)

/-- A loop: so many rounds at most. -/
def LoopH (B : Env → H → (Env → H → Prop) → Prop) : Nat → Env → H → Prop
  | 0, _, _ => False
  | k + 1, E, h => B E h (LoopH B k)

theorem WP.loop {y : Code} (μ : Nat) (I : Nat → Env → H → Prop) (h0 : I μ E h)
    (round : ∀ m E h, I m E h → WP P n y (thenE (fun E h => ∃ k, k < m ∧ I k E h) Q) E h) : WP P n (.loop y) Q E h := fun c d a s => by
  have key : ∀ m, ∀ E h d a, I m E h → St n E a → ∀ (b : Frame) (k : List Item) (cs : List Frame),
      ∃ e a' w', (∃ E' h' d', w' = c.w h' d' ∧ St n E' a' ∧ Q e E' h') ∧ Arrives P (lone (b.at a (.code y :: .inLoop y :: k)) cs (c.w h d)) b k cs e a' w' := by
    intro m
    induction m using Nat.strongRecOn with
    | _ m ih =>
      intro E h d a hI s b k cs
      obtain ⟨e, a₁, w₁, ⟨E', h', d', rfl, s', q⟩, harr⟩ := round m E h hI c d a s b (.inLoop y :: k) cs
      cases e with
      | normal =>
        obtain ⟨j, hj, hI'⟩ := q
        obtain ⟨e₂, a₂, w₂, hq₂, harr₂⟩ := ih j hj E' h' d' a₁ hI' s' b k cs
        exact ⟨e₂, a₂, w₂, hq₂, .of_steps (Steps.trans harr (.one step_inLoop)) harr₂⟩
      | exit id => exact ⟨_, a₁, _, ⟨E', h', d', rfl, s', q⟩, .pass (x := .inLoop y) rfl (fun _ _ => .inl (by simp)) harr⟩
      | goto l => exact ⟨_, a₁, _, ⟨E', h', d', rfl, s', q⟩, .pass (x := .inLoop y) rfl (fun _ _ => .inl (by simp)) harr⟩
      | ret => exact ⟨_, a₁, _, ⟨E', h', d', rfl, s', q⟩, .pass (x := .inLoop y) rfl (fun _ _ => .inl (by simp)) harr⟩
      | panic ch => exact ⟨_, a₁, _, ⟨E', h', d', rfl, s', q⟩, .pass (x := .inLoop y) rfl (fun _ _ => .inl (by simp)) harr⟩
      | outgrown => exact ⟨_, a₁, _, ⟨E', h', d', rfl, s', q⟩, .pass (x := .inLoop y) rfl (fun _ _ => .inl (by simp)) harr⟩
  intro b k cs
  obtain ⟨e, a', w', hq, harr⟩ := key μ E h d a h0 s b k cs
  exact ⟨e, a', w', hq, .of_steps (.one step_loop) harr⟩

/-! ### slots named anew -/
def Agree (E : Env) : List (Nat × Value) → Prop
  | [] => True
  | (d, v) :: r => E d = v ∧ Agree E r
def updL (E : Env) : List (Nat × Value) → Env
  | [] => E
  | (d, v) :: r => upd (updL E r) d v
theorem updL_self : ∀ (L : List (Nat × Value)) (E : Env), Agree E L → updL E L = E
  | [], _, _ => rfl
  | (d, v) :: r, E, hA => by
    simp only [updL, updL_self r E hA.2]
    exact upd_self hA.1
theorem WP.rebase {cd : Code} (L : List (Nat × Value)) (hA : Agree E L) (g : ∀ E0, WP P n cd Q (updL E0 L) h) : WP P n cd Q E h := by
  have := g E
  rwa [updL_self L E hA] at this

/-- Ways that meet again. -/
theorem WP.join {x y : Code} (J : Env → H → Prop) (hr : ∀ E h, J E h → WP P n y Q E h) (hh : WP P n x (thenE J Q) E h) : WP P n (.seq x y) Q E h :=
  WP.seq (hh.mono fun e E h q => by cases e with
    | normal => exact hr _ _ q
    | _ => exact q)
end rules

/-! ### functions -/
def tupleOf (vs : List Value) : Value :=
  match vs with
  | [v] => v
  | vs => .tuple vs.toArray
/-- What the results are, read from the slots and, where a result is a variable in memory, from there. -/
def ResOK (P : Program) (E : Env) (h : H) : List ResultVar → List Value → Prop
  | [], [] => True
  | .tmp t :: r, v :: vs => E t = v ∧ ResOK P E h r vs
  | .cell a t :: r, v :: vs => (∃ ad, E a = .pointer (some ad) ∧ ∀ (c : Ctx) (d : Nat), (loadVar t ad).run P (c.w h d) = .ok v (c.w h d)) ∧ ResOK P E h r vs
  | _, _ => False

theorem results_mapM {P : Program} {E : Env} {h : H} (c : Ctx) (d : Nat) (f : ResultVar → Sem Value) (hf : ∀ t, f (.tmp t) = pure (E t)) (hc : ∀ a t, f (.cell a t) = (do loadVar t (← asAddr (E a)))) :
    ∀ (l : List ResultVar) (vs : List Value), ResOK P E h l vs → (l.mapM f).run P (c.w h d) = .ok vs (c.w h d)
  | [], [], _ => by simp
  | [], _ :: _, h => h.elim
  | .tmp t :: l, v :: vs, hr => by
    have ih := results_mapM c d f hf hc l vs hr.2
    simp only [List.mapM_cons, Sem.run_bind, hf, Sem.run_pure, Result.andThen_ok, ih, hr.1]
  | .tmp t :: l, [], h => h.elim
  | .cell a t :: l, v :: vs, hr => by
    have ih := results_mapM c d f hf hc l vs hr.2
    obtain ⟨ad, h1, h2⟩ := hr.1
    simp only [List.mapM_cons, Sem.run_bind, hc, h1, asAddr, Sem.run_pure, Result.andThen_ok, h2, ih]
  | .cell a t :: l, [], h => h.elim

theorem results_run {P : Program} {fn : Func} {tmps : Array Value} {E : Env} {h : H} (hE : ∀ t, tmps.getD t undef = E t) {vs : List Value} (hr : ResOK P E h fn.results.toList vs) (c : Ctx) (d : Nat) :
    (results fn tmps).run P (c.w h d) = .ok (tupleOf vs) (c.w h d) := by
  unfold results
  rw [Array.mapM_eq_mapM_toList, Sem.run_bind, Sem.run_map, results_mapM (E := E) c d _ (fun t => by simp only [hE]) (fun a t => by simp only [hE]) fn.results.toList vs hr]
  cases vs with
  | nil => rfl
  | cons v r => cases r <;> rfl

/-- What a function's body owes: at its end its results are read. -/
def bodyE (P : Program) (fn : Func) (Q : Value → H → Prop) : QE
  | .normal, E, h | .ret, E, h => ∃ vs, ResOK P E h fn.results.toList vs ∧ Q (tupleOf vs) h
  | _, _, _ => False

def argE (args : List Value) : Env := fun t => args.getD t undef

theorem CallsH.of_body {P : Program} {f : FuncId} {fn : Func} {cd : Code} {args : List Value} {h : H} {Q : Value → H → Prop}
    (hf : P.funcs[f]? = some fn) (hb : fn.body = some cd) (n : Nat) (hn : fn.ntmps = n) (ha : Nat.ble args.length n = true)
    (hh : WP P ⟨n, []⟩ cd (bodyE P fn Q) (argE args) h) : CallsH P f args.toArray h Q := by
  intro c d
  have ha := Nat.le_of_ble_eq_true ha
  refine calls_of_wp hf hb ?_
  refine wp_mono (hh c d _ ⟨rfl, by simp; omega, fun t => ?_⟩) ?_
  · simp only [argE, Array.getD_eq_getD_getElem?, Array.getElem?_append, List.getD_eq_getElem?_getD]
    simp only [List.size_toArray, List.getElem?_toArray, Array.getElem?_replicate]
    by_cases ht : t < args.length
    · rw [if_pos ht]
    · rw [if_neg ht, List.getElem?_eq_none (by omega)]
      split <;> rfl
  · rintro e a' w' ⟨E', h', d', rfl, s', q⟩
    cases e with
    | normal => obtain ⟨vs, hr, hq⟩ := q; exact ⟨s'.defers, _, results_run s'.tmps hr _ _, _, h', d', rfl, rfl, hq⟩
    | ret => obtain ⟨vs, hr, hq⟩ := q; exact ⟨s'.defers, _, results_run s'.tmps hr _ _, _, h', d', rfl, rfl, hq⟩
    | _ => exact q.elim

end Go.Tr
/- Regions that draw their order: if each pair of operations that may change places commutes, the text's order speaks for all. -/
namespace Go.Tr
open Go

inductive Cls where
  | pure | read | alloc
  /-- It acts; the reads so numbered, made before it, must read the same behind it. -/
  | eff (ks : List Nat)
  deriving DecidableEq

def Ext (h h' : H) : Prop := h.size ≤ h'.size ∧ ∀ i, i < h.size → h'[i]? = h[i]?
theorem Ext.refl (h : H) : Ext h h := ⟨Nat.le_refl _, fun _ _ => rfl⟩
theorem Ext.trans {a b c : H} (x : Ext a b) (y : Ext b c) : Ext a c := ⟨Nat.le_trans x.1 y.1, fun i hi => (y.2 i (by have := x.1; omega)).trans (x.2 i hi)⟩
theorem Ext.push (h : H) (o : Obj) : Ext h (h.push o) := ⟨by simp, fun i hi => by rw [Array.getElem?_push, if_neg (by omega)]⟩

def PureAt (P : Program) (s : Sem Next) (v : Value) : Prop := ∀ w : World, s.run P w = .ok (.value v) w
def ReadAt (P : Program) (s : Sem Next) (h : H) (v : Value) : Prop := ∀ (c : Ctx) (d : Nat) (h' : H), Ext h h' → s.run P (c.w h' d) = .ok (.value v) (c.w h' d)
def AllocAt (P : Program) (s : Sem Next) (h : H) (K : Value → H → Prop) : Prop := RunH P s h fun v h' => Ext h h' ∧ K v h'

theorem PureAt.readAt {P : Program} {s : Sem Next} {v : Value} (f : PureAt P s v) (h : H) : ReadAt P s h v := fun _ _ _ _ => f _
theorem ReadAt.runH {P : Program} {s : Sem Next} {h : H} {v : Value} {K : Value → H → Prop} (f : ReadAt P s h v) (k : K v h) : RunH P s h K :=
  fun c d => ⟨v, h, d, .inl (f c d h (Ext.refl h)), k⟩
theorem PureAt.unique {P : Program} {s : Sem Next} {u v : Value} (f : PureAt P s u) (g : PureAt P s v) : u = v := by
  have := (f default).symm.trans (g default)
  simpa using this

def StepC (P : Program) (o : Oper) (c : Cls) (E : Env) (h : H) (K : Value → H → Prop) : Prop :=
  match c with
  | .pure => ∃ v, PureAt P (execOp (evE E) o) v ∧ K v h
  | .read => ∃ v, ReadAt P (execOp (evE E) o) h v ∧ K v h
  | .alloc => AllocAt P (execOp (evE E) o) h K
  | .eff _ => StepH P o E h K
def StepG (P : Program) (ops : Array Oper) (o : Oper) (c : Cls) (E : Env) (h : H) (K : Value → H → Prop) : Prop :=
  if Region.wanted o (yE ops E) then StepC P o c E h K else K undef h

theorem StepC.mono {P : Program} {o : Oper} {c : Cls} {E : Env} {h : H} {K K' : Value → H → Prop} (s : StepC P o c E h K) (k : ∀ v h', (c = .alloc → Ext h h') → (c = .pure ∨ c = .read → h' = h) → K v h' → K' v h') : StepC P o c E h K' := by
  cases c with
  | pure => obtain ⟨v, f, q⟩ := s; exact ⟨v, f, k _ _ (by simp) (by simp) q⟩
  | read => obtain ⟨v, f, q⟩ := s; exact ⟨v, f, k _ _ (by simp) (by simp) q⟩
  | alloc => exact RunH.mono s fun v h' q => ⟨q.1, k _ _ (fun _ => q.1) (by simp) q.2⟩
  | eff ks => exact StepH.mono s fun v h' q => k _ _ (by simp) (by simp) q
theorem StepC.stepH {P : Program} {o : Oper} {c : Cls} {E : Env} {h : H} {K : Value → H → Prop} (s : StepC P o c E h K) : StepH P o E h K := by
  cases c with
  | pure => obtain ⟨v, f, q⟩ := s; exact .inl ((f.readAt h).runH q)
  | read => obtain ⟨v, f, q⟩ := s; exact .inl (f.runH q)
  | alloc => exact .inl (RunH.mono s fun v h' q => q.2)
  | eff ks => exact s
theorem StepH.some {P : Program} {o : Oper} {E : Env} {h : H} {K : Value → H → Prop} (s : StepH P o E h K) : ∃ v h', K v h' := by
  rcases s with r | ⟨f, args, _, r⟩
  · obtain ⟨v, h', _, _, q⟩ := r ⟨fun _ _ => 0, default, #[]⟩ 0; exact ⟨v, h', q⟩
  · obtain ⟨e, w', _, ⟨v, h', _, _, _, q⟩, _⟩ := r ⟨fun _ _ => 0, default, #[]⟩ 0 []; exact ⟨v, h', q⟩

def compat (i : Nat) : Cls → Cls → Bool
  | .pure, _ => true
  | _, .pure => true
  | .read, .read => true
  | .read, .alloc => true
  | .read, .eff ks => ks.contains i
  | _, _ => false

theorem execOp_updo {ops : Array Oper} (o : Oper) (hs : ∀ cs b, o.op ≠ .select cs b) (E : Env) (dst : Option Tmp) (v : Value) (h : ∀ d, dst = some d → d ∉ o.looksAt ops) :
    execOp (evE (updo E dst v)) o = execOp (evE E) o := by
  refine execOp_congr o hs fun x hx => ?_
  cases x with
  | tmp t =>
    cases dst with
    | none => rfl
    | some d =>
      refine upd_ne E v fun e => ?_
      subst e
      exact h t rfl (List.mem_append_left _ (List.mem_filterMap.2 ⟨.tmp t, by simpa using hx, rfl⟩))
  | _ => rfl
theorem wanted_updo {ops : Array Oper} (o : Oper) (E : Env) (dst : Option Tmp) (v : Value) (h : ∀ d, dst = some d → d ∉ o.looksAt ops) :
    Region.wanted o (yE ops (updo E dst v)) = Region.wanted o (yE ops E) := by
  cases dst with
  | none => rfl
  | some d =>
    unfold Region.wanted
    cases hg : o.guard with
    | none => rfl
    | some gw =>
      obtain ⟨g, b⟩ := gw
      have hd := h d rfl
      have : yE ops (updo E (some d) v) g = yE ops E g := by
        unfold yE
        cases ho : (ops[g]?).bind (·.dst) with
        | none => rfl
        | some t =>
          have ht : t ≠ d := fun e => hd (by
            subst e
            refine List.mem_append_right _ ?_
            simp [hg, ho])
          simp only [updo, upd_ne E v ht]
      simp only [this]
theorem StepG.congr {P : Program} {ops : Array Oper} {o : Oper} (hs : ∀ cs b, o.op ≠ .select cs b) {c : Cls} {E : Env} {dst : Option Tmp} {v : Value} {h : H} {K : Value → H → Prop} (hl : ∀ d, dst = some d → d ∉ o.looksAt ops) :
    StepG P ops o c (updo E dst v) h K = StepG P ops o c E h K := by
  unfold StepG StepC StepH
  rw [wanted_updo o E dst v hl, execOp_updo o hs E dst v hl]
theorem updo_comm (E : Env) {d e : Option Tmp} (u v : Value) (h : ∀ x, d = some x → e ≠ some x) : updo (updo E d u) e v = updo (updo E e v) d u := by
  cases d with
  | none => rfl
  | some x =>
    cases e with
    | none => rfl
    | some y =>
      have hxy : y ≠ x := fun e => h x rfl (by rw [e])
      funext t
      simp only [updo]
      by_cases h1 : t = y
      · subst h1; rw [upd_same, upd_ne _ _ hxy, upd_same]
      · rw [upd_ne _ _ h1]
        by_cases h2 : t = x
        · subst h2; rw [upd_same, upd_same]
        · rw [upd_ne _ _ h2, upd_ne _ _ h2, upd_ne _ _ h1]

/-- A read that was made: its place, what it asks, what it found. -/
structure Pend where
  i : Nat
  s : Sem Next
  v : Value
def Chk (P : Program) (ks : List Nat) (h : H) : List Pend → Prop
  | [] => True
  | p :: r => (bif ks.contains p.i then ReadAt P p.s h p.v else True) ∧ Chk P ks h r
theorem Chk_iff {P : Program} {ks : List Nat} {h : H} : ∀ {pend : List Pend}, Chk P ks h pend ↔ ∀ p ∈ pend, ks.contains p.i = true → ReadAt P p.s h p.v
  | [] => by simp [Chk]
  | p :: r => by
    simp only [Chk, Chk_iff (pend := r), List.mem_cons, forall_eq_or_imp]
    cases ks.contains p.i <;> simp

/-- What follows an operation's value, by its class. -/
def after (P : Program) (c : Cls) (i : Nat) (s : Sem Next) (pend : List Pend) (v : Value) (h : H) (X : List Pend → Prop) : Prop :=
  match c with
  | .read => X (⟨i, s, v⟩ :: pend)
  | .eff ks => Chk P ks h pend ∧ X pend
  | _ => X pend
/-- The operations named by place, in that order. -/
def EvI (P : Program) (ops : Array Oper) (cs : List Cls) : List Nat → List Pend → Env → H → (Env → H → Prop) → Prop
  | [], _, E, h, K => K E h
  | i :: r, pend, E, h, K => match ops[i]? with
    | none => False
    | some o =>
      if Region.wanted o (yE ops E) then
        StepC P o (cs.getD i (.eff [])) E h fun v h' => after P (cs.getD i (.eff [])) i (execOp (evE E) o) pend v h' fun pend' => EvI P ops cs r pend' (updo E o.dst v) h' K
      else EvI P ops cs r pend (updo E o.dst undef) h K

theorem EvI_cons {P : Program} {ops : Array Oper} {cs : List Cls} {i : Nat} {o : Oper} (ho : ops[i]? = some o) {r : List Nat} {pend : List Pend} {E : Env} {h : H} {K : Env → H → Prop} :
    EvI P ops cs (i :: r) pend E h K = if Region.wanted o (yE ops E) then
        StepC P o (cs.getD i (.eff [])) E h fun v h' => after P (cs.getD i (.eff [])) i (execOp (evE E) o) pend v h' fun pend' => EvI P ops cs r pend' (updo E o.dst v) h' K
      else EvI P ops cs r pend (updo E o.dst undef) h K := by
  simp only [EvI, ho]

theorem after.mono {P : Program} {c : Cls} {i : Nat} {s : Sem Next} {pend pend' : List Pend} {v : Value} {h : H} {X X' : List Pend → Prop} (hp : ∀ p ∈ pend', p ∈ pend)
    (hX : ∀ q q', (∀ p ∈ q', p ∈ q) → X q → X' q') (a : after P c i s pend v h X) : after P c i s pend' v h X' := by
  cases c with
  | read => exact hX _ _ (fun p h => by rcases List.mem_cons.1 h with rfl | h; exact List.mem_cons_self; exact List.mem_cons_of_mem _ (hp p h)) a
  | eff ks => exact ⟨Chk_iff.2 fun p h e => Chk_iff.1 a.1 p (hp p h) e, hX _ _ hp a.2⟩
  | _ => exact hX _ _ hp a

theorem EvI.mono {P : Program} {ops : Array Oper} {cs : List Cls} {K : Env → H → Prop} : ∀ (r : List Nat) (pend pend' : List Pend) (E : Env) (h : H), (∀ p ∈ pend', p ∈ pend) → EvI P ops cs r pend E h K → EvI P ops cs r pend' E h K
  | [], _, _, _, _, _, s => s
  | i :: r, pend, pend', E, h, hp, s => by
    cases ho : ops[i]? with
    | none => simp [EvI, ho] at s
    | some o =>
      rw [EvI_cons ho] at s ⊢
      split <;> rename_i hw
      · rw [if_pos hw] at s
        exact s.mono fun v h' _ _ q => q.mono hp fun q q' hq x => EvI.mono r q q' _ _ hq x
      · rw [if_neg hw] at s
        exact EvI.mono r pend pend' _ _ hp s

theorem swapC {P : Program} {oi oj : Oper} {ci cj : Cls} {i j : Nat} {si sj : Sem Next} {pend : List Pend} {E : Env} {h : H} {Y : Value → Value → H → List Pend → Prop} (hY : ∀ v u h q q', (∀ p ∈ q', p ∈ q) → Y v u h q → Y v u h q')
    (hsi : si = execOp (evE E) oi) (hc : compat i ci cj = true)
    (s : StepC P oi ci E h fun v h1 => after P ci i si pend v h1 fun p1 => StepC P oj cj E h1 fun u h2 => after P cj j sj p1 u h2 fun p2 => Y v u h2 p2) :
    StepC P oj cj E h fun u h1 => after P cj j sj pend u h1 fun p1 => StepC P oi ci E h1 fun v h2 => after P ci i si p1 v h2 fun p2 => Y v u h2 p2 := by
  cases ci with
  | pure =>
    obtain ⟨v, f, q⟩ := s
    have q' : StepC P oj cj E h (fun u h2 => after P cj j sj pend u h2 fun p2 => Y v u h2 p2) := q
    exact q'.mono fun u h' _ _ y => y.mono (fun _ h => h) fun q q' hq x => ⟨v, f, hY _ _ _ _ _ hq x⟩
  | read =>
    obtain ⟨v, f, q⟩ := s
    have q' : StepC P oj cj E h (fun u h2 => after P cj j sj (⟨i, si, v⟩ :: pend) u h2 fun p2 => Y v u h2 p2) := q
    cases cj with
    | pure => exact q'.mono fun u h' x1 x2 y => ⟨v, by rw [x2 (.inl rfl)]; exact f, hY _ _ _ _ _ (fun _ h => h) y⟩
    | read =>
      refine q'.mono fun u h' x1 x2 y => ⟨v, by rw [x2 (.inr rfl)]; exact f, hY _ _ _ _ _ (fun p hp => ?_) y⟩
      simp only [List.mem_cons] at hp ⊢
      rcases hp with h | h | h
      · exact .inr (.inl h)
      · exact .inl h
      · exact .inr (.inr h)
    | alloc => exact q'.mono fun u h' x1 x2 y => ⟨v, fun c d h'' e => f c d h'' ((x1 rfl).trans e), hY _ _ _ _ _ (fun _ h => h) y⟩
    | eff ks =>
      refine q'.mono fun u h' x1 x2 y => ?_
      obtain ⟨y1, y2⟩ := y
      have hk : ks.contains i = true := by simpa [compat] using hc
      refine ⟨y1.2, v, ?_, hY _ _ _ _ _ (fun _ h => h) y2⟩
      have := y1.1
      rw [hk] at this
      subst hsi
      exact this
  | alloc =>
    cases cj with
    | pure =>
      obtain ⟨v0, h0, u, f, _⟩ := StepH.some s.stepH
      refine ⟨u, f, s.mono fun v h' _ _ ⟨u', f', y⟩ => ?_⟩
      rw [f.unique f']; exact y
    | _ => simp [compat] at hc
  | eff ks =>
    cases cj with
    | pure =>
      obtain ⟨v0, h0, _, u, f, _⟩ := StepH.some s.stepH
      refine ⟨u, f, s.mono fun v h' _ _ ⟨z, u', f', y⟩ => ⟨z, ?_⟩⟩
      rw [f.unique f']; exact y
    | _ => simp [compat] at hc

theorem StepC_updo {P : Program} {ops : Array Oper} {o : Oper} (hs : ∀ cs b, o.op ≠ .select cs b) {c : Cls} {E : Env} {dst : Option Tmp} {v : Value} {h : H} {K : Value → H → Prop} (hl : ∀ d, dst = some d → d ∉ o.looksAt ops) :
    StepC P o c (updo E dst v) h K = StepC P o c E h K := by
  unfold StepC StepH
  rw [execOp_updo o hs E dst v hl]

theorem EvI.swap {P : Program} {ops : Array Oper} {cs : List Cls} {i j : Nat} {oi oj : Oper} (hi : ops[i]? = some oi) (hj : ops[j]? = some oj) (hsi : ∀ cs b, oi.op ≠ .select cs b) (hsj : ∀ cs b, oj.op ≠ .select cs b)
    (hap : oi.apart ops oj = true) (hc : compat i (cs.getD i (.eff [])) (cs.getD j (.eff [])) = true) {r : List Nat} {pend : List Pend} {E : Env} {h : H} {K : Env → H → Prop} (s : EvI P ops cs (i :: j :: r) pend E h K) : EvI P ops cs (j :: i :: r) pend E h K := by
  obtain ⟨h1, h2, h3⟩ := Oper.apart_spec hap
  have hcomm : ∀ u v, updo (updo E oj.dst u) oi.dst v = updo (updo E oi.dst v) oj.dst u := fun u v => updo_comm E u v (fun x hx he => h2 x he hx)
  simp only [EvI_cons hi, EvI_cons hj, wanted_updo oj E oi.dst _ h1, wanted_updo oi E oj.dst _ h3, StepC_updo hsj h1, StepC_updo hsi h3, execOp_updo oj hsj E oi.dst _ h1, execOp_updo oi hsi E oj.dst _ h3, hcomm] at s ⊢
  by_cases wi : Region.wanted oi (yE ops E) = true <;> by_cases wj : Region.wanted oj (yE ops E) = true <;>
    simp only [wi, wj, if_true, Bool.false_eq_true, if_false] at s ⊢
  · exact swapC (Y := fun v u h2 p2 => EvI P ops cs r p2 (updo (updo E oi.dst v) oj.dst u) h2 K) (fun v u h q q' hq x => EvI.mono r q q' _ _ hq x) rfl hc s
  · exact s
  · exact s
  · exact s

/-! the check -/
def ancs (A : List (List Nat)) (i : Nat) : List Nat := A.getD i []
def pairOk (ops : Array Oper) (cs : List Cls) (A : List (List Nat)) (k i : Nat) : Bool :=
  k != i && ((ancs A i).contains k || (match ops[k]?, ops[i]? with
    | some ok, some oi => ok.apart ops oi && compat k (cs.getD k (.eff [])) (cs.getD i (.eff []))
    | _, _ => false)) && (match ops[k]? with
    | some ok => ok.after.all fun e => !Region.binds .any e || e.on != i
    | none => false)
def pairsOk (ops : Array Oper) (cs : List Cls) (A : List (List Nat)) : List Nat → Bool
  | [] => true
  | k :: r => (r.all fun i => pairOk ops cs A k i) && pairsOk ops cs A r
def ancOk (ops : Array Oper) (A : List (List Nat)) (i : Nat) : Bool :=
  match ops[i]? with
  | none => false
  | some o => (o.after.all fun e => !Region.binds .any e || decide (e.on < i)) &&
    (ancs A i).all fun k => o.after.any fun e => Region.binds .any e && (e.on == k || (ancs A e.on).contains k)
def okD (ops : Array Oper) (cs : List Cls) (A : List (List Nat)) (π : List Nat) : Bool :=
  Region.noSelect ops && ((List.range ops.size).all fun i => ancOk ops A i && π.contains i) && (π.all fun i => decide (i < ops.size)) && π.length == ops.size && pairsOk ops cs A π
def dstsOk (n : NN) (ops : Array Oper) : Bool := ops.all fun o => match o.dst with | some d => decide (d < n.k) | none => true

section
variable {P : Program} {ops : Array Oper} {cs : List Cls} {A : List (List Nat)} {listed : Array Bool}

structure Closed (ops : Array Oper) (listed : Array Bool) (R : List Nat) : Prop where
  size : listed.size = ops.size
  closed : ∀ j oj, ops[j]? = some oj → listed.getD j false = true → ∀ e ∈ oj.after, Region.binds .any e = true → listed.getD e.on false = true
  left : ∀ i, i ∈ R ↔ i < ops.size ∧ listed.getD i true = false

theorem listed_not {listed : Array Bool} {k : Nat} (h : listed.getD k true = false) : listed.getD k false = false := by
  rcases Nat.lt_or_ge k listed.size with h' | h'
  · simp [h'] at h ⊢; exact h
  · simp [Array.getElem?_eq_none h'] at h

theorem anc_not_listed (hA : ∀ i, i < ops.size → ancOk ops A i = true) {R : List Nat} (cl : Closed ops listed R) {k : Nat} (hk : listed.getD k true = false) :
    ∀ i, k ∈ ancs A i → i < ops.size → listed.getD i false = false ∧ i ∉ Region.ready .any ops listed := by
  intro i
  induction i using Nat.strongRecOn with
  | _ i ih =>
    intro hki hi
    have h := hA i hi
    unfold ancOk at h
    rw [Array.getElem?_eq_getElem hi] at h
    simp only [Bool.and_eq_true] at h
    obtain ⟨h1, h2⟩ := h
    have h3 := List.all_eq_true.1 h2 k hki
    obtain ⟨e, he, hb⟩ := Array.any_eq_true'.1 h3
    simp only [Bool.and_eq_true, Bool.or_eq_true, beq_iff_eq] at hb
    obtain ⟨hb, hon⟩ := hb
    have h4 := Array.all_eq_true'.1 h1 e he
    simp only [hb, Bool.not_true, Bool.false_or, decide_eq_true_eq] at h4
    have hno : listed.getD e.on false = false := by
      rcases hon with hon | hon
      · rw [hon]; exact listed_not hk
      · exact (ih e.on h4 (by simpa using hon) (by omega)).1
    have ho : ops[i]? = some ops[i] := Array.getElem?_eq_getElem hi
    constructor
    · cases hl : listed.getD i false with
      | false => rfl
      | true => rw [cl.closed i _ ho hl e he hb] at hno; cases hno
    · intro hr
      obtain ⟨_, o, ho', hall⟩ := mem_ready.1 hr
      rw [ho] at ho'; cases ho'
      rw [hall e he hb] at hno; cases hno

theorem pairsOk_spec : ∀ {π : List Nat}, pairsOk ops cs A π = true → π.Pairwise fun k i => pairOk ops cs A k i = true
  | [], _ => List.Pairwise.nil
  | k :: r, h => by
    simp only [pairsOk, Bool.and_eq_true] at h
    exact List.pairwise_cons.2 ⟨fun i hi => List.all_eq_true.1 h.1 i hi, pairsOk_spec h.2⟩

/-- One that is ready comes first. -/
theorem EvI.front (hs : Region.noSelect ops = true) (hA : ∀ i, i < ops.size → ancOk ops A i = true) {R : List Nat} (cl : Closed ops listed R) {i : Nat} (hr : i ∈ Region.ready .any ops listed) :
    ∀ (p q : List Nat) (pend : List Pend) (E : Env) (h : H) (K : Env → H → Prop), (∀ k ∈ p, pairOk ops cs A k i = true ∧ k < ops.size ∧ listed.getD k true = false) → EvI P ops cs (p ++ i :: q) pend E h K → EvI P ops cs (i :: p ++ q) pend E h K
  | [], _, _, _, _, _, _, s => s
  | k :: p, q, pend, E, h, K, hp, s => by
    obtain ⟨hun, oi, hoi, _⟩ := mem_ready.1 hr
    have hi : i < ops.size := (Array.getElem?_eq_some_iff.1 hoi).1
    have hki := hp k (by simp)
    have hpair := hki.1
    have hnot : (ancs A i).contains k = false := by
      rw [← Bool.not_eq_true]; intro hc
      exact (anc_not_listed hA cl hki.2.2 i (by simpa using hc) hi).2 hr
    have hks := hki.2.1
    have hok : ops[k]? = some ops[k] := Array.getElem?_eq_getElem hks
    unfold pairOk at hpair
    rw [hnot, hoi, hok] at hpair
    simp only [Bool.false_or, Bool.and_eq_true] at hpair
    have s1 : EvI P ops cs (k :: i :: (p ++ q)) pend E h K := by
      rw [List.cons_append, EvI_cons hok] at s
      rw [EvI_cons hok]
      split <;> rename_i hw
      · rw [if_pos hw] at s
        exact s.mono fun v h' _ _ q5 => q5.mono (fun _ h => h) fun q' q'' hq x => EvI.mono _ q' q'' _ _ hq (EvI.front hs hA cl hr p q _ _ _ _ (fun x hx => hp x (by simp [hx])) x)
      · rw [if_neg hw] at s
        exact EvI.front hs hA cl hr p q _ _ _ _ (fun x hx => hp x (by simp [hx])) s
    exact EvI.swap hok hoi (fun cs b => Region.noSelect_spec hs _ _ cs b hok) (fun cs b => Region.noSelect_spec hs _ _ cs b hoi) hpair.1.2.1 hpair.1.2.2 s1

theorem pairOk_ne {k i : Nat} (h : pairOk ops cs A k i = true) : k ≠ i := by
  unfold pairOk at h
  simp only [Bool.and_eq_true, bne_iff_ne] at h
  exact h.1.1
theorem pairwise_split {R p q : List Nat} {i : Nat} (h : R.Pairwise fun k i => pairOk ops cs A k i = true) (e : R = p ++ i :: q) : (∀ k ∈ p, pairOk ops cs A k i = true) ∧ (p ++ q).Pairwise (fun k i => pairOk ops cs A k i = true) ∧ (i ∉ p ++ q) := by
  subst e
  have h1 := List.pairwise_append.1 h
  have h2 := List.pairwise_cons.1 h1.2.1
  refine ⟨fun k hk => h1.2.2 k hk i (by simp), List.pairwise_append.2 ⟨h1.1, h2.2, fun a ha b hb => h1.2.2 a ha b (by simp [hb])⟩, fun hm => ?_⟩
  rcases List.mem_append.1 hm with hm | hm
  · exact pairOk_ne (h1.2.2 i hm i (by simp)) rfl
  · exact pairOk_ne (h2.1 i hm) rfl

theorem getD_set (listed : Array Bool) (i j : Nat) (d : Bool) (hi : i < listed.size) : (listed.setIfInBounds i true).getD j d = if j = i then true else listed.getD j d := by
  simp only [Array.getD_eq_getD_getElem?, Array.getElem?_setIfInBounds]
  by_cases e : j = i
  · subst e; simp [hi]
  · rw [if_neg (Ne.symm e), if_neg e]

theorem wpAny_of_evI {n : NN} {K : Env → H → Prop} {c : Ctx} {Q : Exit → Act → World → Prop} (hs : Region.noSelect ops = true) (hA : ∀ i, i < ops.size → ancOk ops A i = true) (hd : dstsOk n ops = true)
    (hK : ∀ E h d a, K E h → St n E a → Q .normal a (c.w h d)) :
    ∀ (m : Nat) (R : List Nat) (pend : List Pend) (listed : Array Bool) (E : Env) (h : H) (d : Nat) (a : Act), R.length = m → (R.Pairwise fun k i => pairOk ops cs A k i = true) → Closed ops listed R → EvI P ops cs R pend E h K → St n E a → wpAny P .any ops Q m listed a (c.w h d) := by
  intro m
  induction m with
  | zero =>
    intro R pend listed E h d a hm _ cl s st
    obtain rfl : R = [] := List.length_eq_zero_iff.1 hm
    refine ⟨?_, hK _ _ _ _ s st⟩
    cases hr : Region.ready .any ops listed with
    | nil => rfl
    | cons x xs =>
      have hx : x ∈ Region.ready .any ops listed := by rw [hr]; simp
      obtain ⟨hun, o, ho, _⟩ := mem_ready.1 hx
      have := (cl.left x).2 ⟨(Array.getElem?_eq_some_iff.1 ho).1, hun⟩
      cases this
  | succ m ih =>
    intro R pend listed E h d a hm hpw cl s st
    constructor
    · intro hnil
      exfalso
      cases R with
      | nil => cases hm
      | cons i r =>
        have hi := (cl.left i).1 (by simp)
        have : i ∈ Region.ready .any ops listed := by
          refine mem_ready.2 ⟨hi.2, ops[i], Array.getElem?_eq_getElem hi.1, fun e he hb => ?_⟩
          have h := hA i hi.1
          unfold ancOk at h
          rw [Array.getElem?_eq_getElem hi.1] at h
          simp only [Bool.and_eq_true] at h
          have h4 := Array.all_eq_true'.1 h.1 e he
          simp only [hb, Bool.not_true, Bool.false_or, decide_eq_true_eq] at h4
          cases hl : listed.getD e.on true with
          | false =>
            have hm' := (cl.left e.on).2 ⟨by omega, hl⟩
            rcases List.mem_cons.1 hm' with hm' | hm'
            · omega
            · have h5 := (List.pairwise_cons.1 hpw).1 _ hm'
              unfold pairOk at h5
              rw [Array.getElem?_eq_getElem hi.1] at h5
              simp only [Bool.and_eq_true] at h5
              have h6 := Array.all_eq_true'.1 h5.2 e he
              simp [hb] at h6
          | true =>
            have : e.on < listed.size := by rw [cl.size]; omega
            simp [this] at hl ⊢; exact hl
        rw [hnil] at this; cases this
    · intro i hr
      obtain ⟨hun, oi, hoi, hall⟩ := mem_ready.1 hr
      have hi : i < ops.size := (Array.getElem?_eq_some_iff.1 hoi).1
      have hiR := (cl.left i).2 ⟨hi, hun⟩
      obtain ⟨p, q, e⟩ := List.append_of_mem hiR
      obtain ⟨hp1, hp2, hp3⟩ := pairwise_split hpw e
      rw [e] at s
      have s1 := EvI.front hs hA cl hr p q pend E h K (fun k hk' => ⟨hp1 k hk', (cl.left k).1 (by rw [e]; simp [hk'])⟩) s
      have hlen : (p ++ q).length = m := by rw [e] at hm; simp at hm ⊢; omega
      have hil : i < listed.size := by rw [cl.size]; exact hi
      have cl' : Closed ops (listed.setIfInBounds i true) (p ++ q) := by
        refine ⟨by simp [cl.size], fun j oj hj hl e' he' hb => ?_, fun k => ?_⟩
        · rw [getD_set _ _ _ _ hil] at hl ⊢
          split
          · rfl
          · split at hl
            · rename_i hji
              subst hji
              rw [hoi] at hj; cases hj
              exact hall e' he' hb
            · exact cl.closed j oj hj hl e' he' hb
        · have hkR := cl.left k
          rw [getD_set _ _ _ _ hil]
          by_cases hki : k = i
          · subst hki
            simp only [if_true]
            exact ⟨fun h => absurd h hp3, fun h => by cases h.2⟩
          · rw [if_neg hki, ← hkR, e]
            simp [hki]
      have hdst : ∀ k, oi.dst = some k → k < n.k := by
        intro k hk'
        have := Array.all_eq_true'.1 hd oi (Array.mem_of_getElem? hoi)
        rw [hk'] at this
        simpa using this
      rw [List.cons_append, EvI_cons hoi] at s1
      unfold wpOp
      simp only [hoi]
      rw [st.yielded]
      split <;> rename_i hw
      · rw [if_pos hw] at s1
        refine .inl (Oper.wp_of_stepH st s1.stepH fun v h' d' q5 => ?_)
        have : ∃ pend', EvI P ops cs (p ++ q) pend' (updo E oi.dst v) h' K := by
          unfold after at q5
          split at q5
          · exact ⟨_, q5⟩
          · exact ⟨_, q5.2⟩
          · exact ⟨_, q5⟩
        obtain ⟨pend', q6⟩ := this
        exact ih (p ++ q) pend' _ _ _ _ _ hlen hp2 cl' q6 (st.put _ _ hdst)
      · rw [if_neg hw] at s1
        exact ih (p ++ q) pend _ _ _ _ _ hlen hp2 cl' s1 (st.put _ _ hdst)
end

theorem WP.draw {P : Program} {n : NN} {Q : QE} {E : Env} {h : H} {id : Nat} {l : List Oper} (hm : P.follows .mixedOrders = true) (cs : List Cls) (A : List (List Nat)) (π : List Nat)
    (hk : okD l.toArray cs A π = true) (hd : dstsOk n l.toArray = true) (hh : EvI P l.toArray cs π [] E h (fun E h => Q .normal E h)) : WP P n (.region id l.toArray true) Q E h := by
  intro c d a s
  refine wp_region_any hm ?_
  unfold okD at hk
  simp only [Bool.and_eq_true, beq_iff_eq] at hk
  obtain ⟨⟨⟨⟨h1, h2⟩, h3⟩, h4⟩, h5⟩ := hk
  have h6 : ∀ i, i < l.toArray.size → ancOk l.toArray A i = true ∧ π.contains i = true := fun i hi => by
    have := List.all_eq_true.1 h2 i (List.mem_range.2 hi)
    simpa using this
  refine wpAny_of_evI (c := c) (n := n) h1 (fun i hi => (h6 i hi).1) hd (fun E' h' d' a' q s' => ⟨E', h', d', rfl, s', q⟩) l.toArray.size π [] (Array.replicate l.toArray.size false) E h (d + 1) a h4 (pairsOk_spec h5) ?_ hh s
  refine ⟨by simp, fun j oj _ hl => ?_, fun i => ?_⟩
  · rw [getD_replicate_false] at hl; cases hl
  · constructor
    · intro hi
      have := List.all_eq_true.1 h3 i hi
      simp only [decide_eq_true_eq] at this
      exact ⟨this, by simp at this ⊢; simp [this]⟩
    · exact fun hi => by simpa using (h6 i hi.1).2

/-! ### whatever order: for regions whose makings of memory may change places -/
def StepA (P : Program) (ops : Array Oper) (o : Oper) (E : Env) (h : H) (K : Value → H → Prop) : Prop :=
  if Region.wanted o (yE ops E) then StepH P o E h K else K undef h
theorem StepA.mono {P : Program} {ops : Array Oper} {o : Oper} {E : Env} {h : H} {K K' : Value → H → Prop} (s : StepA P ops o E h K) (k : ∀ v h', K v h' → K' v h') : StepA P ops o E h K' := by
  unfold StepA at *
  split <;> rename_i hw
  · rw [if_pos hw] at s; exact StepH.mono s k
  · rw [if_neg hw] at s; exact k _ _ s
theorem StepA.congr {P : Program} {ops : Array Oper} {o : Oper} (hs : ∀ cs b, o.op ≠ .select cs b) {E : Env} {dst : Option Tmp} {v : Value} {h : H} {K : Value → H → Prop} (hl : ∀ d, dst = some d → d ∉ o.looksAt ops) :
    StepA P ops o (updo E dst v) h K = StepA P ops o E h K := by
  unfold StepA StepH
  rw [wanted_updo o E dst v hl, execOp_updo o hs E dst v hl]
def EvA (P : Program) (ops : Array Oper) : Nat → Array Bool → Env → H → (Env → H → Prop) → Prop
  | 0, listed, E, h, K => Region.ready .any ops listed = [] ∧ K E h
  | f + 1, listed, E, h, K => (Region.ready .any ops listed = [] → K E h) ∧ ∀ i ∈ Region.ready .any ops listed, ∃ o, ops[i]? = some o ∧ StepA P ops o E h fun v h' => EvA P ops f (listed.setIfInBounds i true) (updo E o.dst v) h' K

theorem EvA.first {P : Program} {ops : Array Oper} {K : Env → H → Prop} {i : Nat} {o : Oper} {v : Value} (hs : Region.noSelect ops = true) (ho : ops[i]? = some o) :
    ∀ (f : Nat) (listed : Array Bool) (E : Env) (h : H), Region.free .any ops listed i = true → i ∈ Region.ready .any ops listed → Region.wanted o (yE ops E) = true → PureAt P (execOp (evE E) o) v →
      EvA P ops f (listed.setIfInBounds i true) (updo E o.dst v) h K → EvA P ops (f + 1) listed E h K := by
  have hsi : ∀ cs b, o.op ≠ .select cs b := fun cs b => Region.noSelect_spec hs i o cs b ho
  intro f
  induction f with
  | zero =>
    intro listed E h hfree hr hw hf H
    refine ⟨fun e => (by rw [e] at hr; cases hr), fun j hj => ?_⟩
    by_cases hji : j = i
    · subst hji
      refine ⟨o, ho, ?_⟩
      unfold StepA; rw [if_pos hw]; exact .inl ((hf.readAt h).runH H)
    · have := ready_mono hj hji
      rw [H.1] at this; cases this
  | succ f ih =>
    intro listed E h hfree hr hw hf H
    refine ⟨fun e => (by rw [e] at hr; cases hr), fun j hj => ?_⟩
    by_cases hji : j = i
    · subst hji
      refine ⟨o, ho, ?_⟩
      unfold StepA; rw [if_pos hw]; exact .inl ((hf.readAt h).runH H)
    · obtain ⟨oj, hoj, hst⟩ := H.2 j (ready_mono hj hji)
      obtain ⟨hjun, oj', hoj', hall⟩ := mem_ready.1 hj
      have : oj' = oj := Option.some.inj (hoj'.symm.trans hoj)
      subst this
      have hnot : ∀ e ∈ oj'.after, Region.binds .any e = true → e.on ≠ i := fun e he hb heq => by
        have h1 := hall e he hb
        have h0 := (mem_ready.1 hr).1
        rw [heq, listed_not h0] at h1
        cases h1
      have hap := Region.free_spec ho hfree j oj' hoj hji hjun hnot
      obtain ⟨a1, a2, a3⟩ := Oper.apart_spec hap
      have hsj : ∀ cs b, oj'.op ≠ .select cs b := fun cs b => Region.noSelect_spec hs j oj' cs b hoj
      rw [StepA.congr hsj a1] at hst
      refine ⟨oj', hoj, hst.mono fun u h' q => ih (listed.setIfInBounds j true) (updo E oj'.dst u) h' ?_ (ready_mono hr (Ne.symm hji)) ?_ ?_ ?_⟩
      · unfold Region.free at hfree ⊢
        rw [ho] at hfree ⊢
        simp only [List.all_eq_true, List.mem_range] at hfree ⊢
        intro k hk
        have h1 := hfree k hk
        simp only [Bool.or_eq_true] at h1 ⊢
        rcases h1 with (h1 | h1) | h1
        · exact .inl (.inl h1)
        · left; right
          by_cases e : k = j
          · subst e
            obtain hl | hl := Nat.lt_or_ge k listed.size
            · rw [getD_set _ _ _ _ hl]; simp
            · simp [Array.getElem?_eq_none hl] 
          · rcases Nat.lt_or_ge j listed.size with hl | hl
            · rw [getD_set _ _ _ _ hl, if_neg e]; exact h1
            · rw [Array.setIfInBounds_eq_of_size_le hl]; exact h1
        · exact .inr h1
      · rw [wanted_updo o E oj'.dst u a3]; exact hw
      · rw [execOp_updo o hsi E oj'.dst u a3]; exact hf
      · rw [Array.setIfInBounds_comm _ _ hji, updo_comm E u v (fun x hx he => a2 x he hx)]; exact q

theorem wpAny_of_evA {P : Program} {ops : Array Oper} {n : NN} {K : Env → H → Prop} {c : Ctx} {Q : Exit → Act → World → Prop} (hd : dstsOk n ops = true)
    (hK : ∀ E h d a, K E h → St n E a → Q .normal a (c.w h d)) :
    ∀ (f : Nat) (listed : Array Bool) (E : Env) (h : H) (d : Nat) (a : Act), EvA P ops f listed E h K → St n E a → wpAny P .any ops Q f listed a (c.w h d)
  | 0, _, _, _, _, _, s, st => ⟨s.1, hK _ _ _ _ s.2 st⟩
  | f + 1, listed, E, h, d, a, s, st => by
    refine ⟨fun e => hK _ _ _ _ (s.1 e) st, fun i hi => ?_⟩
    obtain ⟨o, ho, hs⟩ := s.2 i hi
    have hdst : ∀ k, o.dst = some k → k < n.k := by
      intro k hk'
      have := Array.all_eq_true'.1 hd o (Array.mem_of_getElem? ho)
      rw [hk'] at this
      simpa using this
    unfold wpOp
    simp only [ho]
    rw [st.yielded]
    unfold StepA at hs
    split <;> rename_i hw
    · rw [if_pos hw] at hs
      exact .inl (Oper.wp_of_stepH st hs fun v h' d' q => wpAny_of_evA hd hK f _ _ _ _ _ q (st.put _ _ hdst))
    · rw [if_neg hw] at hs
      exact wpAny_of_evA hd hK f _ _ _ _ _ hs (st.put _ _ hdst)
theorem WP.drawA {P : Program} {n : NN} {Q : QE} {E : Env} {h : H} {id : Nat} {l : List Oper} (hm : P.follows .mixedOrders = true) (k : Nat) (hk : l.toArray.size = k) (hd : dstsOk n l.toArray = true)
    (hh : EvA P l.toArray k (Array.replicate k false) E h (fun E h => Q .normal E h)) : WP P n (.region id l.toArray true) Q E h := by
  subst hk
  intro c d a s
  exact wp_region_any hm (wpAny_of_evA hd (fun E' h' d' a' q s' => ⟨E', h', d', rfl, s', q⟩) _ _ E h (d + 1) a hh s)
end Go.Tr
/- Go's kinds of values as Lean types, memory read and written by them, and the operations' facts. -/
namespace Go.Tr
open Go

/-! ### kinds -/
structure Sl where
  a : Option Addr
  len : Nat
  cap : Nat
  deriving DecidableEq, Inhabited
def Sl.nil : Sl := ⟨none, 0, 0⟩
def Sl.val (s : Sl) : Value := .slice s.a s.len s.cap

/-- A Go type as a Lean type: its cells, its value, how cells are read back. -/
structure Kd (α : Type) where
  n : Nat
  agg : Bool
  enc : α → List Value
  dec : List Value → Option α
  len : ∀ x, (enc x).length = n
  one : ∀ x, ∀ v ∈ enc x, v.oneCell' = true
  sound : ∀ l x, dec l = some x → enc x = l
  full : ∀ x, dec (enc x) = some x
  single : agg = false → n = 1

def Kd.val {α : Type} (K : Kd α) (x : α) : Value := if K.agg then .agg (K.enc x).toArray else (K.enc x).headD undef

def kI (k : IntKind) : Kd Int where
  n := 1
  agg := false
  enc x := [.int k x]
  dec | [.int k' x] => if k' = k then some x else none
      | _ => none
  len _ := rfl
  one _ v h := by simp at h; subst h; rfl
  sound l x h := by
    split at h
    · rename_i k' y
      by_cases e : k' = k
      · subst e; simp at h; subst h; rfl
      · simp [e] at h
    · cases h
  full x := by simp
  single _ := rfl
def kB : Kd Bool where
  n := 1
  agg := false
  enc x := [.bool x]
  dec | [.bool x] => some x
      | _ => none
  len _ := rfl
  one _ v h := by simp at h; subst h; rfl
  sound l x h := by split at h <;> simp at h; subst h; rfl
  full x := rfl
  single _ := rfl
def kS : Kd ByteArray where
  n := 1
  agg := false
  enc x := [.string x]
  dec | [.string x] => some x
      | _ => none
  len _ := rfl
  one _ v h := by simp at h; subst h; rfl
  sound l x h := by split at h <;> simp at h; subst h; rfl
  full x := rfl
  single _ := rfl
def kP : Kd (Option Addr) where
  n := 1
  agg := false
  enc x := [.pointer x]
  dec | [.pointer x] => some x
      | _ => none
  len _ := rfl
  one _ v h := by simp at h; subst h; rfl
  sound l x h := by split at h <;> simp at h; subst h; rfl
  full x := rfl
  single _ := rfl
def kL : Kd Sl where
  n := 1
  agg := false
  enc x := [.slice x.a x.len x.cap]
  dec | [.slice a n c] => some ⟨a, n, c⟩
      | _ => none
  len _ := rfl
  one _ v h := by simp at h; subst h; rfl
  sound l x h := by split at h <;> simp at h; subst h; rfl
  full x := rfl
  single _ := rfl
def kM : Kd (Option Nat) where
  n := 1
  agg := false
  enc x := [.map x]
  dec | [.map x] => some x
      | _ => none
  len _ := rfl
  one _ v h := by simp at h; subst h; rfl
  sound l x h := by split at h <;> simp at h; subst h; rfl
  full x := rfl
  single _ := rfl
/-- A value of one cell, whatever it is (interfaces, functions). -/
abbrev OV := { v : Value // v.oneCell' = true }
def kV : Kd OV where
  n := 1
  agg := false
  enc x := [x.1]
  dec | [v] => if h : v.oneCell' = true then some ⟨v, h⟩ else none
      | _ => none
  len _ := rfl
  one x v h := by simp at h; subst h; exact x.2
  sound l x h := by
    split at h
    · split at h <;> simp at h
      subst h; rfl
    · cases h
  full x := by simp [x.2]
  single _ := rfl
def kU : Kd Unit where
  n := 0
  agg := true
  enc _ := []
  dec | [] => some ()
      | _ => none
  len _ := rfl
  one _ v h := by simp at h
  sound l x h := by split at h <;> simp at h; rfl
  full x := rfl
  single h := by cases h
def kPair {α β : Type} (A : Kd α) (B : Kd β) : Kd (α × β) where
  n := A.n + B.n
  agg := true
  enc x := A.enc x.1 ++ B.enc x.2
  dec l := (A.dec (l.take A.n)).bind fun a => (B.dec (l.drop A.n)).map fun b => (a, b)
  len x := by simp [A.len, B.len]
  one x v h := by
    rcases List.mem_append.1 h with h | h
    · exact A.one _ _ h
    · exact B.one _ _ h
  sound l x h := by
    simp only [Option.bind_eq_some_iff, Option.map_eq_some_iff] at h
    obtain ⟨a, ha, b, hb, rfl⟩ := h
    simp only [A.sound _ _ ha, B.sound _ _ hb, List.take_append_drop]
  full x := by
    have h1 : (A.enc x.1 ++ B.enc x.2).take A.n = A.enc x.1 := by rw [← A.len x.1, List.take_left]
    have h2 : (A.enc x.1 ++ B.enc x.2).drop A.n = B.enc x.2 := by rw [← A.len x.1, List.drop_left]
    simp only [h1, h2, A.full, B.full, Option.bind_some, Option.map_some]
  single h := by cases h
def kIso {α β : Type} (A : Kd α) (f : β → α) (g : α → β) (h1 : ∀ x, g (f x) = x) (h2 : ∀ y, f (g y) = y) : Kd β where
  n := A.n
  agg := true
  enc x := A.enc (f x)
  dec l := (A.dec l).map g
  len x := A.len _
  one x v h := A.one _ _ h
  sound l x h := by
    simp only [Option.map_eq_some_iff] at h
    obtain ⟨a, ha, rfl⟩ := h
    rw [h2]; exact A.sound _ _ ha
  full x := by rw [A.full]; simp [h1]
  single h := by cases h

theorem Kd.val_cells {α : Type} (K : Kd α) (x : α) : (K.val x).cells = (K.enc x).toArray := by
  unfold Kd.val
  split
  · rfl
  · rename_i h
    have h1 := K.single (by simpa using h)
    have h2 := K.len x
    rw [h1] at h2
    match he : K.enc x with
    | [v] =>
      have := K.one x v (by rw [he]; simp)
      simp only [List.headD_cons]
      cases v <;> simp [Value.cells, Value.oneCell'] at this ⊢
    | [] => rw [he] at h2; cases h2
    | _ :: _ :: _ => rw [he] at h2; simp at h2

/-! ### parts laid into a whole -/
def splice (l : List Value) (o : Nat) (vs : List Value) : List Value := l.take o ++ vs ++ l.drop (o + vs.length)
theorem set_splice (l : List Value) (o : Nat) (v : Value) (vs : List Value) (h : o + (vs.length + 1) ≤ l.length) : splice (l.set o v) (o + 1) vs = splice l o (v :: vs) := by
  unfold splice
  have h1 : (l.set o v).take (o + 1) = l.take o ++ [v] := by
    apply List.ext_getElem?
    intro i
    by_cases hi : i < o
    · rw [List.getElem?_take_of_lt (by omega), List.getElem?_append_left (by simp; omega), List.getElem?_take_of_lt hi, List.getElem?_set_ne (by omega)]
    · by_cases hi2 : i = o
      · subst hi2
        rw [List.getElem?_take_of_lt (by omega), List.getElem?_set_self (by omega), List.getElem?_append_right (by simp; omega)]
        have : min i l.length = i := by omega
        simp [this]
      · rw [List.getElem?_eq_none (by simp; omega), List.getElem?_eq_none (by simp; omega)]
  have h2 : (l.set o v).drop (o + 1 + vs.length) = l.drop (o + (v :: vs).length) := by
    rw [List.drop_set_of_lt (by omega)]
    simp; congr 1; omega
  rw [h1, h2]; simp
theorem foldl_splice : ∀ (vs : List Value) (o k : Nat) (l : List Value), o + k + vs.length ≤ l.length →
    ((vs.zipIdx k).foldl (fun cs p => cs.set (o + p.2) p.1) l) = splice l (o + k) vs
  | [], o, k, l, _ => by simp [splice]
  | v :: vs, o, k, l, h => by
    simp only [List.zipIdx_cons, List.foldl_cons]
    rw [foldl_splice vs o (k + 1) (l.set (o + k) v) (by simp at h ⊢; omega)]
    rw [← Nat.add_assoc, set_splice l (o + k) v vs (by simp at h; omega)]
theorem fold_array (vs : Array Value) (o : Nat) (cells : Array Value) (h : o + vs.size ≤ cells.size) :
    (vs.zipIdx.foldl (fun cs p => cs.setIfInBounds (o + p.2) p.1) cells) = (splice cells.toList o vs.toList).toArray := by
  apply Array.ext'
  rw [← Array.foldl_toList]
  have key : ∀ (l : List (Value × Nat)) (c : Array Value), (l.foldl (fun cs p => cs.setIfInBounds (o + p.2) p.1) c).toList = l.foldl (fun cs p => cs.set (o + p.2) p.1) c.toList := by
    intro l
    induction l with
    | nil => intro c; rfl
    | cons p l ih => intro c; simp only [List.foldl_cons]; rw [ih]; simp
  rw [key]
  have : vs.zipIdx.toList = vs.toList.zipIdx := by simp
  rw [this, foldl_splice vs.toList o 0 cells.toList (by simpa using h)]
  simp
def fillL (place : Nat → Option (Nat × Nat)) (cells : List Value) : List (Nat × List Value) → Option (List Value)
  | [] => some cells
  | (i, v) :: rest =>
    match place i with
    | none => none
    | some (off, size) => bif Nat.beq v.length size && Nat.ble (off + size) cells.length then fillL place (splice cells off v) rest else none
theorem fill_of_fillL (place : Nat → Option (Nat × Nat)) : ∀ (parts : List (Nat × Value)) (pl : List (Nat × List Value)) (cells : List Value) (r : List Value), parts.map (fun p => (p.1, p.2.cells.toList)) = pl → fillL place cells pl = some r →
    Instr.fill place cells.toArray parts = some r.toArray
  | [], pl, cells, r, h, hr => by
    subst h; simp [fillL] at hr; subst hr; rfl
  | (i, v) :: parts, pl, cells, r, h, hr => by
    subst h
    simp only [List.map_cons, fillL] at hr
    simp only [Instr.fill]
    cases hp : place i with
    | none => rw [hp] at hr; cases hr
    | some os =>
      obtain ⟨off, size⟩ := os
      rw [hp] at hr
      simp only at hr ⊢
      cases hc : (Nat.beq v.cells.toList.length size && Nat.ble (off + size) cells.length) with
      | false => rw [hc] at hr; cases hr
      | true =>
        rw [hc] at hr
        simp only [Bool.and_eq_true] at hc
        have h1 := Nat.eq_of_beq_eq_true hc.1
        have h2 := Nat.le_of_ble_eq_true hc.2
        simp only [Array.length_toList] at h1
        rw [if_neg (by simp; omega)]
        have h3 := fold_array v.cells off cells.toArray (by simp; omega)
        rw [h3]
        exact fill_of_fillL place parts _ _ r rfl hr

/-! ### the heap, by cells -/
def hcell (h : H) (a : Addr) : Option Value :=
  match h[a.block]? with
  | some (.cells c _ _) => if a.spot.isSome then none else c[a.off]?
  | _ => none
def hfrozen (h : H) (a : Addr) : Bool :=
  match h[a.block]? with
  | some (.cells _ _ (lo, hi)) => lo ≤ a.off && a.off < hi
  | _ => false
def hset (h : H) (a : Addr) (v : Value) : H :=
  h.modify a.block fun
      | .cells c elem frozen => .cells (if a.spot.isSome then c else c.setIfInBounds a.off v) elem frozen
      | o => o
theorem cell_w (c : Ctx) (h : H) (d : Nat) (a : Addr) : (c.w h d).cell? a = hcell h a := rfl
theorem frozen_w (c : Ctx) (h : H) (d : Nat) (a : Addr) : (c.w h d).frozen? a = hfrozen h a := rfl
theorem set_w (c : Ctx) (h : H) (d : Nat) (a : Addr) (v : Value) : (c.w h d).setCell a v = c.w (hset h a v) d := rfl

def rdFrom (h : H) (a : Addr) (i : Nat) : Nat → Option (List Value)
  | 0 => some []
  | n + 1 => (hcell h (a.add i)).bind fun v => (rdFrom h a (i + 1) n).map fun r => v :: r
def rdCells (h : H) (a : Addr) (n : Nat) : Option (List Value) := rdFrom h a 0 n
def wrFrom (a : Addr) : List Value → Nat → H → Option H
  | [], _, h => some h
  | v :: r, i, h => (hcell h (a.add i)).bind fun _ => if hfrozen h (a.add i) || !v.oneCell' then none else wrFrom a r (i + 1) (hset h (a.add i) v)
def wrCells (h : H) (a : Addr) (l : List Value) : Option H := wrFrom a l 0 h

theorem hcell_ext {h h' : H} (e : Ext h h') {a : Addr} {v : Value} (x : hcell h a = some v) : hcell h' a = some v := by
  have : a.block < h.size := by
    rcases Nat.lt_or_ge a.block h.size with hl | hl
    · exact hl
    · unfold hcell at x; rw [Array.getElem?_eq_none hl] at x; cases x
  unfold hcell at *
  rw [e.2 _ this]; exact x
theorem rdFrom_ext {h h' : H} (e : Ext h h') {a : Addr} : ∀ (n i : Nat) {l : List Value}, rdFrom h a i n = some l → rdFrom h' a i n = some l
  | 0, _, _, x => x
  | n + 1, i, l, x => by
    simp only [rdFrom, Option.bind_eq_some_iff, Option.map_eq_some_iff] at x ⊢
    obtain ⟨v, hv, r, hr, rfl⟩ := x
    exact ⟨v, hcell_ext e hv, r, rdFrom_ext e n _ hr, rfl⟩
theorem rdFrom_len {h : H} {a : Addr} : ∀ (n i : Nat) {l : List Value}, rdFrom h a i n = some l → l.length = n
  | 0, _, l, x => by simp [rdFrom] at x; simp [x]
  | n + 1, i, l, x => by
    simp only [rdFrom, Option.bind_eq_some_iff, Option.map_eq_some_iff] at x
    obtain ⟨v, hv, r, hr, rfl⟩ := x
    simp [rdFrom_len n _ hr]

def ld {α : Type} (K : Kd α) (a : Addr) (h : H) : Option α := (rdCells h a K.n).bind K.dec
def st {α : Type} (K : Kd α) (a : Addr) (x : α) (h : H) : Option H := wrCells h a (K.enc x)

theorem ld_ext {α : Type} {K : Kd α} {a : Addr} {h h' : H} (e : Ext h h') {x : α} (hx : ld K a h = some x) : ld K a h' = some x := by
  unfold ld at *
  simp only [Option.bind_eq_some_iff] at *
  obtain ⟨l, hl, hd⟩ := hx
  exact ⟨l, rdFrom_ext e _ _ hl, hd⟩

section
variable {P : Program}

theorem run_loadCellsFrom (c : Ctx) (h : H) (d : Nat) (a : Addr) : ∀ (n i : Nat) (acc : Array Value) (l : List Value), rdFrom h a i n = some l → (loadCellsFrom a i n acc).run P (c.w h d) = .ok (acc ++ l.toArray) (c.w h d)
  | 0, i, acc, l, x => by simp [rdFrom] at x; subst x; simp [loadCellsFrom]
  | n + 1, i, acc, l, x => by
    simp only [rdFrom, Option.bind_eq_some_iff, Option.map_eq_some_iff] at x
    obtain ⟨v, hv, r, hr, rfl⟩ := x
    simp only [loadCellsFrom, Sem.run_bind, run_load, cell_w, hv, Result.andThen_ok, run_loadCellsFrom c h d a n (i + 1) _ r hr]
    simp
theorem run_loadCells (c : Ctx) (h : H) (d : Nat) (a : Addr) (n : Nat) (l : List Value) (x : rdCells h a n = some l) : (loadCells a n).run P (c.w h d) = .ok l.toArray (c.w h d) := by
  unfold loadCells
  rw [run_loadCellsFrom c h d a n 0 #[] l x]; simp

theorem run_storeCells (c : Ctx) (d : Nat) (a : Addr) : ∀ (l : List Value) (i : Nat) (h h' : H), wrFrom a l i h = some h' → (storeCells a l i).run P (c.w h d) = .ok () (c.w h' d)
  | [], i, h, h', x => by simp [wrFrom] at x; subst x; simp [storeCells]
  | v :: l, i, h, h', x => by
    simp only [wrFrom, Option.bind_eq_some_iff] at x
    obtain ⟨u, hu, x⟩ := x
    split at x
    · cases x
    · rename_i hf
      have hf1 : hfrozen h (a.add i) = false := by revert hf; cases hfrozen h (a.add i) <;> simp
      have hf2 : v.oneCell' = true := by revert hf; cases v.oneCell' <;> simp
      simp only [storeCells, Sem.run_bind, run_store P _ _ _ _ hf2, cell_w, hu, frozen_w, hf1, set_w]
      simp only [Bool.false_eq_true, if_false, Result.andThen_ok]
      exact run_storeCells c d a l (i + 1) _ h' x

/-- What the model's table says of a type, and its kind: so many cells, in one piece or more. -/
structure TyOK (P : Program) (t : TypeId) (n : Nat) (agg : Bool) : Prop where
  size : (P.info? t).map (·.size) = some n
  agg : (P.underlying t).map (fun | .struct _ | .array _ _ => true | _ => false) = some agg

theorem run_sizeOf {t n : Nat} (h : (P.info? t).map (·.size) = some n) (w : World) : (sizeOf t).run P w = .ok n w := by
  simp only [Option.map_eq_some_iff] at h
  obtain ⟨i, hi, rfl⟩ := h
  simp [sizeOf, typeInfo, hi]
theorem run_isAgg {t : Nat} {b : Bool} (h : (P.underlying t).map (fun | .struct _ | .array _ _ => true | _ => false) = some b) (w : World) : (isAgg t).run P w = .ok b w := by
  simp only [Option.map_eq_some_iff] at h
  obtain ⟨i, hi, hb⟩ := h
  simp only [isAgg, underlying, Sem.run_bind, run_program, Result.andThen_ok, hi, Sem.run_pure]
  cases i <;> simp_all
theorem run_underlying' {t : Nat} {u : TypeDesc} (h : P.underlying t = some u) (w : World) : (underlying t).run P w = .ok u w := by
  simp [underlying, h]

theorem run_loadVar {α : Type} (K : Kd α) {t : TypeId} (T : TyOK P t K.n K.agg) {a : Addr} {h : H} {x : α} (hx : ld K a h = some x) (c : Ctx) (d : Nat) :
    (loadVar t a).run P (c.w h d) = .ok (K.val x) (c.w h d) := by
  unfold ld at hx
  simp only [Option.bind_eq_some_iff] at hx
  obtain ⟨l, hl, hd⟩ := hx
  have hs := K.sound _ _ hd
  have hagg : K.agg = true ∨ K.agg = false := by cases K.agg <;> simp
  unfold loadVar
  simp only [Sem.run_bind, run_isAgg T.agg, Result.andThen_ok]
  rcases hagg with ha | ha
  · simp only [ha, if_true, Sem.run_bind, run_sizeOf T.size, Result.andThen_ok, run_loadCells c h d a K.n l hl, Sem.run_pure, Kd.val, hs]
  · simp only [ha, Bool.false_eq_true, if_false, Kd.val]
    have h1 := K.single ha
    rw [h1] at hl
    simp only [rdCells, rdFrom, Option.map_some, Option.bind_eq_some_iff, Option.some.injEq] at hl
    obtain ⟨v, hv, rfl⟩ := hl
    have : a.add 0 = a := by simp [Addr.add]
    rw [this] at hv
    simp only [run_load, cell_w, hv, hs, List.headD_cons]

theorem run_storeVar {α : Type} (K : Kd α) {t : TypeId} (T : (P.info? t).map (·.size) = some K.n) {a : Addr} {h h' : H} {x : α} (hx : st K a x h = some h') (c : Ctx) (d : Nat) :
    (storeVar t a (K.val x)).run P (c.w h d) = .ok () (c.w h' d) := by
  unfold storeVar
  have hsz : (K.val x).cells.size = K.n := by rw [K.val_cells]; simp [K.len]
  simp only [Sem.run_bind, run_sizeOf T, Result.andThen_ok]
  rw [if_neg (by simp [hsz])]
  simp only [K.val_cells]
  exact run_storeCells c d a (K.enc x) 0 h h' hx

/-! ### operations -/
section
variable {E : Env} {o : Oper}
theorem f_move {x : Operand} {v : Value} (ho : o.op = .move x) (hx : evE E x = v) : PureAt P (execOp (evE E) o) v := fun w => by simp [execOp, ho, hx]
theorem f_assign {x : Operand} {v : Value} (ho : o.op = .assign x) (hx : evE E x = v) : PureAt P (execOp (evE E) o) v := fun w => by simp [execOp, ho, hx]
theorem f_pick {c x y : Operand} {b : Bool} {v : Value} (ho : o.op = .pick c x y) (hc : evE E c = .bool b) (hv : (if b then evE E x else evE E y) = v) : PureAt P (execOp (evE E) o) v := fun w => by
  subst hv
  cases b <;> simp [execOp, ho, hc, asBool]
theorem f_nilCheck {x : Operand} {a : Addr} (ho : o.op = .nilCheck x) (hx : evE E x = .pointer (some a)) : PureAt P (execOp (evE E) o) (.pointer (some a)) := fun w => by simp [execOp, ho, hx]
/-- A struct's field lies so far in, and is not empty. -/
structure FieldOK (P : Program) (s : TypeId) (f off : Nat) : Prop where
  h : ∃ fs fd, P.underlying s = some (.struct fs) ∧ fs[f]? = some fd ∧ fd.offset = off ∧ ∃ n, (P.info? fd.type).map (·.size) = some n ∧ n ≠ 0
theorem field_of {s : TypeId} {f off n : Nat} (h : ((P.underlying s).bind fun | .struct fs => fs[f]? | _ => none).map (fun f => (f.offset, (P.info? f.type).map (·.size))) = some (off, some n)) (hn : n ≠ 0) :
    ∃ fs fd, P.underlying s = some (.struct fs) ∧ fs[f]? = some fd ∧ fd.offset = off ∧ ∃ n, (P.info? fd.type).map (·.size) = some n ∧ n ≠ 0 := by
  simp only [Option.map_eq_some_iff, Option.bind_eq_some_iff, Prod.mk.injEq] at h
  obtain ⟨fd, ⟨u, hu, hf⟩, h1, h2⟩ := h
  cases u <;> simp at hf
  exact ⟨_, fd, hu, hf, h1, n, by simpa using h2, hn⟩
theorem f_fieldAddr {s : TypeId} {x : Operand} {f off : Nat} {a : Addr} (F : FieldOK P s f off) (ho : o.op = .fieldAddr s x f) (hx : evE E x = .pointer (some a)) : PureAt P (execOp (evE E) o) (.pointer (some (a.add off))) := fun w => by
  obtain ⟨fs, fd, h1, h2, rfl, n, h3, h4⟩ := F.h
  simp [execOp, ho, hx, Instr.fieldAt, run_underlying' h1, h2, Instr.sureAddr, fieldPlace, run_sizeOf h3, h4]
def ixA (size : Nat) (s : Sl) (i : Int) : Option Addr :=
  match s.a with
  | some a => if 0 ≤ i ∧ i < (s.len : Int) then some (a.add (i.toNat * size)) else none
  | none => none
theorem f_indexAddr {t e : TypeId} {x i : Operand} {s : Sl} {k : IntKind} {n : Int} {size : Nat} {a : Addr} (ht : P.underlying t = some (.slice e)) (hs : (P.info? e).map (·.size) = some size)
    (ho : o.op = .indexAddr t x i) (hx : evE E x = .slice s.a s.len s.cap) (hi : evE E i = .int k n) (ha : ixA size s n = some a) : PureAt P (execOp (evE E) o) (.pointer (some a)) := fun w => by
  unfold ixA at ha
  cases hb : s.a with
  | none => rw [hb] at ha; cases ha
  | some b =>
    rw [hb] at ha hx
    simp only at ha
    split at ha
    · rename_i hin
      simp only [Option.some.injEq] at ha
      simp [execOp, ho, hx, hi, Instr.indexAt, asIntOf, run_underlying' ht, hin, run_sizeOf hs, ← ha]
    · cases ha
def ixR (len size : Nat) (a : Addr) (i : Int) : Option Addr := if 0 ≤ i ∧ i < (len : Int) then some (a.add (i.toNat * size)) else none
theorem f_indexAddrR {t e : TypeId} {x i : Operand} {b a : Addr} {k : IntKind} {n : Int} {len size : Nat} (ht : P.underlying t = some (.array len e)) (hs : (P.info? e).map (·.size) = some size)
    (ho : o.op = .indexAddr t x i) (hx : evE E x = .pointer (some b)) (hi : evE E i = .int k n) (ha : ixR len size b n = some a) : PureAt P (execOp (evE E) o) (.pointer (some a)) := fun w => by
  unfold ixR at ha
  split at ha
  · rename_i hin
    simp only [Option.some.injEq] at ha
    simp [execOp, ho, hx, hi, Instr.indexAt, asIntOf, run_underlying' ht, Instr.sureAddr, hin, run_sizeOf hs, ← ha]
  · cases ha
theorem f_load {α : Type} (K : Kd α) {t : TypeId} (T : TyOK P t K.n K.agg) {x : Operand} {a : Addr} {h : H} {y : α} {v : Value} (ho : o.op = .load t x) (hx : evE E x = .pointer (some a)) (hl : ld K a h = some y) (hv : K.val y = v) : ReadAt P (execOp (evE E) o) h v := fun c d h' e => by
  subst hv
  simp only [execOp, ho, hx, Instr.loadAt, Instr.sureAddr, Sem.run_bind, Sem.run_pure, Result.andThen_ok]
  rw [run_loadVar K T (ld_ext e hl) c d]; rfl
theorem f_store {α : Type} (K : Kd α) {t : TypeId} (T : (P.info? t).map (·.size) = some K.n) {x y : Operand} {a : Addr} {h h' : H} {z : α} (ho : o.op = .store t x y) (hx : evE E x = .pointer (some a)) (hy : evE E y = K.val z) (hs : st K a z h = some h') :
    RunH P (execOp (evE E) o) h fun v h1 => v = undef ∧ h1 = h' := fun c d => ⟨undef, h', d, .inr ⟨by
  simp only [execOp, ho, hx, hy, Instr.storeAt, Instr.sureAddr, Sem.run_bind, Sem.run_pure, Result.andThen_ok]
  rw [run_storeVar K T hs c d]; rfl, rfl⟩, rfl, rfl⟩

/-- A new variable. -/
def al (t : TypeId) (cs : List Value) (h : H) (K : Addr → H → Prop) : Prop := K ⟨h.size, 0, none⟩ (h.push (.cells cs.toArray t))
theorem f_box {t : TypeId} {x : Operand} {v : Value} {cs : List Value} {h : H} (ho : o.op = .box t x) (hx : evE E x = v) (hc : v.cells = cs.toArray) :
    AllocAt P (execOp (evE E) o) h fun u h' => u = .pointer (some ⟨h.size, 0, none⟩) ∧ h' = h.push (.cells cs.toArray t) := fun c d =>
  ⟨_, _, d, .inl (by simp only [execOp, ho, hx, Instr.box, newVar, newRow, Sem.run_bind, run_newObj, Result.andThen_ok, Sem.run_pure, hc]; rfl), Ext.push _ _, rfl, rfl⟩
theorem f_alloc {t : TypeId} {z : Value} {cs : List Value} {h : H} (hz : (P.info? t).bind (·.zero) = some z) (ho : o.op = .alloc t) (hc : z.cells = cs.toArray) :
    AllocAt P (execOp (evE E) o) h fun u h' => u = .pointer (some ⟨h.size, 0, none⟩) ∧ h' = h.push (.cells cs.toArray t) := fun c d => by
  simp only [Option.bind_eq_some_iff] at hz
  obtain ⟨i, hi, hz⟩ := hz
  exact ⟨_, _, d, .inl (by simp only [execOp, ho, Instr.alloc, zeroValue, typeInfo, newVar, newRow, Sem.run_bind, run_program, hi, hz, run_newObj, Result.andThen_ok, Sem.run_pure, hc]; rfl), Ext.push _ _, rfl, rfl⟩

/-! structs built, and taken apart -/
theorem f_extract {x : Operand} {i : Nat} {vs : Array Value} {v : Value} (ho : o.op = .extract x i) (hx : evE E x = .tuple vs) (hv : vs[i]? = some v) : PureAt P (execOp (evE E) o) v := fun w => by
  simp [execOp, ho, hx, Instr.extract, hv]
structure StructOK (P : Program) (t : TypeId) (places : Array (Nat × Nat)) (zero : Array Value) : Prop where
  h : ∃ fs, P.underlying t = some (.struct fs) ∧ (∃ i z, P.info? t = some i ∧ i.zero = some z ∧ z.cells = zero) ∧ fs.toList.map (fun f => (f.offset, (P.info? f.type).map (·.size))) = places.toList.map (fun p => (p.1, some p.2))
theorem struct_of {t : TypeId} {places : Array (Nat × Nat)} {zero : Array Value} {z : Value} {l : List (Nat × Option Nat)} (h : (P.underlying t).map (fun | .struct fs => fs.toList.map (fun f => (f.offset, (P.info? f.type).map (·.size))) | _ => []) = some l) (hz : (P.info? t).bind (·.zero) = some z)
    (h0 : z.cells = zero) (hl : l = places.toList.map (fun p => (p.1, some p.2))) (hs : ∃ fs, P.underlying t = some (.struct fs)) :
    ∃ fs, P.underlying t = some (.struct fs) ∧ (∃ i z, P.info? t = some i ∧ i.zero = some z ∧ z.cells = zero) ∧ fs.toList.map (fun f => (f.offset, (P.info? f.type).map (·.size))) = places.toList.map (fun p => (p.1, some p.2)) := by
  obtain ⟨fs, hs⟩ := hs
  rw [hs] at h
  simp only [Option.map_some, Option.some.injEq] at h
  simp only [Option.bind_eq_some_iff] at hz
  obtain ⟨i, hi, hz⟩ := hz
  exact ⟨fs, hs, ⟨i, z, hi, hz, h0⟩, by rw [h, hl]⟩
theorem run_places (w : World) : ∀ (fs : List Field) (pl : List (Nat × Nat)), fs.map (fun f => (f.offset, (P.info? f.type).map (·.size))) = pl.map (fun p => (p.1, some p.2)) →
    (fs.mapM (m := Sem) fun f => do pure (f.offset, ← sizeOf f.type)).run P w = .ok pl w
  | [], pl, h => by cases pl with
    | nil => simp
    | cons => simp at h
  | f :: fs, pl, h => by
    cases pl with
    | nil => simp at h
    | cons p pl =>
      simp only [List.map_cons, List.cons.injEq, Prod.mk.injEq] at h
      obtain ⟨⟨h1, h2⟩, h3⟩ := h
      simp only [List.mapM_cons, Sem.run_bind, run_sizeOf h2, Result.andThen_ok, Sem.run_pure, run_places w fs pl h3, h1]
theorem f_build {t : TypeId} {parts : Array (Nat × Operand)} {places : Array (Nat × Nat)} {zero cells : List Value} {pl : List (Nat × List Value)} (S : StructOK P t places zero.toArray) (ho : o.op = .build t parts) (hp : parts.toList.map (fun p => (p.1, (evE E p.2).cells.toList)) = pl) (hf : fillL (places[·]?) zero pl = some cells) :
    PureAt P (execOp (evE E) o) (.agg cells.toArray) := fun w => by
  obtain ⟨fs, h1, ⟨i, z, hi, hz, h0⟩, h2⟩ := S.h
  have h3 := run_places (P := P) w fs.toList places.toList h2
  have h4 := fill_of_fillL (places[·]?) (parts.toList.map fun p => (p.1, evE E p.2)) pl zero cells (by rw [List.map_map]; exact hp) hf
  simp only [execOp, ho, Instr.build, zeroValue, typeInfo, Sem.run_bind, run_program, hi, hz, Result.andThen_ok, Sem.run_pure, run_underlying' h1, Array.mapM_eq_mapM_toList, Sem.run_map, h3, h0, Array.toList_map]
  simp only [Array.toArray_toList, h4, Sem.run_pure, Result.andThen_ok]
theorem f_field {α : Type} (K : Kd α) {s : TypeId} {x : Operand} {f : Nat} {fs : Array Field} {fd : Field} {cs : Array Value} {y : α} {v : Value} (h1 : P.underlying s = some (.struct fs)) (h2 : fs[f]? = some fd) (T : TyOK P fd.type K.n K.agg) (ho : o.op = .field s x f) (hx : evE E x = .agg cs)
    (hy : cs.extract fd.offset (fd.offset + K.n) = (K.enc y).toArray) (hv : K.val y = v) : PureAt P (execOp (evE E) o) v := fun w => by
  subst hv
  simp only [execOp, ho, hx, Instr.field, Sem.run_bind, run_underlying' h1, h2, Result.andThen_ok, part, run_isAgg T.agg, asAgg, Sem.run_pure]
  have hagg : K.agg = true ∨ K.agg = false := by cases K.agg <;> simp
  rcases hagg with ha | ha
  · simp only [ha, if_true, Sem.run_bind, run_sizeOf T.size, Result.andThen_ok, Sem.run_pure, hy, Kd.val]
  · have h3 := K.single ha
    have h4 := K.len y
    rw [h3] at hy h4
    simp only [ha, Bool.false_eq_true, if_false, Kd.val]
    match he : K.enc y with
    | [u] =>
      rw [he] at hy
      have : cs[fd.offset]? = some u := by
        have h5 := congrArg (fun a : Array Value => a[0]?) hy
        simp only [Array.getElem?_extract] at h5
        simp at h5
        by_cases hlt : fd.offset < cs.size
        · have : min (fd.offset + 1) cs.size = fd.offset + 1 := by omega
          simp [this, hlt] at h5 ⊢; exact h5
        · have : min (fd.offset + 1) cs.size = cs.size := by omega
          simp [this] at h5
          omega
      simp [this]
    | [] => rw [he] at h4; cases h4
    | _ :: _ :: _ => rw [he] at h4; simp at h4

/-! numbers -/
theorem f_unOp {u : UnOp} {t : TypeId} {x : Operand} {v y : Value} (ho : o.op = .unOp u t x) (hx : evE E x = y) (hr : ∀ w : World, (Op.unary u y).run P w = .ok v w) : PureAt P (execOp (evE E) o) v := fun w => by
  simp [execOp, ho, hx, hr]
theorem f_not {t : TypeId} {x : Operand} {b : Bool} (ho : o.op = .unOp .not t x) (hx : evE E x = .bool b) : PureAt P (execOp (evE E) o) (.bool (!b)) := f_unOp ho hx fun w => by simp [Op.unary]
theorem f_neg {t : TypeId} {x : Operand} {k : IntKind} {n : Int} (ho : o.op = .unOp .neg t x) (hx : evE E x = .int k n) : PureAt P (execOp (evE E) o) (.int k (k.wrap (0 - n))) := f_unOp ho hx fun w => by simp [Op.unary, Op.intArith]
theorem f_bin {b : BinOp} {t t' : TypeId} {x y : Operand} {v u z : Value} (ho : o.op = .binOp b t x y t') (hx : evE E x = u) (hy : evE E y = z) (hg : ∀ w : World, (eqGuard b t x y u z).run P w = .ok () w) (hr : ∀ w : World, (binOp b t u z).run P w = .ok v w) : PureAt P (execOp (evE E) o) v := fun w => by
  simp [execOp, ho, hx, hy, hg, hr]
theorem guard_int {b : BinOp} {t : TypeId} {x y : Operand} {k k' : IntKind} {n m : Int} (w : World) : (eqGuard b t x y (.int k n) (.int k' m)).run P w = .ok () w := by
  unfold eqGuard; cases b <;> simp
theorem f_add {t t' : TypeId} {x y : Operand} {k : IntKind} {n m : Int} (ho : o.op = .binOp .add t x y t') (hx : evE E x = .int k n) (hy : evE E y = .int k m) : PureAt P (execOp (evE E) o) (.int k (k.wrap (n + m))) := f_bin ho hx hy guard_int fun w => by simp [binOp, Op.intArith]
theorem f_sub {t t' : TypeId} {x y : Operand} {k : IntKind} {n m : Int} (ho : o.op = .binOp .sub t x y t') (hx : evE E x = .int k n) (hy : evE E y = .int k m) : PureAt P (execOp (evE E) o) (.int k (k.wrap (n - m))) := f_bin ho hx hy guard_int fun w => by simp [binOp, Op.intArith]
theorem f_mul {t t' : TypeId} {x y : Operand} {k : IntKind} {n m : Int} (ho : o.op = .binOp .mul t x y t') (hx : evE E x = .int k n) (hy : evE E y = .int k m) : PureAt P (execOp (evE E) o) (.int k (k.wrap (n * m))) := f_bin ho hx hy guard_int fun w => by simp [binOp, Op.intArith]
def quoI (k : IntKind) (n m : Int) : Option Int := if m = 0 then none else some (k.wrap (n.tdiv m))
def remI (n m : Int) : Option Int := if m = 0 then none else some (n.tmod m)
theorem f_quo {t t' : TypeId} {x y : Operand} {k : IntKind} {n m r : Int} (ho : o.op = .binOp .quo t x y t') (hx : evE E x = .int k n) (hy : evE E y = .int k m) (hr : quoI k n m = some r) : PureAt P (execOp (evE E) o) (.int k r) := f_bin ho hx hy guard_int fun w => by
  unfold quoI at hr
  split at hr
  · cases hr
  · rename_i h; simp at hr; simp [binOp, Op.intDiv, h, hr]
theorem f_rem {t t' : TypeId} {x y : Operand} {k : IntKind} {n m r : Int} (ho : o.op = .binOp .rem t x y t') (hx : evE E x = .int k n) (hy : evE E y = .int k m) (hr : remI n m = some r) : PureAt P (execOp (evE E) o) (.int k r) := f_bin ho hx hy guard_int fun w => by
  unfold remI at hr
  split at hr
  · cases hr
  · rename_i h; simp at hr; simp [binOp, Op.intDiv, h, hr]
def bitI (b : BinOp) (k : IntKind) (n m : Int) : Int :=
  let x := BitVec.ofInt k.bits n
  let y := BitVec.ofInt k.bits m
  k.wrap (match b with
  | .and => x &&& y
  | .or => x ||| y
  | .xor => x ^^^ y
  | _ => x &&& ~~~y : BitVec k.bits).toNat
theorem f_and {t t' : TypeId} {x y : Operand} {k : IntKind} {n m : Int} (ho : o.op = .binOp .and t x y t') (hx : evE E x = .int k n) (hy : evE E y = .int k m) : PureAt P (execOp (evE E) o) (.int k (bitI .and k n m)) := f_bin ho hx hy guard_int fun w => by simp [binOp, Op.intBits, bitI]
theorem f_or {t t' : TypeId} {x y : Operand} {k : IntKind} {n m : Int} (ho : o.op = .binOp .or t x y t') (hx : evE E x = .int k n) (hy : evE E y = .int k m) : PureAt P (execOp (evE E) o) (.int k (bitI .or k n m)) := f_bin ho hx hy guard_int fun w => by simp [binOp, Op.intBits, bitI]
theorem f_xor {t t' : TypeId} {x y : Operand} {k : IntKind} {n m : Int} (ho : o.op = .binOp .xor t x y t') (hx : evE E x = .int k n) (hy : evE E y = .int k m) : PureAt P (execOp (evE E) o) (.int k (bitI .xor k n m)) := f_bin ho hx hy guard_int fun w => by simp [binOp, Op.intBits, bitI]
def shlI (k : IntKind) (n m : Int) : Option Int := if m < 0 then none else some (k.wrap (n * 2 ^ (min m.toNat k.bits)))
def shrI (k : IntKind) (n m : Int) : Option Int := if m < 0 then none else some (n.fdiv (2 ^ (min m.toNat k.bits)))
theorem f_shl {t t' : TypeId} {x y : Operand} {k k' : IntKind} {n m r : Int} (ho : o.op = .binOp .shl t x y t') (hx : evE E x = .int k n) (hy : evE E y = .int k' m) (hr : shlI k n m = some r) : PureAt P (execOp (evE E) o) (.int k r) := f_bin ho hx hy guard_int fun w => by
  unfold shlI at hr
  split at hr
  · cases hr
  · rename_i h; simp at hr; simp [binOp, Op.shift, h, hr]
theorem f_shr {t t' : TypeId} {x y : Operand} {k k' : IntKind} {n m r : Int} (ho : o.op = .binOp .shr t x y t') (hx : evE E x = .int k n) (hy : evE E y = .int k' m) (hr : shrI k n m = some r) : PureAt P (execOp (evE E) o) (.int k r) := f_bin ho hx hy guard_int fun w => by
  unfold shrI at hr
  split at hr
  · cases hr
  · rename_i h; simp at hr; simp [binOp, Op.shift, h, hr]
section
variable {t t' : TypeId} {x y : Operand} {k : IntKind} {n m : Int}
theorem f_eql (ho : o.op = .binOp .eql t x y t') (hx : evE E x = .int k n) (hy : evE E y = .int k m) : PureAt P (execOp (evE E) o) (.bool (n == m)) := f_bin ho hx hy guard_int fun w => by simp [binOp, Op.intCmp]
theorem f_neq (ho : o.op = .binOp .neq t x y t') (hx : evE E x = .int k n) (hy : evE E y = .int k m) : PureAt P (execOp (evE E) o) (.bool (n != m)) := f_bin ho hx hy guard_int fun w => by simp [binOp, Op.intCmp]
theorem f_lss (ho : o.op = .binOp .lss t x y t') (hx : evE E x = .int k n) (hy : evE E y = .int k m) : PureAt P (execOp (evE E) o) (.bool (decide (n < m))) := f_bin ho hx hy guard_int fun w => by simp [binOp, Op.intCmp]
theorem f_leq (ho : o.op = .binOp .leq t x y t') (hx : evE E x = .int k n) (hy : evE E y = .int k m) : PureAt P (execOp (evE E) o) (.bool (decide (n ≤ m))) := f_bin ho hx hy guard_int fun w => by simp [binOp, Op.intCmp]
theorem f_gtr (ho : o.op = .binOp .gtr t x y t') (hx : evE E x = .int k n) (hy : evE E y = .int k m) : PureAt P (execOp (evE E) o) (.bool (decide (n > m))) := f_bin ho hx hy guard_int fun w => by simp [binOp, Op.intCmp]
theorem f_geq (ho : o.op = .binOp .geq t x y t') (hx : evE E x = .int k n) (hy : evE E y = .int k m) : PureAt P (execOp (evE E) o) (.bool (decide (n ≥ m))) := f_bin ho hx hy guard_int fun w => by simp [binOp, Op.intCmp]
end
theorem f_seql {t t' : TypeId} {x y : Operand} {a b : ByteArray} (ho : o.op = .binOp .eql t x y t') (hx : evE E x = .string a) (hy : evE E y = .string b) : PureAt P (execOp (evE E) o) (.bool (a.toList == b.toList)) := f_bin ho hx hy (fun w => by simp [eqGuard]) fun w => by simp [binOp, Op.stringOp]
theorem f_sneq {t t' : TypeId} {x y : Operand} {a b : ByteArray} (ho : o.op = .binOp .neq t x y t') (hx : evE E x = .string a) (hy : evE E y = .string b) : PureAt P (execOp (evE E) o) (.bool (!(a.toList == b.toList))) := f_bin ho hx hy (fun w => by simp [eqGuard]) fun w => by simp [binOp, Op.stringOp]
theorem run_equal {t : TypeId} {u z : Value} {r : Bool} {w : World} (h : ∀ d, (Op.equalIn (d + 5) t u z).run P w = .ok r w) : (Op.equal t u z).run P w = .ok r w := h 9995
theorem eqIn_bool {t : TypeId} {a b : Bool} (hu : P.underlying t = some .bool) (d : Nat) (w : World) : (Op.equalIn (d + 1) t (.bool a) (.bool b)).run P w = .ok (a == b) w := by
  unfold Op.equalIn; simp only [Sem.run_bind, run_underlying' hu, Result.andThen_ok, Sem.run_pure]
theorem eqIn_int {t : TypeId} {k k' : IntKind} {a b : Int} (hu : P.underlying t = some (.int k')) (d : Nat) (w : World) : (Op.equalIn (d + 1) t (.int k a) (.int k b)).run P w = .ok (a == b) w := by
  unfold Op.equalIn; simp only [Sem.run_bind, run_underlying' hu, Result.andThen_ok, Sem.run_pure, if_true]
theorem eqIn_string {t : TypeId} {a b : ByteArray} (hu : P.underlying t = some .string) (d : Nat) (w : World) : (Op.equalIn (d + 1) t (.string a) (.string b)).run P w = .ok (a == b) w := by
  unfold Op.equalIn; simp only [Sem.run_bind, run_underlying' hu, Result.andThen_ok, Sem.run_pure]
theorem eqIn_ptrN {t e : TypeId} {a : Option Addr} (hu : P.underlying t = some (.pointer e)) (d : Nat) (w : World) : (Op.equalIn (d + 1) t (.pointer a) (.pointer none)).run P w = .ok a.isNone w := by
  unfold Op.equalIn; simp only [Sem.run_bind, run_underlying' hu, Result.andThen_ok]; cases a <;> simp
theorem eqIn_nilP {t e : TypeId} {a : Option Addr} (hu : P.underlying t = some (.pointer e)) (d : Nat) (w : World) : (Op.equalIn (d + 1) t (.pointer none) (.pointer a)).run P w = .ok a.isNone w := by
  unfold Op.equalIn; simp only [Sem.run_bind, run_underlying' hu, Result.andThen_ok, Sem.run_pure]
theorem f_eqlOf {t t' : TypeId} {x y : Operand} {u z : Value} {r : Bool} (ho : o.op = .binOp .eql t x y t') (hx : evE E x = u) (hy : evE E y = z) (hg : ∀ w : World, (eqGuard .eql t x y u z).run P w = .ok () w)
    (hb : binOp .eql t u z = (do pure (.bool (← Op.equal t u z)))) (hr : ∀ (d : Nat) (w : World), (Op.equalIn (d + 5) t u z).run P w = .ok r w) : PureAt P (execOp (evE E) o) (.bool r) := f_bin ho hx hy hg fun w => by
  rw [hb]; simp only [Sem.run_bind, run_equal fun d => hr d w, Result.andThen_ok, Sem.run_pure]
theorem f_neqOf {t t' : TypeId} {x y : Operand} {u z : Value} {r : Bool} (ho : o.op = .binOp .neq t x y t') (hx : evE E x = u) (hy : evE E y = z) (hg : ∀ w : World, (eqGuard .neq t x y u z).run P w = .ok () w)
    (hb : binOp .neq t u z = (do pure (.bool (!(← Op.equal t u z))))) (hr : ∀ (d : Nat) (w : World), (Op.equalIn (d + 5) t u z).run P w = .ok r w) : PureAt P (execOp (evE E) o) (.bool (!r)) := f_bin ho hx hy hg fun w => by
  rw [hb]; simp only [Sem.run_bind, run_equal fun d => hr d w, Result.andThen_ok, Sem.run_pure]
theorem f_beql {t t' : TypeId} {x y : Operand} {a b : Bool} (hu : P.underlying t = some .bool) (ho : o.op = .binOp .eql t x y t') (hx : evE E x = .bool a) (hy : evE E y = .bool b) : PureAt P (execOp (evE E) o) (.bool (a == b)) := f_eqlOf ho hx hy (fun w => by simp [eqGuard]) rfl (fun d w => eqIn_bool hu (d + 4) w)
theorem f_bneq {t t' : TypeId} {x y : Operand} {a b : Bool} (hu : P.underlying t = some .bool) (ho : o.op = .binOp .neq t x y t') (hx : evE E x = .bool a) (hy : evE E y = .bool b) : PureAt P (execOp (evE E) o) (.bool (!(a == b))) := f_neqOf ho hx hy (fun w => by simp [eqGuard]) rfl (fun d w => eqIn_bool hu (d + 4) w)
theorem f_peqln {t t' e : TypeId} {x y : Operand} {a : Option Addr} (hu : P.underlying t = some (.pointer e)) (ho : o.op = .binOp .eql t x y t') (hx : evE E x = .pointer a) (hy : evE E y = .pointer none) : PureAt P (execOp (evE E) o) (.bool a.isNone) := f_eqlOf ho hx hy (fun w => by simp [eqGuard]) rfl (fun d w => eqIn_ptrN hu (d + 4) w)
theorem f_pneqn {t t' e : TypeId} {x y : Operand} {a : Option Addr} (hu : P.underlying t = some (.pointer e)) (ho : o.op = .binOp .neq t x y t') (hx : evE E x = .pointer a) (hy : evE E y = .pointer none) : PureAt P (execOp (evE E) o) (.bool (!a.isNone)) := f_neqOf ho hx hy (fun w => by simp [eqGuard]) rfl (fun d w => eqIn_ptrN hu (d + 4) w)
/-- The fields' own equalities. -/
def EqFs (P : Program) (k : Nat) (xs ys : Array Value) : List Field → List Bool → Prop
  | [], [] => True
  | f :: fs, b :: bs => f.name ≠ "_" ∧ (∃ u v, (∀ w : World, (part f.type xs f.offset).run P w = .ok u w) ∧ (∀ w : World, (part f.type ys f.offset).run P w = .ok v w) ∧ ∀ (d : Nat) (w : World), (Op.equalIn (d + k) f.type u v).run P w = .ok b w) ∧ EqFs P k xs ys fs bs
  | _, _ => False
theorem eqIn_struct {k : Nat} {t : TypeId} {fs : Array Field} {xs ys : Array Value} {bs : List Bool} (hu : P.underlying t = some (.struct fs)) (hst : P.stoodInHeld t = false) (he : EqFs P k xs ys fs.toList bs) (d : Nat) (w : World) : (Op.equalIn (d + k + 1) t (.agg xs) (.agg ys)).run P w = .ok (bs.all id) w := by
  unfold Op.equalIn
  simp only [Sem.run_bind, run_underlying' hu, Result.andThen_ok, run_program, hst, Bool.false_eq_true, if_false]
  rw [← Array.forIn_toList]
  generalize fs.toList = l at he
  clear hu
  induction l generalizing bs w with
  | nil =>
    cases bs with
    | nil => simp
    | cons => exact he.elim
  | cons f l ih =>
    cases bs with
    | nil => exact he.elim
    | cons b bs =>
      obtain ⟨hn, ⟨u, v, h1, h2, h3⟩, he⟩ := he
      simp only [List.forIn_cons, Sem.run_bind, if_pos hn, h1, h2, h3, Result.andThen_ok]
      cases b with
      | false => simp
      | true =>
        simp only [Bool.not_true, Bool.false_eq_true, if_false, Sem.run_pure, Result.andThen_ok]
        have := ih w he
        simpa using this
theorem part_one {t : TypeId} {cs : Array Value} {off : Nat} {v : Value} (T : TyOK P t 1 false) (h : cs[off]? = some v) (w : World) : (part t cs off).run P w = .ok v w := by
  simp only [part, Sem.run_bind, run_isAgg T.agg, Result.andThen_ok, Bool.false_eq_true, if_false, h, Sem.run_pure]
theorem part_agg {t : TypeId} {cs : Array Value} {off n : Nat} (T : TyOK P t n true) (w : World) : (part t cs off).run P w = .ok (.agg (cs.extract off (off + n))) w := by
  simp only [part, Sem.run_bind, run_isAgg T.agg, Result.andThen_ok, if_true, run_sizeOf T.size, Sem.run_pure]
theorem guard_struct {b : BinOp} {t : TypeId} {x y : Operand} {xs ys : Array Value} (h : P.eqGuardType P.depth t = false) (w : World) : (eqGuard b t x y (.agg xs) (.agg ys)).run P w = .ok () w := by
  unfold eqGuard
  cases b <;> simp [h]
theorem f_convI {s t : TypeId} {x : Operand} {k k' : IntKind} {n : Int} {u : TypeDesc} (hs : P.underlying s = some u) (ht : P.underlying t = some (.int k)) (ho : o.op = .convert s t x) (hx : evE E x = .int k' n) : PureAt P (execOp (evE E) o) (.int k (k.wrap n)) := fun w => by
  simp [execOp, ho, hx, convert, run_underlying' hs, run_underlying' ht, Conv.intToInt]

def ixS (s : ByteArray) (i : Int) : Option Int := if 0 ≤ i then (s[i.toNat]?).map fun b => (b.toNat : Int) else none
theorem f_indexS {t : TypeId} {x y : Operand} {s : ByteArray} {k : IntKind} {n r : Int} (ht : P.underlying t = some .string) (ho : o.op = .index t x y) (hx : evE E x = .string s) (hy : evE E y = .int k n) (hr : ixS s n = some r) : PureAt P (execOp (evE E) o) (.int .u8 r) := fun w => by
  unfold ixS at hr
  split at hr
  · rename_i h
    simp only [Option.map_eq_some_iff] at hr
    obtain ⟨b, hb, rfl⟩ := hr
    simp [execOp, ho, hx, hy, Instr.index, asIntOf, run_underlying' ht, h, hb]
  · cases hr

/-! slices -/
theorem run_call_builtin {b : Builtin} {args : Array Operand} {ats : Array TypeId} (w : World) (ho : o.op = .call { callee := .builtin b, args := args, argTypes := ats }) :
    (execOp (evE E) o).run P w = (builtin b ats o.type (args.map fun | .const _ => true | _ => false) (args.map (evE E))).run P w := by
  simp only [execOp, ho, resolve, Sem.run_bind, Sem.run_pure, Result.andThen_ok, invoke]
  rfl
theorem f_lenL {t e : TypeId} {x : Operand} {s : Sl} (ht : P.underlying t = some (.slice e)) (ho : o.op = .call { callee := .builtin .len, args := #[x], argTypes := #[t] }) (hx : evE E x = .slice s.a s.len s.cap) : PureAt P (execOp (evE E) o) (.int .i64 (s.len : Int)) := fun w => by
  rw [run_call_builtin w ho]; simp [builtin, Builtin.len_, hx, run_underlying' ht, goInt]
theorem f_lenS {t : TypeId} {x : Operand} {s : ByteArray} (ht : P.underlying t = some .string) (ho : o.op = .call { callee := .builtin .len, args := #[x], argTypes := #[t] }) (hx : evE E x = .string s) : PureAt P (execOp (evE E) o) (.int .i64 (s.size : Int)) := fun w => by
  rw [run_call_builtin w ho]; simp [builtin, Builtin.len_, hx, run_underlying' ht, goInt]
theorem f_capL {t e : TypeId} {x : Operand} {s : Sl} (ht : P.underlying t = some (.slice e)) (ho : o.op = .call { callee := .builtin .cap, args := #[x], argTypes := #[t] }) (hx : evE E x = .slice s.a s.len s.cap) : PureAt P (execOp (evE E) o) (.int .i64 (s.cap : Int)) := fun w => by
  rw [run_call_builtin w ho]; simp [builtin, Builtin.cap_, hx, run_underlying' ht, goInt]
theorem f_min2 {x y : Operand} {ts : Array TypeId} {k : IntKind} {n m : Int} (ho : o.op = .call { callee := .builtin .min, args := #[x, y], argTypes := ts }) (hx : evE E x = .int k n) (hy : evE E y = .int k m) : PureAt P (execOp (evE E) o) (.int k (if m < n then m else n)) := fun w => by
  rw [run_call_builtin w ho]; simp [builtin, Builtin.min_, Builtin.min2, hx, hy]
theorem f_max2 {x y : Operand} {ts : Array TypeId} {k : IntKind} {n m : Int} (ho : o.op = .call { callee := .builtin .max, args := #[x, y], argTypes := ts }) (hx : evE E x = .int k n) (hy : evE E y = .int k m) : PureAt P (execOp (evE E) o) (.int k (if m > n then m else n)) := fun w => by
  rw [run_call_builtin w ho]; simp [builtin, Builtin.max_, Builtin.max2, hx, hy]
end
end
end Go.Tr
/- The rules by which a printed walk goes, and the words of the printed functions. -/
namespace Go.Tr
open Go

/-! ### words -/
def rd {α : Type} (o : Option α) (K : α → Prop) : Prop := ∃ x, o = some x ∧ K x
def jn {α : Type} (m : (α → H → Prop) → Prop) (Q : α → H → Prop) : Prop := m Q
def sumK {σ β : Type} (f : σ → H → Prop) (g : β → H → Prop) : σ ⊕ β → H → Prop
  | .inl s, h => f s h
  | .inr b, h => g b h
def loopW {σ β : Type} (body : σ → H → (σ ⊕ β → H → Prop) → Prop) : Nat → σ → H → (β → H → Prop) → Prop
  | 0, _, _, _ => False
  | k + 1, s, h, Q => body s h (sumK (fun s' h' => loopW body k s' h' Q) Q)
def loopE {σ β : Type} (body : σ → H → (σ ⊕ β → H → Prop) → Prop) (s : σ) (h : H) (Q : β → H → Prop) : Prop := ∃ k, loopW body k s h Q
theorem rd_some {α : Type} {o : Option α} {K : α → Prop} {x : α} (h : o = some x) (k : K x) : rd o K := ⟨x, h, k⟩
theorem rd_eq {α : Type} {o : Option α} {x : α} (h : o = some x) (K : α → Prop) : rd o K = K x := by
  subst h; simp [rd]

/-! slices -/
def rdSl (size : Nat) (s : Sl) (n : Nat) (h : H) : Option (List Value) :=
  match s.a with
  | some a => rdCells h a (n * size)
  | none => some []
def wrSl (size : Nat) (s : Sl) (at_ : Nat) (l : List Value) (h : H) : Option H :=
  match s.a with
  | some a => wrCells h (a.add (at_ * size)) l
  | none => some h
def mkCells (z : List Value) (n : Nat) : List Value := (List.range n).map fun i => z.toArray[i % z.toArray.size]!
def zCells (z : List Value) (n : Nat) : List Value := (List.range (n * z.length)).map fun i => z.toArray[i % z.length]!
/-- append: in place where there is room, else in new memory of whatever capacity. -/
def ap (size bytes : Nat) (elem : TypeId) (z : List Value) (s x : Sl) (h : H) (Q : Sl → H → Prop) : Prop :=
  ∃ new, rdSl size x x.len h = some new ∧
    if s.len + x.len ≤ s.cap then ∃ h', wrSl size s s.len new h = some h' ∧ Q ⟨s.a, s.len + x.len, s.cap⟩ h'
    else (s.len + x.len < 9223372036854775808 ∧ Builtin.nextslicecap (s.len + x.len) s.cap * bytes ≤ 281474976710656) ∧
      ∃ old, rdSl size s s.len h = some old ∧
        ∀ cap, s.len + x.len ≤ cap → cap < 9223372036854775808 → Q ⟨some ⟨h.size, 0, none⟩, s.len + x.len, cap⟩ (h.push (.cells (old ++ new ++ zCells z (cap - (s.len + x.len))).toArray elem))
def mk (size bytes : Nat) (elem : TypeId) (z : List Value) (l c : Int) (h : H) (Q : Sl → H → Prop) : Prop :=
  (0 ≤ l ∧ l ≤ c ∧ (bytes : Int) * c ≤ 281474976710656 ∧ c < 9223372036854775808) ∧ Q ⟨some ⟨h.size, 0, none⟩, l.toNat, c.toNat⟩ (h.push (.cells (mkCells z (c.toNat * size)).toArray elem))
def bndI (i : Int) (y : Nat) : Option Nat := if 0 ≤ i ∧ i ≤ (y : Int) then some i.toNat else none
def slx (size : Nat) (s : Sl) (lo hi mx : Option Int) : Option Sl :=
  (match mx with | some v => bndI v s.cap | none => some s.cap).bind fun m =>
  (match hi, mx with | some v, some _ => bndI v m | some v, none => bndI v s.cap | none, none => some s.len | none, some _ => none).bind fun h =>
  (match lo with | some v => bndI v h | none => some 0).map fun l => ⟨if m = l then s.a else s.a.map (fun a : Addr => a.add (l * size)), h - l, m - l⟩
def slS (s : ByteArray) (lo hi : Option Int) : Option ByteArray :=
  (match hi with | some v => bndI v s.size | none => some s.size).bind fun h =>
  (match lo with | some v => bndI v h | none => some 0).map fun l => s.extract l h
def cpy (size : Nat) (d s : Sl) (h : H) : Option H :=
  (rdSl size s (min s.len d.len) h).bind fun l => wrSl size d 0 l h
/-- []byte(s): new memory of whatever capacity. -/
def s2b (elem : TypeId) (s : ByteArray) (h : H) (Q : Sl → H → Prop) : Prop :=
  s.size < 9223372036854775808 ∧ ∀ cap, s.size ≤ cap → cap < 9223372036854775808 → Q ⟨some ⟨h.size, 0, none⟩, s.size, cap⟩ (h.push (.cells (s.data.map (fun b => Value.int .u8 b.toNat) ++ Array.replicate (cap - s.size) (.int .u8 0)) elem (cap, cap + 1)))

section
variable {P : Program} {E : Env} {o : Oper}

theorem run_firstCells {size : Nat} {s : Sl} {n : Nat} {h : H} {l : List Value} (hr : rdSl size s n h = some l) (c : Ctx) (d : Nat) : (Builtin.firstCells size n (.slice s.a s.len s.cap)).run P (c.w h d) = .ok l.toArray (c.w h d) := by
  unfold rdSl at hr
  unfold Builtin.firstCells
  cases ha : s.a with
  | some a => rw [ha] at hr; exact run_loadCells c h d a _ l hr
  | none => rw [ha] at hr; simp at hr; subst hr; simp

theorem zeroCells_eq (z : List Value) (n : Nat) : Builtin.zeroCells z.toArray n = (zCells z n).toArray := by
  unfold Builtin.zeroCells zCells
  apply Array.ext' ; simp

theorem run_append {t e ty : TypeId} {i : TypeInfo} {z : Value} {zc : List Value} {size bytes : Nat} (ht : P.underlying t = some (.slice e)) (hi : P.info? e = some i) (hz : i.zero = some z) (hzc : z.cells = zc.toArray) (hs : i.size = size) (hb : i.bytes = bytes)
    {s x : Sl} {h : H} {Q : Sl → H → Prop} (hF : ap size bytes e zc s x h Q) (c : Ctx) (d : Nat) :
    ∃ s' h' d', (Builtin.append_ #[t, t] ty #[s.val, x.val]).run P (c.w h d) = .ok s'.val (c.w h' d') ∧ Q s' h' := by
  obtain ⟨new, hn, hF⟩ := hF
  subst hs hb
  have hinfo : ∀ w : World, (typeInfo e).run P w = .ok i w := fun w => by simp [typeInfo, hi]
  have hsz : ∀ w : World, (sizeOf e).run P w = .ok i.size w := fun w => by simp [sizeOf, hinfo]
  have hzv : ∀ w : World, (zeroValue e).run P w = .ok z w := fun w => by simp [zeroValue, hinfo, hz]
  have hfx := fun (c : Ctx) (d : Nat) => run_firstCells (P := P) hn c d
  have hund : ∀ w : World, (underlying t).run P w = .ok (.slice e) w := run_underlying' ht
  split at hF
  · rename_i hle
    obtain ⟨h', hw, q⟩ := hF
    refine ⟨_, h', d, ?_, q⟩
    simp only [Builtin.append_, Sl.val, List.getElem?_toArray, List.getElem?_cons_zero, List.getElem?_cons_succ, Sem.run_bind, hund, Result.andThen_ok, hsz, Sem.run_pure, Bool.false_eq_true, if_false, Builtin.lenOf, hle, if_true, Bool.not_false]
    rw [hfx c d]
    simp only [Result.andThen_ok]
    unfold wrSl at hw
    cases ha : s.a with
    | none => rw [ha] at hw; simp at hw; subst hw; simp
    | some a =>
      rw [ha] at hw
      simp only [Sem.run_bind, run_storeCells c d (a.add (s.len * i.size)) new 0 h h' hw, Result.andThen_ok, Sem.run_pure]
  · rename_i hle
    obtain ⟨⟨hlt, hcap⟩, old, ho, q⟩ := hF
    have hfo := fun (c : Ctx) (d : Nat) => run_firstCells (P := P) ho c d
    have hmax : ¬ (((s.len + x.len : Nat) : Int) > IntKind.i64.max ∧ (False ∨ i.bytes = 0)) := by
      rintro ⟨h1, _⟩
      have : IntKind.i64.max = 9223372036854775807 := by decide
      omega
    have hcap' : ¬ (Builtin.nextslicecap (s.len + x.len) s.cap * i.bytes > 2 ^ 48) := by
      have : (2 : Nat) ^ 48 = 281474976710656 := by decide
      omega
    have hcut := c.tape d (.appendCap (s.len + x.len) s.cap e)
    have hb1 : s.len + x.len ≤ Question.cut (.appendCap (s.len + x.len) s.cap e) (c.tape d (.appendCap (s.len + x.len) s.cap e)) := by
      simp only [Question.cut]; omega
    have hb2 : Question.cut (.appendCap (s.len + x.len) s.cap e) (c.tape d (.appendCap (s.len + x.len) s.cap e)) < 9223372036854775808 := by
      simp only [Question.cut]
      have := Nat.mod_lt (c.tape d (.appendCap (s.len + x.len) s.cap e)) (show 0 < 2 ^ 63 - (s.len + x.len) by omega)
      omega
    refine ⟨_, _, d + 1, ?_, q _ hb1 hb2⟩
    simp only [Builtin.append_, Sl.val, List.getElem?_toArray, List.getElem?_cons_zero, List.getElem?_cons_succ, Sem.run_bind, hund, Result.andThen_ok, hsz, Sem.run_pure, Bool.false_eq_true, if_false, Builtin.lenOf, hle, hinfo, hmax, hcap', run_choose, Question.forced, run_askRoom]
    have hfo' := hfo c (d + 1)
    have hfx' := hfx c (d + 1)
    have hw1 : ({ c.w h d with drawn := (c.w h d).drawn + 1 } : World) = c.w h (d + 1) := rfl
    rw [hw1, hfo']
    simp only [Result.andThen_ok, Bool.not_false, if_true]
    rw [hfx']
    simp only [Result.andThen_ok, hzv, newRow, Sem.run_bind, run_newObj, Sem.run_pure, hzc, zeroCells_eq]
    simp only [List.append_toArray]
    rfl
theorem f_append {t e : TypeId} {i : TypeInfo} {z : Value} {zc : List Value} {size bytes : Nat} (ht : P.underlying t = some (.slice e)) (hi : P.info? e = some i) (hz : i.zero = some z) (hzc : z.cells = zc.toArray) (hs : i.size = size) (hb : i.bytes = bytes)
    {s x : Sl} {h : H} {u y : Operand} (ho : o.op = .call { callee := .builtin .append, args := #[u, y], argTypes := #[t, t] }) (hu : evE E u = s.val) (hy : evE E y = x.val) {Q : Sl → H → Prop} (hF : ap size bytes e zc s x h Q) :
    RunH P (execOp (evE E) o) h fun v h' => ∃ s' : Sl, v = s'.val ∧ Q s' h' := fun c d => by
  obtain ⟨s', h', d', hr, q⟩ := run_append (ty := o.type) ht hi hz hzc hs hb hF c d
  refine ⟨_, h', d', .inl ?_, s', rfl, q⟩
  rw [run_call_builtin _ ho]
  simp [builtin, hu, hy, hr]

structure ElemOK (P : Program) (e size bytes : Nat) (zc : List Value) : Prop where
  h : ∃ i z, P.info? e = some i ∧ i.zero = some z ∧ z.cells = zc.toArray ∧ i.size = size ∧ i.bytes = bytes
theorem f_appendE {t e : TypeId} {zc : List Value} {size bytes : Nat} (ht : P.underlying t = some (.slice e)) (hE : ElemOK P e size bytes zc)
    {s x : Sl} {h : H} {u y : Operand} (ho : o.op = .call { callee := .builtin .append, args := #[u, y], argTypes := #[t, t] }) (hu : evE E u = s.val) (hy : evE E y = x.val) {Q : Sl → H → Prop} (hF : ap size bytes e zc s x h Q) :
    RunH P (execOp (evE E) o) h fun v h' => ∃ s' : Sl, v = s'.val ∧ Q s' h' := by
  obtain ⟨i, z, hi, hz, hzc, hs, hb⟩ := hE.h
  exact f_append ht hi hz hzc hs hb ho hu hy hF

theorem mkCells_eq (z : List Value) (n : Nat) : ((Array.range n).map fun i => z.toArray[i % z.toArray.size]!) = (mkCells z n).toArray := by
  unfold mkCells; apply Array.ext'; simp
theorem wrap_i64 {n : Int} (h0 : 0 ≤ n) (h1 : n < 9223372036854775808) : IntKind.i64.wrap n = n := by
  have e : IntKind.i64.bits = 64 := rfl
  have s : IntKind.i64.signed = true := rfl
  unfold IntKind.wrap
  rw [e, s]
  have h2 : (2 : Int) ^ 64 = 18446744073709551616 := by decide
  have h3 : (2 : Int) ^ (64 - 1) = 9223372036854775808 := by decide
  simp only [h2, h3]
  have : n % 18446744073709551616 = n := Int.emod_eq_of_lt h0 (by omega)
  simp only [this]
  rw [if_neg]
  simp; omega
theorem f_makeSlice {t e : TypeId} {zc : List Value} {size bytes : Nat} (ht : P.underlying t = some (.slice e)) (hE : ElemOK P e size bytes zc) {x y : Operand} {l m : Int} {h : H} (ho : o.op = .makeSlice t x y) (hx : evE E x = .int .i64 l) (hy : evE E y = .int .i64 m)
    {Q : Sl → H → Prop} (hF : mk size bytes e zc l m h Q) : AllocAt P (execOp (evE E) o) h fun v h' => ∃ s' : Sl, v = s'.val ∧ Q s' h' := fun c d => by
  obtain ⟨i, z, hi, hz, hzc, hs, hb⟩ := hE.h
  subst hs hb
  obtain ⟨⟨h0, h1, h2, h3⟩, q⟩ := hF
  have hinfo : ∀ w : World, (typeInfo e).run P w = .ok i w := fun w => by simp [typeInfo, hi]
  have hsz : ∀ w : World, (sizeOf e).run P w = .ok i.size w := fun w => by simp [sizeOf, hinfo]
  have hzv : ∀ w : World, (zeroValue e).run P w = .ok z w := fun w => by simp [zeroValue, hinfo, hz]
  have w1 := wrap_i64 (n := m) (by omega) h3
  have w2 := wrap_i64 (n := l) h0 (by omega)
  have hp : (2 : Int) ^ 48 = 281474976710656 := by decide
  have hc1 : ¬ (m < 0) := by omega
  have hc2 : ¬ ((i.bytes : Int) * m > 281474976710656) := by omega
  have hc3 : ¬ (l < 0) := by omega
  have hc4 : ¬ (l > m) := by omega
  refine ⟨_, _, d, .inl ?_, Ext.push _ _, _, rfl, q⟩
  simp only [execOp, ho, hx, hy, Instr.makeSlice, Sem.run_bind, run_underlying' ht, Result.andThen_ok, asInt, asIntOf, Sem.run_pure, hinfo, w1, w2, hp, hc1, hc2, hc3, hc4, decide_false, Bool.or_false, Bool.false_eq_true, if_false, run_askRoom, hsz]
  by_cases hn : m.toNat * i.size = 0
  · simp only [hn, if_true, Sem.run_pure, Result.andThen_ok, newRow, Sem.run_bind, run_newObj]
    have e0 : ((Array.range 0).map fun i => (#[] : Array Value)[i % (#[] : Array Value).size]!) = (mkCells zc 0).toArray := by simp [mkCells]
    rw [e0]; rfl
  · simp only [hn, if_false, Sem.run_pure, Result.andThen_ok, newRow, Sem.run_bind, run_newObj, hzv, hzc, mkCells_eq]
    rfl

theorem run_sliceBound {v : Value} {k : IntKind} {i : Int} {y n : Nat} {code : BoundsCode} (hv : v = .int k i) (hb : bndI i y = some n) (w : World) : (Instr.sliceBound v y code).run P w = .ok n w := by
  subst hv
  unfold bndI at hb
  split at hb
  · rename_i h
    simp only [Option.some.injEq] at hb
    simp [Instr.sliceBound, asIntOf, h, hb]
  · cases hb
/-- A bound as it stands in the slots, and as a number. -/
def bndV (E : Env) : Option Operand → Option Int → Prop
  | none, none => True
  | some x, some i => ∃ k, evE E x = .int k i
  | _, _ => False
theorem bndV_none : bndV E none none := trivial
theorem bndV_some {x : Operand} {k : IntKind} {i : Int} (h : evE E x = .int k i) : bndV E (some x) (some i) := ⟨k, h⟩
theorem f_slice {t e : TypeId} {size : Nat} (ht : P.underlying t = some (.slice e)) (hsz : (P.info? e).map (·.size) = some size) {x : Operand} {lo hi mx : Option Operand} {s r : Sl} {l m u : Option Int} (ho : o.op = .slice t x lo hi mx) (hx : evE E x = s.val)
    (hl : bndV E lo l) (hh : bndV E hi m) (hm : bndV E mx u) (hr : slx size s l m u = some r) : PureAt P (execOp (evE E) o) r.val := fun w => by
  unfold slx at hr
  simp only [Option.bind_eq_some_iff, Option.map_eq_some_iff] at hr
  obtain ⟨M, hM, N, hN, L, hL, rfl⟩ := hr
  have key : (Instr.sliceBounds true s.len s.cap (lo.map (evE E)) (hi.map (evE E)) (mx.map (evE E))).run P w = .ok (L, N, M) w := by
    unfold Instr.sliceBounds
    cases mx with
    | none =>
      cases u with
      | some _ => exact hm.elim
      | none =>
        simp only [Option.some.injEq] at hM
        subst hM
        cases hi with
        | none =>
          cases m with
          | some _ => exact hh.elim
          | none =>
            simp only [Option.some.injEq] at hN; subst hN
            cases lo with
            | none =>
              cases l with
              | some _ => exact hl.elim
              | none => simp only [Option.some.injEq] at hL; subst hL; simp
            | some y =>
              cases l with
              | none => exact hl.elim
              | some i => obtain ⟨k, hk⟩ := hl; simp [run_sliceBound hk hL]
        | some y' =>
          cases m with
          | none => exact hh.elim
          | some j =>
            obtain ⟨k', hk'⟩ := hh
            cases lo with
            | none =>
              cases l with
              | some _ => exact hl.elim
              | none => simp only [Option.some.injEq] at hL; subst hL; simp [run_sliceBound hk' hN]
            | some y =>
              cases l with
              | none => exact hl.elim
              | some i => obtain ⟨k, hk⟩ := hl; simp [run_sliceBound hk' hN, run_sliceBound hk hL]
    | some y'' =>
      cases u with
      | none => exact hm.elim
      | some u' =>
        obtain ⟨k'', hk''⟩ := hm
        cases hi with
        | none =>
          cases m with
          | some _ => exact hh.elim
          | none => cases hN
        | some y' =>
          cases m with
          | none => exact hh.elim
          | some j =>
            obtain ⟨k', hk'⟩ := hh
            cases lo with
            | none =>
              cases l with
              | some _ => exact hl.elim
              | none => simp only [Option.some.injEq] at hL; subst hL; simp [run_sliceBound hk'' hM, run_sliceBound hk' hN]
            | some y =>
              cases l with
              | none => exact hl.elim
              | some i => obtain ⟨k, hk⟩ := hl; simp [run_sliceBound hk'' hM, run_sliceBound hk' hN, run_sliceBound hk hL]
  simp only [execOp, ho, hx, Instr.sliceAt, Instr.slice, Sl.val, Sem.run_bind, run_underlying' ht, Result.andThen_ok, key, run_sizeOf hsz, Sem.run_pure]
theorem f_sliceS {t : TypeId} (ht : P.underlying t = some .string) {x : Operand} {lo hi : Option Operand} {s r : ByteArray} {l m : Option Int} (ho : o.op = .slice t x lo hi none) (hx : evE E x = .string s)
    (hl : bndV E lo l) (hh : bndV E hi m) (hr : slS s l m = some r) : PureAt P (execOp (evE E) o) (.string r) := fun w => by
  unfold slS at hr
  simp only [Option.bind_eq_some_iff, Option.map_eq_some_iff] at hr
  obtain ⟨N, hN, L, hL, rfl⟩ := hr
  have key : (Instr.sliceBounds false s.size s.size (lo.map (evE E)) (hi.map (evE E)) none).run P w = .ok (L, N, s.size) w := by
    unfold Instr.sliceBounds
    cases hi with
    | none =>
      cases m with
      | some _ => exact hh.elim
      | none =>
        simp only [Option.some.injEq] at hN; subst hN
        cases lo with
        | none =>
          cases l with
          | some _ => exact hl.elim
          | none => simp only [Option.some.injEq] at hL; subst hL; simp
        | some y =>
          cases l with
          | none => exact hl.elim
          | some i => obtain ⟨k, hk⟩ := hl; simp [run_sliceBound hk hL]
    | some y' =>
      cases m with
      | none => exact hh.elim
      | some j =>
        obtain ⟨k', hk'⟩ := hh
        cases lo with
        | none =>
          cases l with
          | some _ => exact hl.elim
          | none => simp only [Option.some.injEq] at hL; subst hL; simp [run_sliceBound hk' hN]
        | some y =>
          cases l with
          | none => exact hl.elim
          | some i => obtain ⟨k, hk⟩ := hl; simp [run_sliceBound hk' hN, run_sliceBound hk hL]
  simp only [execOp, ho, hx, Instr.sliceAt, Instr.slice, Sem.run_bind, run_underlying' ht, Result.andThen_ok, Option.map_none, Option.isSome_none, Bool.false_eq_true, if_false, Sem.run_pure, key]
theorem f_buildSlice {t e : TypeId} {n size bytes : Nat} {zc : List Value} {parts : Array (Nat × Operand)} {cells : List Value} {h : H} (ht : P.underlying t = some (.slice e)) (hE : ElemOK P e size bytes zc) (hn : n * size ≤ 16777216) (ho : o.op = .buildSlice t n parts)
    (hf : Instr.fill (fun i => some (i * size, size)) (mkCells (if n * size = 0 then [] else zc) (n * size)).toArray (parts.map fun (i, x) => (i, evE E x)).toList = some cells.toArray) :
    AllocAt P (execOp (evE E) o) h fun u h' => u = (Sl.mk (some ⟨h.size, 0, none⟩) n n).val ∧ h' = h.push (.cells cells.toArray e) := fun c d => by
  obtain ⟨i, z, hi, hz, hzc, hs, hb⟩ := hE.h
  subst hs hb
  have hinfo : ∀ w : World, (typeInfo e).run P w = .ok i w := fun w => by simp [typeInfo, hi]
  have hsz : ∀ w : World, (sizeOf e).run P w = .ok i.size w := fun w => by simp [sizeOf, hinfo]
  have hzv : ∀ w : World, (zeroValue e).run P w = .ok z w := fun w => by simp [zeroValue, hinfo, hz]
  have hp : (2 : Nat) ^ 24 = 16777216 := by decide
  have hle : ¬ (n * i.size > 2 ^ 24) := by omega
  refine ⟨_, _, d, .inl ?_, Ext.push _ _, rfl, rfl⟩
  simp only [execOp, ho, Instr.buildSlice, Sem.run_bind, run_underlying' ht, hsz, Result.andThen_ok, hle, if_false, Sem.run_pure]
  by_cases h0 : n * i.size = 0
  · simp only [h0, if_true] at hf ⊢
    simp only [Sem.run_bind, Sem.run_pure, Result.andThen_ok]
    have : ((Array.range 0).map fun i => (#[] : Array Value)[i % (#[] : Array Value).size]!) = (mkCells [] 0).toArray := by simp [mkCells]
    rw [this, hf]
    simp only [newRow, Sem.run_bind, run_newObj, Result.andThen_ok, Sem.run_pure]
    rfl
  · simp only [h0, if_false] at hf ⊢
    simp only [Sem.run_bind, hzv, Sem.run_pure, Result.andThen_ok, hzc, mkCells_eq]
    rw [hf]
    simp only [newRow, Sem.run_bind, run_newObj, Result.andThen_ok, Sem.run_pure]
    rfl
theorem f_copy {t e : TypeId} {size : Nat} (ht : P.underlying t = some (.slice e)) (hsz : (P.info? e).map (·.size) = some size) {x y : Operand} {ts : Array TypeId} {s r : Sl} {h h' : H} (ht0 : ts[0]? = some t) (ho : o.op = .call { callee := .builtin .copy, args := #[x, y], argTypes := ts })
    (hx : evE E x = s.val) (hy : evE E y = r.val) (hc : cpy size s r h = some h') : RunH P (execOp (evE E) o) h fun v h1 => v = .int .i64 (min r.len s.len : Nat) ∧ h1 = h' := fun c d => by
  unfold cpy at hc
  simp only [Option.bind_eq_some_iff] at hc
  obtain ⟨l, hl, hw⟩ := hc
  refine ⟨_, h', d, .inl ?_, rfl, rfl⟩
  rw [run_call_builtin _ ho]
  simp only [builtin, Sem.run_bind, Builtin.copy_, List.map_toArray, List.map_cons, List.map_nil, hx, hy, Sl.val, ht0, List.getElem?_toArray, List.getElem?_cons_zero, List.getElem?_cons_succ, run_underlying' ht, Result.andThen_ok, Builtin.lenOf, Sem.run_pure, run_sizeOf hsz]
  have hmin : Nat.min r.len s.len = min r.len s.len := rfl
  rw [hmin, run_firstCells (P := P) hl c d]
  simp only [Result.andThen_ok]
  unfold wrSl at hw
  cases ha : s.a with
  | none => rw [ha] at hw; simp at hw; subst hw; simp [goInt]
  | some a =>
    rw [ha] at hw
    have : a.add (0 * size) = a := by simp [Addr.add]
    simp only [this] at hw
    simp only [Sem.run_bind, run_storeCells c d a l 0 h h' hw, Result.andThen_ok, Sem.run_pure, goInt]
theorem getElem_push (h : H) (o : Obj) : (h.push o)[h.size]? = some o := by simp
theorem modify_push (h : H) (o : Obj) (f : Obj → Obj) : (h.push o).modify h.size f = h.push (f o) := by
  apply Array.ext_getElem?
  intro i
  rw [Array.getElem?_modify, Array.getElem?_push, Array.getElem?_push]
  by_cases e : i = h.size
  · subst e; simp
  · rw [if_neg e, if_neg e, if_neg (Ne.symm e)]
theorem run_markStringish (c : Ctx) (h : H) (d : Nat) (cs : Array Value) (e : TypeId) : (markStringish ⟨h.size, 0, none⟩).run P (c.w (h.push (.cells cs e)) d) = .ok () (c.w (h.push (.cells cs e (cs.size, cs.size + 1))) d) := by
  have h1 : (c.w (h.push (.cells cs e)) d).shape? h.size = some (e, cs.size) := by simp [World.shape?]
  simp only [markStringish, Sem.run_bind, run_shape, h1, Result.andThen_ok, run_freeze]
  congr 1
  unfold World.freeze
  rw [if_neg (by decide)]
  simp only [Ctx.w, modify_push]
  simp
theorem f_s2b {s t e : TypeId} {x : Operand} {b : ByteArray} {h : H} {u : TypeDesc} (hs : P.underlying s = some u) (ht : P.underlying t = some (.slice e)) (he : P.underlying e = some (.int .u8)) (ho : o.op = .convert s t x) (hx : evE E x = .string b) {Q : Sl → H → Prop} (hF : s2b e b h Q) :
    AllocAt P (execOp (evE E) o) h fun v h' => ∃ s' : Sl, v = s'.val ∧ Q s' h' := fun c d => by
  obtain ⟨hlt, q⟩ := hF
  have hb1 : b.size ≤ Question.cut (.appendCap b.size 0 e) (c.tape d (.appendCap b.size 0 e)) := by
    simp only [Question.cut]; omega
  have hb2 : Question.cut (.appendCap b.size 0 e) (c.tape d (.appendCap b.size 0 e)) < 9223372036854775808 := by
    simp only [Question.cut]
    have := Nat.mod_lt (c.tape d (.appendCap b.size 0 e)) (show 0 < 2 ^ 63 - b.size by omega)
    omega
  refine ⟨_, _, d + 1, .inl ?_, Ext.push _ _, _, rfl, q _ hb1 hb2⟩
  have hsz : (Array.map (fun b => Value.int IntKind.u8 ↑b.toNat) b.data ++ Array.replicate (Question.cut (.appendCap b.size 0 e) (c.tape d (.appendCap b.size 0 e)) - b.size) (Value.int IntKind.u8 0)).size = Question.cut (.appendCap b.size 0 e) (c.tape d (.appendCap b.size 0 e)) := by
    have : b.data.size = b.size := rfl
    simp; omega
  simp only [execOp, ho, hx, convert, Sem.run_bind, run_underlying' hs, run_underlying' ht, run_underlying' he, Result.andThen_ok, Conv.stringToBytes, run_choose, Question.forced, Bool.false_eq_true, if_false, newRow, run_newObj, Sem.run_pure]
  have h1 := run_markStringish (P := P) c h (d + 1) (Array.map (fun b => Value.int IntKind.u8 ↑b.toNat) b.data ++ Array.replicate (Question.cut (.appendCap b.size 0 e) (c.tape d (.appendCap b.size 0 e)) - b.size) (Value.int IntKind.u8 0)) e
  rw [hsz] at h1
  have h2 : ∀ x : Sem Unit, x.run P (c.w (h.push (.cells (Array.map (fun b => Value.int IntKind.u8 ↑b.toNat) b.data ++ Array.replicate (Question.cut (.appendCap b.size 0 e) (c.tape d (.appendCap b.size 0 e)) - b.size) (Value.int IntKind.u8 0)) e)) (d + 1)) = x.run P { heap := (c.w h d).heap.push (.cells (Array.map (fun b => Value.int IntKind.u8 ↑b.toNat) b.data ++ Array.replicate (Question.cut (.appendCap b.size 0 e) ((c.w h d).tape (c.w h d).drawn (.appendCap b.size 0 e)) - b.size) (Value.int IntKind.u8 0)) e), tape := (c.w h d).tape, drawn := (c.w h d).drawn + 1, os := (c.w h d).os, output := (c.w h d).output } := fun _ => rfl
  rw [h2] at h1
  have h3 : (c.w h d).heap.size = h.size := rfl
  rw [h3, h1]
  rfl

/-! ### steps of a walk -/
variable {n : NN} {ops : Array Oper} {l : List Oper} {h : H} {K : Env → H → Prop} {d i : Nat}
theorem w_none {y : Nat → Option Bool} (hg : o.guard = none) : Region.wanted o y = true := by simp [Region.wanted, hg]
theorem w_some {y : Nat → Option Bool} {j : Nat} {b e : Bool} (hg : o.guard = some (j, b)) (hy : y j = some e) (he : e = b) : Region.wanted o y = true := by simp [Region.wanted, hg, hy, he]
theorem w_not {y : Nat → Option Bool} {j : Nat} {b e : Bool} (hg : o.guard = some (j, b)) (hy : y j = some e) (he : e = !b) : Region.wanted o y = false := by
  simp only [Region.wanted, hg, hy, he]; cases b <;> simp
theorem w_undef {y : Nat → Option Bool} {j : Nat} {b : Bool} (hg : o.guard = some (j, b)) (hy : y j = none) : Region.wanted o y = false := by
  simp [Region.wanted, hg, hy]
theorem dst_ok (hd : o.dst = some d) (hn : Nat.blt d n.k = true) : ∀ k, o.dst = some k → k < n.k := fun k hk => by
  rw [hd] at hk; cases hk; rw [Nat.blt_eq] at hn; exact hn
theorem EvK.nil (hk : K E h) : EvK P n ops [] E h K := hk
theorem EvK.pure {v : Value} (hw : Region.wanted o (yE ops E) = true) (hd : o.dst = some d) (hn : Nat.blt d n.k = true) (f : PureAt P (execOp (evE E) o) v) (k : EvK P n ops l (upd E d v) h K) : EvK P n ops (o :: l) E h K :=
  ⟨dst_ok hd hn, by rw [if_pos hw]; exact .inl ((f.readAt h).runH (by rw [hd]; exact k))⟩
theorem EvK.read {v : Value} (hw : Region.wanted o (yE ops E) = true) (hd : o.dst = some d) (hn : Nat.blt d n.k = true) (f : ReadAt P (execOp (evE E) o) h v) (k : EvK P n ops l (upd E d v) h K) : EvK P n ops (o :: l) E h K :=
  ⟨dst_ok hd hn, by rw [if_pos hw]; exact .inl (f.runH (by rw [hd]; exact k))⟩
theorem EvK.alloc {QV : Value → H → Prop} (hw : Region.wanted o (yE ops E) = true) (hd : o.dst = some d) (hn : Nat.blt d n.k = true) (f : AllocAt P (execOp (evE E) o) h QV) (k : ∀ v h', QV v h' → EvK P n ops l (upd E d v) h' K) : EvK P n ops (o :: l) E h K :=
  ⟨dst_ok hd hn, by rw [if_pos hw]; exact .inl (RunH.mono f fun v h' q => by rw [hd]; exact k v h' q.2)⟩
theorem EvK.run {QV : Value → H → Prop} (hw : Region.wanted o (yE ops E) = true) (hd : o.dst = some d) (hn : Nat.blt d n.k = true) (f : RunH P (execOp (evE E) o) h QV) (k : ∀ v h', QV v h' → EvK P n ops l (upd E d v) h' K) : EvK P n ops (o :: l) E h K :=
  ⟨dst_ok hd hn, by rw [if_pos hw]; exact .inl (f.mono fun v h' q => by rw [hd]; exact k v h' q)⟩
theorem EvK.runN {QV : Value → H → Prop} (hw : Region.wanted o (yE ops E) = true) (hd : o.dst = none) (f : RunH P (execOp (evE E) o) h QV) (k : ∀ v h', QV v h' → EvK P n ops l E h' K) : EvK P n ops (o :: l) E h K :=
  ⟨fun k hk => (by rw [hd] at hk; cases hk), by rw [if_pos hw]; exact .inl (f.mono fun v h' q => by rw [hd]; exact k v h' q)⟩
theorem EvK.call {QV : Value → H → Prop} (hw : Region.wanted o (yE ops E) = true) (hd : o.dst = some d) (hn : Nat.blt d n.k = true) (f : EnterH P (execOp (evE E) o) h QV) (k : ∀ v h', QV v h' → EvK P n ops l (upd E d v) h' K) : EvK P n ops (o :: l) E h K :=
  ⟨dst_ok hd hn, by rw [if_pos hw]; exact .inr (let ⟨f, args, e, r⟩ := f; ⟨f, args, e, r.mono fun v h' q => by rw [hd]; exact k v h' q⟩)⟩
theorem EvK.callN {QV : Value → H → Prop} (hw : Region.wanted o (yE ops E) = true) (hd : o.dst = none) (f : EnterH P (execOp (evE E) o) h QV) (k : ∀ v h', QV v h' → EvK P n ops l E h' K) : EvK P n ops (o :: l) E h K :=
  ⟨fun k hk => (by rw [hd] at hk; cases hk), by rw [if_pos hw]; exact .inr (let ⟨f, args, e, r⟩ := f; ⟨f, args, e, r.mono fun v h' q => by rw [hd]; exact k v h' q⟩)⟩
theorem EvK.not (hw : Region.wanted o (yE ops E) = false) (hd : o.dst = some d) (hn : Nat.blt d n.k = true) (k : EvK P n ops l (upd E d undef) h K) : EvK P n ops (o :: l) E h K :=
  ⟨dst_ok hd hn, by rw [hw, hd]; exact k⟩
theorem EvK.notN (hw : Region.wanted o (yE ops E) = false) (hd : o.dst = none) (k : EvK P n ops l E h K) : EvK P n ops (o :: l) E h K :=
  ⟨fun k hk => (by rw [hd] at hk; cases hk), by rw [hw, hd]; exact k⟩

theorem EvA.nil {listed : Array Bool} (hr : Region.ready .any ops listed = []) (hk : K E h) : EvA P ops 0 listed E h K := ⟨hr, hk⟩
theorem EvA.pure {f : Nat} {listed : Array Bool} {v : Value} (i : Nat) (hs : Region.noSelect ops = true) (ho : ops[i]? = some o) (hfree : Region.free .any ops listed i = true) (hr : (Region.ready .any ops listed).contains i = true) (hw : Region.wanted o (yE ops E) = true) (hd : o.dst = some d)
    (ff : PureAt P (execOp (evE E) o) v) (k : EvA P ops f (listed.setIfInBounds i true) (upd E d v) h K) : EvA P ops (f + 1) listed E h K :=
  EvA.first hs ho f listed E h hfree (by simpa using hr) hw ff (by rw [hd]; exact k)
theorem EvA.alts {f : Nat} {listed : Array Bool} (l : List Nat) (hr : Region.ready .any ops listed = l) (hne : l.isEmpty = false) (h1 : ∀ i, i ∈ l → ∃ o, ops[i]? = some o ∧ StepA P ops o E h fun v h' => EvA P ops f (listed.setIfInBounds i true) (updo E o.dst v) h' K) : EvA P ops (f + 1) listed E h K := by
  subst hr
  exact ⟨fun e => (by rw [e] at hne; cases hne), h1⟩
theorem forall_two {p : Nat → Prop} {a : Nat} {l : List Nat} (h1 : p a) (h2 : ∀ i, i ∈ l → p i) : ∀ i, i ∈ a :: l → p i := fun i hi => by
  rcases List.mem_cons.1 hi with rfl | hi
  · exact h1
  · exact h2 i hi
theorem forall_nil {p : Nat → Prop} : ∀ i, i ∈ ([] : List Nat) → p i := fun _ h => by cases h
theorem StepA.alloc {f : Nat} {listed : Array Bool} {QV : Value → H → Prop} (ho : ops[i]? = some o) (hw : Region.wanted o (yE ops E) = true) (hd : o.dst = some d) (ff : AllocAt P (execOp (evE E) o) h QV) (k : ∀ v h', QV v h' → EvA P ops f (listed.setIfInBounds i true) (upd E d v) h' K) :
    ∃ o, ops[i]? = some o ∧ StepA P ops o E h fun v h' => EvA P ops f (listed.setIfInBounds i true) (updo E o.dst v) h' K :=
  ⟨o, ho, by unfold StepA; rw [if_pos hw]; exact .inl (RunH.mono ff fun v h' q => by rw [hd]; exact k v h' q.2)⟩
/-- A call of a function by name. -/
theorem enterH {f : FuncId} {fn : Func} {args : Array Operand} {ats : Array TypeId} {vs : List Value} {QV : Value → H → Prop} (hf : P.funcs[f]? = some fn) (hnm : (fn.name == "runtime.NumGoroutine") = false) (hb : fn.body.isNone = false)
    (ho : o.op = .call { callee := .value (.func f), args := args, argTypes := ats }) (hv : args.toList.map (evE E) = vs) (hc : CallsH P f vs.toArray h QV) : EnterH P (execOp (evE E) o) h QV :=
  have hv : args.map (evE E) = vs.toArray := by rw [← hv]; apply Array.ext'; simp
  ⟨f, vs.toArray, fun c d => ⟨d, by simp only [execOp, ho, resolve, evE, Deferred.ofValue, Sem.run_bind, Sem.run_pure, Result.andThen_ok, invoke, callFunc, run_program, hf, hnm, hb, Bool.false_eq_true, if_false, Array.append_empty, Array.empty_append, hv]⟩, hc⟩

variable {cs : List Cls} {r : List Nat} {pend : List Pend}
theorem chk_yes {ks : List Nat} {i : Nat} {x : Sem Next} {v : Value} (hc : ks.contains i = true) (f : ReadAt P x h v) : bif ks.contains (Pend.mk i x v).i then ReadAt P (Pend.mk i x v).s h (Pend.mk i x v).v else True := by
  simp only [hc, cond_true]; exact f
theorem chk_no {ks : List Nat} {i : Nat} {x : Sem Next} {v : Value} (hc : ks.contains i = false) : bif ks.contains (Pend.mk i x v).i then ReadAt P (Pend.mk i x v).s h (Pend.mk i x v).v else True := by
  simp only [hc, cond_false]
theorem EvI.nil (hk : K E h) : EvI P ops cs [] pend E h K := hk
theorem EvI.pure {v : Value} (ho : ops[i]? = some o) (hc : cs.getD i (.eff []) = .pure) (hw : Region.wanted o (yE ops E) = true) (hd : o.dst = some d) (f : PureAt P (execOp (evE E) o) v) (k : EvI P ops cs r pend (upd E d v) h K) : EvI P ops cs (i :: r) pend E h K := by
  rw [EvI_cons ho, hc, if_pos hw, hd]; exact ⟨v, f, k⟩
theorem EvI.read {v : Value} (ho : ops[i]? = some o) (hc : cs.getD i (.eff []) = .read) (hw : Region.wanted o (yE ops E) = true) (hd : o.dst = some d) (f : ReadAt P (execOp (evE E) o) h v) (k : EvI P ops cs r (⟨i, execOp (evE E) o, v⟩ :: pend) (upd E d v) h K) : EvI P ops cs (i :: r) pend E h K := by
  rw [EvI_cons ho, hc, if_pos hw, hd]; exact ⟨v, f, k⟩
theorem EvI.alloc {QV : Value → H → Prop} (ho : ops[i]? = some o) (hc : cs.getD i (.eff []) = .alloc) (hw : Region.wanted o (yE ops E) = true) (hd : o.dst = some d) (f : AllocAt P (execOp (evE E) o) h QV) (k : ∀ v h', QV v h' → EvI P ops cs r pend (upd E d v) h' K) : EvI P ops cs (i :: r) pend E h K := by
  rw [EvI_cons ho, hc, if_pos hw, hd]; exact RunH.mono f fun v h' q => ⟨q.1, k v h' q.2⟩
theorem EvI.run {ks : List Nat} {QV : Value → H → Prop} (ho : ops[i]? = some o) (hc : cs.getD i (.eff []) = .eff ks) (hw : Region.wanted o (yE ops E) = true) (hd : o.dst = some d) (f : RunH P (execOp (evE E) o) h QV) (k : ∀ v h', QV v h' → Chk P ks h' pend ∧ EvI P ops cs r pend (upd E d v) h' K) : EvI P ops cs (i :: r) pend E h K := by
  rw [EvI_cons ho, hc, if_pos hw, hd]; exact .inl (f.mono fun v h' q => k v h' q)
theorem EvI.runN {ks : List Nat} {QV : Value → H → Prop} (ho : ops[i]? = some o) (hc : cs.getD i (.eff []) = .eff ks) (hw : Region.wanted o (yE ops E) = true) (hd : o.dst = none) (f : RunH P (execOp (evE E) o) h QV) (k : ∀ v h', QV v h' → Chk P ks h' pend ∧ EvI P ops cs r pend E h' K) : EvI P ops cs (i :: r) pend E h K := by
  rw [EvI_cons ho, hc, if_pos hw, hd]; exact .inl (f.mono fun v h' q => k v h' q)
theorem EvI.call {ks : List Nat} {QV : Value → H → Prop} (ho : ops[i]? = some o) (hc : cs.getD i (.eff []) = .eff ks) (hw : Region.wanted o (yE ops E) = true) (hd : o.dst = some d) (f : EnterH P (execOp (evE E) o) h QV) (k : ∀ v h', QV v h' → Chk P ks h' pend ∧ EvI P ops cs r pend (upd E d v) h' K) : EvI P ops cs (i :: r) pend E h K := by
  rw [EvI_cons ho, hc, if_pos hw, hd]; exact .inr (let ⟨f, args, e, r⟩ := f; ⟨f, args, e, r.mono fun v h' q => k v h' q⟩)
theorem EvI.callN {ks : List Nat} {QV : Value → H → Prop} (ho : ops[i]? = some o) (hc : cs.getD i (.eff []) = .eff ks) (hw : Region.wanted o (yE ops E) = true) (hd : o.dst = none) (f : EnterH P (execOp (evE E) o) h QV) (k : ∀ v h', QV v h' → Chk P ks h' pend ∧ EvI P ops cs r pend E h' K) : EvI P ops cs (i :: r) pend E h K := by
  rw [EvI_cons ho, hc, if_pos hw, hd]; exact .inr (let ⟨f, args, e, r⟩ := f; ⟨f, args, e, r.mono fun v h' q => k v h' q⟩)
theorem EvI.not (ho : ops[i]? = some o) (hw : Region.wanted o (yE ops E) = false) (hd : o.dst = some d) (k : EvI P ops cs r pend (upd E d undef) h K) : EvI P ops cs (i :: r) pend E h K := by
  rw [EvI_cons ho, hw, hd]; exact k
theorem EvI.notN (ho : ops[i]? = some o) (hw : Region.wanted o (yE ops E) = false) (hd : o.dst = none) (k : EvI P ops cs r pend E h K) : EvI P ops cs (i :: r) pend E h K := by
  rw [EvI_cons ho, hw, hd]; exact k

/-! ### code, by the printed words -/
variable {Q : QE}
theorem KE.mk {α : Type} {ag : α → List (Nat × Value)} {k : α → H → Prop} (x : α) (hA : Agree E (ag x)) (hk : k x h) : ∃ x, Agree E (ag x) ∧ k x h := ⟨x, hA, hk⟩
theorem WP.joinF {α : Type} {x y : Code} {m : (α → H → Prop) → Prop} {QQ : α → H → Prop} (ag : α → List (Nat × Value)) (hF : jn m QQ)
    (rest : ∀ x E0 h, QQ x h → WP P n y Q (updL E0 (ag x)) h) (first : ∀ k : α → H → Prop, m k → WP P n x (thenE (fun E h => ∃ x, Agree E (ag x) ∧ k x h) Q) E h) : WP P n (.seq x y) Q E h :=
  WP.join (fun E h => ∃ x, Agree E (ag x) ∧ QQ x h) (fun E h ⟨x, hA, hq⟩ => WP.rebase (ag x) hA fun E0 => rest x E0 h hq) (first QQ hF)
theorem WP.scopeF {α : Type} {c rest : Code} {m : (α → H → Prop) → Prop} {QQ : α → H → Prop} (l : Nat) (hf : findLabel c l = some rest) (ag : α → List (Nat × Value)) (hF : jn m QQ)
    (hr : ∀ x E0 h, QQ x h → WP P n rest (gotoE l (fun _ _ => False) Q) (updL E0 (ag x)) h) (first : ∀ k : α → H → Prop, m k → WP P n c (gotoE l (fun E h => ∃ x, Agree E (ag x) ∧ k x h) Q) E h) : WP P n (.scope c) Q E h :=
  WP.scope l hf (fun E h => ∃ x, Agree E (ag x) ∧ QQ x h) (fun _ _ ⟨x, hA, hq⟩ => WP.rebase (ag x) hA fun E0 => hr x E0 _ hq) (first QQ hF)
theorem WP.loopF {σ β : Type} {y : Code} {body : σ → H → (σ ⊕ β → H → Prop) → Prop} {s : σ} {QQ : β → H → Prop} (ag : σ → List (Nat × Value)) (hF : loopE body s h QQ) (h0 : Agree E (ag s))
    (round : ∀ (k : σ → H → Prop) (s : σ) (E0 : Env) (h : H), body s h (sumK k QQ) → WP P n y (thenE (fun E h => ∃ s', Agree E (ag s') ∧ k s' h) Q) (updL E0 (ag s)) h) : WP P n (.loop y) Q E h := by
  obtain ⟨μ, hF⟩ := hF
  refine WP.loop μ (fun m E h => ∃ s, Agree E (ag s) ∧ loopW body m s h QQ) ⟨s, h0, hF⟩ ?_
  rintro m E h ⟨s, hA, hF⟩
  cases m with
  | zero => exact hF.elim
  | succ m =>
    refine WP.rebase (ag s) hA fun E0 => ?_
    refine (round _ s E0 h hF).mono fun e E h q => ?_
    cases e with
    | normal => obtain ⟨s', hA', q⟩ := q; exact ⟨m, Nat.lt_succ_self m, s', hA', q⟩
    | _ => exact q
/-- Inside a region: what is computed on several ways goes on as one. -/
theorem EvK.joinF {α : Type} {l1 l2 : List Oper} {m : (α → H → Prop) → Prop} {QQ : α → H → Prop} (ag : α → List (Nat × Value)) (hF : jn m QQ)
    (rest : ∀ x E0 h, QQ x h → EvK P n ops l2 (updL E0 (ag x)) h K) (first : ∀ k : α → H → Prop, m k → EvK P n ops l1 E h (fun E h => ∃ x, Agree E (ag x) ∧ k x h)) : EvK P n ops (l1 ++ l2) E h K := by
  have h1 := EvK.mono (K' := fun E h => EvK P n ops l2 E h K) (fun E h ⟨x, hA, q⟩ => by have := rest x E h q; rwa [updL_self _ _ hA] at this) l1 E h (first QQ hF)
  clear hF first rest
  induction l1 generalizing E h with
  | nil => exact h1
  | cons o l ih =>
    refine ⟨h1.1, ?_⟩
    have h2 := h1.2
    split <;> rename_i hw
    · rw [if_pos hw] at h2; exact h2.mono fun v h' q => ih q
    · rw [if_neg hw] at h2; exact ih h2
theorem ite_inv {c : Bool} {A B : Prop} (h : if c = true then A else B) : (c = true ∧ A) ∨ (c = false ∧ B) := by
  cases c <;> simp at h
  · exact .inr ⟨rfl, h⟩
  · exact .inl ⟨rfl, h⟩
theorem Ret.mk {fn : Func} {α : Type} {val : α → Value} {q : α → H → Prop} {vs : List Value} (x : α) (hr : ResOK P E h fn.results.toList vs) (hv : tupleOf vs = val x) (hq : q x h) : ∃ vs, ResOK P E h fn.results.toList vs ∧ ∃ x, tupleOf vs = val x ∧ q x h := ⟨vs, hr, x, hv, hq⟩
theorem f_boxF {t : TypeId} {x : Operand} {v : Value} {cs : List Value} {KF : Addr → H → Prop} (ho : o.op = .box t x) (hx : evE E x = v) (hc : v.cells = cs.toArray) (hF : al t cs h KF) :
    AllocAt P (execOp (evE E) o) h fun u h' => ∃ a, u = .pointer (some a) ∧ KF a h' :=
  RunH.mono (f_box ho hx hc) fun v h' q => ⟨q.1, by obtain ⟨_, rfl, rfl⟩ := q; exact ⟨_, rfl, hF⟩⟩
theorem f_allocF {t : TypeId} {z : Value} {cs : List Value} {KF : Addr → H → Prop} (hz : (P.info? t).bind (·.zero) = some z) (ho : o.op = .alloc t) (hc : z.cells = cs.toArray) (hF : al t cs h KF) :
    AllocAt P (execOp (evE E) o) h fun u h' => ∃ a, u = .pointer (some a) ∧ KF a h' :=
  RunH.mono (f_alloc hz ho hc) fun v h' q => ⟨q.1, by obtain ⟨_, rfl, rfl⟩ := q; exact ⟨_, rfl, hF⟩⟩
/-- A slice literal. -/
def bs (t : TypeId) (n : Nat) (cs : List Value) (h : H) (K : Sl → H → Prop) : Prop := K ⟨some ⟨h.size, 0, none⟩, n, n⟩ (h.push (.cells cs.toArray t))
theorem f_buildSliceF {t e : TypeId} {m size bytes : Nat} {zc : List Value} {parts : Array (Nat × Operand)} {cells : List Value} {pl : List (Nat × List Value)} {KF : Sl → H → Prop} (ht : P.underlying t = some (.slice e)) (hE : ElemOK P e size bytes zc) (hn : m * size ≤ 16777216) (ho : o.op = .buildSlice t m parts)
    (hp : parts.toList.map (fun p => (p.1, (evE E p.2).cells.toList)) = pl) (hf : fillL (fun i => some (i * size, size)) (mkCells (if m * size = 0 then [] else zc) (m * size)) pl = some cells) (hF : bs e m cells h KF) :
    AllocAt P (execOp (evE E) o) h fun u h' => ∃ s : Sl, u = s.val ∧ KF s h' := by
  have h4 := fill_of_fillL (fun i => some (i * size, size)) (parts.toList.map fun p => (p.1, evE E p.2)) pl _ cells (by rw [List.map_map]; exact hp) hf
  exact RunH.mono (f_buildSlice ht hE hn ho (by rw [Array.toList_map]; exact h4)) fun v h' q => ⟨q.1, by obtain ⟨_, rfl, rfl⟩ := q; exact ⟨_, rfl, hF⟩⟩
theorem f_pickT {c x y : Operand} {b : Bool} {v : Value} (ho : o.op = .pick c x y) (hc : evE E c = .bool b) (hb : b = true) (hx : evE E x = v) : PureAt P (execOp (evE E) o) v := f_pick ho hc (by rw [hb]; exact hx)
theorem f_pickF {c x y : Operand} {b : Bool} {v : Value} (ho : o.op = .pick c x y) (hc : evE E c = .bool b) (hb : b = false) (hy : evE E y = v) : PureAt P (execOp (evE E) o) v := f_pick ho hc (by rw [hb]; exact hy)
end
end Go.Tr
/- Arrays as a kind; slices compared with nil; bytes as a string; calls of functions without a body. -/
namespace Go.Tr
open Go

/-! ### arrays -/
structure Ar (n : Nat) (α : Type) where
  l : List α
  h : l.length = n
def Ar.rep (n : Nat) {α : Type} (x : α) : Ar n α := ⟨List.replicate n x, List.length_replicate⟩
def Ar.set {n : Nat} {α : Type} (x : Ar n α) (i : Nat) (v : α) : Ar n α := ⟨x.l.set i v, by rw [List.length_set]; exact x.h⟩
def decN {α : Type} (K : Kd α) : Nat → List Value → Option (List α)
  | 0, [] => some []
  | 0, _ :: _ => none
  | n + 1, l => (K.dec (l.take K.n)).bind fun a => (decN K n (l.drop K.n)).map fun r => a :: r
theorem decN_sound {α : Type} (K : Kd α) : ∀ (n : Nat) (l : List Value) (xs : List α), decN K n l = some xs → xs.length = n ∧ xs.flatMap K.enc = l
  | 0, [], xs, h => by simp [decN] at h; subst h; simp
  | 0, _ :: _, xs, h => by simp [decN] at h
  | n + 1, l, xs, h => by
    simp only [decN, Option.bind_eq_some_iff, Option.map_eq_some_iff] at h
    obtain ⟨a, ha, r, hr, rfl⟩ := h
    obtain ⟨h1, h2⟩ := decN_sound K n _ _ hr
    refine ⟨by simp [h1], ?_⟩
    simp only [List.flatMap_cons, h2, K.sound _ _ ha, List.take_append_drop]
theorem decN_full {α : Type} (K : Kd α) : ∀ (xs : List α), decN K xs.length (xs.flatMap K.enc) = some xs
  | [] => rfl
  | x :: xs => by
    have h1 : (K.enc x ++ xs.flatMap K.enc).take K.n = K.enc x := by rw [← K.len x, List.take_left]
    have h2 : (K.enc x ++ xs.flatMap K.enc).drop K.n = xs.flatMap K.enc := by rw [← K.len x, List.drop_left]
    simp only [List.length_cons, decN, List.flatMap_cons, h1, h2, K.full, Option.bind_some, decN_full K xs, Option.map_some]
theorem flatMap_len {α : Type} (K : Kd α) : ∀ (xs : List α), (xs.flatMap K.enc).length = xs.length * K.n
  | [] => by simp
  | x :: xs => by simp only [List.flatMap_cons, List.length_append, K.len, List.length_cons, flatMap_len K xs, Nat.add_mul]; omega
def kA {α : Type} (n : Nat) (K : Kd α) : Kd (Ar n α) where
  n := n * K.n
  agg := true
  enc x := x.l.flatMap K.enc
  dec l := (decN K n l).bind fun xs => if h : xs.length = n then some ⟨xs, h⟩ else none
  len x := by rw [flatMap_len, x.h]
  one x v h := by
    simp only [List.mem_flatMap] at h
    obtain ⟨y, _, h⟩ := h
    exact K.one y v h
  sound l x h := by
    simp only [Option.bind_eq_some_iff] at h
    obtain ⟨xs, h1, h2⟩ := h
    split at h2
    · simp at h2; subst h2; exact (decN_sound K n l xs h1).2
    · cases h2
  full x := by
    obtain ⟨l, rfl⟩ := x
    rw [decN_full K l, Option.bind_some, dif_pos rfl]
  single h := by cases h

section
variable {P : Program} {E : Env} {o : Oper}

/-! ### a slice compared with nil -/
theorem eqIn_slN {t e : TypeId} {s : Sl} (hu : P.underlying t = some (.slice e)) (d : Nat) (w : World) : (Op.equalIn (d + 1) t (.slice s.a s.len s.cap) (.slice none 0 0)).run P w = .ok s.a.isNone w := by
  unfold Op.equalIn
  simp only [Sem.run_bind, run_underlying' hu, Result.andThen_ok]
  cases s.a <;> simp
theorem f_leqln {t t' e : TypeId} {x y : Operand} {s : Sl} (hu : P.underlying t = some (.slice e)) (ho : o.op = .binOp .eql t x y t') (hx : evE E x = .slice s.a s.len s.cap) (hy : evE E y = .slice none 0 0) : PureAt P (execOp (evE E) o) (.bool s.a.isNone) := f_eqlOf ho hx hy (fun w => by simp [eqGuard]) rfl (fun d w => eqIn_slN hu (d + 4) w)
theorem f_lneqn {t t' e : TypeId} {x y : Operand} {s : Sl} (hu : P.underlying t = some (.slice e)) (ho : o.op = .binOp .neq t x y t') (hx : evE E x = .slice s.a s.len s.cap) (hy : evE E y = .slice none 0 0) : PureAt P (execOp (evE E) o) (.bool (!s.a.isNone)) := f_neqOf ho hx hy (fun w => by simp [eqGuard]) rfl (fun d w => eqIn_slN hu (d + 4) w)

/-! ### string(bytes) -/
def asBytes : List Value → Option (List UInt8)
  | [] => some []
  | .int .u8 n :: r => (asBytes r).map fun l => UInt8.ofNat n.toNat :: l
  | _ :: _ => none
def b2s (s : Sl) (h : H) : Option ByteArray := (rdSl 1 s s.len h).bind fun l => (asBytes l).map fun b => ⟨b.toArray⟩
theorem rdSl_ext {size n : Nat} {s : Sl} {h h' : H} {l : List Value} (e : Ext h h') (x : rdSl size s n h = some l) : rdSl size s n h' = some l := by
  unfold rdSl at *
  cases hs : s.a with
  | none => rw [hs] at x; exact x
  | some a => rw [hs] at x; exact rdFrom_ext e _ _ x
theorem run_pushes (w : World) : ∀ (l : List Value) (b : List UInt8) (acc : ByteArray), asBytes l = some b →
    (forIn (m := Sem) l acc fun c s =>
      match c with
      | .int .u8 n => pure (ForInStep.yield (s.push (UInt8.ofNat n.toNat)))
      | _ => do
        stuck (α := PUnit) "bytesToString: byte expected"
        pure (ForInStep.yield s)).run P w = .ok ⟨acc.data ++ b.toArray⟩ w
  | [], b, acc, h => by simp [asBytes] at h; subst h; simp
  | v :: l, b, acc, h => by
    cases v <;> try (simp [asBytes] at h; done)
    rename_i k n
    cases k <;> try (simp [asBytes] at h; done)
    simp only [asBytes, Option.map_eq_some_iff] at h
    obtain ⟨r, hr, rfl⟩ := h
    have ih := run_pushes w l r (acc.push (UInt8.ofNat n.toNat)) hr
    simp only [List.forIn_cons, Sem.run_bind, Sem.run_pure, Result.andThen_ok]
    rw [ih]
    congr 2
    simp [ByteArray.push]
theorem f_b2s {s t e : TypeId} {x : Operand} {sl : Sl} {h : H} {r : ByteArray} (hs : P.underlying s = some (.slice e)) (ht : P.underlying t = some .string) (he : P.underlying e = some (.int .u8)) (ho : o.op = .convert s t x) (hx : evE E x = sl.val) (hr : b2s sl h = some r) :
    ReadAt P (execOp (evE E) o) h (.string r) := fun c d h' ex => by
  unfold b2s at hr
  simp only [Option.bind_eq_some_iff, Option.map_eq_some_iff] at hr
  obtain ⟨l, hl, b, hb, rfl⟩ := hr
  have hl := rdSl_ext ex hl
  simp only [execOp, ho, hx, convert, Sem.run_bind, run_underlying' hs, run_underlying' ht, run_underlying' he, Result.andThen_ok, Sl.val]
  cases ha : sl.a with
  | none =>
    unfold rdSl at hl
    rw [ha] at hl
    simp at hl; subst hl
    simp [asBytes] at hb; subst hb
    simp [Conv.bytesToString]; rfl
  | some a =>
    unfold rdSl at hl
    rw [ha] at hl
    rw [Nat.mul_one] at hl
    have h1 := run_pushes (P := P) (c.w h' d) l b ByteArray.empty hb
    have h2 := run_loadCells (P := P) c h' d a sl.len l hl
    simp only [Conv.bytesToString, Sem.run_bind, h2, Result.andThen_ok]
    rw [← Array.forIn_toList]
    have h3 := congrArg (fun r : Result ByteArray => ((r.andThen fun a w' => Result.ok (Value.string a) w').andThen fun a w' => Result.ok (Next.value a) w')) h1
    refine Eq.trans ?_ (h3.trans ?_)
    · rfl
    · have e : (⟨ByteArray.empty.data ++ b.toArray⟩ : ByteArray) = ⟨b.toArray⟩ := by
        rw [show ByteArray.empty.data = #[] from rfl, Array.empty_append]
      rw [e]; rfl

/-! ### functions without a body -/
theorem run_extern {f : FuncId} {fn : Func} {args : Array Operand} {ats : Array TypeId} {vs : List Value} {e : Array Value → Sem Value} (hf : P.funcs[f]? = some fn) (hnm : (fn.name == "runtime.NumGoroutine") = false) (hb : fn.body.isNone = true) (h1 : (Extern.findNext fn).isNone = true) (h2 : Extern.find fn = some e)
    (ho : o.op = .call { callee := .value (.func f), args := args, argTypes := ats }) (hv : args.toList.map (evE E) = vs) (w : World) : (execOp (evE E) o).run P w = ((do pure (Next.value (← e vs.toArray))) : Sem Next).run P w := by
  have hv : args.map (evE E) = vs.toArray := by rw [← hv]; apply Array.ext'; simp
  have h1 : Extern.findNext fn = none := by cases h : Extern.findNext fn <;> simp [h] at h1 ⊢
  simp only [execOp, ho, resolve, evE, Deferred.ofValue, Sem.run_bind, Sem.run_pure, Result.andThen_ok, invoke, callFunc, run_program, hf, hnm, hb, Bool.false_eq_true, if_false, if_true, Array.append_empty, Array.empty_append, hv, run_mark, h1, h2]
theorem ld_int {k : IntKind} {a : Addr} {h : H} {x : Int} (hl : ld (kI k) a h = some x) : hcell h a = some (.int k x) := by
  unfold ld rdCells at hl
  simp only [Option.bind_eq_some_iff] at hl
  obtain ⟨l, h1, h2⟩ := hl
  have h3 := (kI k).sound _ _ h2
  subst h3
  have h4 : rdFrom h a 0 1 = some [.int k x] := h1
  simp only [rdFrom, Option.map_some, Option.bind_eq_some_iff, Option.some.injEq] at h4
  obtain ⟨v, hv, h5⟩ := h4
  have : a.add 0 = a := by simp [Addr.add]
  rw [this] at hv
  simp at h5; subst h5; exact hv
theorem st_int {k : IntKind} {a : Addr} {h h' : H} {x : Int} (hs : st (kI k) a x h = some h') : (hcell h a).isSome = true ∧ hfrozen h a = false ∧ h' = hset h a (.int k x) := by
  have h4 : wrFrom a [.int k x] 0 h = some h' := hs
  have : a.add 0 = a := by simp [Addr.add]
  simp only [wrFrom, this, Option.bind_eq_some_iff] at h4
  obtain ⟨u, hu, h5⟩ := h4
  split at h5
  · cases h5
  · rename_i hf
    have hf1 : hfrozen h a = false := by revert hf; cases hfrozen h a <;> simp
    exact ⟨by simp [hu], hf1, by simpa using h5.symm⟩
theorem run_loadA (c : Ctx) (h : H) (d : Nat) (a : Addr) (v : Value) (m : Mode) (hv : hcell h a = some v) : (load a m).run P (c.w h d) = .ok v (c.w h d) := by
  have : (c.w h d).cell? a = some v := hv
  simp only [load, Sem.run, this]
theorem run_storeA (c : Ctx) (h : H) (d : Nat) (a : Addr) (k : IntKind) (x : Int) (m : Mode) (h1 : (hcell h a).isSome = true) (h2 : hfrozen h a = false) : (store a (.int k x) m).run P (c.w h d) = .ok () (c.w (hset h a (.int k x)) d) := by
  obtain ⟨v, hv⟩ := Option.isSome_iff_exists.1 h1
  have e1 : (c.w h d).cell? a = some v := hv
  have e2 : (c.w h d).frozen? a = false := h2
  simp only [store, Sem.run, e1, e2, Bool.false_eq_true, if_false, set_w]
theorem f_atomAdd {f : FuncId} {fn : Func} {u y : Operand} {ats : Array TypeId} {k : IntKind} {a : Addr} {h h' : H} {x n : Int} (hf : P.funcs[f]? = some fn) (hnm : (fn.name == "runtime.NumGoroutine") = false) (hb : fn.body.isNone = true) (h1 : (Extern.findNext fn).isNone = true) (h2 : Extern.find fn = some (Extern.Atomic.update (Op.intArith .add) k true))
    (ho : o.op = .call { callee := .value (.func f), args := #[u, y], argTypes := ats }) (hu : evE E u = .pointer (some a)) (hy : evE E y = .int k n) (hl : ld (kI k) a h = some x) (hs : st (kI k) a (k.wrap (x + n)) h = some h') :
    RunH P (execOp (evE E) o) h fun v h1 => v = .int k (k.wrap (x + n)) ∧ h1 = h' := fun c d => by
  obtain ⟨s1, s2, rfl⟩ := st_int hs
  refine ⟨_, _, d, .inl ?_, rfl, rfl⟩
  rw [run_extern hf hnm hb h1 h2 ho (vs := [.pointer (some a), .int k n]) (by simp [hu, hy])]
  have e0 : Extern.Atomic.update (Op.intArith .add) k true #[.pointer (some a), .int k n] = (do let a ← asAddr (.pointer (some a)); let old ← Extern.Atomic.read (.int k) a; let new ← Op.intArith .add k (← asInt old) (← asInt (.int k n)); store a new .atomic; pure (if true then new else old)) := rfl
  rw [show List.toArray [Value.pointer (some a), .int k n] = #[.pointer (some a), .int k n] from rfl, e0]
  simp only [asAddr, Sem.run_bind, Sem.run_pure, Result.andThen_ok, Extern.Atomic.read, run_loadA c h d a _ .atomic (ld_int hl), if_true, asInt, asIntOf, Op.intArith, run_storeA c h d a k _ .atomic s1 s2]
theorem f_atomLoad {f : FuncId} {fn : Func} {u : Operand} {ats : Array TypeId} {k : IntKind} {a : Addr} {h : H} {x : Int} (hf : P.funcs[f]? = some fn) (hnm : (fn.name == "runtime.NumGoroutine") = false) (hb : fn.body.isNone = true) (h1 : (Extern.findNext fn).isNone = true) (h2 : Extern.find fn = some (Extern.Atomic.loadT (.int k)))
    (ho : o.op = .call { callee := .value (.func f), args := #[u], argTypes := ats }) (hu : evE E u = .pointer (some a)) (hl : ld (kI k) a h = some x) : ReadAt P (execOp (evE E) o) h (.int k x) := fun c d h' e => by
  rw [run_extern hf hnm hb h1 h2 ho (vs := [.pointer (some a)]) (by simp [hu])]
  have e0 : Extern.Atomic.loadT (.int k) #[.pointer (some a)] = (do Extern.Atomic.read (.int k) (← asAddr (.pointer (some a)))) := rfl
  rw [show List.toArray [Value.pointer (some a)] = #[.pointer (some a)] from rfl, e0]
  simp only [asAddr, Sem.run_bind, Sem.run_pure, Result.andThen_ok, Extern.Atomic.read, run_loadA c h' d a _ .atomic (hcell_ext e (ld_int hl)), if_true]
end
end Go.Tr
/- Interfaces, functions as values, maps: kinds, words, and the operations' facts. -/
namespace Go.Tr
open Go

/-! ### interfaces -/
abbrev IF := Option (TypeId × Value)
def IF.val : IF → Value
  | none => .nilIface
  | some (t, v) => .iface t v
def kIf : Kd IF where
  n := 1
  agg := false
  enc x := [x.val]
  dec | [.iface t v] => some (some (t, v))
      | [.nilIface] => some none
      | _ => none
  len _ := rfl
  one x v h := by simp at h; subst h; cases x <;> rfl
  sound l x h := by split at h <;> simp at h <;> subst h <;> rfl
  full x := by cases x <;> rfl
  single _ := rfl
theorem if_cells (x : IF) : x.val.cells = #[x.val] := by cases x <;> rfl
/-! ### functions as values -/
structure FVal where
  fn : Fn
  first : Array Value
  captured : Array Value
abbrev FV := Option FVal
def FV.val : FV → Value
  | none => .nilFunc
  | some f => .func f.fn f.first f.captured
def kFn : Kd FV where
  n := 1
  agg := false
  enc x := [x.val]
  dec | [.func f a b] => some (some ⟨f, a, b⟩)
      | [.nilFunc] => some none
      | _ => none
  len _ := rfl
  one x v h := by simp at h; subst h; cases x <;> rfl
  sound l x h := by split at h <;> simp at h <;> subst h <;> rfl
  full x := by cases x <;> rfl
  single _ := rfl

theorem fn_cells (x : FV) : x.val.cells = #[x.val] := by cases x <;> rfl
section
variable {P : Program} {E : Env} {o : Oper}
theorem eqIn_ifN {t : TypeId} {ms : Array (String × TypeId)} {x : IF} (hu : P.underlying t = some (.interface ms)) (d : Nat) (w : World) : (Op.equalIn (d + 1) t x.val .nilIface).run P w = .ok x.isNone w := by
  unfold Op.equalIn
  simp only [Sem.run_bind, run_underlying' hu, Result.andThen_ok]
  cases x with
  | none => simp [IF.val]
  | some x => simp [IF.val]
theorem guard_ifN {b : BinOp} {t : TypeId} {x : Operand} {v : Value} (w : World) : (eqGuard b t x (.const .nilIface) v .nilIface).run P w = .ok () w := by
  unfold eqGuard
  cases b <;> cases v <;> simp
theorem f_ieqln {t t' : TypeId} {ms : Array (String × TypeId)} {x : Operand} {a : IF} (hu : P.underlying t = some (.interface ms)) (ho : o.op = .binOp .eql t x (.const .nilIface) t') (hx : evE E x = a.val) : PureAt P (execOp (evE E) o) (.bool a.isNone) := f_eqlOf ho hx rfl guard_ifN (by cases a <;> rfl) (fun d w => eqIn_ifN hu (d + 4) w)
theorem f_ineqn {t t' : TypeId} {ms : Array (String × TypeId)} {x : Operand} {a : IF} (hu : P.underlying t = some (.interface ms)) (ho : o.op = .binOp .neq t x (.const .nilIface) t') (hx : evE E x = a.val) : PureAt P (execOp (evE E) o) (.bool (!a.isNone)) := f_neqOf ho hx rfl guard_ifN (by cases a <;> rfl) (fun d w => eqIn_ifN hu (d + 4) w)
theorem f_makeIf {t : TypeId} {x : Operand} {v : Value} {u : TypeDesc} (hu : P.underlying t = some u) (hn : (match u with | .interface _ => true | _ => false) = false) (ho : o.op = .makeInterface t x) (hx : evE E x = v) : PureAt P (execOp (evE E) o) (IF.val (some (t, v))) := fun w => by
  simp only [execOp, ho, hx, Instr.makeInterface, Sem.run_bind, run_underlying' hu, Result.andThen_ok]
  cases u <;> simp at hn ⊢ <;> rfl
theorem f_makeFunc {fn : Fn} {first cap : Array Operand} {vs us : List Value} (ho : o.op = .makeFunc fn first cap) (h1 : first.toList.map (evE E) = vs) (h2 : cap.toList.map (evE E) = us) : PureAt P (execOp (evE E) o) (FV.val (some ⟨fn, vs.toArray, us.toArray⟩)) := fun w => by
  have e1 : first.map (evE E) = vs.toArray := by rw [← h1]; apply Array.ext'; simp
  have e2 : cap.map (evE E) = us.toArray := by rw [← h2]; apply Array.ext'; simp
  simp only [execOp, ho, Instr.makeFunc, Sem.run_bind, Sem.run_pure, Result.andThen_ok, e1, e2]
  rfl
/-- A call of a function value. -/
def apF (P : Program) (f : FV) (args : List Value) (h : H) (K : Value → H → Prop) : Prop :=
  ∃ (g : FuncId) (first cap : List Value) (fn : Func), f = some ⟨.func g, first.toArray, cap.toArray⟩ ∧ P.funcs[g]? = some fn ∧ (fn.name == "runtime.NumGoroutine") = false ∧ fn.body.isNone = false ∧ CallsH P g (first ++ args ++ cap).toArray h K
theorem f_callV {x : Operand} {args : Array Operand} {ats : Array TypeId} {f : FV} {vs : List Value} {h : H} {QV : Value → H → Prop} (hx : evE E x = f.val)
    (ho : o.op = .call { callee := .value x, args := args, argTypes := ats }) (hv : args.toList.map (evE E) = vs) (hF : apF P f vs h QV) : EnterH P (execOp (evE E) o) h QV := by
  obtain ⟨g, first, cap, fn, rfl, hf, hnm, hb, hc⟩ := hF
  have hv : args.map (evE E) = vs.toArray := by rw [← hv]; apply Array.ext'; simp
  refine ⟨g, (first ++ vs ++ cap).toArray, fun c d => ⟨d, ?_⟩, hc⟩
  simp only [execOp, ho, resolve, hx, FV.val, Deferred.ofValue, Sem.run_bind, Sem.run_pure, Result.andThen_ok, invoke, callFunc, run_program, hf, hnm, hb, Bool.false_eq_true, if_false, hv]
  simp

/-! ### maps -/
def mget (r : Option Nat) (h : H) : Option (Array MapEntry × Nat) :=
  match r with
  | none => some (#[], 0)
  | some b => match h[b]? with
    | some (.map es c) => some (es, c)
    | _ => none
theorem mget_ext {r : Option Nat} {h h' : H} {x : Array MapEntry × Nat} (e : Ext h h') (hx : mget r h = some x) : mget r h' = some x := by
  unfold mget at *
  cases r with
  | none => exact hx
  | some b =>
    have hb : b < h.size := by
      rcases Nat.lt_or_ge b h.size with hl | hl
      · exact hl
      · simp only [Array.getElem?_eq_none hl] at hx; cases hx
    simp only [e.2 b hb]; exact hx
/-- What stands under a whole number in a map; whether it stands there. -/
def mlk {β : Type} (K : Kd β) (z : β) (kk : IntKind) (r : Option Nat) (n : Int) (h : H) : Option (β × Bool) :=
  (mget r h).bind fun x => (Instr.findNow (.int kk) (.int kk n) x.1.toList 0).bind fun
    | some (_, v) => (K.dec [v]).map fun y => (y, true)
    | none => some (z, false)
theorem mlk_ext {β : Type} {K : Kd β} {z : β} {kk : IntKind} {r : Option Nat} {n : Int} {h h' : H} {y : β × Bool} (e : Ext h h') (hx : mlk K z kk r n h = some y) : mlk K z kk r n h' = some y := by
  unfold mlk at *
  obtain ⟨x, h1, h2⟩ := Option.bind_eq_some_iff.1 hx
  exact Option.bind_eq_some_iff.2 ⟨x, mget_ext e h1, h2⟩
theorem val_of_dec {β : Type} {K : Kd β} (hK : K.agg = false) {v : Value} {y : β} (h : K.dec [v] = some y) : K.val y = v := by
  have := K.sound _ _ h
  unfold Kd.val
  rw [hK, this]; simp
theorem run_getMap (c : Ctx) (h : H) (d b : Nat) {es : Array MapEntry} {k : Nat} (hb : h[b]? = some (.map es k)) : (getObj b).run P (c.w h d) = .ok (.map es k) (c.w h d) := by
  have : (c.w h d).heap[b]? = some (.map es k) := hb
  simp only [getObj, Sem.run, this]
theorem run_checkKey {e : Bool} {t : TypeId} {k : IntKind} {n : Int} (ht : P.underlying t = some (.int k)) (d : Nat) (w : World) : (Instr.checkKey e (d + 1) t (.int k n)).run P w = .ok () w := by
  unfold Instr.checkKey
  simp only [Sem.run_bind, run_underlying' ht, Result.andThen_ok, Sem.run_pure]
theorem run_findKey {t : TypeId} {k : IntKind} {n : Int} {l : List MapEntry} {r : Option (Nat × Value)} (ht : P.underlying t = some (.int k)) (hr : Instr.findNow (.int k) (.int k n) l 0 = some r) (w : World) : (Instr.findKey t (.int k n) l).run P w = .ok r w := by
  unfold Instr.findKey
  simp only [Sem.run_bind, run_underlying' ht, Result.andThen_ok, hr, Sem.run_pure]
structure MapTy (P : Program) (t kt e : TypeId) (kk : IntKind) : Prop where
  u : P.underlying t = some (.map kt e)
  k : P.underlying kt = some (.int kk)
theorem run_lookup {β : Type} {K : Kd β} (hK : K.agg = false) {t kt e : TypeId} {kk : IntKind} {z y : β} {b ok : Bool} {r : Option Nat} {n : Int} {h : H} (M : MapTy P t kt e kk) (hz : (P.info? e).bind (·.zero) = some (K.val z)) (hr : mlk K z kk r n h = some (y, b)) (c : Ctx) (d : Nat) :
    (Instr.lookup t (.map r) (.int kk n) ok).run P (c.w h d) = .ok (if ok then .tuple #[K.val y, .bool b] else K.val y) (c.w h d) := by
  unfold mlk at hr
  obtain ⟨⟨es, cl⟩, h1, h2⟩ := Option.bind_eq_some_iff.1 hr
  obtain ⟨f, h3, h4⟩ := Option.bind_eq_some_iff.1 h2
  have hzv : ∀ w : World, (zeroValue e).run P w = .ok (K.val z) w := fun w => by
    simp only [Option.bind_eq_some_iff] at hz
    obtain ⟨i, hi, hz⟩ := hz
    simp [zeroValue, typeInfo, hi, hz]
  have rest : ((do
      Instr.checkKey es.isEmpty 10000 kt (.int kk n)
      let (v, ok') ← match ← Instr.findKey kt (.int kk n) es.toList with
        | some (_, v) => pure (v, true)
        | none => pure (← zeroValue e, false)
      pure (if ok then .tuple #[v, .bool ok'] else v)) : Sem Value).run P (c.w h d) = .ok (if ok then .tuple #[K.val y, .bool b] else K.val y) (c.w h d) := by
    simp only [Sem.run_bind, Result.andThen_ok, run_checkKey M.k 9999, run_findKey M.k h3]
    cases f with
    | none =>
      simp at h4; obtain ⟨rfl, rfl⟩ := h4
      simp only [Sem.run_bind, hzv, Result.andThen_ok, Sem.run_pure]
    | some f =>
      simp only [Option.map_eq_some_iff, Prod.mk.injEq] at h4
      obtain ⟨y', h5, rfl, rfl⟩ := h4
      simp only [Sem.run_bind, Sem.run_pure, Result.andThen_ok, val_of_dec hK h5]
  unfold Instr.lookup
  simp only [Sem.run_bind, run_underlying' M.u, Result.andThen_ok]
  unfold mget at h1
  cases r with
  | none =>
    simp at h1; obtain ⟨rfl, rfl⟩ := h1
    simp only [Sem.run_bind, Sem.run_pure, Result.andThen_ok] at rest ⊢
    exact rest
  | some b =>
    simp only at h1
    split at h1
    · rename_i hb
      simp at h1; obtain ⟨rfl, rfl⟩ := h1
      simp only [Sem.run_bind, run_getMap c h d b hb, Sem.run_pure, Result.andThen_ok] at rest ⊢
      exact rest
    · cases h1
theorem f_lookup {β : Type} {K : Kd β} (hK : K.agg = false) {t kt e : TypeId} {kk : IntKind} {z : β} {y : β × Bool} {r : Option Nat} {n : Int} {h : H} {u v : Operand} (M : MapTy P t kt e kk) (hz : (P.info? e).bind (·.zero) = some (K.val z)) (ho : o.op = .lookup t u v false) (hu : evE E u = .map r) (hv : evE E v = .int kk n) (hr : mlk K z kk r n h = some y) :
    ReadAt P (execOp (evE E) o) h (K.val y.1) := fun c d h' ex => by
  simp only [execOp, ho, hu, hv, Sem.run_bind, run_lookup (ok := false) hK M hz (mlk_ext ex hr) c d, Result.andThen_ok, Sem.run_pure]
  rfl
/-- A new map. -/
def mmk (h : H) (K : Option Nat → H → Prop) : Prop := K (some h.size) (h.push (.map #[] 0))
theorem f_makeMap {t : TypeId} {h : H} {Q : Option Nat → H → Prop} (ho : o.op = .makeMap t none) (hF : mmk h Q) : AllocAt P (execOp (evE E) o) h fun v h' => ∃ r : Option Nat, v = .map r ∧ Q r h' := fun c d =>
  ⟨_, _, d, .inl (by simp only [execOp, ho, Option.map_none, Instr.makeMap, Sem.run_bind, Sem.run_pure, Result.andThen_ok, run_newObj]; rfl), Ext.push _ _, _, rfl, hF⟩
def mln (r : Option Nat) (h : H) : Option Nat := (mget r h).map fun x => x.1.size
theorem mln_ext {r : Option Nat} {h h' : H} {n : Nat} (e : Ext h h') (hx : mln r h = some n) : mln r h' = some n := by
  unfold mln at *
  obtain ⟨x, h1, h2⟩ := Option.map_eq_some_iff.1 hx
  exact Option.map_eq_some_iff.2 ⟨x, mget_ext e h1, h2⟩
theorem f_lenM {t kt e : TypeId} {x : Operand} {r : Option Nat} {n : Nat} {h : H} (ht : P.underlying t = some (.map kt e)) (ho : o.op = .call { callee := .builtin .len, args := #[x], argTypes := #[t] }) (hx : evE E x = .map r) (hn : mln r h = some n) : ReadAt P (execOp (evE E) o) h (.int .i64 (n : Int)) := fun c d h' ex => by
  rw [run_call_builtin _ ho]
  have hn := mln_ext ex hn
  unfold mln at hn
  obtain ⟨⟨es, cl⟩, h1, rfl⟩ := Option.map_eq_some_iff.1 hn
  unfold mget at h1
  cases r with
  | none =>
    simp at h1; obtain ⟨rfl, rfl⟩ := h1
    simp [builtin, Builtin.len_, hx, run_underlying' ht, goInt]
  | some b =>
    simp only at h1
    split at h1
    · rename_i hb
      simp at h1; obtain ⟨rfl, rfl⟩ := h1
      simp only [builtin, Builtin.len_, List.map_toArray, List.map_cons, List.map_nil, hx, List.getElem?_toArray, List.getElem?_cons_zero, Sem.run_bind, run_underlying' ht, Result.andThen_ok, run_getMap c h' d b hb, Sem.run_pure, goInt]
    · cases h1
/-- m[n] = x -/
def mup {β : Type} (K : Kd β) (kk : IntKind) (r : Option Nat) (n : Int) (x : β) (h : H) : Option H :=
  r.bind fun b => match h[b]? with
    | some (.map es c) => (Instr.findNow (.int kk) (.int kk n) es.toList 0).map fun
      | some (i, _) => h.setIfInBounds b (.map (es.modify i fun e => { e with key := .int kk n, val := K.val x }) c)
      | none => h.setIfInBounds b (.map (es.push ⟨.int kk n, K.val x, c⟩) (c + 1))
    | _ => none
theorem findNow_key {kk : IntKind} {n : Int} : ∀ {l : List MapEntry} {i j : Nat} {v : Value}, Instr.findNow (.int kk) (.int kk n) l i = some (some (j, v)) → i ≤ j ∧ (l[j - i]?).map (·.key) = some (.int kk n)
  | [], i, j, v, h => by simp [Instr.findNow] at h
  | e :: l, i, j, v, h => by
    unfold Instr.findNow at h
    split at h
    · rename_i hs
      simp at h; obtain ⟨rfl, rfl⟩ := h
      refine ⟨Nat.le_refl _, ?_⟩
      simp only [Nat.sub_self, List.getElem?_cons_zero, Option.map_some]
      cases hk : e.key <;> rw [hk] at hs <;> simp [Instr.sameNow] at hs
      obtain ⟨rfl, rfl⟩ := hs
      rfl
    · have ih := findNow_key h
      refine ⟨by omega, ?_⟩
      rw [show j - i = (j - (i + 1)) + 1 by omega]
      simpa using ih.2
    · cases h
theorem run_setMap (c : Ctx) (h : H) (d b : Nat) {es : Array MapEntry} {k : Nat} (hb : h[b]? = some (.map es k)) (ob : Obj) : (setObj b ob).run P (c.w h d) = .ok () (c.w (h.setIfInBounds b ob) d) := by
  have : (c.w h d).heap[b]? = some (.map es k) := hb
  simp only [setObj, Sem.run, this]
  rfl
theorem run_mapUpdate {β : Type} {K : Kd β} {t kt e : TypeId} {kk : IntKind} {x : β} {r : Option Nat} {n : Int} {h h' : H} (M : MapTy P t kt e kk) (hr : mup K kk r n x h = some h') (c : Ctx) (d : Nat) :
    (Instr.mapUpdate t (.map r) (.int kk n) (K.val x)).run P (c.w h d) = .ok () (c.w h' d) := by
  unfold mup at hr
  obtain ⟨b, rfl, h1⟩ := Option.bind_eq_some_iff.1 hr
  split at h1
  · rename_i es cl hb
    obtain ⟨f, h2, h3⟩ := Option.map_eq_some_iff.1 h1
    unfold Instr.mapUpdate
    simp only [Sem.run_bind, run_underlying' M.u, Result.andThen_ok, run_getMap c h d b hb, run_checkKey M.k 9999, run_findKey M.k h2]
    cases f with
    | none =>
      simp only at h3
      subst h3
      simp only [run_setMap c h d b hb]
    | some f =>
      obtain ⟨i, v⟩ := f
      simp only at h3
      subst h3
      have hk := (findNow_key h2).2
      rw [Nat.sub_zero] at hk
      have hk' : (es[i]?).map (·.key) = some (.int kk n) := by simpa using hk
      have hst : (Instr.keyThatStays (.int kk n) (.int kk n)).run P (c.w h d) = .ok (.int kk n) (c.w h d) := by
        unfold Instr.keyThatStays
        have : Instr.sameBits 10000 (.int kk n) (.int kk n) = true := by
          show Instr.sameBits (9999 + 1) _ _ = true
          simp [Instr.sameBits]
        simp only [this, if_true, Sem.run_pure]
      simp only [hk', Option.getD_some, Sem.run_bind, hst, Result.andThen_ok, run_setMap c h d b hb]
  · cases h1
theorem f_mapUpdate {β : Type} {K : Kd β} {t kt e : TypeId} {kk : IntKind} {x : β} {r : Option Nat} {n : Int} {h h' : H} {u v z : Operand} (M : MapTy P t kt e kk) (ho : o.op = .mapUpdate t u v z) (hu : evE E u = .map r) (hv : evE E v = .int kk n) (hz : evE E z = K.val x) (hr : mup K kk r n x h = some h') :
    RunH P (execOp (evE E) o) h fun v h1 => v = undef ∧ h1 = h' := fun c d => ⟨undef, h', d, .inr ⟨by
  simp only [execOp, ho, hu, hv, hz, Sem.run_bind, run_mapUpdate M hr c d, Result.andThen_ok, Sem.run_pure], rfl⟩, rfl, rfl⟩
theorem f_insert {β : Type} {K : Kd β} {t kt e : TypeId} {kk : IntKind} {x : β} {r : Option Nat} {n : Int} {h h' : H} {u v z : Operand} (M : MapTy P t kt e kk) (ho : o.op = .insert t u v z) (hu : evE E u = .map r) (hv : evE E v = .int kk n) (hz : evE E z = K.val x) (hr : mup K kk r n x h = some h') :
    RunH P (execOp (evE E) o) h fun v h1 => v = undef ∧ h1 = h' := fun c d => ⟨undef, h', d, .inr ⟨by
  simp only [execOp, ho, hu, hv, hz, Sem.run_bind, run_mapUpdate M hr c d, Result.andThen_ok, Sem.run_pure], rfl⟩, rfl, rfl⟩

/-! ranging -/
def rng (r : Option Nat) (h : H) (K : Addr → H → Prop) : Prop :=
  match r with
  | none => K ⟨h.size, 0, none⟩ (h.push (.mapIter none 0 #[] 0))
  | some m => ∃ es c, h[m]? = some (.map es c) ∧ K ⟨h.size, 0, none⟩ (h.push (.mapIter (some m) c #[] c))
theorem f_rangeM {t kt e : TypeId} {x : Operand} {r : Option Nat} {h : H} {Q : Addr → H → Prop} (ht : P.underlying t = some (.map kt e)) (ho : o.op = .range t x) (hx : evE E x = .map r) (hF : rng r h Q) : AllocAt P (execOp (evE E) o) h fun v h' => ∃ a, v = .pointer (some a) ∧ Q a h' := fun c d => by
  unfold rng at hF
  cases r with
  | none =>
    exact ⟨_, _, d, .inl (by simp only [execOp, ho, hx, Instr.range, Sem.run_bind, run_underlying' ht, Sem.run_pure, Result.andThen_ok, run_newObj]; rfl), Ext.push _ _, _, rfl, hF⟩
  | some m =>
    obtain ⟨es, cl, hb, hF⟩ := hF
    exact ⟨_, _, d, .inl (by simp only [execOp, ho, hx, Instr.range, Sem.run_bind, run_underlying' ht, Sem.run_pure, Result.andThen_ok, run_getMap c h d m hb, run_newObj]; rfl), Ext.push _ _, _, rfl, hF⟩
/-- The next entry, whichever of those left; the end, if none of the old is left. -/
def nxt (it : Addr) (h : H) (K : Bool → H → Prop) : Prop :=
  it.off = 0 ∧ ∃ mo since seen last, h[it.block]? = some (.mapIter mo since seen last) ∧
    match mo with
    | none => K false h
    | some m => ∃ es clock, h[m]? = some (.map es clock) ∧ (!seen.isEmpty && !es.isEmpty && es.all (·.born ≥ last)) = false ∧
      (∀ e ∈ es, seen.contains e.born = false → K true (h.setIfInBounds it.block (.mapIter (some m) since (seen.push e.born) clock))) ∧
      ((∀ e ∈ es, seen.contains e.born = false → since ≤ e.born) → K false h)
theorem run_getIter (c : Ctx) (h : H) (d b : Nat) {mo : Option Nat} {since : Nat} {seen : Array Nat} {last : Nat} (hb : h[b]? = some (.mapIter mo since seen last)) : (getObj b).run P (c.w h d) = .ok (.mapIter mo since seen last) (c.w h d) := by
  have : (c.w h d).heap[b]? = some (.mapIter mo since seen last) := hb
  simp only [getObj, Sem.run, this]
theorem run_setIter (c : Ctx) (h : H) (d b : Nat) {mo : Option Nat} {since : Nat} {seen : Array Nat} {last : Nat} (hb : h[b]? = some (.mapIter mo since seen last)) (ob : Obj) : (setObj b ob).run P (c.w h d) = .ok () (c.w (h.setIfInBounds b ob) d) := by
  have : (c.w h d).heap[b]? = some (.mapIter mo since seen last) := hb
  simp only [setObj, Sem.run, this]
  rfl
theorem f_nextM {x : Operand} {it : Addr} {h : H} {Q : Bool → H → Prop} (ho : o.op = .next x false) (hx : evE E x = .pointer (some it)) (hF : nxt it h Q) : RunH P (execOp (evE E) o) h fun v h' => ∃ b vs, v = .tuple vs ∧ vs[0]? = some (.bool b) ∧ Q b h' := fun c d => by
  obtain ⟨h0, mo, since, seen, last, hi, hF⟩ := hF
  obtain ⟨blk, off, sp⟩ := it
  simp only at h0 hi hF
  subst h0
  cases mo with
  | none =>
    exact ⟨_, h, d, .inl (by simp only [execOp, ho, hx, Instr.next, Sem.run_bind, Sem.run_pure, Result.andThen_ok, run_getIter c h d blk hi]), false, #[.bool false], rfl, rfl, hF⟩
  | some m =>
    obtain ⟨es, clock, hm, hall, hK1, hK2⟩ := hF
    -- the candidates
    have run0 : ∀ (k : Value → H → Nat → Prop), True := fun _ => trivial
    let left := es.filter fun e => !seen.contains e.born
    let old := left.filter (·.born < since)
    let new := left.filter (·.born ≥ since)
    let cand : Array (Option MapEntry) := (if old.isEmpty then #[none] else #[]) ++ (old ++ new).map some
    have hpos : 0 < cand.size := by
      by_cases hold : old.isEmpty = true
      · simp only [cand, hold, if_true]; simp; omega
      · have : 0 < old.size := by
          rcases Nat.eq_zero_or_pos old.size with h0 | h0
          · exact absurd (by simp [Array.isEmpty, h0]) hold
          · exact h0
        simp only [cand, hold]; simp; omega
    have hdraw : ∃ (i d' : Nat), i < cand.size ∧ (choose (.mapNext cand.size)).run P (c.w h d) = .ok i (c.w h d') := by
      by_cases hf : cand.size ≤ 1
      · refine ⟨0, d, hpos, ?_⟩
        rw [run_choose]
        simp [Question.forced, hf]
      · refine ⟨Question.cut (.mapNext cand.size) (c.tape d (.mapNext cand.size)), d + 1, Nat.mod_lt _ hpos, ?_⟩
        rw [run_choose]
        have : Question.forced (.mapNext cand.size) = false := by simp [Question.forced]; omega
        rw [this]; rfl
    obtain ⟨i, d', hlt, hrun⟩ := hdraw
    have hmem : ∀ e, cand[i]? = some (some e) → e ∈ es ∧ seen.contains e.born = false := by
      intro e he
      have h1 : some e ∈ cand := Array.mem_of_getElem? he
      simp only [cand, Array.mem_append, Array.mem_map] at h1
      rcases h1 with h1 | ⟨e', h1, h2⟩
      · split at h1 <;> simp at h1
      · simp at h2; subst h2
        simp only [old, new, left, Array.mem_filter] at h1
        rcases h1 with h1 | h1
        · exact ⟨h1.1.1, by simpa using h1.1.2⟩
        · exact ⟨h1.1.1, by simpa using h1.1.2⟩
    have hnone : cand[i]? = some none → ∀ e ∈ es, seen.contains e.born = false → since ≤ e.born := by
      intro hn e he hs
      have h1 : (none : Option MapEntry) ∈ cand := Array.mem_of_getElem? hn
      simp only [cand, Array.mem_append, Array.mem_map] at h1
      rcases h1 with h1 | ⟨e', _, h2⟩
      · split at h1
        · rename_i hold
          rcases Nat.lt_or_ge e.born since with hb | hb
          · have : e ∈ old := by simp only [old, left, Array.mem_filter]; exact ⟨⟨he, by simpa using hs⟩, by simpa using hb⟩
            have : old = #[] := by simpa using hold
            simp_all
          · exact hb
        · simp at h1
      · simp at h2
    have hsome : ∃ z, cand[i]? = some z := ⟨_, Array.getElem?_eq_getElem hlt⟩
    obtain ⟨z, hz⟩ := hsome
    cases z with
    | none =>
      refine ⟨_, h, d', .inl ?_, false, #[.bool false], rfl, rfl, hK2 (hnone hz)⟩
      simp only [execOp, ho, hx, Instr.next, Sem.run_bind, Sem.run_pure, Result.andThen_ok, run_getIter c h d blk hi, run_getMap c h d m hm, hall, Bool.false_eq_true, if_false]
      have hz' := hz
      simp only [cand, old, new, left] at hz' hrun
      rw [hrun]
      simp only [Result.andThen_ok, hz', Sem.run_pure]
    | some e =>
      obtain ⟨he, hs⟩ := hmem e hz
      refine ⟨_, _, d', .inl ?_, true, #[.bool true, e.key, e.val], rfl, rfl, hK1 e he hs⟩
      simp only [execOp, ho, hx, Instr.next, Sem.run_bind, Sem.run_pure, Result.andThen_ok, run_getIter c h d blk hi, run_getMap c h d m hm, hall, Bool.false_eq_true, if_false]
      have hz' := hz
      simp only [cand, old, new, left] at hz' hrun
      rw [hrun]
      simp only [Result.andThen_ok, hz', Sem.run_bind, run_setIter c h d' blk hi, Sem.run_pure]
theorem f_extract0 {x : Operand} {i : Nat} {vs : Array Value} {v : Value} (hv : vs[i]? = some v) (ho : o.op = .extract x i) (hx : evE E x = .tuple vs) : PureAt P (execOp (evE E) o) v := f_extract ho hx hv
/-- The entry at which the last step stopped. -/
def Ent {β : Type} (K : Kd β) (kk : IntKind) (it : Addr) (h : H) (y : Int × β) : Prop :=
  it.off = 0 ∧ ∃ m since seen stepped es st e, h[it.block]? = some (.mapIter (some m) since seen stepped) ∧ seen.back? = some st ∧ h[m]? = some (.map es stepped) ∧ es.find? (·.born == st) = some e ∧ e.key = .int kk y.1 ∧ K.dec [e.val] = some y.2
def rdP {α : Type} (p : α → Prop) (K : α → Prop) : Prop := ∃ x, p x ∧ K x
theorem getE_ext {h h' : H} (e : Ext h h') {b : Nat} {ob : Obj} (hb : h[b]? = some ob) : h'[b]? = some ob := by
  have hlt : b < h.size := by
    rcases Nat.lt_or_ge b h.size with hl | hl
    · exact hl
    · simp only [Array.getElem?_eq_none hl] at hb; cases hb
  rw [e.2 b hlt]; exact hb
theorem f_entry {β : Type} {K : Kd β} (hK : K.agg = false) {kk : IntKind} {x : Operand} {it : Addr} {h : H} {y : Int × β} (ho : o.op = .entry x) (hx : evE E x = .pointer (some it)) (hr : Ent K kk it h y) : ReadAt P (execOp (evE E) o) h (.tuple #[.int kk y.1, K.val y.2]) := fun c d h' ex => by
  obtain ⟨h0, m, since, seen, stepped, es, st, e, hi, hst, hm, he, hkey, hz⟩ := hr
  obtain ⟨blk, off, sp⟩ := it
  simp only at h0 hi
  subst h0
  simp only [execOp, ho, hx, Instr.entry, Sem.run_bind, Sem.run_pure, Result.andThen_ok, run_getIter c h' d blk (getE_ext ex hi), hst, run_getMap c h' d m (getE_ext ex hm), bne_self_eq_false, Bool.false_eq_true, if_false, he, hkey, val_of_dec hK hz]
/-- clear(s) -/
def clr (z : List Value) (s : Sl) (h : H) : Option H :=
  match s.a with
  | none => some h
  | some a => if s.len = 0 then some h else wrCells h a (zCells z s.len)
theorem f_clear {t e : TypeId} {zc : List Value} {size bytes : Nat} (ht : P.underlying t = some (.slice e)) (hE : ElemOK P e size bytes zc) {x : Operand} {s : Sl} {h h' : H} (ho : o.op = .call { callee := .builtin .clear, args := #[x], argTypes := #[t] }) (hx : evE E x = s.val) (hc : clr zc s h = some h') :
    RunH P (execOp (evE E) o) h fun v h1 => v = .tuple #[] ∧ h1 = h' := fun c d => by
  refine ⟨_, h', d, .inl ?_, rfl, rfl⟩
  rw [run_call_builtin _ ho]
  obtain ⟨i, z, hi, hz, hzc, hs, hb⟩ := hE.h
  have hzv : ∀ w : World, (zeroValue e).run P w = .ok z w := fun w => by simp [zeroValue, typeInfo, hi, hz]
  unfold clr at hc
  cases ha : s.a with
  | none =>
    rw [ha] at hc; simp at hc; subst hc
    simp [builtin, Builtin.clear_, hx, Sl.val, ha, run_underlying' ht]
  | some a =>
    rw [ha] at hc
    simp only at hc
    by_cases h0 : s.len = 0
    · rw [if_pos h0] at hc; simp at hc; subst hc
      simp [builtin, Builtin.clear_, hx, Sl.val, ha, h0, run_underlying' ht]
    · rw [if_neg h0] at hc
      obtain ⟨n, hn⟩ : ∃ n, s.len = n + 1 := ⟨s.len - 1, by omega⟩
      have h1 := run_storeCells (P := P) c d a (zCells zc s.len) 0 h h' hc
      simp only [builtin, Builtin.clear_, List.map_toArray, List.map_cons, List.map_nil, hx, Sl.val, ha, List.getElem?_toArray, List.getElem?_cons_zero, Sem.run_bind, run_underlying' ht, Result.andThen_ok, hn, hzv, hzc, zeroCells_eq]
      rw [hn] at h1
      simp only [h1, Result.andThen_ok, Sem.run_pure]

/-! arrays of two whole numbers -/
def ar2 (x y : Int) : Ar 2 Int := ⟨[x, y], rfl⟩
def arr2eq (x y : Ar 2 Int) : Bool := x.l == y.l
theorem f_build2 {t e : TypeId} {k : IntKind} {x y : Operand} {z : Value} {a b : Int} (hu : P.underlying t = some (.array 2 e)) (T : TyOK P e 1 false) (hz : (P.info? t).bind (·.zero) = some z) (hz2 : z.cells.size = 2) (ho : o.op = .build t #[(0, x), (1, y)]) (hx : evE E x = .int k a) (hy : evE E y = .int k b) : PureAt P (execOp (evE E) o) (.agg #[.int k a, .int k b]) := fun w => by
  simp only [Option.bind_eq_some_iff] at hz
  obtain ⟨i, hi, hz⟩ := hz
  obtain ⟨cs, hcs⟩ : ∃ cs, z.cells = cs := ⟨_, rfl⟩
  obtain ⟨l, rfl⟩ : ∃ l : List Value, cs = l.toArray := ⟨cs.toList, by simp⟩
  match l with
  | [u, v] =>
    simp only [execOp, ho, Instr.build, zeroValue, typeInfo, Sem.run_bind, run_program, hi, hz, Result.andThen_ok, Sem.run_pure, run_underlying' hu, run_sizeOf T.size, hcs]
    simp [Instr.fill, hx, hy, Value.cells]
  | [] => simp [hcs] at hz2
  | [_] => simp [hcs] at hz2
  | _ :: _ :: _ :: _ => simp [hcs] at hz2
theorem eqIn_arr2 {t e : TypeId} {k : IntKind} (hu : P.underlying t = some (.array 2 e)) (he : P.underlying e = some (.int k)) (T : TyOK P e 1 false) (x y : Ar 2 Int) (d : Nat) (w : World) : (Op.equalIn (d + 2) t (Kd.val (kA 2 (kI k)) x) (Kd.val (kA 2 (kI k)) y)).run P w = .ok (arr2eq x y) w := by
  obtain ⟨l, hl⟩ := x
  obtain ⟨m, hm⟩ := y
  match l, hl, m, hm with
  | [a, b], _, [a', b'], _ =>
    have e1 : Kd.val (kA 2 (kI k)) ⟨[a, b], rfl⟩ = .agg #[.int k a, .int k b] := rfl
    have e2 : Kd.val (kA 2 (kI k)) ⟨[a', b'], rfl⟩ = .agg #[.int k a', .int k b'] := rfl
    have p : ∀ (cs : Array Value) (i : Nat) (v : Value), cs[i]? = some v → (part e cs i).run P w = .ok v w := fun cs i v h => part_one T h w
    rw [e1, e2]
    unfold Op.equalIn
    simp only [Sem.run_bind, run_underlying' hu, Result.andThen_ok, run_sizeOf T.size, Std.Legacy.Range.forIn_eq_forIn_range', Std.Legacy.Range.size]
    simp [List.range', p #[.int k a, .int k b] 0 (.int k a) rfl, p #[.int k a', .int k b'] 0 (.int k a') rfl, p #[.int k a, .int k b] 1 (.int k b) rfl, p #[.int k a', .int k b'] 1 (.int k b') rfl, eqIn_int he d, arr2eq]
    by_cases h1 : a = a'
    · subst h1
      by_cases h2 : b = b'
      · subst h2; simp
      · simp [h2]
    · simp [h1]
theorem f_a2neq {t t' e : TypeId} {k : IntKind} {u v : Operand} {x y : Ar 2 Int} (hu : P.underlying t = some (.array 2 e)) (he : P.underlying e = some (.int k)) (T : TyOK P e 1 false) (hg : P.eqGuardType P.depth t = false) (ho : o.op = .binOp .neq t u v t') (hx : evE E u = Kd.val (kA 2 (kI k)) x) (hy : evE E v = Kd.val (kA 2 (kI k)) y) : PureAt P (execOp (evE E) o) (.bool (!(arr2eq x y))) :=
  f_neqOf ho hx hy (fun w => guard_struct (xs := ((kA 2 (kI k)).enc x).toArray) (ys := ((kA 2 (kI k)).enc y).toArray) hg w) rfl (fun d w => eqIn_arr2 hu he T x y (d + 3) w)
theorem f_a2eql {t t' e : TypeId} {k : IntKind} {u v : Operand} {x y : Ar 2 Int} (hu : P.underlying t = some (.array 2 e)) (he : P.underlying e = some (.int k)) (T : TyOK P e 1 false) (hg : P.eqGuardType P.depth t = false) (ho : o.op = .binOp .eql t u v t') (hx : evE E u = Kd.val (kA 2 (kI k)) x) (hy : evE E v = Kd.val (kA 2 (kI k)) y) : PureAt P (execOp (evE E) o) (.bool (arr2eq x y)) :=
  f_eqlOf ho hx hy (fun w => guard_struct (xs := ((kA 2 (kI k)).enc x).toArray) (ys := ((kA 2 (kI k)).enc y).toArray) hg w) rfl (fun d w => eqIn_arr2 hu he T x y (d + 3) w)
end
end Go.Tr
/- The seat's types as Lean types, and what the program's tables say of them. -/
namespace Go.Proofs.YtomngllmnhdmlaaGreat
open Go Go.Tr
set_option linter.unusedVariables false
theorem mixed : Tryz.prog.follows .mixedOrders = true := by kernel_rfl
/-- struct { what interface {} } -/
structure S112 where
  f0 : IF
def k112 : Kd S112 := kIso (kPair kIf kU) (fun x => (x.f0, ())) (fun x => ⟨x.1⟩) (fun _ => rfl) (fun _ => rfl)
def z112 : S112 := ⟨none⟩
/-- struct { locks int; has []locks.claim; queue []locks.claim } -/
structure S89 where
  f0 : Int
  f1 : Sl
  f2 : Sl
  deriving DecidableEq
def k89 : Kd S89 := kIso (kPair (kI .i64) (kPair kL kL)) (fun x => (x.f0, x.f1, x.f2)) (fun x => ⟨x.1, x.2.1, x.2.2⟩) (fun _ => rfl) (fun _ => rfl)
def z89 : S89 := ⟨0, Sl.nil, Sl.nil⟩
/-- struct {} -/
structure S57 where
  deriving DecidableEq
def k57 : Kd S57 := kIso kU (fun _ => ()) (fun _ => ⟨⟩) (fun _ => rfl) (fun _ => rfl)
def z57 : S57 := ⟨⟩
/-- struct { state int32; sema uint32 } -/
structure S60 where
  f0 : Int
  f1 : Int
  deriving DecidableEq
def k60 : Kd S60 := kIso (kPair (kI .i32) (kI .u32)) (fun x => (x.f0, x.f1)) (fun x => ⟨x.1, x.2⟩) (fun _ => rfl) (fun _ => rfl)
def z60 : S60 := ⟨0, 0⟩
/-- struct { _ sync.noCopy; mu sync.Mutex } -/
structure S62 where
  f0 : S57
  f1 : S60
  deriving DecidableEq
def k62 : Kd S62 := kIso (kPair k57 k60) (fun x => (x.f0, x.f1)) (fun x => ⟨x.1, x.2⟩) (fun _ => rfl) (fun _ => rfl)
def z62 : S62 := ⟨z57, z60⟩
/-- struct { mu sync.Mutex; locks *locks.Manager; tasks []sched.entry } -/
structure S65 where
  f0 : S62
  f1 : Option Addr
  f2 : Sl
  deriving DecidableEq
def k65 : Kd S65 := kIso (kPair k62 (kPair kP kL)) (fun x => (x.f0, x.f1, x.f2)) (fun x => ⟨x.1, x.2.1, x.2.2⟩) (fun _ => rfl) (fun _ => rfl)
def z65 : S65 := ⟨z62, none, Sl.nil⟩
/-- struct { N int; Shared bool } -/
structure S48 where
  f0 : Int
  f1 : Bool
  deriving DecidableEq
def k48 : Kd S48 := kIso (kPair (kI .i64) kB) (fun x => (x.f0, x.f1)) (fun x => ⟨x.1, x.2⟩) (fun _ => rfl) (fun _ => rfl)
def z48 : S48 := ⟨0, false⟩
/-- struct { Kind int; Locks []api.Lock; On int; Wake []int } -/
structure S52 where
  f0 : Int
  f1 : Sl
  f2 : Int
  f3 : Sl
  deriving DecidableEq
def k52 : Kd S52 := kIso (kPair (kI .i64) (kPair kL (kPair (kI .i64) kL))) (fun x => (x.f0, x.f1, x.f2, x.f3)) (fun x => ⟨x.1, x.2.1, x.2.2.1, x.2.2.2⟩) (fun _ => rfl) (fun _ => rfl)
def z52 : S52 := ⟨0, Sl.nil, 0, Sl.nil⟩
/-- struct { Moves []api.Move; Next int } -/
structure S36 where
  f0 : Sl
  f1 : Int
  deriving DecidableEq
def k36 : Kd S36 := kIso (kPair kL (kI .i64)) (fun x => (x.f0, x.f1)) (fun x => ⟨x.1, x.2⟩) (fun _ => rfl) (fun _ => rfl)
def z36 : S36 := ⟨Sl.nil, 0⟩
/-- struct { task sched.Task; state int; on int; fault error } -/
structure S77 where
  f0 : IF
  f1 : Int
  f2 : Int
  f3 : IF
def k77 : Kd S77 := kIso (kPair kIf (kPair (kI .i64) (kPair (kI .i64) kIf))) (fun x => (x.f0, x.f1, x.f2, x.f3)) (fun x => ⟨x.1, x.2.1, x.2.2.1, x.2.2.2⟩) (fun _ => rfl) (fun _ => rfl)
def z77 : S77 := ⟨none, 0, 0, none⟩
/-- struct { task int; set map[int]int } -/
structure S121 where
  f0 : Int
  f1 : Option Nat
  deriving DecidableEq
def k121 : Kd S121 := kIso (kPair (kI .i64) kM) (fun x => (x.f0, x.f1)) (fun x => ⟨x.1, x.2⟩) (fun _ => rfl) (fun _ => rfl)
def z121 : S121 := ⟨0, none⟩
/-- struct { Task int; Why error } -/
structure S141 where
  f0 : Int
  f1 : IF
def k141 : Kd S141 := kIso (kPair (kI .i64) kIf) (fun x => (x.f0, x.f1)) (fun x => ⟨x.1, x.2⟩) (fun _ => rfl) (fun _ => rfl)
def z141 : S141 := ⟨0, none⟩
/-- struct { Locks int; Held []spateref11.Set; Wait []spateref11.Set } -/
structure S92 where
  f0 : Int
  f1 : Sl
  f2 : Sl
  deriving DecidableEq
def k92 : Kd S92 := kIso (kPair (kI .i64) (kPair kL kL)) (fun x => (x.f0, x.f1, x.f2)) (fun x => ⟨x.1, x.2.1, x.2.2⟩) (fun _ => rfl) (fun _ => rfl)
def z92 : S92 := ⟨0, Sl.nil, Sl.nil⟩
/-- struct { L []spateref12.Task; M *spateref11.Manager } -/
structure S71 where
  f0 : Sl
  f1 : Option Addr
  deriving DecidableEq
def k71 : Kd S71 := kIso (kPair kL kP) (fun x => (x.f0, x.f1)) (fun x => ⟨x.1, x.2⟩) (fun _ => rfl) (fun _ => rfl)
def z71 : S71 := ⟨Sl.nil, none⟩
/-- struct { Kind int; N int } -/
structure S40 where
  f0 : Int
  f1 : Int
  deriving DecidableEq
def k40 : Kd S40 := kIso (kPair (kI .i64) (kI .i64)) (fun x => (x.f0, x.f1)) (fun x => ⟨x.1, x.2⟩) (fun _ => rfl) (fun _ => rfl)
def z40 : S40 := ⟨0, 0⟩
/-- struct { Moves []api.Move; Next int; State int; On int; Fault int; Steps int } -/
structure S79 where
  f0 : Sl
  f1 : Int
  f2 : Int
  f3 : Int
  f4 : Int
  f5 : Int
  deriving DecidableEq
def k79 : Kd S79 := kIso (kPair kL (kPair (kI .i64) (kPair (kI .i64) (kPair (kI .i64) (kPair (kI .i64) (kI .i64)))))) (fun x => (x.f0, x.f1, x.f2, x.f3, x.f4, x.f5)) (fun x => ⟨x.1, x.2.1, x.2.2.1, x.2.2.2.1, x.2.2.2.2.1, x.2.2.2.2.2⟩) (fun _ => rfl) (fun _ => rfl)
def z79 : S79 := ⟨Sl.nil, 0, 0, 0, 0, 0⟩
/-- struct { Task int; L []api.Lock } -/
structure S149 where
  f0 : Int
  f1 : Sl
  deriving DecidableEq
def k149 : Kd S149 := kIso (kPair (kI .i64) kL) (fun x => (x.f0, x.f1)) (fun x => ⟨x.1, x.2⟩) (fun _ => rfl) (fun _ => rfl)
def z149 : S149 := ⟨0, Sl.nil⟩
theorem ty3 : TyOK Tryz.prog 3 (kI .i64).n (kI .i64).agg := ⟨by kernel_rfl, by kernel_rfl⟩
theorem zero3 : (Tryz.prog.info? 3).bind (·.zero) = some (.int .i64 0) := by kernel_rfl
theorem ty4 : TyOK Tryz.prog 4 kB.n kB.agg := ⟨by kernel_rfl, by kernel_rfl⟩
theorem zero4 : (Tryz.prog.info? 4).bind (·.zero) = some (.bool false) := by kernel_rfl
theorem ty21 : TyOK Tryz.prog 21 (kI .i32).n (kI .i32).agg := ⟨by kernel_rfl, by kernel_rfl⟩
theorem zero21 : (Tryz.prog.info? 21).bind (·.zero) = some (.int .i32 0) := by kernel_rfl
theorem ty33 : TyOK Tryz.prog 33 kP.n kP.agg := ⟨by kernel_rfl, by kernel_rfl⟩
theorem zero33 : (Tryz.prog.info? 33).bind (·.zero) = some (.pointer none) := by kernel_rfl
theorem ty34 : TyOK Tryz.prog 34 kL.n kL.agg := ⟨by kernel_rfl, by kernel_rfl⟩
theorem zero34 : (Tryz.prog.info? 34).bind (·.zero) = some (.slice none 0 0) := by kernel_rfl
theorem ty41 : TyOK Tryz.prog 41 k40.n k40.agg := ⟨by kernel_rfl, by kernel_rfl⟩
theorem zero41 : (Tryz.prog.info? 41).bind (·.zero) = some (.agg #[.int .i64 0, .int .i64 0]) := by kernel_rfl
theorem ty49 : TyOK Tryz.prog 49 k48.n k48.agg := ⟨by kernel_rfl, by kernel_rfl⟩
theorem zero49 : (Tryz.prog.info? 49).bind (·.zero) = some (.agg #[.int .i64 0, .bool false]) := by kernel_rfl
theorem ty50 : TyOK Tryz.prog 50 kL.n kL.agg := ⟨by kernel_rfl, by kernel_rfl⟩
theorem zero50 : (Tryz.prog.info? 50).bind (·.zero) = some (.slice none 0 0) := by kernel_rfl
theorem ty51 : TyOK Tryz.prog 51 kL.n kL.agg := ⟨by kernel_rfl, by kernel_rfl⟩
theorem zero51 : (Tryz.prog.info? 51).bind (·.zero) = some (.slice none 0 0) := by kernel_rfl
theorem ty53 : TyOK Tryz.prog 53 k52.n k52.agg := ⟨by kernel_rfl, by kernel_rfl⟩
theorem zero53 : (Tryz.prog.info? 53).bind (·.zero) = some (.agg #[.int .i64 0, .slice none 0 0, .int .i64 0, .slice none 0 0]) := by kernel_rfl
theorem ty54 : TyOK Tryz.prog 54 kP.n kP.agg := ⟨by kernel_rfl, by kernel_rfl⟩
theorem zero54 : (Tryz.prog.info? 54).bind (·.zero) = some (.pointer none) := by kernel_rfl
theorem ty64 : TyOK Tryz.prog 64 kL.n kL.agg := ⟨by kernel_rfl, by kernel_rfl⟩
theorem zero64 : (Tryz.prog.info? 64).bind (·.zero) = some (.slice none 0 0) := by kernel_rfl
theorem ty67 : TyOK Tryz.prog 67 kP.n kP.agg := ⟨by kernel_rfl, by kernel_rfl⟩
theorem zero67 : (Tryz.prog.info? 67).bind (·.zero) = some (.pointer none) := by kernel_rfl
theorem ty70 : TyOK Tryz.prog 70 kL.n kL.agg := ⟨by kernel_rfl, by kernel_rfl⟩
theorem zero70 : (Tryz.prog.info? 70).bind (·.zero) = some (.slice none 0 0) := by kernel_rfl
theorem ty74 : TyOK Tryz.prog 74 kIf.n kIf.agg := ⟨by kernel_rfl, by kernel_rfl⟩
theorem zero74 : (Tryz.prog.info? 74).bind (·.zero) = some (.nilIface) := by kernel_rfl
theorem ty76 : TyOK Tryz.prog 76 kIf.n kIf.agg := ⟨by kernel_rfl, by kernel_rfl⟩
theorem zero76 : (Tryz.prog.info? 76).bind (·.zero) = some (.nilIface) := by kernel_rfl
theorem ty78 : TyOK Tryz.prog 78 k77.n k77.agg := ⟨by kernel_rfl, by kernel_rfl⟩
theorem zero78 : (Tryz.prog.info? 78).bind (·.zero) = some (.agg #[.nilIface, .int .i64 0, .int .i64 0, .nilIface]) := by kernel_rfl
theorem ty80 : TyOK Tryz.prog 80 k79.n k79.agg := ⟨by kernel_rfl, by kernel_rfl⟩
theorem zero80 : (Tryz.prog.info? 80).bind (·.zero) = some (.agg #[.slice none 0 0, .int .i64 0, .int .i64 0, .int .i64 0, .int .i64 0, .int .i64 0]) := by kernel_rfl
theorem ty88 : TyOK Tryz.prog 88 kL.n kL.agg := ⟨by kernel_rfl, by kernel_rfl⟩
theorem zero88 : (Tryz.prog.info? 88).bind (·.zero) = some (.slice none 0 0) := by kernel_rfl
theorem ty91 : TyOK Tryz.prog 91 kL.n kL.agg := ⟨by kernel_rfl, by kernel_rfl⟩
theorem zero91 : (Tryz.prog.info? 91).bind (·.zero) = some (.slice none 0 0) := by kernel_rfl
theorem ty111 : TyOK Tryz.prog 111 kP.n kP.agg := ⟨by kernel_rfl, by kernel_rfl⟩
theorem zero111 : (Tryz.prog.info? 111).bind (·.zero) = some (.pointer none) := by kernel_rfl
theorem ty113 : TyOK Tryz.prog 113 k112.n k112.agg := ⟨by kernel_rfl, by kernel_rfl⟩
theorem zero113 : (Tryz.prog.info? 113).bind (·.zero) = some (.agg #[.nilIface]) := by kernel_rfl
theorem ty120 : TyOK Tryz.prog 120 kM.n kM.agg := ⟨by kernel_rfl, by kernel_rfl⟩
theorem zero120 : (Tryz.prog.info? 120).bind (·.zero) = some (.map none) := by kernel_rfl
theorem ty122 : TyOK Tryz.prog 122 k121.n k121.agg := ⟨by kernel_rfl, by kernel_rfl⟩
theorem zero122 : (Tryz.prog.info? 122).bind (·.zero) = some (.agg #[.int .i64 0, .map none]) := by kernel_rfl
theorem ty150 : TyOK Tryz.prog 150 k149.n k149.agg := ⟨by kernel_rfl, by kernel_rfl⟩
theorem zero150 : (Tryz.prog.info? 150).bind (·.zero) = some (.agg #[.int .i64 0, .slice none 0 0]) := by kernel_rfl
theorem ty164 : TyOK Tryz.prog 164 (kA 2 (kI .i64)).n (kA 2 (kI .i64)).agg := ⟨by kernel_rfl, by kernel_rfl⟩
theorem zero164 : (Tryz.prog.info? 164).bind (·.zero) = some (.agg #[.int .i64 0, .int .i64 0]) := by kernel_rfl
theorem el3 : ElemOK Tryz.prog 3 (kI .i64).n 8 (((kI .i64).enc 0)) := ⟨by
  have h : (Tryz.prog.info? 3).map (fun i => (i.zero, i.size, i.bytes)) = some (some (.int .i64 0), (kI .i64).n, 8) := by kernel_rfl
  simp only [Option.map_eq_some_iff, Prod.mk.injEq] at h
  obtain ⟨i, hi, h1, h2, h3⟩ := h
  exact ⟨i, _, hi, h1, by rfl, h2, h3⟩⟩
theorem el33 : ElemOK Tryz.prog 33 kP.n 8 ((kP.enc none)) := ⟨by
  have h : (Tryz.prog.info? 33).map (fun i => (i.zero, i.size, i.bytes)) = some (some (.pointer none), kP.n, 8) := by kernel_rfl
  simp only [Option.map_eq_some_iff, Prod.mk.injEq] at h
  obtain ⟨i, hi, h1, h2, h3⟩ := h
  exact ⟨i, _, hi, h1, by rfl, h2, h3⟩⟩
theorem el49 : ElemOK Tryz.prog 49 k48.n 16 ((k48.enc z48)) := ⟨by
  have h : (Tryz.prog.info? 49).map (fun i => (i.zero, i.size, i.bytes)) = some (some (.agg #[.int .i64 0, .bool false]), k48.n, 16) := by kernel_rfl
  simp only [Option.map_eq_some_iff, Prod.mk.injEq] at h
  obtain ⟨i, hi, h1, h2, h3⟩ := h
  exact ⟨i, _, hi, h1, by rfl, h2, h3⟩⟩
theorem el53 : ElemOK Tryz.prog 53 k52.n 64 ((k52.enc z52)) := ⟨by
  have h : (Tryz.prog.info? 53).map (fun i => (i.zero, i.size, i.bytes)) = some (some (.agg #[.int .i64 0, .slice none 0 0, .int .i64 0, .slice none 0 0]), k52.n, 64) := by kernel_rfl
  simp only [Option.map_eq_some_iff, Prod.mk.injEq] at h
  obtain ⟨i, hi, h1, h2, h3⟩ := h
  exact ⟨i, _, hi, h1, by rfl, h2, h3⟩⟩
theorem el78 : ElemOK Tryz.prog 78 k77.n 48 ((k77.enc z77)) := ⟨by
  have h : (Tryz.prog.info? 78).map (fun i => (i.zero, i.size, i.bytes)) = some (some (.agg #[.nilIface, .int .i64 0, .int .i64 0, .nilIface]), k77.n, 48) := by kernel_rfl
  simp only [Option.map_eq_some_iff, Prod.mk.injEq] at h
  obtain ⟨i, hi, h1, h2, h3⟩ := h
  exact ⟨i, _, hi, h1, by rfl, h2, h3⟩⟩
theorem el80 : ElemOK Tryz.prog 80 k79.n 64 ((k79.enc z79)) := ⟨by
  have h : (Tryz.prog.info? 80).map (fun i => (i.zero, i.size, i.bytes)) = some (some (.agg #[.slice none 0 0, .int .i64 0, .int .i64 0, .int .i64 0, .int .i64 0, .int .i64 0]), k79.n, 64) := by kernel_rfl
  simp only [Option.map_eq_some_iff, Prod.mk.injEq] at h
  obtain ⟨i, hi, h1, h2, h3⟩ := h
  exact ⟨i, _, hi, h1, by rfl, h2, h3⟩⟩
theorem el122 : ElemOK Tryz.prog 122 k121.n 16 ((k121.enc z121)) := ⟨by
  have h : (Tryz.prog.info? 122).map (fun i => (i.zero, i.size, i.bytes)) = some (some (.agg #[.int .i64 0, .map none]), k121.n, 16) := by kernel_rfl
  simp only [Option.map_eq_some_iff, Prod.mk.injEq] at h
  obtain ⟨i, hi, h1, h2, h3⟩ := h
  exact ⟨i, _, hi, h1, by rfl, h2, h3⟩⟩
theorem el150 : ElemOK Tryz.prog 150 k149.n 32 ((k149.enc z149)) := ⟨by
  have h : (Tryz.prog.info? 150).map (fun i => (i.zero, i.size, i.bytes)) = some (some (.agg #[.int .i64 0, .slice none 0 0]), k149.n, 32) := by kernel_rfl
  simp only [Option.map_eq_some_iff, Prod.mk.injEq] at h
  obtain ⟨i, hi, h1, h2, h3⟩ := h
  exact ⟨i, _, hi, h1, by rfl, h2, h3⟩⟩
theorem mt120 : MapTy Tryz.prog 120 3 3 .i64 := ⟨Tryz.underlying120, Tryz.underlying3⟩
theorem fd37_0 : FieldOK Tryz.prog 37 0 0 := ⟨by
  have h : ((Tryz.prog.underlying 37).bind fun | .struct fs => fs[0]? | _ => none).map (fun f => (f.offset, (Tryz.prog.info? f.type).map (·.size))) = some (0, some 1) := by kernel_rfl
  exact field_of h (by decide)⟩
theorem fd37_1 : FieldOK Tryz.prog 37 1 1 := ⟨by
  have h : ((Tryz.prog.underlying 37).bind fun | .struct fs => fs[1]? | _ => none).map (fun f => (f.offset, (Tryz.prog.info? f.type).map (·.size))) = some (1, some 1) := by kernel_rfl
  exact field_of h (by decide)⟩
theorem fd41_0 : FieldOK Tryz.prog 41 0 0 := ⟨by
  have h : ((Tryz.prog.underlying 41).bind fun | .struct fs => fs[0]? | _ => none).map (fun f => (f.offset, (Tryz.prog.info? f.type).map (·.size))) = some (0, some 1) := by kernel_rfl
  exact field_of h (by decide)⟩
theorem fd41_1 : FieldOK Tryz.prog 41 1 1 := ⟨by
  have h : ((Tryz.prog.underlying 41).bind fun | .struct fs => fs[1]? | _ => none).map (fun f => (f.offset, (Tryz.prog.info? f.type).map (·.size))) = some (1, some 1) := by kernel_rfl
  exact field_of h (by decide)⟩
theorem fd49_0 : FieldOK Tryz.prog 49 0 0 := ⟨by
  have h : ((Tryz.prog.underlying 49).bind fun | .struct fs => fs[0]? | _ => none).map (fun f => (f.offset, (Tryz.prog.info? f.type).map (·.size))) = some (0, some 1) := by kernel_rfl
  exact field_of h (by decide)⟩
theorem fd49_1 : FieldOK Tryz.prog 49 1 1 := ⟨by
  have h : ((Tryz.prog.underlying 49).bind fun | .struct fs => fs[1]? | _ => none).map (fun f => (f.offset, (Tryz.prog.info? f.type).map (·.size))) = some (1, some 1) := by kernel_rfl
  exact field_of h (by decide)⟩
theorem fd53_0 : FieldOK Tryz.prog 53 0 0 := ⟨by
  have h : ((Tryz.prog.underlying 53).bind fun | .struct fs => fs[0]? | _ => none).map (fun f => (f.offset, (Tryz.prog.info? f.type).map (·.size))) = some (0, some 1) := by kernel_rfl
  exact field_of h (by decide)⟩
theorem fd53_1 : FieldOK Tryz.prog 53 1 1 := ⟨by
  have h : ((Tryz.prog.underlying 53).bind fun | .struct fs => fs[1]? | _ => none).map (fun f => (f.offset, (Tryz.prog.info? f.type).map (·.size))) = some (1, some 1) := by kernel_rfl
  exact field_of h (by decide)⟩
theorem fd53_2 : FieldOK Tryz.prog 53 2 2 := ⟨by
  have h : ((Tryz.prog.underlying 53).bind fun | .struct fs => fs[2]? | _ => none).map (fun f => (f.offset, (Tryz.prog.info? f.type).map (·.size))) = some (2, some 1) := by kernel_rfl
  exact field_of h (by decide)⟩
theorem fd53_3 : FieldOK Tryz.prog 53 3 3 := ⟨by
  have h : ((Tryz.prog.underlying 53).bind fun | .struct fs => fs[3]? | _ => none).map (fun f => (f.offset, (Tryz.prog.info? f.type).map (·.size))) = some (3, some 1) := by kernel_rfl
  exact field_of h (by decide)⟩
theorem fd61_0 : FieldOK Tryz.prog 61 0 0 := ⟨by
  have h : ((Tryz.prog.underlying 61).bind fun | .struct fs => fs[0]? | _ => none).map (fun f => (f.offset, (Tryz.prog.info? f.type).map (·.size))) = some (0, some 1) := by kernel_rfl
  exact field_of h (by decide)⟩
theorem fd63_1 : FieldOK Tryz.prog 63 1 0 := ⟨by
  have h : ((Tryz.prog.underlying 63).bind fun | .struct fs => fs[1]? | _ => none).map (fun f => (f.offset, (Tryz.prog.info? f.type).map (·.size))) = some (0, some 2) := by kernel_rfl
  exact field_of h (by decide)⟩
theorem fd66_0 : FieldOK Tryz.prog 66 0 0 := ⟨by
  have h : ((Tryz.prog.underlying 66).bind fun | .struct fs => fs[0]? | _ => none).map (fun f => (f.offset, (Tryz.prog.info? f.type).map (·.size))) = some (0, some 2) := by kernel_rfl
  exact field_of h (by decide)⟩
theorem fd66_1 : FieldOK Tryz.prog 66 1 2 := ⟨by
  have h : ((Tryz.prog.underlying 66).bind fun | .struct fs => fs[1]? | _ => none).map (fun f => (f.offset, (Tryz.prog.info? f.type).map (·.size))) = some (2, some 1) := by kernel_rfl
  exact field_of h (by decide)⟩
theorem fd66_2 : FieldOK Tryz.prog 66 2 3 := ⟨by
  have h : ((Tryz.prog.underlying 66).bind fun | .struct fs => fs[2]? | _ => none).map (fun f => (f.offset, (Tryz.prog.info? f.type).map (·.size))) = some (3, some 1) := by kernel_rfl
  exact field_of h (by decide)⟩
theorem fd72_0 : FieldOK Tryz.prog 72 0 0 := ⟨by
  have h : ((Tryz.prog.underlying 72).bind fun | .struct fs => fs[0]? | _ => none).map (fun f => (f.offset, (Tryz.prog.info? f.type).map (·.size))) = some (0, some 1) := by kernel_rfl
  exact field_of h (by decide)⟩
theorem fd72_1 : FieldOK Tryz.prog 72 1 1 := ⟨by
  have h : ((Tryz.prog.underlying 72).bind fun | .struct fs => fs[1]? | _ => none).map (fun f => (f.offset, (Tryz.prog.info? f.type).map (·.size))) = some (1, some 1) := by kernel_rfl
  exact field_of h (by decide)⟩
theorem fd78_0 : FieldOK Tryz.prog 78 0 0 := ⟨by
  have h : ((Tryz.prog.underlying 78).bind fun | .struct fs => fs[0]? | _ => none).map (fun f => (f.offset, (Tryz.prog.info? f.type).map (·.size))) = some (0, some 1) := by kernel_rfl
  exact field_of h (by decide)⟩
theorem fd78_1 : FieldOK Tryz.prog 78 1 1 := ⟨by
  have h : ((Tryz.prog.underlying 78).bind fun | .struct fs => fs[1]? | _ => none).map (fun f => (f.offset, (Tryz.prog.info? f.type).map (·.size))) = some (1, some 1) := by kernel_rfl
  exact field_of h (by decide)⟩
theorem fd78_2 : FieldOK Tryz.prog 78 2 2 := ⟨by
  have h : ((Tryz.prog.underlying 78).bind fun | .struct fs => fs[2]? | _ => none).map (fun f => (f.offset, (Tryz.prog.info? f.type).map (·.size))) = some (2, some 1) := by kernel_rfl
  exact field_of h (by decide)⟩
theorem fd78_3 : FieldOK Tryz.prog 78 3 3 := ⟨by
  have h : ((Tryz.prog.underlying 78).bind fun | .struct fs => fs[3]? | _ => none).map (fun f => (f.offset, (Tryz.prog.info? f.type).map (·.size))) = some (3, some 1) := by kernel_rfl
  exact field_of h (by decide)⟩
theorem fd80_0 : FieldOK Tryz.prog 80 0 0 := ⟨by
  have h : ((Tryz.prog.underlying 80).bind fun | .struct fs => fs[0]? | _ => none).map (fun f => (f.offset, (Tryz.prog.info? f.type).map (·.size))) = some (0, some 1) := by kernel_rfl
  exact field_of h (by decide)⟩
theorem fd80_1 : FieldOK Tryz.prog 80 1 1 := ⟨by
  have h : ((Tryz.prog.underlying 80).bind fun | .struct fs => fs[1]? | _ => none).map (fun f => (f.offset, (Tryz.prog.info? f.type).map (·.size))) = some (1, some 1) := by kernel_rfl
  exact field_of h (by decide)⟩
theorem fd80_2 : FieldOK Tryz.prog 80 2 2 := ⟨by
  have h : ((Tryz.prog.underlying 80).bind fun | .struct fs => fs[2]? | _ => none).map (fun f => (f.offset, (Tryz.prog.info? f.type).map (·.size))) = some (2, some 1) := by kernel_rfl
  exact field_of h (by decide)⟩
theorem fd80_3 : FieldOK Tryz.prog 80 3 3 := ⟨by
  have h : ((Tryz.prog.underlying 80).bind fun | .struct fs => fs[3]? | _ => none).map (fun f => (f.offset, (Tryz.prog.info? f.type).map (·.size))) = some (3, some 1) := by kernel_rfl
  exact field_of h (by decide)⟩
theorem fd80_4 : FieldOK Tryz.prog 80 4 4 := ⟨by
  have h : ((Tryz.prog.underlying 80).bind fun | .struct fs => fs[4]? | _ => none).map (fun f => (f.offset, (Tryz.prog.info? f.type).map (·.size))) = some (4, some 1) := by kernel_rfl
  exact field_of h (by decide)⟩
theorem fd80_5 : FieldOK Tryz.prog 80 5 5 := ⟨by
  have h : ((Tryz.prog.underlying 80).bind fun | .struct fs => fs[5]? | _ => none).map (fun f => (f.offset, (Tryz.prog.info? f.type).map (·.size))) = some (5, some 1) := by kernel_rfl
  exact field_of h (by decide)⟩
theorem fd90_0 : FieldOK Tryz.prog 90 0 0 := ⟨by
  have h : ((Tryz.prog.underlying 90).bind fun | .struct fs => fs[0]? | _ => none).map (fun f => (f.offset, (Tryz.prog.info? f.type).map (·.size))) = some (0, some 1) := by kernel_rfl
  exact field_of h (by decide)⟩
theorem fd90_1 : FieldOK Tryz.prog 90 1 1 := ⟨by
  have h : ((Tryz.prog.underlying 90).bind fun | .struct fs => fs[1]? | _ => none).map (fun f => (f.offset, (Tryz.prog.info? f.type).map (·.size))) = some (1, some 1) := by kernel_rfl
  exact field_of h (by decide)⟩
theorem fd90_2 : FieldOK Tryz.prog 90 2 2 := ⟨by
  have h : ((Tryz.prog.underlying 90).bind fun | .struct fs => fs[2]? | _ => none).map (fun f => (f.offset, (Tryz.prog.info? f.type).map (·.size))) = some (2, some 1) := by kernel_rfl
  exact field_of h (by decide)⟩
theorem fd93_0 : FieldOK Tryz.prog 93 0 0 := ⟨by
  have h : ((Tryz.prog.underlying 93).bind fun | .struct fs => fs[0]? | _ => none).map (fun f => (f.offset, (Tryz.prog.info? f.type).map (·.size))) = some (0, some 1) := by kernel_rfl
  exact field_of h (by decide)⟩
theorem fd93_1 : FieldOK Tryz.prog 93 1 1 := ⟨by
  have h : ((Tryz.prog.underlying 93).bind fun | .struct fs => fs[1]? | _ => none).map (fun f => (f.offset, (Tryz.prog.info? f.type).map (·.size))) = some (1, some 1) := by kernel_rfl
  exact field_of h (by decide)⟩
theorem fd93_2 : FieldOK Tryz.prog 93 2 2 := ⟨by
  have h : ((Tryz.prog.underlying 93).bind fun | .struct fs => fs[2]? | _ => none).map (fun f => (f.offset, (Tryz.prog.info? f.type).map (·.size))) = some (2, some 1) := by kernel_rfl
  exact field_of h (by decide)⟩
theorem fd122_0 : FieldOK Tryz.prog 122 0 0 := ⟨by
  have h : ((Tryz.prog.underlying 122).bind fun | .struct fs => fs[0]? | _ => none).map (fun f => (f.offset, (Tryz.prog.info? f.type).map (·.size))) = some (0, some 1) := by kernel_rfl
  exact field_of h (by decide)⟩
theorem fd122_1 : FieldOK Tryz.prog 122 1 1 := ⟨by
  have h : ((Tryz.prog.underlying 122).bind fun | .struct fs => fs[1]? | _ => none).map (fun f => (f.offset, (Tryz.prog.info? f.type).map (·.size))) = some (1, some 1) := by kernel_rfl
  exact field_of h (by decide)⟩
theorem fd142_1 : FieldOK Tryz.prog 142 1 1 := ⟨by
  have h : ((Tryz.prog.underlying 142).bind fun | .struct fs => fs[1]? | _ => none).map (fun f => (f.offset, (Tryz.prog.info? f.type).map (·.size))) = some (1, some 1) := by kernel_rfl
  exact field_of h (by decide)⟩
theorem fd150_0 : FieldOK Tryz.prog 150 0 0 := ⟨by
  have h : ((Tryz.prog.underlying 150).bind fun | .struct fs => fs[0]? | _ => none).map (fun f => (f.offset, (Tryz.prog.info? f.type).map (·.size))) = some (0, some 1) := by kernel_rfl
  exact field_of h (by decide)⟩
theorem fd150_1 : FieldOK Tryz.prog 150 1 1 := ⟨by
  have h : ((Tryz.prog.underlying 150).bind fun | .struct fs => fs[1]? | _ => none).map (fun f => (f.offset, (Tryz.prog.info? f.type).map (·.size))) = some (1, some 1) := by kernel_rfl
  exact field_of h (by decide)⟩
theorem st112 : StructOK Tryz.prog 112 #[(0, 1)] (k112.enc z112).toArray := ⟨by
  have h : (Tryz.prog.underlying 112).map (fun | .struct fs => fs.toList.map (fun f => (f.offset, (Tryz.prog.info? f.type).map (·.size))) | _ => []) = some [(0, some 1)] := by kernel_rfl
  have hz : (Tryz.prog.info? 112).bind (·.zero) = some (.agg #[.nilIface]) := by kernel_rfl
  exact struct_of h hz (by rfl) (by rfl) ⟨_, Tryz.underlying112⟩⟩
theorem st113 : StructOK Tryz.prog 113 #[(0, 1)] (k112.enc z112).toArray := ⟨by
  have h : (Tryz.prog.underlying 113).map (fun | .struct fs => fs.toList.map (fun f => (f.offset, (Tryz.prog.info? f.type).map (·.size))) | _ => []) = some [(0, some 1)] := by kernel_rfl
  have hz : (Tryz.prog.info? 113).bind (·.zero) = some (.agg #[.nilIface]) := by kernel_rfl
  exact struct_of h hz (by rfl) (by rfl) ⟨_, Tryz.underlying113⟩⟩
theorem st89 : StructOK Tryz.prog 89 #[(0, 1), (1, 1), (2, 1)] (k89.enc z89).toArray := ⟨by
  have h : (Tryz.prog.underlying 89).map (fun | .struct fs => fs.toList.map (fun f => (f.offset, (Tryz.prog.info? f.type).map (·.size))) | _ => []) = some [(0, some 1), (1, some 1), (2, some 1)] := by kernel_rfl
  have hz : (Tryz.prog.info? 89).bind (·.zero) = some (.agg #[.int .i64 0, .slice none 0 0, .slice none 0 0]) := by kernel_rfl
  exact struct_of h hz (by rfl) (by rfl) ⟨_, Tryz.underlying89⟩⟩
theorem st90 : StructOK Tryz.prog 90 #[(0, 1), (1, 1), (2, 1)] (k89.enc z89).toArray := ⟨by
  have h : (Tryz.prog.underlying 90).map (fun | .struct fs => fs.toList.map (fun f => (f.offset, (Tryz.prog.info? f.type).map (·.size))) | _ => []) = some [(0, some 1), (1, some 1), (2, some 1)] := by kernel_rfl
  have hz : (Tryz.prog.info? 90).bind (·.zero) = some (.agg #[.int .i64 0, .slice none 0 0, .slice none 0 0]) := by kernel_rfl
  exact struct_of h hz (by rfl) (by rfl) ⟨_, Tryz.underlying90⟩⟩
theorem st57 : StructOK Tryz.prog 57 #[] (k57.enc z57).toArray := ⟨by
  have h : (Tryz.prog.underlying 57).map (fun | .struct fs => fs.toList.map (fun f => (f.offset, (Tryz.prog.info? f.type).map (·.size))) | _ => []) = some [] := by kernel_rfl
  have hz : (Tryz.prog.info? 57).bind (·.zero) = some (.agg #[]) := by kernel_rfl
  exact struct_of h hz (by rfl) (by rfl) ⟨_, Tryz.underlying57⟩⟩
theorem st58 : StructOK Tryz.prog 58 #[] (k57.enc z57).toArray := ⟨by
  have h : (Tryz.prog.underlying 58).map (fun | .struct fs => fs.toList.map (fun f => (f.offset, (Tryz.prog.info? f.type).map (·.size))) | _ => []) = some [] := by kernel_rfl
  have hz : (Tryz.prog.info? 58).bind (·.zero) = some (.agg #[]) := by kernel_rfl
  exact struct_of h hz (by rfl) (by rfl) ⟨_, Tryz.underlying58⟩⟩
theorem st60 : StructOK Tryz.prog 60 #[(0, 1), (1, 1)] (k60.enc z60).toArray := ⟨by
  have h : (Tryz.prog.underlying 60).map (fun | .struct fs => fs.toList.map (fun f => (f.offset, (Tryz.prog.info? f.type).map (·.size))) | _ => []) = some [(0, some 1), (1, some 1)] := by kernel_rfl
  have hz : (Tryz.prog.info? 60).bind (·.zero) = some (.agg #[.int .i32 0, .int .u32 0]) := by kernel_rfl
  exact struct_of h hz (by rfl) (by rfl) ⟨_, Tryz.underlying60⟩⟩
theorem st61 : StructOK Tryz.prog 61 #[(0, 1), (1, 1)] (k60.enc z60).toArray := ⟨by
  have h : (Tryz.prog.underlying 61).map (fun | .struct fs => fs.toList.map (fun f => (f.offset, (Tryz.prog.info? f.type).map (·.size))) | _ => []) = some [(0, some 1), (1, some 1)] := by kernel_rfl
  have hz : (Tryz.prog.info? 61).bind (·.zero) = some (.agg #[.int .i32 0, .int .u32 0]) := by kernel_rfl
  exact struct_of h hz (by rfl) (by rfl) ⟨_, Tryz.underlying61⟩⟩
theorem st62 : StructOK Tryz.prog 62 #[(0, 0), (0, 2)] (k62.enc z62).toArray := ⟨by
  have h : (Tryz.prog.underlying 62).map (fun | .struct fs => fs.toList.map (fun f => (f.offset, (Tryz.prog.info? f.type).map (·.size))) | _ => []) = some [(0, some 0), (0, some 2)] := by kernel_rfl
  have hz : (Tryz.prog.info? 62).bind (·.zero) = some (.agg #[.int .i32 0, .int .u32 0]) := by kernel_rfl
  exact struct_of h hz (by rfl) (by rfl) ⟨_, Tryz.underlying62⟩⟩
theorem st63 : StructOK Tryz.prog 63 #[(0, 0), (0, 2)] (k62.enc z62).toArray := ⟨by
  have h : (Tryz.prog.underlying 63).map (fun | .struct fs => fs.toList.map (fun f => (f.offset, (Tryz.prog.info? f.type).map (·.size))) | _ => []) = some [(0, some 0), (0, some 2)] := by kernel_rfl
  have hz : (Tryz.prog.info? 63).bind (·.zero) = some (.agg #[.int .i32 0, .int .u32 0]) := by kernel_rfl
  exact struct_of h hz (by rfl) (by rfl) ⟨_, Tryz.underlying63⟩⟩
theorem st65 : StructOK Tryz.prog 65 #[(0, 2), (2, 1), (3, 1)] (k65.enc z65).toArray := ⟨by
  have h : (Tryz.prog.underlying 65).map (fun | .struct fs => fs.toList.map (fun f => (f.offset, (Tryz.prog.info? f.type).map (·.size))) | _ => []) = some [(0, some 2), (2, some 1), (3, some 1)] := by kernel_rfl
  have hz : (Tryz.prog.info? 65).bind (·.zero) = some (.agg #[.int .i32 0, .int .u32 0, .pointer none, .slice none 0 0]) := by kernel_rfl
  exact struct_of h hz (by rfl) (by rfl) ⟨_, Tryz.underlying65⟩⟩
theorem st66 : StructOK Tryz.prog 66 #[(0, 2), (2, 1), (3, 1)] (k65.enc z65).toArray := ⟨by
  have h : (Tryz.prog.underlying 66).map (fun | .struct fs => fs.toList.map (fun f => (f.offset, (Tryz.prog.info? f.type).map (·.size))) | _ => []) = some [(0, some 2), (2, some 1), (3, some 1)] := by kernel_rfl
  have hz : (Tryz.prog.info? 66).bind (·.zero) = some (.agg #[.int .i32 0, .int .u32 0, .pointer none, .slice none 0 0]) := by kernel_rfl
  exact struct_of h hz (by rfl) (by rfl) ⟨_, Tryz.underlying66⟩⟩
theorem st48 : StructOK Tryz.prog 48 #[(0, 1), (1, 1)] (k48.enc z48).toArray := ⟨by
  have h : (Tryz.prog.underlying 48).map (fun | .struct fs => fs.toList.map (fun f => (f.offset, (Tryz.prog.info? f.type).map (·.size))) | _ => []) = some [(0, some 1), (1, some 1)] := by kernel_rfl
  have hz : (Tryz.prog.info? 48).bind (·.zero) = some (.agg #[.int .i64 0, .bool false]) := by kernel_rfl
  exact struct_of h hz (by rfl) (by rfl) ⟨_, Tryz.underlying48⟩⟩
theorem st49 : StructOK Tryz.prog 49 #[(0, 1), (1, 1)] (k48.enc z48).toArray := ⟨by
  have h : (Tryz.prog.underlying 49).map (fun | .struct fs => fs.toList.map (fun f => (f.offset, (Tryz.prog.info? f.type).map (·.size))) | _ => []) = some [(0, some 1), (1, some 1)] := by kernel_rfl
  have hz : (Tryz.prog.info? 49).bind (·.zero) = some (.agg #[.int .i64 0, .bool false]) := by kernel_rfl
  exact struct_of h hz (by rfl) (by rfl) ⟨_, Tryz.underlying49⟩⟩
theorem st52 : StructOK Tryz.prog 52 #[(0, 1), (1, 1), (2, 1), (3, 1)] (k52.enc z52).toArray := ⟨by
  have h : (Tryz.prog.underlying 52).map (fun | .struct fs => fs.toList.map (fun f => (f.offset, (Tryz.prog.info? f.type).map (·.size))) | _ => []) = some [(0, some 1), (1, some 1), (2, some 1), (3, some 1)] := by kernel_rfl
  have hz : (Tryz.prog.info? 52).bind (·.zero) = some (.agg #[.int .i64 0, .slice none 0 0, .int .i64 0, .slice none 0 0]) := by kernel_rfl
  exact struct_of h hz (by rfl) (by rfl) ⟨_, Tryz.underlying52⟩⟩
theorem st53 : StructOK Tryz.prog 53 #[(0, 1), (1, 1), (2, 1), (3, 1)] (k52.enc z52).toArray := ⟨by
  have h : (Tryz.prog.underlying 53).map (fun | .struct fs => fs.toList.map (fun f => (f.offset, (Tryz.prog.info? f.type).map (·.size))) | _ => []) = some [(0, some 1), (1, some 1), (2, some 1), (3, some 1)] := by kernel_rfl
  have hz : (Tryz.prog.info? 53).bind (·.zero) = some (.agg #[.int .i64 0, .slice none 0 0, .int .i64 0, .slice none 0 0]) := by kernel_rfl
  exact struct_of h hz (by rfl) (by rfl) ⟨_, Tryz.underlying53⟩⟩
theorem st36 : StructOK Tryz.prog 36 #[(0, 1), (1, 1)] (k36.enc z36).toArray := ⟨by
  have h : (Tryz.prog.underlying 36).map (fun | .struct fs => fs.toList.map (fun f => (f.offset, (Tryz.prog.info? f.type).map (·.size))) | _ => []) = some [(0, some 1), (1, some 1)] := by kernel_rfl
  have hz : (Tryz.prog.info? 36).bind (·.zero) = some (.agg #[.slice none 0 0, .int .i64 0]) := by kernel_rfl
  exact struct_of h hz (by rfl) (by rfl) ⟨_, Tryz.underlying36⟩⟩
theorem st37 : StructOK Tryz.prog 37 #[(0, 1), (1, 1)] (k36.enc z36).toArray := ⟨by
  have h : (Tryz.prog.underlying 37).map (fun | .struct fs => fs.toList.map (fun f => (f.offset, (Tryz.prog.info? f.type).map (·.size))) | _ => []) = some [(0, some 1), (1, some 1)] := by kernel_rfl
  have hz : (Tryz.prog.info? 37).bind (·.zero) = some (.agg #[.slice none 0 0, .int .i64 0]) := by kernel_rfl
  exact struct_of h hz (by rfl) (by rfl) ⟨_, Tryz.underlying37⟩⟩
theorem st77 : StructOK Tryz.prog 77 #[(0, 1), (1, 1), (2, 1), (3, 1)] (k77.enc z77).toArray := ⟨by
  have h : (Tryz.prog.underlying 77).map (fun | .struct fs => fs.toList.map (fun f => (f.offset, (Tryz.prog.info? f.type).map (·.size))) | _ => []) = some [(0, some 1), (1, some 1), (2, some 1), (3, some 1)] := by kernel_rfl
  have hz : (Tryz.prog.info? 77).bind (·.zero) = some (.agg #[.nilIface, .int .i64 0, .int .i64 0, .nilIface]) := by kernel_rfl
  exact struct_of h hz (by rfl) (by rfl) ⟨_, Tryz.underlying77⟩⟩
theorem st78 : StructOK Tryz.prog 78 #[(0, 1), (1, 1), (2, 1), (3, 1)] (k77.enc z77).toArray := ⟨by
  have h : (Tryz.prog.underlying 78).map (fun | .struct fs => fs.toList.map (fun f => (f.offset, (Tryz.prog.info? f.type).map (·.size))) | _ => []) = some [(0, some 1), (1, some 1), (2, some 1), (3, some 1)] := by kernel_rfl
  have hz : (Tryz.prog.info? 78).bind (·.zero) = some (.agg #[.nilIface, .int .i64 0, .int .i64 0, .nilIface]) := by kernel_rfl
  exact struct_of h hz (by rfl) (by rfl) ⟨_, Tryz.underlying78⟩⟩
theorem st121 : StructOK Tryz.prog 121 #[(0, 1), (1, 1)] (k121.enc z121).toArray := ⟨by
  have h : (Tryz.prog.underlying 121).map (fun | .struct fs => fs.toList.map (fun f => (f.offset, (Tryz.prog.info? f.type).map (·.size))) | _ => []) = some [(0, some 1), (1, some 1)] := by kernel_rfl
  have hz : (Tryz.prog.info? 121).bind (·.zero) = some (.agg #[.int .i64 0, .map none]) := by kernel_rfl
  exact struct_of h hz (by rfl) (by rfl) ⟨_, Tryz.underlying121⟩⟩
theorem st122 : StructOK Tryz.prog 122 #[(0, 1), (1, 1)] (k121.enc z121).toArray := ⟨by
  have h : (Tryz.prog.underlying 122).map (fun | .struct fs => fs.toList.map (fun f => (f.offset, (Tryz.prog.info? f.type).map (·.size))) | _ => []) = some [(0, some 1), (1, some 1)] := by kernel_rfl
  have hz : (Tryz.prog.info? 122).bind (·.zero) = some (.agg #[.int .i64 0, .map none]) := by kernel_rfl
  exact struct_of h hz (by rfl) (by rfl) ⟨_, Tryz.underlying122⟩⟩
theorem st141 : StructOK Tryz.prog 141 #[(0, 1), (1, 1)] (k141.enc z141).toArray := ⟨by
  have h : (Tryz.prog.underlying 141).map (fun | .struct fs => fs.toList.map (fun f => (f.offset, (Tryz.prog.info? f.type).map (·.size))) | _ => []) = some [(0, some 1), (1, some 1)] := by kernel_rfl
  have hz : (Tryz.prog.info? 141).bind (·.zero) = some (.agg #[.int .i64 0, .nilIface]) := by kernel_rfl
  exact struct_of h hz (by rfl) (by rfl) ⟨_, Tryz.underlying141⟩⟩
theorem st142 : StructOK Tryz.prog 142 #[(0, 1), (1, 1)] (k141.enc z141).toArray := ⟨by
  have h : (Tryz.prog.underlying 142).map (fun | .struct fs => fs.toList.map (fun f => (f.offset, (Tryz.prog.info? f.type).map (·.size))) | _ => []) = some [(0, some 1), (1, some 1)] := by kernel_rfl
  have hz : (Tryz.prog.info? 142).bind (·.zero) = some (.agg #[.int .i64 0, .nilIface]) := by kernel_rfl
  exact struct_of h hz (by rfl) (by rfl) ⟨_, Tryz.underlying142⟩⟩
theorem st92 : StructOK Tryz.prog 92 #[(0, 1), (1, 1), (2, 1)] (k92.enc z92).toArray := ⟨by
  have h : (Tryz.prog.underlying 92).map (fun | .struct fs => fs.toList.map (fun f => (f.offset, (Tryz.prog.info? f.type).map (·.size))) | _ => []) = some [(0, some 1), (1, some 1), (2, some 1)] := by kernel_rfl
  have hz : (Tryz.prog.info? 92).bind (·.zero) = some (.agg #[.int .i64 0, .slice none 0 0, .slice none 0 0]) := by kernel_rfl
  exact struct_of h hz (by rfl) (by rfl) ⟨_, Tryz.underlying92⟩⟩
theorem st93 : StructOK Tryz.prog 93 #[(0, 1), (1, 1), (2, 1)] (k92.enc z92).toArray := ⟨by
  have h : (Tryz.prog.underlying 93).map (fun | .struct fs => fs.toList.map (fun f => (f.offset, (Tryz.prog.info? f.type).map (·.size))) | _ => []) = some [(0, some 1), (1, some 1), (2, some 1)] := by kernel_rfl
  have hz : (Tryz.prog.info? 93).bind (·.zero) = some (.agg #[.int .i64 0, .slice none 0 0, .slice none 0 0]) := by kernel_rfl
  exact struct_of h hz (by rfl) (by rfl) ⟨_, Tryz.underlying93⟩⟩
theorem st71 : StructOK Tryz.prog 71 #[(0, 1), (1, 1)] (k71.enc z71).toArray := ⟨by
  have h : (Tryz.prog.underlying 71).map (fun | .struct fs => fs.toList.map (fun f => (f.offset, (Tryz.prog.info? f.type).map (·.size))) | _ => []) = some [(0, some 1), (1, some 1)] := by kernel_rfl
  have hz : (Tryz.prog.info? 71).bind (·.zero) = some (.agg #[.slice none 0 0, .pointer none]) := by kernel_rfl
  exact struct_of h hz (by rfl) (by rfl) ⟨_, Tryz.underlying71⟩⟩
theorem st72 : StructOK Tryz.prog 72 #[(0, 1), (1, 1)] (k71.enc z71).toArray := ⟨by
  have h : (Tryz.prog.underlying 72).map (fun | .struct fs => fs.toList.map (fun f => (f.offset, (Tryz.prog.info? f.type).map (·.size))) | _ => []) = some [(0, some 1), (1, some 1)] := by kernel_rfl
  have hz : (Tryz.prog.info? 72).bind (·.zero) = some (.agg #[.slice none 0 0, .pointer none]) := by kernel_rfl
  exact struct_of h hz (by rfl) (by rfl) ⟨_, Tryz.underlying72⟩⟩
theorem st40 : StructOK Tryz.prog 40 #[(0, 1), (1, 1)] (k40.enc z40).toArray := ⟨by
  have h : (Tryz.prog.underlying 40).map (fun | .struct fs => fs.toList.map (fun f => (f.offset, (Tryz.prog.info? f.type).map (·.size))) | _ => []) = some [(0, some 1), (1, some 1)] := by kernel_rfl
  have hz : (Tryz.prog.info? 40).bind (·.zero) = some (.agg #[.int .i64 0, .int .i64 0]) := by kernel_rfl
  exact struct_of h hz (by rfl) (by rfl) ⟨_, Tryz.underlying40⟩⟩
theorem st41 : StructOK Tryz.prog 41 #[(0, 1), (1, 1)] (k40.enc z40).toArray := ⟨by
  have h : (Tryz.prog.underlying 41).map (fun | .struct fs => fs.toList.map (fun f => (f.offset, (Tryz.prog.info? f.type).map (·.size))) | _ => []) = some [(0, some 1), (1, some 1)] := by kernel_rfl
  have hz : (Tryz.prog.info? 41).bind (·.zero) = some (.agg #[.int .i64 0, .int .i64 0]) := by kernel_rfl
  exact struct_of h hz (by rfl) (by rfl) ⟨_, Tryz.underlying41⟩⟩
theorem st79 : StructOK Tryz.prog 79 #[(0, 1), (1, 1), (2, 1), (3, 1), (4, 1), (5, 1)] (k79.enc z79).toArray := ⟨by
  have h : (Tryz.prog.underlying 79).map (fun | .struct fs => fs.toList.map (fun f => (f.offset, (Tryz.prog.info? f.type).map (·.size))) | _ => []) = some [(0, some 1), (1, some 1), (2, some 1), (3, some 1), (4, some 1), (5, some 1)] := by kernel_rfl
  have hz : (Tryz.prog.info? 79).bind (·.zero) = some (.agg #[.slice none 0 0, .int .i64 0, .int .i64 0, .int .i64 0, .int .i64 0, .int .i64 0]) := by kernel_rfl
  exact struct_of h hz (by rfl) (by rfl) ⟨_, Tryz.underlying79⟩⟩
theorem st80 : StructOK Tryz.prog 80 #[(0, 1), (1, 1), (2, 1), (3, 1), (4, 1), (5, 1)] (k79.enc z79).toArray := ⟨by
  have h : (Tryz.prog.underlying 80).map (fun | .struct fs => fs.toList.map (fun f => (f.offset, (Tryz.prog.info? f.type).map (·.size))) | _ => []) = some [(0, some 1), (1, some 1), (2, some 1), (3, some 1), (4, some 1), (5, some 1)] := by kernel_rfl
  have hz : (Tryz.prog.info? 80).bind (·.zero) = some (.agg #[.slice none 0 0, .int .i64 0, .int .i64 0, .int .i64 0, .int .i64 0, .int .i64 0]) := by kernel_rfl
  exact struct_of h hz (by rfl) (by rfl) ⟨_, Tryz.underlying80⟩⟩
theorem st149 : StructOK Tryz.prog 149 #[(0, 1), (1, 1)] (k149.enc z149).toArray := ⟨by
  have h : (Tryz.prog.underlying 149).map (fun | .struct fs => fs.toList.map (fun f => (f.offset, (Tryz.prog.info? f.type).map (·.size))) | _ => []) = some [(0, some 1), (1, some 1)] := by kernel_rfl
  have hz : (Tryz.prog.info? 149).bind (·.zero) = some (.agg #[.int .i64 0, .slice none 0 0]) := by kernel_rfl
  exact struct_of h hz (by rfl) (by rfl) ⟨_, Tryz.underlying149⟩⟩
theorem st150 : StructOK Tryz.prog 150 #[(0, 1), (1, 1)] (k149.enc z149).toArray := ⟨by
  have h : (Tryz.prog.underlying 150).map (fun | .struct fs => fs.toList.map (fun f => (f.offset, (Tryz.prog.info? f.type).map (·.size))) | _ => []) = some [(0, some 1), (1, some 1)] := by kernel_rfl
  have hz : (Tryz.prog.info? 150).bind (·.zero) = some (.agg #[.int .i64 0, .slice none 0 0]) := by kernel_rfl
  exact struct_of h hz (by rfl) (by rfl) ⟨_, Tryz.underlying150⟩⟩
end Go.Proofs.YtomngllmnhdmlaaGreat
/- spate/locks.New, as a predicate over the heap, and that the code comes to it. Printed by gen.py. -/
namespace Go.Proofs.YtomngllmnhdmlaaGreat
open Go Go.Tr
set_option linter.unusedVariables false
set_option maxRecDepth 100000
set_option maxHeartbeats 400000
/-- spate/locks.New -/
def locks_New (a0 : Int) (h : H) (Q : ((Option Addr) × Int) → H → Prop) : Prop :=
  jn (fun (k1 : Bool → H → Prop) =>
    if (decide (a0 < 1)) = true then
      k1 true h
    else
      k1 (decide (a0 > 1024)) h) fun s1 h1 =>
  if s1 = true then
    Q (none, 1) h1
  else
    al 90 (k89.enc (S89.mk a0 Sl.nil Sl.nil)) h1 fun q1 h2 =>
    Q ((some q1), 0) h2
theorem locks_New.sound {a0 : Int} {h : H} {Q : ((Option Addr) × Int) → H → Prop} (hF : locks_New a0 h Q) :
    CallsH Tryz.prog 19 (List.toArray (α := Value) [.int .i64 a0]) h fun v h' => ∃ x : (Option Addr) × Int, v = .tuple #[.pointer x.1, .int .i64 x.2] ∧ Q x h' := by
  refine CallsH.of_body Tryz.func19 rfl 13 rfl rfl ?_
  refine WP.seq ?_
  refine WP.region ?_
  refine EvK.pure (v := .pointer none) (w_none rfl) rfl rfl (f_assign rfl rfl) ?_
  refine EvK.pure (v := .int .i64 0) (w_none rfl) rfl rfl (f_assign rfl rfl) ?_
  refine EvK.nil ?_
  refine WP.seq ?_
  refine WP.joinF (fun (s1 : Bool) => [(9, .bool s1), (0, .int .i64 a0)]) hF ?_ ?_
  · intro s1 E0 h1 hF
    rcases ite_inv hF with ⟨c1, hF⟩ | ⟨c1, hF⟩
    · refine WP.cond_true _ rfl c1 ?_
      refine WP.seq ?_
      refine WP.region ?_
      refine EvK.pure (v := .pointer none) (w_none rfl) rfl rfl (f_assign rfl rfl) ?_
      refine EvK.pure (v := .int .i64 1) (w_none rfl) rfl rfl (f_assign rfl rfl) ?_
      refine EvK.nil ?_
      refine WP.ret ?_
      exact Ret.mk (vs := [.pointer none, .int .i64 1]) (none, 1) ⟨rfl, rfl, trivial⟩ rfl hF
    · refine WP.cond_false _ rfl c1 ?_
      refine WP.skip ?_
      refine WP.seq ?_
      refine WP.region ?_
      refine EvK.pure (v := .int .i64 a0) (w_none rfl) rfl rfl (f_move rfl rfl) ?_
      refine EvK.pure (v := k89.val (S89.mk a0 Sl.nil Sl.nil)) (w_none rfl) rfl rfl (f_build (cells := k89.enc (S89.mk a0 Sl.nil Sl.nil)) st90 rfl rfl rfl) ?_
      refine EvK.alloc (w_none rfl) rfl rfl (f_boxF (v := k89.val (S89.mk a0 Sl.nil Sl.nil)) rfl rfl rfl hF) ?_
      rintro _ h2 ⟨q1, rfl, hF⟩
      refine EvK.pure (v := .pointer (some q1)) (w_none rfl) rfl rfl (f_assign rfl rfl) ?_
      refine EvK.pure (v := .int .i64 0) (w_none rfl) rfl rfl (f_assign rfl rfl) ?_
      refine EvK.nil ?_
      refine WP.ret ?_
      exact Ret.mk (vs := [.pointer (some q1), .int .i64 0]) ((some q1), 0) ⟨rfl, rfl, trivial⟩ rfl hF
  · intro k1 hF
    refine WP.region ?_
    refine EvK.pure (v := .int .i64 a0) (w_none rfl) rfl rfl (f_move rfl rfl) ?_
    refine EvK.pure (v := .bool (decide (a0 < 1))) (w_none rfl) rfl rfl (f_lss rfl rfl rfl) ?_
    refine EvK.pure (v := .bool (decide (a0 < 1))) (w_none rfl) rfl rfl (f_move rfl rfl) ?_
    rcases ite_inv hF with ⟨c2, hF⟩ | ⟨c2, hF⟩
    · refine EvK.not (w_not rfl rfl c2) rfl rfl ?_
      refine EvK.not (w_not rfl rfl c2) rfl rfl ?_
      refine EvK.pure (v := .bool true) (w_none rfl) rfl rfl (f_pickT rfl rfl c2 rfl) ?_
      refine EvK.nil ?_
      exact KE.mk true ⟨rfl, rfl, trivial⟩ hF
    · refine EvK.pure (v := .int .i64 a0) (w_some rfl rfl c2) rfl rfl (f_move rfl rfl) ?_
      refine EvK.pure (v := .bool (decide (a0 > 1024))) (w_some rfl rfl c2) rfl rfl (f_gtr rfl rfl rfl) ?_
      refine EvK.pure (v := .bool (decide (a0 > 1024))) (w_none rfl) rfl rfl (f_pickF rfl rfl c2 rfl) ?_
      refine EvK.nil ?_
      exact KE.mk (decide (a0 > 1024)) ⟨rfl, rfl, trivial⟩ hF
end Go.Proofs.YtomngllmnhdmlaaGreat
/- slices.IndexFunc[[]spate/locks.claim,spate/locks.claim], as a predicate over the heap, and that the code comes to it. Printed by gen.py. -/
namespace Go.Proofs.YtomngllmnhdmlaaGreat
open Go Go.Tr
set_option linter.unusedVariables false
set_option maxRecDepth 100000
set_option maxHeartbeats 400000
def slices_IndexFunc___locks_claim_locks_claim_.b1 (p0 : Sl) (p1 : FV) (p7 : Int) (s : Int) (h : H) (K : Int ⊕ (Unit ⊕ Int) → H → Prop) : Prop :=
  if (decide (s < p7)) = true then
    rd (ixA 2 p0 s) fun q1 =>
    rd (ld k121 q1 h) fun x1 =>
    apF Tryz.prog p1 [k121.val x1] h fun v1 h2 => ∃ r1 : Bool, v1 = .bool r1 ∧
    if r1 = true then
      K (.inr (.inr s)) h2
    else
      K (.inl (IntKind.i64.wrap (s + 1))) h2
  else
    K (.inr (.inl ())) h
/-- slices.IndexFunc[[]spate/locks.claim,spate/locks.claim] -/
def slices_IndexFunc___locks_claim_locks_claim_ (a0 : Sl) (a1 : FV) (h : H) (Q : Int → H → Prop) : Prop :=
  jn (fun (k1 : Unit → H → Prop) =>
    loopE (slices_IndexFunc___locks_claim_locks_claim_.b1 a0 a1 (a0.len : Int)) 0 h (sumK (fun r2 hh => k1 r2 hh) (fun r3 hh => Q r3 hh))) fun s1 h1 =>
  Q (-1) h1
theorem slices_IndexFunc___locks_claim_locks_claim_.sound {a0 : Sl} {a1 : FV} {h : H} {Q : Int → H → Prop} (hF : slices_IndexFunc___locks_claim_locks_claim_ a0 a1 h Q) :
    CallsH Tryz.prog 74 (List.toArray (α := Value) [Sl.val a0, FV.val a1]) h fun v h' => ∃ x : Int, v = .int .i64 x ∧ Q x h' := by
  refine CallsH.of_body Tryz.func74 rfl 19 rfl rfl ?_
  refine WP.seq ?_
  refine WP.region ?_
  refine EvK.pure (v := .int .i64 0) (w_none rfl) rfl rfl (f_assign rfl rfl) ?_
  refine EvK.nil ?_
  refine WP.joinF (fun (s1 : Unit) => []) hF ?_ ?_
  · intro s1 E0 h1 hF
    refine WP.seq ?_
    refine WP.region ?_
    refine EvK.pure (v := .int .i64 (-1)) (w_none rfl) rfl rfl (f_assign rfl rfl) ?_
    refine EvK.nil ?_
    refine WP.ret ?_
    exact Ret.mk (vs := [.int .i64 (-1)]) (-1) ⟨rfl, trivial⟩ rfl hF
  · intro k1 hF
    refine WP.seq ?_
    refine WP.region ?_
    refine EvK.pure (v := Sl.val a0) (w_none rfl) rfl rfl (f_move rfl rfl) ?_
    refine EvK.pure (v := .int .i64 (a0.len : Int)) (w_none rfl) rfl rfl (f_lenL (s := a0) Tryz.underlying88 rfl rfl) ?_
    refine EvK.pure (v := .int .i64 0) (w_none rfl) rfl rfl (f_move rfl rfl) ?_
    refine EvK.nil ?_
    refine WP.block ?_
    refine WP.loopF (fun (s2 : Int) => [(8, .int .i64 s2), (0, Sl.val a0), (1, FV.val a1), (7, .int .i64 (a0.len : Int))]) hF ⟨rfl, rfl, rfl, rfl, trivial⟩ ?_
    intro k2 s2 E0 h2 hF
    refine WP.seq ?_
    refine WP.region ?_
    refine EvK.pure (v := .bool (decide (s2 < (a0.len : Int)))) (w_none rfl) rfl rfl (f_lss rfl rfl rfl) ?_
    refine EvK.nil ?_
    refine WP.seq ?_
    rcases ite_inv hF with ⟨c1, hF⟩ | ⟨c1, hF⟩
    · refine WP.cond_true _ rfl c1 ?_
      refine WP.skip ?_
      refine WP.seq ?_
      refine WP.block ?_
      refine WP.seq ?_
      refine WP.region ?_
      refine EvK.pure (v := .int .i64 s2) (w_none rfl) rfl rfl (f_move rfl rfl) ?_
      refine EvK.pure (v := .int .i64 s2) (w_none rfl) rfl rfl (f_assign rfl rfl) ?_
      refine EvK.nil ?_
      refine WP.seq ?_
      refine WP.region ?_
      refine EvK.pure (v := FV.val a1) (w_none rfl) rfl rfl (f_move rfl rfl) ?_
      refine EvK.pure (v := Sl.val a0) (w_none rfl) rfl rfl (f_move rfl rfl) ?_
      refine EvK.pure (v := .int .i64 s2) (w_none rfl) rfl rfl (f_move rfl rfl) ?_
      obtain ⟨q1, hq1, hF⟩ := hF
      refine EvK.pure (v := .pointer (some q1)) (w_none rfl) rfl rfl (f_indexAddr (s := a0) Tryz.underlying88 ty122.size rfl rfl rfl hq1) ?_
      obtain ⟨x1, hx1, hF⟩ := hF
      refine EvK.read (v := k121.val x1) (w_none rfl) rfl rfl (f_load k121 ty122 rfl rfl hx1 rfl) ?_
      refine EvK.call (w_none rfl) rfl rfl (f_callV (f := a1) (vs := [k121.val x1]) rfl rfl rfl hF) ?_
      rintro _ h3 ⟨r1, rfl, hF⟩
      refine EvK.nil ?_
      rcases ite_inv hF with ⟨c2, hF⟩ | ⟨c2, hF⟩
      · refine WP.cond_true _ rfl c2 ?_
        refine WP.seq ?_
        refine WP.region ?_
        refine EvK.pure (v := .int .i64 s2) (w_none rfl) rfl rfl (f_move rfl rfl) ?_
        refine EvK.pure (v := .int .i64 s2) (w_none rfl) rfl rfl (f_assign rfl rfl) ?_
        refine EvK.nil ?_
        refine WP.ret ?_
        exact Ret.mk (vs := [.int .i64 s2]) s2 ⟨rfl, trivial⟩ rfl hF
      · refine WP.cond_false _ rfl c2 ?_
        refine WP.skip ?_
        refine WP.region ?_
        refine EvK.pure (v := .int .i64 (IntKind.i64.wrap (s2 + 1))) (w_none rfl) rfl rfl (f_add rfl rfl rfl) ?_
        refine EvK.pure (v := .int .i64 (IntKind.i64.wrap (s2 + 1))) (w_none rfl) rfl rfl (f_move rfl rfl) ?_
        refine EvK.nil ?_
        exact KE.mk (IntKind.i64.wrap (s2 + 1)) ⟨rfl, rfl, rfl, rfl, trivial⟩ hF
    · refine WP.cond_false _ rfl c1 ?_
      refine WP.exit ?_
      exact KE.mk () trivial hF
end Go.Proofs.YtomngllmnhdmlaaGreat
/- spate/locks.find$1, as a predicate over the heap, and that the code comes to it. Printed by gen.py. -/
namespace Go.Proofs.YtomngllmnhdmlaaGreat
open Go Go.Tr
set_option linter.unusedVariables false
set_option maxRecDepth 100000
set_option maxHeartbeats 400000
/-- spate/locks.find$1 -/
def locks_find_1 (a0 : S121) (f0 : Addr) (h : H) (Q : Bool → H → Prop) : Prop :=
  al 122 (k121.enc a0) h fun q1 h1 =>
  rd (ld (kI .i64) (q1.add 0) h1) fun x1 =>
  rd (ld (kI .i64) f0 h1) fun x2 =>
  Q (x1 == x2) h1
theorem locks_find_1.sound {a0 : S121} {f0 : Addr} {h : H} {Q : Bool → H → Prop} (hF : locks_find_1 a0 f0 h Q) :
    CallsH Tryz.prog 75 (List.toArray (α := Value) [k121.val a0, .pointer (some f0)]) h fun v h' => ∃ x : Bool, v = .bool x ∧ Q x h' := by
  refine CallsH.of_body Tryz.func75 rfl 8 rfl rfl ?_
  refine WP.seq ?_
  refine WP.region ?_
  refine EvK.alloc (w_none rfl) rfl rfl (f_boxF (v := k121.val a0) rfl rfl rfl hF) ?_
  rintro _ h1 ⟨q1, rfl, hF⟩
  refine EvK.pure (v := .bool false) (w_none rfl) rfl rfl (f_assign rfl rfl) ?_
  refine EvK.nil ?_
  refine WP.seq ?_
  refine WP.region ?_
  refine EvK.pure (v := .pointer (some (q1.add 0))) (w_none rfl) rfl rfl (f_fieldAddr fd122_0 rfl rfl) ?_
  obtain ⟨x1, hx1, hF⟩ := hF
  refine EvK.read (v := .int .i64 x1) (w_none rfl) rfl rfl (f_load (kI .i64) ty3 rfl rfl hx1 rfl) ?_
  obtain ⟨x2, hx2, hF⟩ := hF
  refine EvK.read (v := .int .i64 x2) (w_none rfl) rfl rfl (f_load (kI .i64) ty3 rfl rfl hx2 rfl) ?_
  refine EvK.pure (v := .bool (x1 == x2)) (w_none rfl) rfl rfl (f_eql rfl rfl rfl) ?_
  refine EvK.pure (v := .bool (x1 == x2)) (w_none rfl) rfl rfl (f_assign rfl rfl) ?_
  refine EvK.nil ?_
  refine WP.ret ?_
  exact Ret.mk (vs := [.bool (x1 == x2)]) (x1 == x2) ⟨rfl, trivial⟩ rfl hF
end Go.Proofs.YtomngllmnhdmlaaGreat
/- spate/locks.find, as a predicate over the heap, and that the code comes to it. Printed by gen.py. -/
namespace Go.Proofs.YtomngllmnhdmlaaGreat
open Go Go.Tr
set_option linter.unusedVariables false
set_option maxRecDepth 100000
set_option maxHeartbeats 400000
/-- spate/locks.find -/
def locks_find (a0 : Sl) (a1 : Int) (h : H) (Q : Int → H → Prop) : Prop :=
  al 3 ((kI .i64).enc a1) h fun q1 h1 =>
  slices_IndexFunc___locks_claim_locks_claim_ a0 (some ⟨Fn.func 75, List.toArray [], List.toArray [.pointer (some q1)]⟩ : FV) h1 fun r1 h2 =>
  Q r1 h2
theorem locks_find.sound {a0 : Sl} {a1 : Int} {h : H} {Q : Int → H → Prop} (hF : locks_find a0 a1 h Q) :
    CallsH Tryz.prog 55 (List.toArray (α := Value) [Sl.val a0, .int .i64 a1]) h fun v h' => ∃ x : Int, v = .int .i64 x ∧ Q x h' := by
  refine CallsH.of_body Tryz.func55 rfl 8 rfl rfl ?_
  refine WP.seq ?_
  refine WP.region ?_
  refine EvK.alloc (w_none rfl) rfl rfl (f_boxF (v := .int .i64 a1) rfl rfl rfl hF) ?_
  rintro _ h1 ⟨q1, rfl, hF⟩
  refine EvK.pure (v := .int .i64 0) (w_none rfl) rfl rfl (f_assign rfl rfl) ?_
  refine EvK.nil ?_
  refine WP.seq ?_
  refine WP.region ?_
  refine EvK.pure (v := Sl.val a0) (w_none rfl) rfl rfl (f_move rfl rfl) ?_
  refine EvK.pure (v := FV.val (some ⟨Fn.func 75, List.toArray [], List.toArray [.pointer (some q1)]⟩ : FV)) (w_none rfl) rfl rfl (f_makeFunc (vs := []) (us := [.pointer (some q1)]) rfl rfl rfl) ?_
  refine EvK.call (w_none rfl) rfl rfl (enterH (vs := [Sl.val a0, FV.val (some ⟨Fn.func 75, List.toArray [], List.toArray [.pointer (some q1)]⟩ : FV)]) Tryz.func74 rfl rfl rfl rfl (slices_IndexFunc___locks_claim_locks_claim_.sound hF)) ?_
  rintro _ h2 ⟨r1, rfl, hF⟩
  refine EvK.pure (v := .int .i64 r1) (w_none rfl) rfl rfl (f_assign rfl rfl) ?_
  refine EvK.nil ?_
  refine WP.ret ?_
  exact Ret.mk (vs := [.int .i64 r1]) r1 ⟨rfl, trivial⟩ rfl hF
end Go.Proofs.YtomngllmnhdmlaaGreat
/- (*spate/locks.Manager).set, as a predicate over the heap, and that the code comes to it. Printed by gen.py. -/
namespace Go.Proofs.YtomngllmnhdmlaaGreat
open Go Go.Tr
set_option linter.unusedVariables false
set_option maxRecDepth 100000
set_option maxHeartbeats 400000
def locks_Manager_set.b1 (p0 : Option Addr) (p6 : Option Nat) (p10 : Sl) (p11 : Int) (s : Int) (h : H) (K : Int ⊕ (Unit ⊕ ((Option Nat) × IF)) → H → Prop) : Prop :=
  if (decide (s < p11)) = true then
    jn (fun (k2 : Unit → H → Prop) =>
      rd (ixA 2 p10 s) fun q1 =>
      rd (ld k48 q1 h) fun x3 =>
      al 49 (k48.enc z48) h fun q2 h4 =>
      rd (st k48 q2 x3 h4) fun h5 =>
      jn (fun (k3 : Bool → H → Prop) =>
        rd (ld (kI .i64) (q2.add 0) h5) fun x7 =>
        if (decide (x7 < 0)) = true then
          k3 true h5
        else
          rd (ld (kI .i64) (q2.add 0) h5) fun x8 =>
          rd p0 fun q3 =>
          rd (ld (kI .i64) (q3.add 0) h5) fun x9 =>
          if (decide (x8 ≥ x9)) = true then
            k3 true h5
          else
            rd (ld (kI .i64) (q2.add 0) h5) fun x10 =>
            rd (mlk (kI .i64) 0 .i64 p6 x10 h5) fun x11 =>
            k3 (x11.1 != 0) h5) fun s3 h6 =>
      if s3 = true then
        K (.inr (.inr (none, (some (26, .int .i64 1) : IF)))) h6
      else
        rd (ld (kI .i64) (q2.add 0) h6) fun x4 =>
        rd (mup (kI .i64) .i64 p6 x4 2 h6) fun h7 =>
        rd (ld kB (q2.add 1) h7) fun x5 =>
        if x5 = true then
          rd (ld (kI .i64) (q2.add 0) h7) fun x6 =>
          rd (mup (kI .i64) .i64 p6 x6 1 h7) fun h8 =>
          k2 () h8
        else
          k2 () h7) fun s2 h3 =>
    K (.inl (IntKind.i64.wrap (s + 1))) h3
  else
    K (.inr (.inl ())) h
/-- (*spate/locks.Manager).set -/
def locks_Manager_set (a0 : Option Addr) (a1 : Sl) (h : H) (Q : ((Option Nat) × IF) → H → Prop) : Prop :=
  mmk h fun x1 h1 =>
  jn (fun (k1 : Unit → H → Prop) =>
    loopE (locks_Manager_set.b1 a0 x1 a1 (a1.len : Int)) 0 h1 (sumK (fun r1 hh => k1 r1 hh) (fun r2 hh => Q r2 hh))) fun s1 h2 =>
  rd (mln x1 h2) fun x2 =>
  if ((x2 : Int) == 0) = true then
    Q (none, (some (26, .int .i64 1) : IF)) h2
  else
    Q (x1, none) h2
theorem locks_Manager_set.sound {a0 : Option Addr} {a1 : Sl} {h : H} {Q : ((Option Nat) × IF) → H → Prop} (hF : locks_Manager_set a0 a1 h Q) :
    CallsH Tryz.prog 71 (List.toArray (α := Value) [.pointer a0, Sl.val a1]) h fun v h' => ∃ x : (Option Nat) × IF, v = .tuple #[.map x.1, IF.val x.2] ∧ Q x h' := by
  refine CallsH.of_body Tryz.func71 rfl 50 rfl rfl ?_
  refine WP.seq ?_
  refine WP.region ?_
  refine EvK.pure (v := .map none) (w_none rfl) rfl rfl (f_assign rfl rfl) ?_
  refine EvK.pure (v := IF.val none) (w_none rfl) rfl rfl (f_assign rfl rfl) ?_
  refine EvK.nil ?_
  refine WP.seq ?_
  refine WP.region ?_
  refine EvK.alloc (w_none rfl) rfl rfl (f_makeMap rfl hF) ?_
  rintro _ h1 ⟨x1, rfl, hF⟩
  refine EvK.pure (v := .map x1) (w_none rfl) rfl rfl (f_assign rfl rfl) ?_
  refine EvK.nil ?_
  refine WP.joinF (fun (s1 : Unit) => [(6, .map x1)]) hF ?_ ?_
  · intro s1 E0 h2 hF
    refine WP.seq ?_
    refine WP.seq ?_
    refine WP.region ?_
    refine EvK.pure (v := .map x1) (w_none rfl) rfl rfl (f_move rfl rfl) ?_
    obtain ⟨x2, hx1, hF⟩ := hF
    refine EvK.read (v := .int .i64 (x2 : Int)) (w_none rfl) rfl rfl (f_lenM Tryz.underlying120 rfl rfl hx1) ?_
    refine EvK.pure (v := .bool ((x2 : Int) == 0)) (w_none rfl) rfl rfl (f_eql rfl rfl rfl) ?_
    refine EvK.nil ?_
    rcases ite_inv hF with ⟨c1, hF⟩ | ⟨c1, hF⟩
    · refine WP.cond_true _ rfl c1 ?_
      refine WP.seq ?_
      refine WP.region ?_
      refine EvK.pure (v := IF.val (some (26, .int .i64 1) : IF)) (w_none rfl) rfl rfl (f_makeIf Tryz.underlying26 rfl rfl rfl) ?_
      refine EvK.pure (v := .map none) (w_none rfl) rfl rfl (f_assign rfl rfl) ?_
      refine EvK.pure (v := IF.val (some (26, .int .i64 1) : IF)) (w_none rfl) rfl rfl (f_assign rfl rfl) ?_
      refine EvK.nil ?_
      refine WP.ret ?_
      exact Ret.mk (vs := [.map none, IF.val (some (26, .int .i64 1) : IF)]) (none, (some (26, .int .i64 1) : IF)) ⟨rfl, rfl, trivial⟩ rfl hF
    · refine WP.cond_false _ rfl c1 ?_
      refine WP.skip ?_
      refine WP.seq ?_
      refine WP.region ?_
      refine EvK.pure (v := .map x1) (w_none rfl) rfl rfl (f_move rfl rfl) ?_
      refine EvK.pure (v := .map x1) (w_none rfl) rfl rfl (f_assign rfl rfl) ?_
      refine EvK.pure (v := IF.val none) (w_none rfl) rfl rfl (f_assign rfl rfl) ?_
      refine EvK.nil ?_
      refine WP.ret ?_
      exact Ret.mk (vs := [.map x1, IF.val none]) (x1, none) ⟨rfl, rfl, trivial⟩ rfl hF
  · intro k1 hF
    refine WP.seq ?_
    refine WP.region ?_
    refine EvK.pure (v := Sl.val a1) (w_none rfl) rfl rfl (f_move rfl rfl) ?_
    refine EvK.pure (v := .int .i64 (a1.len : Int)) (w_none rfl) rfl rfl (f_lenL (s := a1) Tryz.underlying50 rfl rfl) ?_
    refine EvK.pure (v := .int .i64 0) (w_none rfl) rfl rfl (f_move rfl rfl) ?_
    refine EvK.nil ?_
    refine WP.block ?_
    refine WP.loopF (fun (s2 : Int) => [(12, .int .i64 s2), (0, .pointer a0), (6, .map x1), (10, Sl.val a1), (11, .int .i64 (a1.len : Int))]) hF ⟨rfl, rfl, rfl, rfl, rfl, trivial⟩ ?_
    intro k2 s2 E0 h3 hF
    refine WP.seq ?_
    refine WP.region ?_
    refine EvK.pure (v := .bool (decide (s2 < (a1.len : Int)))) (w_none rfl) rfl rfl (f_lss rfl rfl rfl) ?_
    refine EvK.nil ?_
    refine WP.seq ?_
    rcases ite_inv hF with ⟨c2, hF⟩ | ⟨c2, hF⟩
    · refine WP.cond_true _ rfl c2 ?_
      refine WP.skip ?_
      refine WP.joinF (fun (s3 : Unit) => [(0, .pointer a0), (6, .map x1), (10, Sl.val a1), (11, .int .i64 (a1.len : Int)), (12, .int .i64 s2)]) hF ?_ ?_
      · intro s3 E0 h4 hF
        refine WP.region ?_
        refine EvK.pure (v := .int .i64 (IntKind.i64.wrap (s2 + 1))) (w_none rfl) rfl rfl (f_add rfl rfl rfl) ?_
        refine EvK.pure (v := .int .i64 (IntKind.i64.wrap (s2 + 1))) (w_none rfl) rfl rfl (f_move rfl rfl) ?_
        refine EvK.nil ?_
        exact KE.mk (IntKind.i64.wrap (s2 + 1)) ⟨rfl, rfl, rfl, rfl, rfl, trivial⟩ hF
      · intro k3 hF
        refine WP.block ?_
        refine WP.seq ?_
        refine WP.region ?_
        obtain ⟨q1, hq1, hF⟩ := hF
        refine EvK.pure (v := .pointer (some q1)) (w_none rfl) rfl rfl (f_indexAddr (s := a1) Tryz.underlying50 ty49.size rfl rfl rfl hq1) ?_
        obtain ⟨x3, hx2, hF⟩ := hF
        refine EvK.read (v := k48.val x3) (w_none rfl) rfl rfl (f_load k48 ty49 rfl rfl hx2 rfl) ?_
        refine EvK.alloc (w_none rfl) rfl rfl (f_allocF zero49 rfl rfl hF) ?_
        rintro _ h5 ⟨q2, rfl, hF⟩
        obtain ⟨h6, hs1, hF⟩ := hF
        refine EvK.runN (w_none rfl) rfl (f_store k48 ty49.size (z := x3) rfl rfl rfl hs1) ?_
        rintro _ _ ⟨rfl, rfl⟩
        refine EvK.nil ?_
        refine WP.seq ?_
        refine WP.joinF (fun (s4 : Bool) => [(34, .bool s4), (0, .pointer a0), (6, .map x1), (8, .pointer (some q2)), (10, Sl.val a1), (11, .int .i64 (a1.len : Int)), (12, .int .i64 s2)]) hF ?_ ?_
        · intro s4 E0 h7 hF
          rcases ite_inv hF with ⟨c3, hF⟩ | ⟨c3, hF⟩
          · refine WP.cond_true _ rfl c3 ?_
            refine WP.seq ?_
            refine WP.region ?_
            refine EvK.pure (v := IF.val (some (26, .int .i64 1) : IF)) (w_none rfl) rfl rfl (f_makeIf Tryz.underlying26 rfl rfl rfl) ?_
            refine EvK.pure (v := .map none) (w_none rfl) rfl rfl (f_assign rfl rfl) ?_
            refine EvK.pure (v := IF.val (some (26, .int .i64 1) : IF)) (w_none rfl) rfl rfl (f_assign rfl rfl) ?_
            refine EvK.nil ?_
            refine WP.ret ?_
            exact Ret.mk (vs := [.map none, IF.val (some (26, .int .i64 1) : IF)]) (none, (some (26, .int .i64 1) : IF)) ⟨rfl, rfl, trivial⟩ rfl hF
          · refine WP.cond_false _ rfl c3 ?_
            refine WP.skip ?_
            refine WP.seq ?_
            refine WP.region ?_
            refine EvK.pure (v := .map x1) (w_none rfl) rfl rfl (f_move rfl rfl) ?_
            refine EvK.pure (v := .pointer (some (q2.add 0))) (w_none rfl) rfl rfl (f_fieldAddr fd49_0 rfl rfl) ?_
            obtain ⟨x4, hx3, hF⟩ := hF
            refine EvK.read (v := .int .i64 x4) (w_none rfl) rfl rfl (f_load (kI .i64) ty3 rfl rfl hx3 rfl) ?_
            obtain ⟨h8, hs2, hF⟩ := hF
            refine EvK.runN (w_none rfl) rfl (f_mapUpdate (K := (kI .i64)) (x := 2) mt120 rfl rfl rfl rfl hs2) ?_
            rintro _ _ ⟨rfl, rfl⟩
            refine EvK.nil ?_
            refine WP.seq ?_
            refine WP.region ?_
            refine EvK.pure (v := .pointer (some (q2.add 1))) (w_none rfl) rfl rfl (f_fieldAddr fd49_1 rfl rfl) ?_
            obtain ⟨x5, hx4, hF⟩ := hF
            refine EvK.read (v := .bool x5) (w_none rfl) rfl rfl (f_load kB ty4 rfl rfl hx4 rfl) ?_
            refine EvK.nil ?_
            rcases ite_inv hF with ⟨c4, hF⟩ | ⟨c4, hF⟩
            · refine WP.cond_true _ rfl c4 ?_
              refine WP.region ?_
              refine EvK.pure (v := .map x1) (w_none rfl) rfl rfl (f_move rfl rfl) ?_
              refine EvK.pure (v := .pointer (some (q2.add 0))) (w_none rfl) rfl rfl (f_fieldAddr fd49_0 rfl rfl) ?_
              obtain ⟨x6, hx5, hF⟩ := hF
              refine EvK.read (v := .int .i64 x6) (w_none rfl) rfl rfl (f_load (kI .i64) ty3 rfl rfl hx5 rfl) ?_
              obtain ⟨h9, hs3, hF⟩ := hF
              refine EvK.runN (w_none rfl) rfl (f_mapUpdate (K := (kI .i64)) (x := 1) mt120 rfl rfl rfl rfl hs3) ?_
              rintro _ _ ⟨rfl, rfl⟩
              refine EvK.nil ?_
              exact KE.mk () ⟨rfl, rfl, rfl, rfl, rfl, trivial⟩ hF
            · refine WP.cond_false _ rfl c4 ?_
              refine WP.skip ?_
              exact KE.mk () ⟨rfl, rfl, rfl, rfl, rfl, trivial⟩ hF
        · intro k4 hF
          refine WP.draw mixed [.pure, .read, .pure, .pure, .pure, .read, .pure, .pure, .pure, .read, .pure, .pure, .pure, .pure, .pure, .read, .read, .pure, .pure] [[], [0], [0, 1], [0, 1, 2], [0, 1, 2, 3], [0, 1, 2, 3, 4], [0, 1, 2, 3], [0, 1, 2, 3, 6], [0, 1, 2, 3, 6, 7], [0, 1, 2, 3, 6, 7, 8], [0, 1, 2, 3, 4, 5, 6, 7, 8, 9], [0, 1, 2, 3, 4, 5, 6, 7, 8, 9, 10], [0, 1, 2, 3, 4, 5, 6, 7, 8, 9, 10, 11], [0, 1, 2, 3, 4, 5, 6, 7, 8, 9, 10, 11, 12], [0, 1, 2, 3, 4, 5, 6, 7, 8, 9, 10, 11, 12], [0, 1, 2, 3, 4, 5, 6, 7, 8, 9, 10, 11, 12, 14], [0, 1, 2, 3, 4, 5, 6, 7, 8, 9, 10, 11, 12, 13, 14, 15], [0, 1, 2, 3, 4, 5, 6, 7, 8, 9, 10, 11, 12, 13, 14, 15, 16], [0, 1, 2, 3, 4, 5, 6, 7, 8, 9, 10, 11, 12, 13, 14, 15, 16, 17]] [0, 1, 2, 3, 4, 5, 6, 7, 8, 9, 10, 11, 12, 13, 14, 15, 16, 17, 18] (by kernel_rfl) (by kernel_rfl) ?_
          refine EvI.pure (v := .pointer (some (q2.add 0))) rfl rfl (w_none rfl) rfl (f_fieldAddr fd49_0 rfl rfl) ?_
          obtain ⟨x7, hx6, hF⟩ := hF
          refine EvI.read (v := .int .i64 x7) rfl rfl (w_none rfl) rfl (f_load (kI .i64) ty3 rfl rfl hx6 rfl) ?_
          refine EvI.pure (v := .bool (decide (x7 < 0))) rfl rfl (w_none rfl) rfl (f_lss rfl rfl rfl) ?_
          refine EvI.pure (v := .bool (decide (x7 < 0))) rfl rfl (w_none rfl) rfl (f_move rfl rfl) ?_
          rcases ite_inv hF with ⟨c5, hF⟩ | ⟨c5, hF⟩
          · refine EvI.not rfl (w_not rfl rfl c5) rfl ?_
            refine EvI.not rfl (w_not rfl rfl c5) rfl ?_
            refine EvI.not rfl (w_not rfl rfl c5) rfl ?_
            refine EvI.not rfl (w_not rfl rfl c5) rfl ?_
            refine EvI.not rfl (w_not rfl rfl c5) rfl ?_
            refine EvI.not rfl (w_not rfl rfl c5) rfl ?_
            refine EvI.not rfl (w_not rfl rfl c5) rfl ?_
            refine EvI.pure (v := .bool true) rfl rfl (w_none rfl) rfl (f_pickT rfl rfl c5 rfl) ?_
            refine EvI.pure (v := .bool true) rfl rfl (w_none rfl) rfl (f_move rfl rfl) ?_
            refine EvI.not rfl (w_not rfl rfl rfl) rfl ?_
            refine EvI.not rfl (w_not rfl rfl rfl) rfl ?_
            refine EvI.not rfl (w_not rfl rfl rfl) rfl ?_
            refine EvI.not rfl (w_not rfl rfl rfl) rfl ?_
            refine EvI.not rfl (w_not rfl rfl rfl) rfl ?_
            refine EvI.pure (v := .bool true) rfl rfl (w_none rfl) rfl (f_pickT rfl rfl rfl rfl) ?_
            refine EvI.nil ?_
            exact KE.mk true ⟨rfl, rfl, rfl, rfl, rfl, rfl, rfl, trivial⟩ hF
          · refine EvI.pure (v := .pointer (some (q2.add 0))) rfl rfl (w_some rfl rfl c5) rfl (f_fieldAddr fd49_0 rfl rfl) ?_
            obtain ⟨x8, hx7, hF⟩ := hF
            refine EvI.read (v := .int .i64 x8) rfl rfl (w_some rfl rfl c5) rfl (f_load (kI .i64) ty3 rfl rfl hx7 rfl) ?_
            refine EvI.pure (v := .pointer a0) rfl rfl (w_some rfl rfl c5) rfl (f_move rfl rfl) ?_
            obtain ⟨q3, hq2, hF⟩ := hF
            refine EvI.pure (v := .pointer (some q3)) rfl rfl (w_some rfl rfl c5) rfl (f_nilCheck rfl (congrArg Value.pointer hq2)) ?_
            refine EvI.pure (v := .pointer (some (q3.add 0))) rfl rfl (w_some rfl rfl c5) rfl (f_fieldAddr fd90_0 rfl rfl) ?_
            obtain ⟨x9, hx8, hF⟩ := hF
            refine EvI.read (v := .int .i64 x9) rfl rfl (w_some rfl rfl c5) rfl (f_load (kI .i64) ty3 rfl rfl hx8 rfl) ?_
            refine EvI.pure (v := .bool (decide (x8 ≥ x9))) rfl rfl (w_some rfl rfl c5) rfl (f_geq rfl rfl rfl) ?_
            refine EvI.pure (v := .bool (decide (x8 ≥ x9))) rfl rfl (w_none rfl) rfl (f_pickF rfl rfl c5 rfl) ?_
            refine EvI.pure (v := .bool (decide (x8 ≥ x9))) rfl rfl (w_none rfl) rfl (f_move rfl rfl) ?_
            rcases ite_inv hF with ⟨c6, hF⟩ | ⟨c6, hF⟩
            · refine EvI.not rfl (w_not rfl rfl c6) rfl ?_
              refine EvI.not rfl (w_not rfl rfl c6) rfl ?_
              refine EvI.not rfl (w_not rfl rfl c6) rfl ?_
              refine EvI.not rfl (w_not rfl rfl c6) rfl ?_
              refine EvI.not rfl (w_not rfl rfl c6) rfl ?_
              refine EvI.pure (v := .bool true) rfl rfl (w_none rfl) rfl (f_pickT rfl rfl c6 rfl) ?_
              refine EvI.nil ?_
              exact KE.mk true ⟨rfl, rfl, rfl, rfl, rfl, rfl, rfl, trivial⟩ hF
            · refine EvI.pure (v := .map x1) rfl rfl (w_some rfl rfl c6) rfl (f_move rfl rfl) ?_
              refine EvI.pure (v := .pointer (some (q2.add 0))) rfl rfl (w_some rfl rfl c6) rfl (f_fieldAddr fd49_0 rfl rfl) ?_
              obtain ⟨x10, hx9, hF⟩ := hF
              refine EvI.read (v := .int .i64 x10) rfl rfl (w_some rfl rfl c6) rfl (f_load (kI .i64) ty3 rfl rfl hx9 rfl) ?_
              obtain ⟨x11, hx10, hF⟩ := hF
              refine EvI.read (v := .int .i64 x11.1) rfl rfl (w_some rfl rfl c6) rfl (f_lookup (K := (kI .i64)) (z := 0) rfl mt120 zero3 rfl rfl rfl hx10) ?_
              refine EvI.pure (v := .bool (x11.1 != 0)) rfl rfl (w_some rfl rfl c6) rfl (f_neq rfl rfl rfl) ?_
              refine EvI.pure (v := .bool (x11.1 != 0)) rfl rfl (w_none rfl) rfl (f_pickF rfl rfl c6 rfl) ?_
              refine EvI.nil ?_
              exact KE.mk (x11.1 != 0) ⟨rfl, rfl, rfl, rfl, rfl, rfl, rfl, trivial⟩ hF
    · refine WP.cond_false _ rfl c2 ?_
      refine WP.exit ?_
      exact KE.mk () ⟨rfl, trivial⟩ hF
end Go.Proofs.YtomngllmnhdmlaaGreat
/- slices.ContainsFunc[[]spate/locks.claim,spate/locks.claim], as a predicate over the heap, and that the code comes to it. Printed by gen.py. -/
namespace Go.Proofs.YtomngllmnhdmlaaGreat
open Go Go.Tr
set_option linter.unusedVariables false
set_option maxRecDepth 100000
set_option maxHeartbeats 400000
/-- slices.ContainsFunc[[]spate/locks.claim,spate/locks.claim] -/
def slices_ContainsFunc___locks_claim_locks_claim_ (a0 : Sl) (a1 : FV) (h : H) (Q : Bool → H → Prop) : Prop :=
  slices_IndexFunc___locks_claim_locks_claim_ a0 a1 h fun r1 h1 =>
  Q (decide (r1 ≥ 0)) h1
theorem slices_ContainsFunc___locks_claim_locks_claim_.sound {a0 : Sl} {a1 : FV} {h : H} {Q : Bool → H → Prop} (hF : slices_ContainsFunc___locks_claim_locks_claim_ a0 a1 h Q) :
    CallsH Tryz.prog 72 (List.toArray (α := Value) [Sl.val a0, FV.val a1]) h fun v h' => ∃ x : Bool, v = .bool x ∧ Q x h' := by
  refine CallsH.of_body Tryz.func72 rfl 9 rfl rfl ?_
  refine WP.seq ?_
  refine WP.region ?_
  refine EvK.pure (v := .bool false) (w_none rfl) rfl rfl (f_assign rfl rfl) ?_
  refine EvK.nil ?_
  refine WP.seq ?_
  refine WP.region ?_
  refine EvK.pure (v := Sl.val a0) (w_none rfl) rfl rfl (f_move rfl rfl) ?_
  refine EvK.pure (v := FV.val a1) (w_none rfl) rfl rfl (f_move rfl rfl) ?_
  refine EvK.call (w_none rfl) rfl rfl (enterH (vs := [Sl.val a0, FV.val a1]) Tryz.func74 rfl rfl rfl rfl (slices_IndexFunc___locks_claim_locks_claim_.sound hF)) ?_
  rintro _ h1 ⟨r1, rfl, hF⟩
  refine EvK.pure (v := .bool (decide (r1 ≥ 0))) (w_none rfl) rfl rfl (f_geq rfl rfl rfl) ?_
  refine EvK.pure (v := .bool (decide (r1 ≥ 0))) (w_none rfl) rfl rfl (f_assign rfl rfl) ?_
  refine EvK.nil ?_
  refine WP.ret ?_
  exact Ret.mk (vs := [.bool (decide (r1 ≥ 0))]) (decide (r1 ≥ 0)) ⟨rfl, trivial⟩ rfl hF
end Go.Proofs.YtomngllmnhdmlaaGreat
