/- A calculus over the kit's 'Code.wp' in which slots are a function and the world is its heap: the rules for straight code, branches, blocks, loops and calls. -/
import Derived.StillTail
import Derived.Tactics
import Derived.BigQuiet
import Derived.KernelRfl
import Derived.Below
import Derived.ScopeJumps
namespace Go.Tr
open Go

abbrev H := Array Obj
abbrev Env := Nat → Value

structure Ctx where
  tape : Nat → Question → Nat
  os : Os
  out : Array (Nat × ByteArray)
def Ctx.w (c : Ctx) (h : H) (d : Nat) : World := ⟨h, c.tape, d, c.os, c.out⟩
@[simp] theorem Ctx.w_heap (c : Ctx) (h : H) (d : Nat) : (c.w h d).heap = h := rfl
theorem Ctx.of_world (w : World) : w = (Ctx.mk w.tape w.os w.output).w w.heap w.drawn := rfl

/-- What a call comes to, as the heap alone shows it. -/
def CallsH (P : Program) (f : FuncId) (args : Array Value) (h : H) (Q : Value → H → Prop) : Prop :=
  ∀ (c : Ctx) (d : Nat), Calls P f args (c.w h d) fun e w' => ∃ v h' d', e = .returned v ∧ w' = c.w h' d' ∧ Q v h'

theorem CallsH.mono {P : Program} {f : FuncId} {args : Array Value} {h : H} {Q Q' : Value → H → Prop} (hc : CallsH P f args h Q) (hq : ∀ v h', Q v h' → Q' v h') : CallsH P f args h Q' :=
  fun c d => (hc c d).mono fun _ _ ⟨v, h', d', he, hw, q⟩ => ⟨v, h', d', he, hw, hq _ _ q⟩

def upd (E : Env) (d : Nat) (v : Value) : Env := fun t => bif Nat.beq t d then v else E t
def updo (E : Env) : Option Nat → Value → Env
  | some d, v => upd E d v
  | none, _ => E
def evE (E : Env) : Operand → Value
  | .tmp t => E t
  | .const v => v
  | .global g => .pointer (some ⟨g, 0, none⟩)
  | .func f => .func (.func f) #[] #[]
def yE (ops : Array Oper) (E : Env) (j : Nat) : Option Bool :=
  match (ops[j]?).bind (·.dst) with
  | some d => (match E d with | .bool b => some b | _ => none)
  | none => none

theorem upd_same (E : Env) (d : Nat) (v : Value) : upd E d v d = v := by simp [upd]
theorem upd_ne (E : Env) {d t : Nat} (v : Value) (h : t ≠ d) : upd E d v t = E t := by
  have : Nat.beq t d = false := by
    rw [← Bool.not_eq_true]; intro e; exact h (Nat.eq_of_beq_eq_true e)
  simp [upd, this]
theorem upd_self {E : Env} {d : Nat} {v : Value} (h : E d = v) : upd E d v = E := by
  funext t
  by_cases e : t = d
  · subst e; rw [upd_same, h]
  · rw [upd_ne E v e]

structure St (n : Nat) (E : Env) (a : Act) : Prop where
  defers : a.defers = []
  size : a.tmps.size = n
  tmps : ∀ t, a.tmps.getD t undef = E t

theorem St.eval {n : Nat} {E : Env} {a : Act} (s : St n E a) : a.eval = evE E := by
  funext x
  cases x <;> simp only [Act.eval, evE]
  exact s.tmps _

theorem St.yielded {n : Nat} {E : Env} {a : Act} (s : St n E a) (ops : Array Oper) : yielded ops a.tmps = yE ops E := by
  funext j
  unfold Go.yielded yE
  cases h : (ops[j]?).bind (·.dst) with
  | none => rfl
  | some d =>
    have := s.tmps d
    simp only [Option.bind_some]
    by_cases hd : d < a.tmps.size
    · have e : a.tmps[d]? = some (E d) := by
        rw [← this]; simp [hd]
      rw [e]; cases E d <;> rfl
    · have e : a.tmps[d]? = none := Array.getElem?_eq_none (Nat.le_of_not_lt hd)
      rw [e]
      have : E d = undef := by rw [← this]; simp [Array.getD, hd]
      rw [this]; rfl

theorem St.put {n : Nat} {E : Env} {a : Act} (s : St n E a) (d : Option Nat) (v : Value) (hd : ∀ k, d = some k → k < n) : St n (updo E d v) (a.put d v) := by
  cases d with
  | none => exact s
  | some k =>
    refine ⟨s.defers, by simp [Act.put, s.size], fun t => ?_⟩
    have hk : k < a.tmps.size := by rw [s.size]; exact hd k rfl
    simp only [Act.put, updo]
    by_cases e : t = k
    · subst e; rw [upd_same]; simp [hk]
    · rw [upd_ne _ _ e, ← s.tmps t]
      simp only [Array.getD_eq_getD_getElem?, Array.getElem?_setIfInBounds]
      rw [if_neg (Ne.symm e)]

/-- One operation that runs in place: its value, the heap behind it; whatever the tape says. -/
def RunH (P : Program) (s : Sem Next) (h : H) (K : Value → H → Prop) : Prop :=
  ∀ (c : Ctx) (d : Nat), ∃ v h' d', (s.run P (c.w h d) = .ok (.value v) (c.w h' d') ∨ (s.run P (c.w h d) = .ok .skip (c.w h' d') ∧ v = undef)) ∧ K v h'
/-- One operation that calls. -/
def EnterH (P : Program) (s : Sem Next) (h : H) (K : Value → H → Prop) : Prop :=
  ∃ f args, (∀ (c : Ctx) (d : Nat), ∃ d', s.run P (c.w h d) = .ok (.enter f args) (c.w h d')) ∧ CallsH P f args h K
def StepH (P : Program) (o : Oper) (E : Env) (h : H) (K : Value → H → Prop) : Prop :=
  RunH P (execOp (evE E) o) h K ∨ EnterH P (execOp (evE E) o) h K

theorem RunH.mono {P : Program} {s : Sem Next} {h : H} {K K' : Value → H → Prop} (r : RunH P s h K) (k : ∀ v h', K v h' → K' v h') : RunH P s h K' :=
  fun c d => let ⟨v, h', d', e, q⟩ := r c d; ⟨v, h', d', e, k _ _ q⟩
theorem StepH.mono {P : Program} {o : Oper} {E : Env} {h : H} {K K' : Value → H → Prop} (r : StepH P o E h K) (k : ∀ v h', K v h' → K' v h') : StepH P o E h K' := by
  rcases r with r | ⟨f, args, e, r⟩
  · exact .inl (r.mono k)
  · exact .inr ⟨f, args, e, r.mono k⟩

/-- The rest of a region's operations, in the order of the list. -/
def EvK (P : Program) (n : Nat) (ops : Array Oper) : List Oper → Env → H → (Env → H → Prop) → Prop
  | [], E, h, K => K E h
  | o :: l, E, h, K => (∀ k, o.dst = some k → k < n) ∧
    if Region.wanted o (yE ops E) then StepH P o E h (fun v h' => EvK P n ops l (updo E o.dst v) h' K) else EvK P n ops l (updo E o.dst undef) h K

theorem EvK.mono {P : Program} {n : Nat} {ops : Array Oper} {K K' : Env → H → Prop} (k : ∀ E h, K E h → K' E h) : ∀ (l : List Oper) (E : Env) (h : H), EvK P n ops l E h K → EvK P n ops l E h K'
  | [], _, _, h => k _ _ h
  | o :: l, E, h, hh => by
    refine ⟨hh.1, ?_⟩
    have := hh.2
    split <;> rename_i hw
    · rw [if_pos hw] at this; exact this.mono fun v h' q => EvK.mono k l _ _ q
    · rw [if_neg hw] at this; exact EvK.mono k l _ _ this

theorem Oper.wp_of_stepH {P : Program} {n : Nat} {o : Oper} {E : Env} {a : Act} {c : Ctx} {h : H} {d : Nat} {K : Value → H → Prop} {next : Act → World → Prop} {Q : Exit → Act → World → Prop}
    (s : St n E a) (hs : StepH P o E h K) (hk : ∀ v h' d', K v h' → next (a.put o.dst v) (c.w h' d')) : o.wp P a (c.w h d) next Q := by
  unfold Oper.wp
  rw [s.eval]
  rcases hs with r | ⟨f, args, e, r⟩
  · obtain ⟨v, h', d', e, q⟩ := r c d
    rcases e with e | ⟨e, rfl⟩ <;> rw [e]
    · exact hk _ _ _ q
    · exact hk _ _ _ q
  · obtain ⟨d', e⟩ := e c d
    rw [e, Oper.upon_enter]
    refine (r c d').mono ?_
    rintro _ _ ⟨v, h', d'', rfl, rfl, q⟩
    exact hk _ _ _ q

theorem wpList_of_evK {P : Program} {n : Nat} {ops : Array Oper} {K : Env → H → Prop} {c : Ctx} {Q : Exit → Act → World → Prop}
    (hK : ∀ E h d a, K E h → St n E a → Q .normal a (c.w h d)) :
    ∀ (l : List Oper) (E : Env) (h : H) (d : Nat) (a : Act), St n E a → EvK P n ops l E h K → wpList P ops Q l a (c.w h d)
  | [], _, _, _, _, s, h => hK _ _ _ _ h s
  | o :: l, E, h, d, a, s, hh => by
    unfold wpList
    rw [s.yielded]
    have h2 := hh.2
    split <;> rename_i hw
    · rw [if_pos hw] at h2
      exact .inl (Oper.wp_of_stepH s h2 fun v h' d' q => wpList_of_evK hK l _ _ _ _ (s.put _ _ hh.1) q)
    · rw [if_neg hw] at h2
      exact wpList_of_evK hK l _ _ _ _ (s.put _ _ hh.1) h2

/-! ### code -/

abbrev QE := Exit → Env → H → Prop
/-- What the code comes to from slots E and heap h on. -/
def WP (P : Program) (n : Nat) (cd : Code) (Q : QE) (E : Env) (h : H) : Prop :=
  ∀ (c : Ctx) (d : Nat) (a : Act), St n E a → cd.wp P (fun e a' w' => ∃ E' h' d', w' = c.w h' d' ∧ St n E' a' ∧ Q e E' h') a (c.w h d)

def thenE (K : Env → H → Prop) (Q : QE) : QE
  | .normal, E, h => K E h
  | e, E, h => Q e E h
def blockE (id : Nat) (Q : QE) : QE
  | .exit id', E, h => bif Nat.beq id' id then Q .normal E h else Q (.exit id') E h
  | e, E, h => Q e E h

section rules
variable {P : Program} {n : Nat} {Q : QE} {E : Env} {h : H}

theorem WP.mono {cd : Code} {Q' : QE} (hh : WP P n cd Q E h) (k : ∀ e E h, Q e E h → Q' e E h) : WP P n cd Q' E h :=
  fun c d a s => wp_mono (hh c d a s) fun _ _ _ ⟨E', h', d', e1, e2, e3⟩ => ⟨E', h', d', e1, e2, k _ _ _ e3⟩
theorem WP.skip (hh : Q .normal E h) : WP P n .skip Q E h := fun _ d _ s => wp_skip ⟨E, h, d, rfl, s, hh⟩
theorem WP.label {l : Nat} (hh : Q .normal E h) : WP P n (.label l) Q E h := fun _ d _ s => wp_label ⟨E, h, d, rfl, s, hh⟩
theorem WP.exit {id : Nat} (hh : Q (.exit id) E h) : WP P n (.exit id) Q E h := fun _ d _ s => wp_exit ⟨E, h, d, rfl, s, hh⟩
theorem WP.goto {l : Nat} (hh : Q (.goto l) E h) : WP P n (.goto l) Q E h := fun _ d _ s => wp_goto ⟨E, h, d, rfl, s, hh⟩
theorem WP.ret (hh : Q .ret E h) : WP P n .ret Q E h := fun _ d _ s => wp_ret ⟨E, h, d, rfl, s, hh⟩
theorem WP.seq {x y : Code} (hh : WP P n x (thenE (WP P n y Q) Q) E h) : WP P n (.seq x y) Q E h := fun c d a s => by
  refine wp_seq (wp_mono (hh c d a s) ?_)
  rintro e a' w' ⟨E', h', d', rfl, s', q⟩
  cases e with
  | normal => exact q c d' a' s'
  | _ => exact ⟨E', h', d', rfl, s', q⟩
theorem WP.cond {x : Operand} {y z : Code} {t : Bool} (hx : evE E x = .bool t) (hh : WP P n (if t then y else z) Q E h) : WP P n (.cond x y z) Q E h :=
  fun c d a s => wp_cond (t := t) (by rw [s.eval]; exact hx) (hh c d a s)
theorem WP.cond_true {x : Operand} {y z : Code} (t : Bool) (hx : evE E x = .bool t) (ht : t = true) (hh : WP P n y Q E h) : WP P n (.cond x y z) Q E h :=
  WP.cond (t := true) (hx.trans (by rw [ht])) hh
theorem WP.cond_false {x : Operand} {y z : Code} (t : Bool) (hx : evE E x = .bool t) (ht : t = false) (hh : WP P n z Q E h) : WP P n (.cond x y z) Q E h :=
  WP.cond (t := false) (hx.trans (by rw [ht])) hh
theorem WP.block {id : Nat} {y : Code} (hh : WP P n y (blockE id Q) E h) : WP P n (.block id y) Q E h := fun c d a s => by
  refine wp_block (wp_mono (hh c d a s) ?_)
  rintro e a' w' ⟨E', h', d', rfl, s', q⟩
  cases e with
  | exit id' =>
    simp only [blockE] at q
    by_cases hid : id' = id
    · subst hid
      have : Nat.beq id' id' = true := Nat.beq_refl id'
      rw [this] at q
      simp only [Exit.inBlock, if_true]
      exact ⟨E', h', d', rfl, s', q⟩
    · have : Nat.beq id' id = false := by
        rw [← Bool.not_eq_true]; intro e; exact hid (Nat.eq_of_beq_eq_true e)
      rw [this] at q
      simp only [Exit.inBlock, hid, if_false]
      exact ⟨E', h', d', rfl, s', q⟩
  | _ => exact ⟨E', h', d', rfl, s', q⟩
def gotoE (l : Nat) (J : Env → H → Prop) (Q : QE) : QE
  | .goto l', E, h => bif Nat.beq l' l then J E h else False
  | e, E, h => Q e E h
/-- A scope with one label to which the run jumps ahead. -/
theorem WP.scope {c rest : Code} (l : Nat) (hf : findLabel c l = some rest) (J : Env → H → Prop) (hr : ∀ E h, J E h → WP P n rest (gotoE l (fun _ _ => False) Q) E h) (hh : WP P n c (gotoE l J Q) E h) : WP P n (.scope c) Q E h := fun C d a s => by
  have conv : ∀ (J' : Env → H → Prop) (J₀ : Act → World → Prop), (∀ E' h' d' a', J' E' h' → St n E' a' → J₀ a' (C.w h' d')) → ∀ (x : Code) (E : Env) (h : H) (d : Nat) (a : Act), St n E a → WP P n x (gotoE l J' Q) E h →
      x.wp P (Exit.jump l J₀ (fun e a' w' => ∃ E' h' d', w' = C.w h' d' ∧ St n E' a' ∧ Q e E' h')) a (C.w h d) := by
    intro J' J₀ hJ x E h d a s hx
    refine wp_mono (hx C d a s) ?_
    rintro e a' w' ⟨E', h', d', rfl, s', q⟩
    cases e with
    | goto l' =>
      simp only [gotoE] at q
      cases hb : Nat.beq l' l with
      | false => rw [hb] at q; exact q.elim
      | true => rw [hb] at q; exact ⟨Nat.eq_of_beq_eq_true hb, hJ _ _ _ _ q s'⟩
    | _ => exact ⟨E', h', d', rfl, s', q⟩
  refine wp_scope_jumps l (fun a' w' => ∃ E' h' d', w' = C.w h' d' ∧ St n E' a' ∧ J E' h') (fun _ _ => 0) hf ?_ ?_
  · exact conv J _ (fun E' h' d' a' q s' => ⟨E', h', d', rfl, s', q⟩) c E h d a s hh
  · rintro a' w' ⟨E', h', d', rfl, s', q⟩
    exact conv (fun _ _ => False) _ (fun _ _ _ _ q _ => q.elim) rest E' h' d' a' s' (hr _ _ q)
theorem WP.region {id : Nat} {l : List Oper} (hh : EvK P n l.toArray l E h (fun E h => Q .normal E h)) : WP P n (.region id l.toArray false) Q E h := fun c d a s =>
  wp_region_lit (wpList_of_evK (fun E' h' d' a' q s' => ⟨E', h', d', rfl, s', q⟩) l E h d a s hh)

/-- A loop: so many rounds at most. -/
def LoopH (B : Env → H → (Env → H → Prop) → Prop) : Nat → Env → H → Prop
  | 0, _, _ => False
  | k + 1, E, h => B E h (LoopH B k)

theorem WP.loop {y : Code} (μ : Nat) (I : Nat → Env → H → Prop) (h0 : I μ E h)
    (round : ∀ m E h, I m E h → WP P n y (thenE (fun E h => ∃ k, k < m ∧ I k E h) Q) E h) : WP P n (.loop y) Q E h := fun c d a s => by
  have key : ∀ m, ∀ E h d a, I m E h → St n E a → ∀ (b : Frame) (k : List Item) (cs : List Frame),
      ∃ e a' w', (∃ E' h' d', w' = c.w h' d' ∧ St n E' a' ∧ Q e E' h') ∧ Arrives P (lone (b.at a (.code y :: .inLoop y :: k)) cs (c.w h d)) b k cs e a' w' := by
    intro m
    induction m using Nat.strongRecOn with
    | _ m ih =>
      intro E h d a hI s b k cs
      obtain ⟨e, a₁, w₁, ⟨E', h', d', rfl, s', q⟩, harr⟩ := round m E h hI c d a s b (.inLoop y :: k) cs
      cases e with
      | normal =>
        obtain ⟨j, hj, hI'⟩ := q
        obtain ⟨e₂, a₂, w₂, hq₂, harr₂⟩ := ih j hj E' h' d' a₁ hI' s' b k cs
        exact ⟨e₂, a₂, w₂, hq₂, .of_steps (Steps.trans harr (.one step_inLoop)) harr₂⟩
      | exit id => exact ⟨_, a₁, _, ⟨E', h', d', rfl, s', q⟩, .pass (x := .inLoop y) rfl (fun _ _ => .inl (by simp)) harr⟩
      | goto l => exact ⟨_, a₁, _, ⟨E', h', d', rfl, s', q⟩, .pass (x := .inLoop y) rfl (fun _ _ => .inl (by simp)) harr⟩
      | ret => exact ⟨_, a₁, _, ⟨E', h', d', rfl, s', q⟩, .pass (x := .inLoop y) rfl (fun _ _ => .inl (by simp)) harr⟩
      | panic ch => exact ⟨_, a₁, _, ⟨E', h', d', rfl, s', q⟩, .pass (x := .inLoop y) rfl (fun _ _ => .inl (by simp)) harr⟩
      | outgrown => exact ⟨_, a₁, _, ⟨E', h', d', rfl, s', q⟩, .pass (x := .inLoop y) rfl (fun _ _ => .inl (by simp)) harr⟩
  intro b k cs
  obtain ⟨e, a', w', hq, harr⟩ := key μ E h d a h0 s b k cs
  exact ⟨e, a', w', hq, .of_steps (.one step_loop) harr⟩

/-! ### slots named anew -/
def Agree (E : Env) : List (Nat × Value) → Prop
  | [] => True
  | (d, v) :: r => E d = v ∧ Agree E r
def updL (E : Env) : List (Nat × Value) → Env
  | [] => E
  | (d, v) :: r => upd (updL E r) d v
theorem updL_self : ∀ (L : List (Nat × Value)) (E : Env), Agree E L → updL E L = E
  | [], _, _ => rfl
  | (d, v) :: r, E, hA => by
    simp only [updL, updL_self r E hA.2]
    exact upd_self hA.1
theorem WP.rebase {cd : Code} (L : List (Nat × Value)) (hA : Agree E L) (g : ∀ E0, WP P n cd Q (updL E0 L) h) : WP P n cd Q E h := by
  have := g E
  rwa [updL_self L E hA] at this

/-- Ways that meet again. -/
theorem WP.join {x y : Code} (J : Env → H → Prop) (hr : ∀ E h, J E h → WP P n y Q E h) (hh : WP P n x (thenE J Q) E h) : WP P n (.seq x y) Q E h :=
  WP.seq (hh.mono fun e E h q => by cases e with
    | normal => exact hr _ _ q
    | _ => exact q)
end rules

/-! ### functions -/
def tupleOf (vs : List Value) : Value :=
  match vs with
  | [v] => v
  | vs => .tuple vs.toArray
/-- What the results are, read from the slots and, where a result is a variable in memory, from there. -/
def ResOK (P : Program) (E : Env) (h : H) : List ResultVar → List Value → Prop
  | [], [] => True
  | .tmp t :: r, v :: vs => E t = v ∧ ResOK P E h r vs
  | .cell a t :: r, v :: vs => (∃ ad, E a = .pointer (some ad) ∧ ∀ (c : Ctx) (d : Nat), (loadVar t ad).run P (c.w h d) = .ok v (c.w h d)) ∧ ResOK P E h r vs
  | _, _ => False

theorem results_mapM {P : Program} {E : Env} {h : H} (c : Ctx) (d : Nat) (f : ResultVar → Sem Value) (hf : ∀ t, f (.tmp t) = pure (E t)) (hc : ∀ a t, f (.cell a t) = (do loadVar t (← asAddr (E a)))) :
    ∀ (l : List ResultVar) (vs : List Value), ResOK P E h l vs → (l.mapM f).run P (c.w h d) = .ok vs (c.w h d)
  | [], [], _ => by simp
  | [], _ :: _, h => h.elim
  | .tmp t :: l, v :: vs, hr => by
    have ih := results_mapM c d f hf hc l vs hr.2
    simp only [List.mapM_cons, Sem.run_bind, hf, Sem.run_pure, Result.andThen_ok, ih, hr.1]
  | .tmp t :: l, [], h => h.elim
  | .cell a t :: l, v :: vs, hr => by
    have ih := results_mapM c d f hf hc l vs hr.2
    obtain ⟨ad, h1, h2⟩ := hr.1
    simp only [List.mapM_cons, Sem.run_bind, hc, h1, asAddr, Sem.run_pure, Result.andThen_ok, h2, ih]
  | .cell a t :: l, [], h => h.elim

theorem results_run {P : Program} {fn : Func} {tmps : Array Value} {E : Env} {h : H} (hE : ∀ t, tmps.getD t undef = E t) {vs : List Value} (hr : ResOK P E h fn.results.toList vs) (c : Ctx) (d : Nat) :
    (results fn tmps).run P (c.w h d) = .ok (tupleOf vs) (c.w h d) := by
  unfold results
  rw [Array.mapM_eq_mapM_toList, Sem.run_bind, Sem.run_map, results_mapM (E := E) c d _ (fun t => by simp only [hE]) (fun a t => by simp only [hE]) fn.results.toList vs hr]
  cases vs with
  | nil => rfl
  | cons v r => cases r <;> rfl

/-- What a function's body owes: at its end its results are read. -/
def bodyE (P : Program) (fn : Func) (Q : Value → H → Prop) : QE
  | .normal, E, h | .ret, E, h => ∃ vs, ResOK P E h fn.results.toList vs ∧ Q (tupleOf vs) h
  | _, _, _ => False

def argE (args : List Value) : Env := fun t => args.getD t undef

theorem CallsH.of_body {P : Program} {f : FuncId} {fn : Func} {cd : Code} {args : List Value} {h : H} {Q : Value → H → Prop}
    (hf : P.funcs[f]? = some fn) (hb : fn.body = some cd) (n : Nat) (hn : fn.ntmps = n) (ha : Nat.ble args.length n = true)
    (hh : WP P n cd (bodyE P fn Q) (argE args) h) : CallsH P f args.toArray h Q := by
  intro c d
  have ha := Nat.le_of_ble_eq_true ha
  refine calls_of_wp hf hb ?_
  refine wp_mono (hh c d _ ⟨rfl, by simp; omega, fun t => ?_⟩) ?_
  · simp only [argE, Array.getD_eq_getD_getElem?, Array.getElem?_append, List.getD_eq_getElem?_getD]
    simp only [List.size_toArray, List.getElem?_toArray, Array.getElem?_replicate]
    by_cases ht : t < args.length
    · rw [if_pos ht]
    · rw [if_neg ht, List.getElem?_eq_none (by omega)]
      split <;> rfl
  · rintro e a' w' ⟨E', h', d', rfl, s', q⟩
    cases e with
    | normal => obtain ⟨vs, hr, hq⟩ := q; exact ⟨s'.defers, _, results_run s'.tmps hr _ _, _, h', d', rfl, rfl, hq⟩
    | ret => obtain ⟨vs, hr, hq⟩ := q; exact ⟨s'.defers, _, results_run s'.tmps hr _ _, _, h', d', rfl, rfl, hq⟩
    | _ => exact q.elim

end Go.Tr
