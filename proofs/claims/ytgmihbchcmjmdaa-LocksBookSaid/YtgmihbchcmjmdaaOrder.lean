/- Regions that draw their order: if each pair of operations that may change places commutes, the text's order speaks for all. -/
import Derived.Test.YtgmihbchcmjmdaaCore
namespace Go.Tr
open Go

inductive Cls where
  | pure | read | alloc
  /-- It acts; the reads so numbered, made before it, must read the same behind it. -/
  | eff (ks : List Nat)
  deriving DecidableEq

def Ext (h h' : H) : Prop := h.size ≤ h'.size ∧ ∀ i, i < h.size → h'[i]? = h[i]?
theorem Ext.refl (h : H) : Ext h h := ⟨Nat.le_refl _, fun _ _ => rfl⟩
theorem Ext.trans {a b c : H} (x : Ext a b) (y : Ext b c) : Ext a c := ⟨Nat.le_trans x.1 y.1, fun i hi => (y.2 i (by have := x.1; omega)).trans (x.2 i hi)⟩
theorem Ext.push (h : H) (o : Obj) : Ext h (h.push o) := ⟨by simp, fun i hi => by rw [Array.getElem?_push, if_neg (by omega)]⟩

def PureAt (P : Program) (s : Sem Next) (v : Value) : Prop := ∀ w : World, s.run P w = .ok (.value v) w
def ReadAt (P : Program) (s : Sem Next) (h : H) (v : Value) : Prop := ∀ (c : Ctx) (d : Nat) (h' : H), Ext h h' → s.run P (c.w h' d) = .ok (.value v) (c.w h' d)
def AllocAt (P : Program) (s : Sem Next) (h : H) (K : Value → H → Prop) : Prop := RunH P s h fun v h' => Ext h h' ∧ K v h'

theorem PureAt.readAt {P : Program} {s : Sem Next} {v : Value} (f : PureAt P s v) (h : H) : ReadAt P s h v := fun _ _ _ _ => f _
theorem ReadAt.runH {P : Program} {s : Sem Next} {h : H} {v : Value} {K : Value → H → Prop} (f : ReadAt P s h v) (k : K v h) : RunH P s h K :=
  fun c d => ⟨v, h, d, .inl (f c d h (Ext.refl h)), k⟩
theorem PureAt.unique {P : Program} {s : Sem Next} {u v : Value} (f : PureAt P s u) (g : PureAt P s v) : u = v := by
  have := (f default).symm.trans (g default)
  simpa using this

def StepC (P : Program) (o : Oper) (c : Cls) (E : Env) (h : H) (K : Value → H → Prop) : Prop :=
  match c with
  | .pure => ∃ v, PureAt P (execOp (evE E) o) v ∧ K v h
  | .read => ∃ v, ReadAt P (execOp (evE E) o) h v ∧ K v h
  | .alloc => AllocAt P (execOp (evE E) o) h K
  | .eff _ => StepH P o E h K
def StepG (P : Program) (ops : Array Oper) (o : Oper) (c : Cls) (E : Env) (h : H) (K : Value → H → Prop) : Prop :=
  if Region.wanted o (yE ops E) then StepC P o c E h K else K undef h

theorem StepC.mono {P : Program} {o : Oper} {c : Cls} {E : Env} {h : H} {K K' : Value → H → Prop} (s : StepC P o c E h K) (k : ∀ v h', (c = .alloc → Ext h h') → (c = .pure ∨ c = .read → h' = h) → K v h' → K' v h') : StepC P o c E h K' := by
  cases c with
  | pure => obtain ⟨v, f, q⟩ := s; exact ⟨v, f, k _ _ (by simp) (by simp) q⟩
  | read => obtain ⟨v, f, q⟩ := s; exact ⟨v, f, k _ _ (by simp) (by simp) q⟩
  | alloc => exact RunH.mono s fun v h' q => ⟨q.1, k _ _ (fun _ => q.1) (by simp) q.2⟩
  | eff ks => exact StepH.mono s fun v h' q => k _ _ (by simp) (by simp) q
theorem StepC.stepH {P : Program} {o : Oper} {c : Cls} {E : Env} {h : H} {K : Value → H → Prop} (s : StepC P o c E h K) : StepH P o E h K := by
  cases c with
  | pure => obtain ⟨v, f, q⟩ := s; exact .inl ((f.readAt h).runH q)
  | read => obtain ⟨v, f, q⟩ := s; exact .inl (f.runH q)
  | alloc => exact .inl (RunH.mono s fun v h' q => q.2)
  | eff ks => exact s
theorem StepH.some {P : Program} {o : Oper} {E : Env} {h : H} {K : Value → H → Prop} (s : StepH P o E h K) : ∃ v h', K v h' := by
  rcases s with r | ⟨f, args, _, r⟩
  · obtain ⟨v, h', _, _, q⟩ := r ⟨fun _ _ => 0, default, #[]⟩ 0; exact ⟨v, h', q⟩
  · obtain ⟨e, w', _, ⟨v, h', _, _, _, q⟩, _⟩ := r ⟨fun _ _ => 0, default, #[]⟩ 0 []; exact ⟨v, h', q⟩

def compat (i : Nat) : Cls → Cls → Bool
  | .pure, _ => true
  | _, .pure => true
  | .read, .read => true
  | .read, .alloc => true
  | .read, .eff ks => ks.contains i
  | _, _ => false

theorem execOp_updo {ops : Array Oper} (o : Oper) (hs : ∀ cs b, o.op ≠ .select cs b) (E : Env) (dst : Option Tmp) (v : Value) (h : ∀ d, dst = some d → d ∉ o.looksAt ops) :
    execOp (evE (updo E dst v)) o = execOp (evE E) o := by
  refine execOp_congr o hs fun x hx => ?_
  cases x with
  | tmp t =>
    cases dst with
    | none => rfl
    | some d =>
      refine upd_ne E v fun e => ?_
      subst e
      exact h t rfl (List.mem_append_left _ (List.mem_filterMap.2 ⟨.tmp t, by simpa using hx, rfl⟩))
  | _ => rfl
theorem wanted_updo {ops : Array Oper} (o : Oper) (E : Env) (dst : Option Tmp) (v : Value) (h : ∀ d, dst = some d → d ∉ o.looksAt ops) :
    Region.wanted o (yE ops (updo E dst v)) = Region.wanted o (yE ops E) := by
  cases dst with
  | none => rfl
  | some d =>
    unfold Region.wanted
    cases hg : o.guard with
    | none => rfl
    | some gw =>
      obtain ⟨g, b⟩ := gw
      have hd := h d rfl
      have : yE ops (updo E (some d) v) g = yE ops E g := by
        unfold yE
        cases ho : (ops[g]?).bind (·.dst) with
        | none => rfl
        | some t =>
          have ht : t ≠ d := fun e => hd (by
            subst e
            refine List.mem_append_right _ ?_
            simp [hg, ho])
          simp only [updo, upd_ne E v ht]
      simp only [this]
theorem StepG.congr {P : Program} {ops : Array Oper} {o : Oper} (hs : ∀ cs b, o.op ≠ .select cs b) {c : Cls} {E : Env} {dst : Option Tmp} {v : Value} {h : H} {K : Value → H → Prop} (hl : ∀ d, dst = some d → d ∉ o.looksAt ops) :
    StepG P ops o c (updo E dst v) h K = StepG P ops o c E h K := by
  unfold StepG StepC StepH
  rw [wanted_updo o E dst v hl, execOp_updo o hs E dst v hl]
theorem updo_comm (E : Env) {d e : Option Tmp} (u v : Value) (h : ∀ x, d = some x → e ≠ some x) : updo (updo E d u) e v = updo (updo E e v) d u := by
  cases d with
  | none => rfl
  | some x =>
    cases e with
    | none => rfl
    | some y =>
      have hxy : y ≠ x := fun e => h x rfl (by rw [e])
      funext t
      simp only [updo]
      by_cases h1 : t = y
      · subst h1; rw [upd_same, upd_ne _ _ hxy, upd_same]
      · rw [upd_ne _ _ h1]
        by_cases h2 : t = x
        · subst h2; rw [upd_same, upd_same]
        · rw [upd_ne _ _ h2, upd_ne _ _ h2, upd_ne _ _ h1]

/-- A read that was made: its place, what it asks, what it found. -/
structure Pend where
  i : Nat
  s : Sem Next
  v : Value
def Chk (P : Program) (ks : List Nat) (h : H) : List Pend → Prop
  | [] => True
  | p :: r => (bif ks.contains p.i then ReadAt P p.s h p.v else True) ∧ Chk P ks h r
theorem Chk_iff {P : Program} {ks : List Nat} {h : H} : ∀ {pend : List Pend}, Chk P ks h pend ↔ ∀ p ∈ pend, ks.contains p.i = true → ReadAt P p.s h p.v
  | [] => by simp [Chk]
  | p :: r => by
    simp only [Chk, Chk_iff (pend := r), List.mem_cons, forall_eq_or_imp]
    cases ks.contains p.i <;> simp

/-- What follows an operation's value, by its class. -/
def after (P : Program) (c : Cls) (i : Nat) (s : Sem Next) (pend : List Pend) (v : Value) (h : H) (X : List Pend → Prop) : Prop :=
  match c with
  | .read => X (⟨i, s, v⟩ :: pend)
  | .eff ks => Chk P ks h pend ∧ X pend
  | _ => X pend
/-- The operations named by place, in that order. -/
def EvI (P : Program) (ops : Array Oper) (cs : List Cls) : List Nat → List Pend → Env → H → (Env → H → Prop) → Prop
  | [], _, E, h, K => K E h
  | i :: r, pend, E, h, K => match ops[i]? with
    | none => False
    | some o =>
      if Region.wanted o (yE ops E) then
        StepC P o (cs.getD i (.eff [])) E h fun v h' => after P (cs.getD i (.eff [])) i (execOp (evE E) o) pend v h' fun pend' => EvI P ops cs r pend' (updo E o.dst v) h' K
      else EvI P ops cs r pend (updo E o.dst undef) h K

theorem EvI_cons {P : Program} {ops : Array Oper} {cs : List Cls} {i : Nat} {o : Oper} (ho : ops[i]? = some o) {r : List Nat} {pend : List Pend} {E : Env} {h : H} {K : Env → H → Prop} :
    EvI P ops cs (i :: r) pend E h K = if Region.wanted o (yE ops E) then
        StepC P o (cs.getD i (.eff [])) E h fun v h' => after P (cs.getD i (.eff [])) i (execOp (evE E) o) pend v h' fun pend' => EvI P ops cs r pend' (updo E o.dst v) h' K
      else EvI P ops cs r pend (updo E o.dst undef) h K := by
  simp only [EvI, ho]

theorem after.mono {P : Program} {c : Cls} {i : Nat} {s : Sem Next} {pend pend' : List Pend} {v : Value} {h : H} {X X' : List Pend → Prop} (hp : ∀ p ∈ pend', p ∈ pend)
    (hX : ∀ q q', (∀ p ∈ q', p ∈ q) → X q → X' q') (a : after P c i s pend v h X) : after P c i s pend' v h X' := by
  cases c with
  | read => exact hX _ _ (fun p h => by rcases List.mem_cons.1 h with rfl | h; exact List.mem_cons_self; exact List.mem_cons_of_mem _ (hp p h)) a
  | eff ks => exact ⟨Chk_iff.2 fun p h e => Chk_iff.1 a.1 p (hp p h) e, hX _ _ hp a.2⟩
  | _ => exact hX _ _ hp a

theorem EvI.mono {P : Program} {ops : Array Oper} {cs : List Cls} {K : Env → H → Prop} : ∀ (r : List Nat) (pend pend' : List Pend) (E : Env) (h : H), (∀ p ∈ pend', p ∈ pend) → EvI P ops cs r pend E h K → EvI P ops cs r pend' E h K
  | [], _, _, _, _, _, s => s
  | i :: r, pend, pend', E, h, hp, s => by
    cases ho : ops[i]? with
    | none => simp [EvI, ho] at s
    | some o =>
      rw [EvI_cons ho] at s ⊢
      split <;> rename_i hw
      · rw [if_pos hw] at s
        exact s.mono fun v h' _ _ q => q.mono hp fun q q' hq x => EvI.mono r q q' _ _ hq x
      · rw [if_neg hw] at s
        exact EvI.mono r pend pend' _ _ hp s

theorem swapC {P : Program} {oi oj : Oper} {ci cj : Cls} {i j : Nat} {si sj : Sem Next} {pend : List Pend} {E : Env} {h : H} {Y : Value → Value → H → List Pend → Prop} (hY : ∀ v u h q q', (∀ p ∈ q', p ∈ q) → Y v u h q → Y v u h q')
    (hsi : si = execOp (evE E) oi) (hc : compat i ci cj = true)
    (s : StepC P oi ci E h fun v h1 => after P ci i si pend v h1 fun p1 => StepC P oj cj E h1 fun u h2 => after P cj j sj p1 u h2 fun p2 => Y v u h2 p2) :
    StepC P oj cj E h fun u h1 => after P cj j sj pend u h1 fun p1 => StepC P oi ci E h1 fun v h2 => after P ci i si p1 v h2 fun p2 => Y v u h2 p2 := by
  cases ci with
  | pure =>
    obtain ⟨v, f, q⟩ := s
    have q' : StepC P oj cj E h (fun u h2 => after P cj j sj pend u h2 fun p2 => Y v u h2 p2) := q
    exact q'.mono fun u h' _ _ y => y.mono (fun _ h => h) fun q q' hq x => ⟨v, f, hY _ _ _ _ _ hq x⟩
  | read =>
    obtain ⟨v, f, q⟩ := s
    have q' : StepC P oj cj E h (fun u h2 => after P cj j sj (⟨i, si, v⟩ :: pend) u h2 fun p2 => Y v u h2 p2) := q
    cases cj with
    | pure => exact q'.mono fun u h' x1 x2 y => ⟨v, by rw [x2 (.inl rfl)]; exact f, hY _ _ _ _ _ (fun _ h => h) y⟩
    | read =>
      refine q'.mono fun u h' x1 x2 y => ⟨v, by rw [x2 (.inr rfl)]; exact f, hY _ _ _ _ _ (fun p hp => ?_) y⟩
      simp only [List.mem_cons] at hp ⊢
      rcases hp with h | h | h
      · exact .inr (.inl h)
      · exact .inl h
      · exact .inr (.inr h)
    | alloc => exact q'.mono fun u h' x1 x2 y => ⟨v, fun c d h'' e => f c d h'' ((x1 rfl).trans e), hY _ _ _ _ _ (fun _ h => h) y⟩
    | eff ks =>
      refine q'.mono fun u h' x1 x2 y => ?_
      obtain ⟨y1, y2⟩ := y
      have hk : ks.contains i = true := by simpa [compat] using hc
      refine ⟨y1.2, v, ?_, hY _ _ _ _ _ (fun _ h => h) y2⟩
      have := y1.1
      rw [hk] at this
      subst hsi
      exact this
  | alloc =>
    cases cj with
    | pure =>
      obtain ⟨v0, h0, u, f, _⟩ := StepH.some s.stepH
      refine ⟨u, f, s.mono fun v h' _ _ ⟨u', f', y⟩ => ?_⟩
      rw [f.unique f']; exact y
    | _ => simp [compat] at hc
  | eff ks =>
    cases cj with
    | pure =>
      obtain ⟨v0, h0, _, u, f, _⟩ := StepH.some s.stepH
      refine ⟨u, f, s.mono fun v h' _ _ ⟨z, u', f', y⟩ => ⟨z, ?_⟩⟩
      rw [f.unique f']; exact y
    | _ => simp [compat] at hc

theorem StepC_updo {P : Program} {ops : Array Oper} {o : Oper} (hs : ∀ cs b, o.op ≠ .select cs b) {c : Cls} {E : Env} {dst : Option Tmp} {v : Value} {h : H} {K : Value → H → Prop} (hl : ∀ d, dst = some d → d ∉ o.looksAt ops) :
    StepC P o c (updo E dst v) h K = StepC P o c E h K := by
  unfold StepC StepH
  rw [execOp_updo o hs E dst v hl]

theorem EvI.swap {P : Program} {ops : Array Oper} {cs : List Cls} {i j : Nat} {oi oj : Oper} (hi : ops[i]? = some oi) (hj : ops[j]? = some oj) (hsi : ∀ cs b, oi.op ≠ .select cs b) (hsj : ∀ cs b, oj.op ≠ .select cs b)
    (hap : oi.apart ops oj = true) (hc : compat i (cs.getD i (.eff [])) (cs.getD j (.eff [])) = true) {r : List Nat} {pend : List Pend} {E : Env} {h : H} {K : Env → H → Prop} (s : EvI P ops cs (i :: j :: r) pend E h K) : EvI P ops cs (j :: i :: r) pend E h K := by
  obtain ⟨h1, h2, h3⟩ := Oper.apart_spec hap
  have hcomm : ∀ u v, updo (updo E oj.dst u) oi.dst v = updo (updo E oi.dst v) oj.dst u := fun u v => updo_comm E u v (fun x hx he => h2 x he hx)
  simp only [EvI_cons hi, EvI_cons hj, wanted_updo oj E oi.dst _ h1, wanted_updo oi E oj.dst _ h3, StepC_updo hsj h1, StepC_updo hsi h3, execOp_updo oj hsj E oi.dst _ h1, execOp_updo oi hsi E oj.dst _ h3, hcomm] at s ⊢
  by_cases wi : Region.wanted oi (yE ops E) = true <;> by_cases wj : Region.wanted oj (yE ops E) = true <;>
    simp only [wi, wj, if_true, Bool.false_eq_true, if_false] at s ⊢
  · exact swapC (Y := fun v u h2 p2 => EvI P ops cs r p2 (updo (updo E oi.dst v) oj.dst u) h2 K) (fun v u h q q' hq x => EvI.mono r q q' _ _ hq x) rfl hc s
  · exact s
  · exact s
  · exact s

/-! the check -/
def ancs (A : List (List Nat)) (i : Nat) : List Nat := A.getD i []
def pairOk (ops : Array Oper) (cs : List Cls) (A : List (List Nat)) (k i : Nat) : Bool :=
  k != i && ((ancs A i).contains k || (match ops[k]?, ops[i]? with
    | some ok, some oi => ok.apart ops oi && compat k (cs.getD k (.eff [])) (cs.getD i (.eff []))
    | _, _ => false)) && (match ops[k]? with
    | some ok => ok.after.all fun e => !Region.binds .any e || e.on != i
    | none => false)
def pairsOk (ops : Array Oper) (cs : List Cls) (A : List (List Nat)) : List Nat → Bool
  | [] => true
  | k :: r => (r.all fun i => pairOk ops cs A k i) && pairsOk ops cs A r
def ancOk (ops : Array Oper) (A : List (List Nat)) (i : Nat) : Bool :=
  match ops[i]? with
  | none => false
  | some o => (o.after.all fun e => !Region.binds .any e || decide (e.on < i)) &&
    (ancs A i).all fun k => o.after.any fun e => Region.binds .any e && (e.on == k || (ancs A e.on).contains k)
def okD (ops : Array Oper) (cs : List Cls) (A : List (List Nat)) (π : List Nat) : Bool :=
  Region.noSelect ops && ((List.range ops.size).all fun i => ancOk ops A i && π.contains i) && (π.all fun i => decide (i < ops.size)) && π.length == ops.size && pairsOk ops cs A π
def dstsOk (n : Nat) (ops : Array Oper) : Bool := ops.all fun o => match o.dst with | some d => decide (d < n) | none => true

section
variable {P : Program} {ops : Array Oper} {cs : List Cls} {A : List (List Nat)} {listed : Array Bool}

structure Closed (ops : Array Oper) (listed : Array Bool) (R : List Nat) : Prop where
  size : listed.size = ops.size
  closed : ∀ j oj, ops[j]? = some oj → listed.getD j false = true → ∀ e ∈ oj.after, Region.binds .any e = true → listed.getD e.on false = true
  left : ∀ i, i ∈ R ↔ i < ops.size ∧ listed.getD i true = false

theorem listed_not {listed : Array Bool} {k : Nat} (h : listed.getD k true = false) : listed.getD k false = false := by
  rcases Nat.lt_or_ge k listed.size with h' | h'
  · simp [h'] at h ⊢; exact h
  · simp [Array.getElem?_eq_none h'] at h

theorem anc_not_listed (hA : ∀ i, i < ops.size → ancOk ops A i = true) {R : List Nat} (cl : Closed ops listed R) {k : Nat} (hk : listed.getD k true = false) :
    ∀ i, k ∈ ancs A i → i < ops.size → listed.getD i false = false ∧ i ∉ Region.ready .any ops listed := by
  intro i
  induction i using Nat.strongRecOn with
  | _ i ih =>
    intro hki hi
    have h := hA i hi
    unfold ancOk at h
    rw [Array.getElem?_eq_getElem hi] at h
    simp only [Bool.and_eq_true] at h
    obtain ⟨h1, h2⟩ := h
    have h3 := List.all_eq_true.1 h2 k hki
    obtain ⟨e, he, hb⟩ := Array.any_eq_true'.1 h3
    simp only [Bool.and_eq_true, Bool.or_eq_true, beq_iff_eq] at hb
    obtain ⟨hb, hon⟩ := hb
    have h4 := Array.all_eq_true'.1 h1 e he
    simp only [hb, Bool.not_true, Bool.false_or, decide_eq_true_eq] at h4
    have hno : listed.getD e.on false = false := by
      rcases hon with hon | hon
      · rw [hon]; exact listed_not hk
      · exact (ih e.on h4 (by simpa using hon) (by omega)).1
    have ho : ops[i]? = some ops[i] := Array.getElem?_eq_getElem hi
    constructor
    · cases hl : listed.getD i false with
      | false => rfl
      | true => rw [cl.closed i _ ho hl e he hb] at hno; cases hno
    · intro hr
      obtain ⟨_, o, ho', hall⟩ := mem_ready.1 hr
      rw [ho] at ho'; cases ho'
      rw [hall e he hb] at hno; cases hno

theorem pairsOk_spec : ∀ {π : List Nat}, pairsOk ops cs A π = true → π.Pairwise fun k i => pairOk ops cs A k i = true
  | [], _ => List.Pairwise.nil
  | k :: r, h => by
    simp only [pairsOk, Bool.and_eq_true] at h
    exact List.pairwise_cons.2 ⟨fun i hi => List.all_eq_true.1 h.1 i hi, pairsOk_spec h.2⟩

/-- One that is ready comes first. -/
theorem EvI.front (hs : Region.noSelect ops = true) (hA : ∀ i, i < ops.size → ancOk ops A i = true) {R : List Nat} (cl : Closed ops listed R) {i : Nat} (hr : i ∈ Region.ready .any ops listed) :
    ∀ (p q : List Nat) (pend : List Pend) (E : Env) (h : H) (K : Env → H → Prop), (∀ k ∈ p, pairOk ops cs A k i = true ∧ k < ops.size ∧ listed.getD k true = false) → EvI P ops cs (p ++ i :: q) pend E h K → EvI P ops cs (i :: p ++ q) pend E h K
  | [], _, _, _, _, _, _, s => s
  | k :: p, q, pend, E, h, K, hp, s => by
    obtain ⟨hun, oi, hoi, _⟩ := mem_ready.1 hr
    have hi : i < ops.size := (Array.getElem?_eq_some_iff.1 hoi).1
    have hki := hp k (by simp)
    have hpair := hki.1
    have hnot : (ancs A i).contains k = false := by
      rw [← Bool.not_eq_true]; intro hc
      exact (anc_not_listed hA cl hki.2.2 i (by simpa using hc) hi).2 hr
    have hks := hki.2.1
    have hok : ops[k]? = some ops[k] := Array.getElem?_eq_getElem hks
    unfold pairOk at hpair
    rw [hnot, hoi, hok] at hpair
    simp only [Bool.false_or, Bool.and_eq_true] at hpair
    have s1 : EvI P ops cs (k :: i :: (p ++ q)) pend E h K := by
      rw [List.cons_append, EvI_cons hok] at s
      rw [EvI_cons hok]
      split <;> rename_i hw
      · rw [if_pos hw] at s
        exact s.mono fun v h' _ _ q5 => q5.mono (fun _ h => h) fun q' q'' hq x => EvI.mono _ q' q'' _ _ hq (EvI.front hs hA cl hr p q _ _ _ _ (fun x hx => hp x (by simp [hx])) x)
      · rw [if_neg hw] at s
        exact EvI.front hs hA cl hr p q _ _ _ _ (fun x hx => hp x (by simp [hx])) s
    exact EvI.swap hok hoi (fun cs b => Region.noSelect_spec hs _ _ cs b hok) (fun cs b => Region.noSelect_spec hs _ _ cs b hoi) hpair.1.2.1 hpair.1.2.2 s1

theorem pairOk_ne {k i : Nat} (h : pairOk ops cs A k i = true) : k ≠ i := by
  unfold pairOk at h
  simp only [Bool.and_eq_true, bne_iff_ne] at h
  exact h.1.1
theorem pairwise_split {R p q : List Nat} {i : Nat} (h : R.Pairwise fun k i => pairOk ops cs A k i = true) (e : R = p ++ i :: q) : (∀ k ∈ p, pairOk ops cs A k i = true) ∧ (p ++ q).Pairwise (fun k i => pairOk ops cs A k i = true) ∧ (i ∉ p ++ q) := by
  subst e
  have h1 := List.pairwise_append.1 h
  have h2 := List.pairwise_cons.1 h1.2.1
  refine ⟨fun k hk => h1.2.2 k hk i (by simp), List.pairwise_append.2 ⟨h1.1, h2.2, fun a ha b hb => h1.2.2 a ha b (by simp [hb])⟩, fun hm => ?_⟩
  rcases List.mem_append.1 hm with hm | hm
  · exact pairOk_ne (h1.2.2 i hm i (by simp)) rfl
  · exact pairOk_ne (h2.1 i hm) rfl

theorem getD_set (listed : Array Bool) (i j : Nat) (d : Bool) (hi : i < listed.size) : (listed.setIfInBounds i true).getD j d = if j = i then true else listed.getD j d := by
  simp only [Array.getD_eq_getD_getElem?, Array.getElem?_setIfInBounds]
  by_cases e : j = i
  · subst e; simp [hi]
  · rw [if_neg (Ne.symm e), if_neg e]

theorem wpAny_of_evI {n : Nat} {K : Env → H → Prop} {c : Ctx} {Q : Exit → Act → World → Prop} (hs : Region.noSelect ops = true) (hA : ∀ i, i < ops.size → ancOk ops A i = true) (hd : dstsOk n ops = true)
    (hK : ∀ E h d a, K E h → St n E a → Q .normal a (c.w h d)) :
    ∀ (m : Nat) (R : List Nat) (pend : List Pend) (listed : Array Bool) (E : Env) (h : H) (d : Nat) (a : Act), R.length = m → (R.Pairwise fun k i => pairOk ops cs A k i = true) → Closed ops listed R → EvI P ops cs R pend E h K → St n E a → wpAny P .any ops Q m listed a (c.w h d) := by
  intro m
  induction m with
  | zero =>
    intro R pend listed E h d a hm _ cl s st
    obtain rfl : R = [] := List.length_eq_zero_iff.1 hm
    refine ⟨?_, hK _ _ _ _ s st⟩
    cases hr : Region.ready .any ops listed with
    | nil => rfl
    | cons x xs =>
      have hx : x ∈ Region.ready .any ops listed := by rw [hr]; simp
      obtain ⟨hun, o, ho, _⟩ := mem_ready.1 hx
      have := (cl.left x).2 ⟨(Array.getElem?_eq_some_iff.1 ho).1, hun⟩
      cases this
  | succ m ih =>
    intro R pend listed E h d a hm hpw cl s st
    constructor
    · intro hnil
      exfalso
      cases R with
      | nil => cases hm
      | cons i r =>
        have hi := (cl.left i).1 (by simp)
        have : i ∈ Region.ready .any ops listed := by
          refine mem_ready.2 ⟨hi.2, ops[i], Array.getElem?_eq_getElem hi.1, fun e he hb => ?_⟩
          have h := hA i hi.1
          unfold ancOk at h
          rw [Array.getElem?_eq_getElem hi.1] at h
          simp only [Bool.and_eq_true] at h
          have h4 := Array.all_eq_true'.1 h.1 e he
          simp only [hb, Bool.not_true, Bool.false_or, decide_eq_true_eq] at h4
          cases hl : listed.getD e.on true with
          | false =>
            have hm' := (cl.left e.on).2 ⟨by omega, hl⟩
            rcases List.mem_cons.1 hm' with hm' | hm'
            · omega
            · have h5 := (List.pairwise_cons.1 hpw).1 _ hm'
              unfold pairOk at h5
              rw [Array.getElem?_eq_getElem hi.1] at h5
              simp only [Bool.and_eq_true] at h5
              have h6 := Array.all_eq_true'.1 h5.2 e he
              simp [hb] at h6
          | true =>
            have : e.on < listed.size := by rw [cl.size]; omega
            simp [this] at hl ⊢; exact hl
        rw [hnil] at this; cases this
    · intro i hr
      obtain ⟨hun, oi, hoi, hall⟩ := mem_ready.1 hr
      have hi : i < ops.size := (Array.getElem?_eq_some_iff.1 hoi).1
      have hiR := (cl.left i).2 ⟨hi, hun⟩
      obtain ⟨p, q, e⟩ := List.append_of_mem hiR
      obtain ⟨hp1, hp2, hp3⟩ := pairwise_split hpw e
      rw [e] at s
      have s1 := EvI.front hs hA cl hr p q pend E h K (fun k hk' => ⟨hp1 k hk', (cl.left k).1 (by rw [e]; simp [hk'])⟩) s
      have hlen : (p ++ q).length = m := by rw [e] at hm; simp at hm ⊢; omega
      have hil : i < listed.size := by rw [cl.size]; exact hi
      have cl' : Closed ops (listed.setIfInBounds i true) (p ++ q) := by
        refine ⟨by simp [cl.size], fun j oj hj hl e' he' hb => ?_, fun k => ?_⟩
        · rw [getD_set _ _ _ _ hil] at hl ⊢
          split
          · rfl
          · split at hl
            · rename_i hji
              subst hji
              rw [hoi] at hj; cases hj
              exact hall e' he' hb
            · exact cl.closed j oj hj hl e' he' hb
        · have hkR := cl.left k
          rw [getD_set _ _ _ _ hil]
          by_cases hki : k = i
          · subst hki
            simp only [if_true]
            exact ⟨fun h => absurd h hp3, fun h => by cases h.2⟩
          · rw [if_neg hki, ← hkR, e]
            simp [hki]
      have hdst : ∀ k, oi.dst = some k → k < n := by
        intro k hk'
        have := Array.all_eq_true'.1 hd oi (Array.mem_of_getElem? hoi)
        rw [hk'] at this
        simpa using this
      rw [List.cons_append, EvI_cons hoi] at s1
      unfold wpOp
      simp only [hoi]
      rw [st.yielded]
      split <;> rename_i hw
      · rw [if_pos hw] at s1
        refine .inl (Oper.wp_of_stepH st s1.stepH fun v h' d' q5 => ?_)
        have : ∃ pend', EvI P ops cs (p ++ q) pend' (updo E oi.dst v) h' K := by
          unfold after at q5
          split at q5
          · exact ⟨_, q5⟩
          · exact ⟨_, q5.2⟩
          · exact ⟨_, q5⟩
        obtain ⟨pend', q6⟩ := this
        exact ih (p ++ q) pend' _ _ _ _ _ hlen hp2 cl' q6 (st.put _ _ hdst)
      · rw [if_neg hw] at s1
        exact ih (p ++ q) pend _ _ _ _ _ hlen hp2 cl' s1 (st.put _ _ hdst)
end

theorem WP.draw {P : Program} {n : Nat} {Q : QE} {E : Env} {h : H} {id : Nat} {l : List Oper} (hm : P.follows .mixedOrders = true) (cs : List Cls) (A : List (List Nat)) (π : List Nat)
    (hk : okD l.toArray cs A π = true) (hd : dstsOk n l.toArray = true) (hh : EvI P l.toArray cs π [] E h (fun E h => Q .normal E h)) : WP P n (.region id l.toArray true) Q E h := by
  intro c d a s
  refine wp_region_any hm ?_
  unfold okD at hk
  simp only [Bool.and_eq_true, beq_iff_eq] at hk
  obtain ⟨⟨⟨⟨h1, h2⟩, h3⟩, h4⟩, h5⟩ := hk
  have h6 : ∀ i, i < l.toArray.size → ancOk l.toArray A i = true ∧ π.contains i = true := fun i hi => by
    have := List.all_eq_true.1 h2 i (List.mem_range.2 hi)
    simpa using this
  refine wpAny_of_evI (c := c) (n := n) h1 (fun i hi => (h6 i hi).1) hd (fun E' h' d' a' q s' => ⟨E', h', d', rfl, s', q⟩) l.toArray.size π [] (Array.replicate l.toArray.size false) E h (d + 1) a h4 (pairsOk_spec h5) ?_ hh s
  refine ⟨by simp, fun j oj _ hl => ?_, fun i => ?_⟩
  · rw [getD_replicate_false] at hl; cases hl
  · constructor
    · intro hi
      have := List.all_eq_true.1 h3 i hi
      simp only [decide_eq_true_eq] at this
      exact ⟨this, by simp at this ⊢; simp [this]⟩
    · exact fun hi => by simpa using (h6 i hi.1).2

/-! ### whatever order: for regions whose makings of memory may change places -/
def StepA (P : Program) (ops : Array Oper) (o : Oper) (E : Env) (h : H) (K : Value → H → Prop) : Prop :=
  if Region.wanted o (yE ops E) then StepH P o E h K else K undef h
theorem StepA.mono {P : Program} {ops : Array Oper} {o : Oper} {E : Env} {h : H} {K K' : Value → H → Prop} (s : StepA P ops o E h K) (k : ∀ v h', K v h' → K' v h') : StepA P ops o E h K' := by
  unfold StepA at *
  split <;> rename_i hw
  · rw [if_pos hw] at s; exact StepH.mono s k
  · rw [if_neg hw] at s; exact k _ _ s
theorem StepA.congr {P : Program} {ops : Array Oper} {o : Oper} (hs : ∀ cs b, o.op ≠ .select cs b) {E : Env} {dst : Option Tmp} {v : Value} {h : H} {K : Value → H → Prop} (hl : ∀ d, dst = some d → d ∉ o.looksAt ops) :
    StepA P ops o (updo E dst v) h K = StepA P ops o E h K := by
  unfold StepA StepH
  rw [wanted_updo o E dst v hl, execOp_updo o hs E dst v hl]
def EvA (P : Program) (ops : Array Oper) : Nat → Array Bool → Env → H → (Env → H → Prop) → Prop
  | 0, listed, E, h, K => Region.ready .any ops listed = [] ∧ K E h
  | f + 1, listed, E, h, K => (Region.ready .any ops listed = [] → K E h) ∧ ∀ i ∈ Region.ready .any ops listed, ∃ o, ops[i]? = some o ∧ StepA P ops o E h fun v h' => EvA P ops f (listed.setIfInBounds i true) (updo E o.dst v) h' K

theorem EvA.first {P : Program} {ops : Array Oper} {K : Env → H → Prop} {i : Nat} {o : Oper} {v : Value} (hs : Region.noSelect ops = true) (ho : ops[i]? = some o) :
    ∀ (f : Nat) (listed : Array Bool) (E : Env) (h : H), Region.free .any ops listed i = true → i ∈ Region.ready .any ops listed → Region.wanted o (yE ops E) = true → PureAt P (execOp (evE E) o) v →
      EvA P ops f (listed.setIfInBounds i true) (updo E o.dst v) h K → EvA P ops (f + 1) listed E h K := by
  have hsi : ∀ cs b, o.op ≠ .select cs b := fun cs b => Region.noSelect_spec hs i o cs b ho
  intro f
  induction f with
  | zero =>
    intro listed E h hfree hr hw hf H
    refine ⟨fun e => (by rw [e] at hr; cases hr), fun j hj => ?_⟩
    by_cases hji : j = i
    · subst hji
      refine ⟨o, ho, ?_⟩
      unfold StepA; rw [if_pos hw]; exact .inl ((hf.readAt h).runH H)
    · have := ready_mono hj hji
      rw [H.1] at this; cases this
  | succ f ih =>
    intro listed E h hfree hr hw hf H
    refine ⟨fun e => (by rw [e] at hr; cases hr), fun j hj => ?_⟩
    by_cases hji : j = i
    · subst hji
      refine ⟨o, ho, ?_⟩
      unfold StepA; rw [if_pos hw]; exact .inl ((hf.readAt h).runH H)
    · obtain ⟨oj, hoj, hst⟩ := H.2 j (ready_mono hj hji)
      obtain ⟨hjun, oj', hoj', hall⟩ := mem_ready.1 hj
      have : oj' = oj := Option.some.inj (hoj'.symm.trans hoj)
      subst this
      have hnot : ∀ e ∈ oj'.after, Region.binds .any e = true → e.on ≠ i := fun e he hb heq => by
        have h1 := hall e he hb
        have h0 := (mem_ready.1 hr).1
        rw [heq, listed_not h0] at h1
        cases h1
      have hap := Region.free_spec ho hfree j oj' hoj hji hjun hnot
      obtain ⟨a1, a2, a3⟩ := Oper.apart_spec hap
      have hsj : ∀ cs b, oj'.op ≠ .select cs b := fun cs b => Region.noSelect_spec hs j oj' cs b hoj
      rw [StepA.congr hsj a1] at hst
      refine ⟨oj', hoj, hst.mono fun u h' q => ih (listed.setIfInBounds j true) (updo E oj'.dst u) h' ?_ (ready_mono hr (Ne.symm hji)) ?_ ?_ ?_⟩
      · unfold Region.free at hfree ⊢
        rw [ho] at hfree ⊢
        simp only [List.all_eq_true, List.mem_range] at hfree ⊢
        intro k hk
        have h1 := hfree k hk
        simp only [Bool.or_eq_true] at h1 ⊢
        rcases h1 with (h1 | h1) | h1
        · exact .inl (.inl h1)
        · left; right
          by_cases e : k = j
          · subst e
            obtain hl | hl := Nat.lt_or_ge k listed.size
            · rw [getD_set _ _ _ _ hl]; simp
            · simp [Array.getElem?_eq_none hl] 
          · rcases Nat.lt_or_ge j listed.size with hl | hl
            · rw [getD_set _ _ _ _ hl, if_neg e]; exact h1
            · rw [Array.setIfInBounds_eq_of_size_le hl]; exact h1
        · exact .inr h1
      · rw [wanted_updo o E oj'.dst u a3]; exact hw
      · rw [execOp_updo o hsi E oj'.dst u a3]; exact hf
      · rw [Array.setIfInBounds_comm _ _ hji, updo_comm E u v (fun x hx he => a2 x he hx)]; exact q

theorem wpAny_of_evA {P : Program} {ops : Array Oper} {n : Nat} {K : Env → H → Prop} {c : Ctx} {Q : Exit → Act → World → Prop} (hd : dstsOk n ops = true)
    (hK : ∀ E h d a, K E h → St n E a → Q .normal a (c.w h d)) :
    ∀ (f : Nat) (listed : Array Bool) (E : Env) (h : H) (d : Nat) (a : Act), EvA P ops f listed E h K → St n E a → wpAny P .any ops Q f listed a (c.w h d)
  | 0, _, _, _, _, _, s, st => ⟨s.1, hK _ _ _ _ s.2 st⟩
  | f + 1, listed, E, h, d, a, s, st => by
    refine ⟨fun e => hK _ _ _ _ (s.1 e) st, fun i hi => ?_⟩
    obtain ⟨o, ho, hs⟩ := s.2 i hi
    have hdst : ∀ k, o.dst = some k → k < n := by
      intro k hk'
      have := Array.all_eq_true'.1 hd o (Array.mem_of_getElem? ho)
      rw [hk'] at this
      simpa using this
    unfold wpOp
    simp only [ho]
    rw [st.yielded]
    unfold StepA at hs
    split <;> rename_i hw
    · rw [if_pos hw] at hs
      exact .inl (Oper.wp_of_stepH st hs fun v h' d' q => wpAny_of_evA hd hK f _ _ _ _ _ q (st.put _ _ hdst))
    · rw [if_neg hw] at hs
      exact wpAny_of_evA hd hK f _ _ _ _ _ hs (st.put _ _ hdst)
theorem WP.drawA {P : Program} {n : Nat} {Q : QE} {E : Env} {h : H} {id : Nat} {l : List Oper} (hm : P.follows .mixedOrders = true) (k : Nat) (hk : l.toArray.size = k) (hd : dstsOk n l.toArray = true)
    (hh : EvA P l.toArray k (Array.replicate k false) E h (fun E h => Q .normal E h)) : WP P n (.region id l.toArray true) Q E h := by
  subst hk
  intro c d a s
  exact wp_region_any hm (wpAny_of_evA hd (fun E' h' d' a' q s' => ⟨E', h', d', rfl, s', q⟩) _ _ E h (d + 1) a hh s)
end Go.Tr
