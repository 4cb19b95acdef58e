/- What the caller hands, read: a slice's elements as a list, in the heap at the call and in every later heap that keeps it. -/
import Derived.Test.YtanpaamamfabkaaHeap2
import Derived.ChangeArms
import Derived.DataReads
import Derived.ChangeSlices
import Derived.ProofKit
import Derived.SizedLaws
namespace Go.Proofs.Ytanpaamamfabkaa
open Go Go.Tr
set_option linter.unusedVariables false

/-- A Go type's cells, as the row reads them, are the kind's. -/
structure Opens (P : Program) (t : TypeId) {α : Type} (K : Kd α) (W : α → Prop) : Prop where
  out : ∀ {T : Type} {enc : TypeId × Value → T} {w : World} {base : Nat} {sp : Nat → Bool} {held : Bool} {fuel : Nat} {cs : List Value} {x : DataW T × List MemPlace}, DataW.trod enc P w base sp held fuel t cs = some x → ∃ y, K.dec cs = some y ∧ W y
structure OpensF (P : Program) (fs : List Field) (off total : Nat) {α : Type} (K : Kd α) (W : α → Prop) : Prop where
  out : ∀ {T : Type} {enc : TypeId × Value → T} {w : World} {base : Nat} {sp : Nat → Bool} {held : Bool} {n : Nat} {cs : List Value}, cs.length = total →
    (∀ f ∈ fs, ∃ x, DataW.trod enc P w base sp held n f.type ((cs.drop f.offset).take (P.cellsOf f.type)) = some x) → ∃ y, K.dec (cs.drop off) = some y ∧ W y
section
variable {P : Program} {α β : Type} {t : TypeId}
theorem opens_int {k : IntKind} (ht : P.underlying t = some (.int k)) : Opens P t (kI k) (fun n => (Lit.int k n).wf = true) := by
  refine ⟨?_⟩
  intro T enc w base sp held fuel cs x h
  obtain ⟨n, rfl, _, hw⟩ := DataW.trod_int ht h
  exact ⟨n, (kI k).full n, hw⟩
theorem opens_bool (ht : P.underlying t = some .bool) : Opens P t kB (fun _ => True) := by
  refine ⟨?_⟩
  intro T enc w base sp held fuel cs x h
  obtain ⟨n, rfl, _⟩ := DataW.trod_bool ht h
  exact ⟨n, kB.full n, trivial⟩
theorem opens_string (ht : P.underlying t = some .string) : Opens P t kS (fun s => s.size ≤ maxLen) := by
  refine ⟨?_⟩
  intro T enc w base sp held fuel cs x h
  obtain ⟨n, rfl, _, hl⟩ := DataW.trod_string ht h
  exact ⟨n, kS.full n, hl⟩
theorem opensF_last {f : Field} {off total : Nat} {K : Kd α} {W : α → Prop} (h : Opens P f.type K W) (ho : f.offset = off) (hc : P.cellsOf f.type = K.n) (ht : off + K.n = total) : OpensF P [f] off total K W := by
  refine ⟨?_⟩
  intro T enc w base sp held n cs hl hx
  obtain ⟨x, hx⟩ := hx f (by simp)
  rw [ho, hc, List.take_of_length_le (by simp; omega)] at hx
  exact h.out hx
theorem opensF_cons {f : Field} {fs : List Field} {off total : Nat} {A : Kd α} {B : Kd β} {WA : α → Prop} {WB : β → Prop} (h : Opens P f.type A WA) (ho : f.offset = off) (hc : P.cellsOf f.type = A.n) (r : OpensF P fs (off + A.n) total B WB) :
    OpensF P (f :: fs) off total (kPair A B) (fun x => WA x.1 ∧ WB x.2) := by
  refine ⟨?_⟩
  intro T enc w base sp held n cs hl hx
  obtain ⟨x, hx1⟩ := hx f (by simp)
  rw [ho, hc] at hx1
  obtain ⟨y, hy, wy⟩   := h.out hx1
  obtain ⟨z, hz, wz⟩ := r.out hl (fun g hg => hx g (List.mem_cons_of_mem _ hg))
  refine ⟨(y, z), ?_, wy, wz⟩
  show ((A.dec ((cs.drop off).take A.n)).bind fun a => (B.dec ((cs.drop off).drop A.n)).map fun b => (a, b)) = _
  rw [hy, List.drop_drop, hz]; rfl
theorem opens_struct {fs : Array Field} {total : Nat} {A : Kd α} {W : α → Prop} {f : β → α} {g : α → β} {h1 : ∀ x, g (f x) = x} {h2 : ∀ y, f (g y) = y} {W' : β → Prop} (hW : ∀ y, W (f y) → W' y) (ht : P.underlying t = some (.struct fs)) (hc : P.cellsOf t = total) (r : OpensF P fs.toList 0 total A W) :
    Opens P t (kIso A f g h1 h2) W' := by
  refine ⟨?_⟩
  intro T enc w base sp held fuel cs x h
  obtain ⟨xs, n, _, _, hl, hs, hx⟩ := DataW.trod_struct ht h
  obtain ⟨y, hy, wy⟩ := r.out (by rw [hl, hc]) (w := w) (enc := enc) (base := base) (sp := sp) (held := held) (n := n) (cs := cs) (fun f hf => by
    obtain ⟨i, hi, e⟩ := List.getElem_of_mem hf
    have hi' : i < fs.size := by simpa using hi
    have := hx i f (by rw [Array.getElem?_eq_getElem hi']; simp at e; rw [e])
    rw [this]
    exact ⟨_, List.getElem?_eq_getElem (by omega)⟩)
  refine ⟨g y, ?_, hW _ (by rw [h2]; exact wy)⟩
  show (A.dec cs).map g = _
  rw [List.drop_zero] at hy
  rw [hy]; rfl
end

/-- The elements of a slice, in a heap. -/
structure Rds {α : Type} (K : Kd α) (h : H) (s : Sl) (xs : List α) : Prop where
  len : s.len = xs.length
  at_ : ∀ (i : Nat) (hi : i < xs.length), ∃ a, s.a = some a ∧ ld K (a.add (i * K.n)) h = some xs[i]
theorem Rds.ext {α : Type} {K : Kd α} {h h' : H} {s : Sl} {xs : List α} (R : Rds K h s xs) (e : Ext h h') : Rds K h' s xs :=
  ⟨R.len, fun i hi => by obtain ⟨a, ha, hl⟩ := R.at_ i hi; exact ⟨a, ha, ld_ext e hl⟩⟩
theorem Rds.ix {α : Type} {K : Kd α} {h : H} {s : Sl} {xs : List α} (R : Rds K h s xs) {i : Nat} (hi : i < xs.length) {n : Nat} (hn : n = K.n) : ∃ a, ixA n s (i : Int) = some a ∧ ld K a h = some xs[i] := by
  obtain ⟨a, ha, hl⟩ := R.at_ i hi
  refine ⟨_, ?_, hl⟩
  unfold ixA
  rw [ha, hn]
  have : i < s.len := by rw [R.len]; exact hi
  simp [this]

theorem rdFrom_of (h : H) (a : Addr) : ∀ (n i : Nat) (cs : List Value), cs.length = n → (∀ j, j < n → hcell h (a.add (i + j)) = cs[j]?) → rdFrom h a i n = some cs
  | 0, i, [], _, _ => rfl
  | n + 1, i, c :: cs, hl, hx => by
    have h0 := hx 0 (by omega)
    rw [Nat.add_zero] at h0
    have hr := rdFrom_of h a n (i + 1) cs (by simpa using hl) (fun j hj => by have := hx (j + 1) (by omega); rw [show i + (j + 1) = i + 1 + j by omega] at this; simpa using this)
    show ((hcell h (a.add i)).bind fun v => (rdFrom h a (i + 1) n).map fun r => v :: r) = _
    rw [h0, hr]; rfl
/-- The slice that a caller hands. -/
theorem opens_slice {P : Program} {T : Type} {enc : TypeId × Value → T} {w : World} {base : Nat} {sp : Nat → Bool} {held : Bool} {fuel : Nat} {t e : TypeId} {cs : List Value} {x : DataW T × List MemPlace} {α : Type} {K : Kd α} {W : α → Prop}
    (ht : P.underlying t = some (.slice e)) (hc : P.cellsOf e = K.n) (o : Opens P e K W) (h : DataW.trod enc P w base sp held fuel t cs = some x) :
    ∃ (s : Sl) (xs : List α), cs = [Sl.val s] ∧ Rds K w.heap s xs ∧ (∀ y ∈ xs, W y) ∧ xs.length ≤ maxLen ∧ (x.1 = .nil ∧ xs = [] ∨ ∃ es rs, x.1 = .slice es rs ∧ es.length = xs.length) := by
  rcases DataW.trod_slice ht h with ⟨rfl, rfl⟩ | ⟨a, len, cap, es, rs, n, _, rfl, rfl, hb, hl, hm, hel, hx, _⟩
  · exact ⟨Sl.nil, [], rfl, ⟨rfl, fun i hi => absurd hi (by simp)⟩, by simp, by simp, .inl ⟨rfl, rfl⟩⟩
  · have each : ∀ i, i < len → ∃ y, ld K (a.add (i * K.n)) w.heap = some y ∧ W y := by
      intro i hi
      have h1 := hx i hi
      rw [List.getElem?_eq_getElem (by omega), hc] at h1
      obtain ⟨cs', h2, h3⟩ := Option.bind_eq_some_iff.1 h1
      obtain ⟨_, h4, h5⟩ := World.cells?_some h2
      obtain ⟨y, hy, wy⟩ := o.out h3
      refine ⟨y, ?_, wy⟩
      unfold ld rdCells
      rw [rdFrom_of w.heap _ K.n 0 cs' h4 (fun j hj => by rw [Nat.zero_add]; exact h5 j hj)]
      exact hy
    obtain ⟨ys, hys, hy⟩ : ∃ ys : List α, ys.length = len ∧ ∀ (i : Nat) (hi : i < ys.length), ld K (a.add (i * K.n)) w.heap = some ys[i] ∧ W ys[i] := by
      refine ⟨List.ofFn (fun i : Fin len => (each i.1 i.2).choose), by simp, fun i hi => ?_⟩
      rw [List.getElem_ofFn]
      exact (each i (by simpa using hi)).choose_spec
    refine ⟨⟨some a, len, cap⟩, ys, rfl, ⟨hys.symm, fun i hi => ⟨a, rfl, (hy i hi).1⟩⟩, fun y h => ?_, by omega, .inr ⟨_, _, rfl, by simp; omega⟩⟩
    obtain ⟨i, hi, rfl⟩ := List.getElem_of_mem h
    exact (hy i hi).2
end Go.Proofs.Ytanpaamamfabkaa
