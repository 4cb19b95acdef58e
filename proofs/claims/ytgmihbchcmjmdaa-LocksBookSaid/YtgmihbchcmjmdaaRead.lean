/- What the caller hands, read: a slice's elements as a list, in the heap at the call and in every later heap that keeps it; no slice longer than a process's memory. -/
import Derived.Test.YtgmihbchcmjmdaaShow
import Derived.ChangeArms
import Derived.DataReads
import Derived.ChangeSlices
import Derived.ProofKit
import Derived.SizedLaws
namespace Go.Proofs.Ytgmihbchcmjmdaa
open Go Go.Tr
set_option linter.unusedVariables false

abbrev Fits {T : Type} (P : Program) (t : TypeId) (x : DataW T) : Prop := ∀ n ∈ x.weights P t, n ≤ reachBytes
/-- A Go type's cells, as the row reads them, are the kind's. -/
structure Opens (P : Program) (t : TypeId) {α : Type} (K : Kd α) (W : H → α → Prop) : Prop where
  out : ∀ {T : Type} {enc : TypeId × Value → T} {w : World} {base : Nat} {sp : Nat → Bool} {held : Bool} {fuel : Nat} {cs : List Value} {x : DataW T × List MemPlace}, DataW.trod enc P w base sp held fuel t cs = some x → Fits P t x.1 → ∃ y, K.dec cs = some y ∧ W w.heap y
structure OpensF (P : Program) (fs : List Field) (off total : Nat) {α : Type} (K : Kd α) (W : H → α → Prop) : Prop where
  out : ∀ {T : Type} {enc : TypeId × Value → T} {w : World} {base : Nat} {sp : Nat → Bool} {held : Bool} {n : Nat} {cs : List Value}, cs.length = total →
    (∀ f ∈ fs, ∃ x, DataW.trod enc P w base sp held n f.type ((cs.drop f.offset).take (P.cellsOf f.type)) = some x ∧ Fits P f.type x.1) → ∃ y, K.dec (cs.drop off) = some y ∧ W w.heap y
section
variable {P : Program} {α β : Type} {t : TypeId}
theorem opens_int {k : IntKind} (ht : P.underlying t = some (.int k)) : Opens P t (kI k) (fun _ n => (Lit.int k n).wf = true) := by
  refine ⟨?_⟩
  intro T enc w base sp held fuel cs x h _
  obtain ⟨n, rfl, _, hw⟩ := DataW.trod_int ht h
  exact ⟨n, (kI k).full n, hw⟩
theorem opens_bool (ht : P.underlying t = some .bool) : Opens P t kB (fun _ _ => True) := by
  refine ⟨?_⟩
  intro T enc w base sp held fuel cs x h _
  obtain ⟨n, rfl, _⟩ := DataW.trod_bool ht h
  exact ⟨n, kB.full n, trivial⟩
theorem opens_string (ht : P.underlying t = some .string) : Opens P t kS (fun _ s => s.size ≤ reachBytes) := by
  refine ⟨?_⟩
  intro T enc w base sp held fuel cs x h hx
  obtain ⟨n, rfl, rfl, hl⟩ := DataW.trod_string ht h
  exact ⟨n, kS.full n, hx _ (by simp [DataW.weights])⟩
theorem opensF_last {f : Field} {off total : Nat} {K : Kd α} {W : H → α → Prop} (h : Opens P f.type K W) (ho : f.offset = off) (hc : P.cellsOf f.type = K.n) (ht : off + K.n = total) : OpensF P [f] off total K W := by
  refine ⟨?_⟩
  intro T enc w base sp held n cs hl hx
  obtain ⟨x, hx, hf⟩ := hx f (by simp)
  rw [ho, hc, List.take_of_length_le (by simp; omega)] at hx
  exact h.out hx hf
theorem opensF_cons {f : Field} {fs : List Field} {off total : Nat} {A : Kd α} {B : Kd β} {WA : H → α → Prop} {WB : H → β → Prop} (h : Opens P f.type A WA) (ho : f.offset = off) (hc : P.cellsOf f.type = A.n) (r : OpensF P fs (off + A.n) total B WB) :
    OpensF P (f :: fs) off total (kPair A B) (fun h x => WA h x.1 ∧ WB h x.2) := by
  refine ⟨?_⟩
  intro T enc w base sp held n cs hl hx
  obtain ⟨x, hx1, hf⟩ := hx f (by simp)
  rw [ho, hc] at hx1
  obtain ⟨y, hy, wy⟩ := h.out hx1 hf
  obtain ⟨z, hz, wz⟩ := r.out hl (fun g hg => hx g (List.mem_cons_of_mem _ hg))
  refine ⟨(y, z), ?_, wy, wz⟩
  show ((A.dec ((cs.drop off).take A.n)).bind fun a => (B.dec ((cs.drop off).drop A.n)).map fun b => (a, b)) = _
  rw [hy, List.drop_drop, hz]; rfl
theorem opens_struct {fs : Array Field} {total : Nat} {A : Kd α} {W : H → α → Prop} {f : β → α} {g : α → β} {h1 : ∀ x, g (f x) = x} {h2 : ∀ y, f (g y) = y} {W' : H → β → Prop} (hW : ∀ h y, W h (f y) → W' h y) (ht : P.underlying t = some (.struct fs)) (hc : P.cellsOf t = total) (r : OpensF P fs.toList 0 total A W) :
    Opens P t (kIso A f g h1 h2) W' := by
  refine ⟨?_⟩
  intro T enc w base sp held fuel cs x h hF
  obtain ⟨xs, n, _, rfl, hl, hs, hx⟩ := DataW.trod_struct ht h
  obtain ⟨y, hy, wy⟩ := r.out (by rw [hl, hc]) (w := w) (enc := enc) (base := base) (sp := sp) (held := held) (n := n) (cs := cs) (fun f hf => by
    obtain ⟨i, hi, e⟩ := List.getElem_of_mem hf
    have hi' : i < fs.size := by simpa using hi
    have e' : fs[i]? = some f := by rw [Array.getElem?_eq_getElem hi']; simp at e; rw [e]
    have := hx i f e'
    rw [this]
    refine ⟨_, List.getElem?_eq_getElem (by omega), fun m hm => hF m ?_⟩
    simp only [DataW.weights, ht]
    exact DataW.weights_mem_each (j := i) (by simp [e']) (by simp [List.getElem?_eq_getElem (show i < xs.length by omega)]) m hm)
  refine ⟨g y, ?_, hW _ _ (by rw [h2]; exact wy)⟩
  show (A.dec cs).map g = _
  rw [List.drop_zero] at hy
  rw [hy]; rfl
end
theorem weights_mem_all {T : Type} {P : Program} {e : TypeId} : ∀ {ds : List (DataW T)} {d : DataW T}, d ∈ ds → ∀ n ∈ d.weights P e, n ∈ DataW.weightsAll P e ds
  | [], _, h, _, _ => by cases h
  | x :: ds, d, h, n, hn => by
    simp only [DataW.weightsAll, List.mem_append]
    rcases List.mem_cons.1 h with rfl | h
    · exact .inl hn
    · exact .inr (weights_mem_all h n hn)
/-- The slice that a caller hands. -/
theorem opens_slice {P : Program} {T : Type} {enc : TypeId × Value → T} {w : World} {base : Nat} {sp : Nat → Bool} {held : Bool} {fuel : Nat} {t e : TypeId} {cs : List Value} {x : DataW T × List MemPlace} {α : Type} {K : Kd α} {W : H → α → Prop}
    (ht : P.underlying t = some (.slice e)) (hc : P.cellsOf e = K.n) (o : Opens P e K W) (h : DataW.trod enc P w base sp held fuel t cs = some x) (hF : Fits P t x.1) :
    ∃ (s : Sl) (xs : List α), cs = [Sl.val s] ∧ Rds K w.heap s xs ∧ (∀ y ∈ xs, W w.heap y) ∧ xs.length * P.bytesOf e ≤ reachBytes ∧ (x.1 = .nil ∧ xs = [] ∨ ∃ es rs, x.1 = .slice es rs ∧ es.length = xs.length) := by
  rcases DataW.trod_slice ht h with ⟨rfl, rfl⟩ | ⟨a, len, cap, es, rs, n, _, rfl, rfl, hb, hl, hm, hel, hx, _⟩
  · exact ⟨Sl.nil, [], rfl, Rds.nil none 0, by simp, by simp, .inl ⟨rfl, rfl⟩⟩
  · have hw : ∀ m ∈ ((es.map (·.1)).length * P.bytesOf e + (rs.map (·.1)).length * P.bytesOf e) :: (DataW.weightsAll P e (es.map (·.1)) ++ DataW.weightsAll P e (rs.map (·.1))), m ≤ reachBytes := by
      intro m hm
      refine hF m ?_
      simp only [DataW.weights, ht]
      rw [Nat.add_mul]; exact hm
    have each : ∀ i, i < len → ∃ y, ld K (a.add (i * K.n)) w.heap = some y ∧ W w.heap y := by
      intro i hi
      have h1 := hx i hi
      rw [List.getElem?_eq_getElem (by omega), hc] at h1
      obtain ⟨cs', h2, h3⟩ := Option.bind_eq_some_iff.1 h1
      obtain ⟨_, h4, h5⟩ := World.cells?_some h2
      obtain ⟨y, hy, wy⟩ := o.out h3 (fun m hm => hw m (List.mem_cons_of_mem _ (List.mem_append_left _ (weights_mem_all (List.mem_map_of_mem (List.getElem_mem _)) m hm))))
      refine ⟨y, ?_, wy⟩
      unfold ld rdCells
      rw [rdFrom_of w.heap _ K.n 0 cs' h4 (fun j hj => by rw [Nat.zero_add]; exact h5 j hj)]
      exact hy
    obtain ⟨ys, hys, hy⟩ : ∃ ys : List α, ys.length = len ∧ ∀ (i : Nat) (hi : i < ys.length), ld K (a.add (i * K.n)) w.heap = some ys[i] ∧ W w.heap ys[i] := by
      refine ⟨List.ofFn (fun i : Fin len => (each i.1 i.2).choose), by simp, fun i hi => ?_⟩
      rw [List.getElem_ofFn]
      exact (each i (by simpa using hi)).choose_spec
    refine ⟨⟨some a, len, cap⟩, ys, rfl, ⟨hys.symm, hl, fun i hi => ⟨a, rfl, (hy i hi).1⟩⟩, fun y h => ?_, ?_, .inr ⟨_, _, rfl, by simp; omega⟩⟩
    · obtain ⟨i, hi, rfl⟩ := List.getElem_of_mem h
      exact (hy i hi).2
    · have := hw _ List.mem_cons_self
      rw [List.length_map, hel, ← hys] at this
      omega
/-- A slice inside of what a caller hands. -/
def SlW {α : Type} (K : Kd α) (W : H → α → Prop) (b : Nat) (h : H) (s : Sl) : Prop := ∃ xs : List α, Rds K h s xs ∧ (∀ y ∈ xs, W h y) ∧ xs.length * b ≤ reachBytes
theorem opens_sl {P : Program} {t e : TypeId} {α : Type} {K : Kd α} {W : H → α → Prop} {b : Nat} (ht : P.underlying t = some (.slice e)) (hc : P.cellsOf e = K.n) (hb : P.bytesOf e = b) (o : Opens P e K W) : Opens P t kL (SlW K W b) := by
  refine ⟨?_⟩
  intro T enc w base sp held fuel cs x h hF
  obtain ⟨s, xs, rfl, R, hW, hl, _⟩ := opens_slice ht hc o h hF
  rw [hb] at hl
  exact ⟨s, kL.full s, xs, R, hW, hl⟩
/-- What the rows weigh of an argument. -/
theorem fits_of {T : Type} {P : Program} {ts : List TypeId} {ds : List (DataW T)} (h : (DataW.weightsEach P ts ds).all (· ≤ reachBytes) = true) (j : Nat) {t : TypeId} {d : DataW T} (ht : ts[j]? = some t) (hd : ds[j]? = some d) : Fits P t d :=
  fun n hn => by simpa using List.all_eq_true.1 h n (DataW.weights_mem_each ht hd n hn)
end Go.Proofs.Ytgmihbchcmjmdaa
