/- A map from whole numbers to whole numbers, in memory: looked up, written, gone through. -/
import Derived.Test.YtgmihbchcmjmdaaPart
import Derived.Test.YtgmihbchcmjmdaaMaps
namespace Go.Proofs.Ytgmihbchcmjmdaa
open Go Go.Tr
set_option linter.unusedVariables false
abbrev MI := List (Int × Int)
def ent1 (x : (Int × Int) × Nat) : MapEntry := ⟨.int .i64 x.1.1, .int .i64 x.1.2, x.2⟩
def ents (m : MI) : List MapEntry := m.zipIdx.map ent1
def mobj (m : MI) : Obj := .map (ents m).toArray m.length
def MapIs (h : H) (b : Nat) (m : MI) : Prop := h[b]? = some (mobj m)
theorem MapIs.ext {h h' : H} {b : Nat} {m : MI} (M : MapIs h b m) (e : Ext h h') : MapIs h' b m := getE_ext e M
theorem MapIs.get {h : H} {b : Nat} {m : MI} (M : MapIs h b m) : mget (some b) h = some ((ents m).toArray, m.length) := by
  unfold mget
  have M : h[b]? = some (mobj m) := M
  simp only [M, mobj]
/-- The first place of a number, and what stands there. -/
def fnd : MI → Int → Option (Nat × Int)
  | [], _ => none
  | x :: m, n => if n == x.1 then some (0, x.2) else (fnd m n).map fun y => (y.1 + 1, y.2)
theorem findNow_ents (n : Int) : ∀ (m : MI) (i j : Nat), Instr.findNow (.int .i64) (.int .i64 n) ((m.zipIdx i).map ent1) j = some ((fnd m n).map fun y => (j + y.1, .int .i64 y.2))
  | [], i, j => rfl
  | x :: m, i, j => by
    have ih := findNow_ents n m (i + 1) (j + 1)
    simp only [List.zipIdx_cons, List.map_cons]
    unfold Instr.findNow
    have e : Instr.sameNow (.int .i64) (.int .i64 n) (ent1 (x, i)).key = some (n == x.1) := by simp [Instr.sameNow, ent1]
    rw [e]
    unfold fnd
    cases hb : n == x.1 with
    | true => simp [ent1]
    | false =>
      simp only [ih, Bool.false_eq_true, if_false, Option.map_map]
      congr 2
      funext y
      simp only [Function.comp]
      congr 1; omega
def alk (m : MI) (n : Int) : Int := match fnd m n with | some y => y.2 | none => 0
theorem MapIs.look {h : H} {b : Nat} {m : MI} (M : MapIs h b m) (n : Int) : ∃ y, mlk (kI .i64) 0 .i64 (some b) n h = some (alk m n, y) := by
  unfold mlk
  rw [M.get, Option.bind_some]
  have := findNow_ents n m 0 0
  unfold alk
  simp only [List.toList_toArray, ents, this, Option.bind_some]
  cases fnd m n with
  | none => exact ⟨false, rfl⟩
  | some y => exact ⟨true, rfl⟩
theorem MapIs.len {h : H} {b : Nat} {m : MI} (M : MapIs h b m) : mln (some b) h = some m.length := by
  unfold mln
  rw [M.get]
  simp [ents]
def aup (m : MI) (n x : Int) : MI := match fnd m n with | some y => m.set y.1 (n, x) | none => m ++ [(n, x)]
theorem fnd_lt : ∀ {m : MI} {n : Int} {y : Nat × Int}, fnd m n = some y → y.1 < m.length ∧ (m[y.1]?).map (·.1) = some n
  | [], n, y, h => by simp [fnd] at h
  | x :: m, n, y, h => by
    unfold fnd at h
    split at h
    · rename_i hb
      simp at h; subst h
      simp at hb; simp [hb]
    · obtain ⟨z, hz, rfl⟩ := Option.map_eq_some_iff.1 h
      have := fnd_lt hz
      simp only [List.length_cons, List.getElem?_cons_succ]
      exact ⟨by omega, this.2⟩
theorem ents_set (m : MI) (i : Nat) (z : Int × Int) : ents (m.set i z) = (ents m).modify i fun e => { e with key := .int .i64 z.1, val := .int .i64 z.2 } := by
  unfold ents
  apply List.ext_getElem?
  intro j
  rw [List.getElem?_map, List.getElem?_zipIdx, List.getElem?_modify, List.getElem?_map, List.getElem?_zipIdx]
  by_cases e : i = j
  · subst e
    by_cases hi : i < m.length
    · rw [List.getElem?_set_self hi, List.getElem?_eq_getElem hi]; simp [ent1]
    · rw [List.getElem?_eq_none (by simpa using hi), List.getElem?_eq_none (by simpa using hi)]; simp
  · rw [List.getElem?_set_ne e]
    cases m[j]? <;> simp [e]
theorem ents_push (m : MI) (z : Int × Int) : ents (m ++ [z]) = ents m ++ [⟨.int .i64 z.1, .int .i64 z.2, m.length⟩] := by
  unfold ents
  rw [List.zipIdx_append]
  simp [ent1]
def mapP (b : Nat) (m : MI) : HP where
  p h F := MapIs h b m ∧ F = fun k => k = b
  st := fun ⟨v, e⟩ _ k => ⟨(k b (by rw [e])).trans v, e⟩
  lt := fun {h F} ⟨v, e⟩ k hk => by
    rw [e] at hk; subst hk
    rcases Nat.lt_or_ge k h.size with hl | hl
    · exact hl
    · have v : h[k]? = _ := v
      rw [Array.getElem?_eq_none hl] at v; cases v
section
variable {F0 : Nat → Prop} {h0 h : H} {Ps : List HP}
theorem mapP.is (S : SG F0 h0 h Ps) (i : Nat) {b : Nat} {m : MI} (hi : Ps[i]? = some (mapP b m)) : MapIs h b m := by
  obtain ⟨F1, ⟨v, _⟩, _⟩ := S.at i hi
  exact v
theorem mapP.up (S : SG F0 h0 h Ps) (i : Nat) {b : Nat} {m : MI} (hi : Ps[i]? = some (mapP b m)) (n x : Int) : ∃ h', mup (kI .i64) .i64 (some b) n x h = some h' ∧ SG F0 h0 h' (Ps.set i (mapP b (aup m n x))) := by
  obtain ⟨F1, ⟨v, rfl⟩, back⟩ := S.at i hi
  have v' : h[b]? = some (mobj m) := v
  have hlt : b < h.size := by
    rcases Nat.lt_or_ge b h.size with hl | hl
    · exact hl
    · rw [Array.getElem?_eq_none hl] at v'; cases v'
  have hf := findNow_ents n m 0 0
  have key : mup (kI .i64) .i64 (some b) n x h = some (h.setIfInBounds b (mobj (aup m n x))) := by
    unfold mup
    rw [Option.bind_some]
    simp only [v', mobj, List.toList_toArray]
    have hf : Instr.findNow (.int .i64) (.int .i64 n) (ents m) 0 = _ := hf
    rw [hf]
    unfold aup
    cases hfd : fnd m n with
    | none =>
      simp only [Option.map_none, Option.map_some]
      rw [ents_push]
      simp [Kd.val, kI]
    | some y =>
      simp only [Option.map_some, Nat.zero_add]
      rw [ents_set]
      simp [Kd.val, kI]
  refine ⟨_, key, back _ _ (fun k => k = b) ⟨?_, rfl⟩ ⟨by simp, fun k hk hn => ?_, fun _ h => .inl h⟩⟩
  · show (h.setIfInBounds b _)[b]? = _
    simp [hlt]
  · rw [Array.getElem?_setIfInBounds, if_neg (fun e => hn e.symm)]
theorem SG.newmap (S : SG F0 h0 h Ps) {Q : Option Nat → H → Prop} (k : ∀ b h', Ext h h' → SG F0 h0 h' (mapP b [] :: Ps) → Q (some b) h') : mmk h Q := by
  refine k h.size _ (Ext.push _ _) (S.add (P := mapP h.size []) (F1 := fun k => k = h.size) ⟨?_, rfl⟩ (Ext.push _ _) fun b hb => by omega)
  show (h.push (.map #[] 0))[h.size]? = _
  rw [getElem_push]; rfl
end
/-- Going through a map's entries, in whatever order, while nothing else happens: h is the heap in which the range began, it the iterator. -/
structure Iter (h0 : H) (b : Nat) (m : MI) (it : Addr) (seen : Array Nat) (h : H) : Prop where
  off : it.off = 0
  new : h0.size ≤ it.block
  i : h[it.block]? = some (.mapIter (some b) m.length seen m.length)
  mp : MapIs h b m
  e : Ext h0 h
  s : ∀ i ∈ seen, i < m.length
theorem rng_spec {h : H} {b : Nat} {m : MI} (M : MapIs h b m) {Q : Addr → H → Prop} (k : ∀ it h', Iter h b m it #[] h' → Q it h') : rng (some b) h Q := by
  refine ⟨(ents m).toArray, m.length, M, k _ _ ⟨rfl, Nat.le_refl _, getElem_push _ _, MapIs.ext M (Ext.push _ _), Ext.push _ _, by simp⟩⟩
theorem mem_ents {m : MI} {e : MapEntry} (h : e ∈ ents m) : ∃ x : Int × Int, m[e.born]? = some x ∧ e = ⟨.int .i64 x.1, .int .i64 x.2, e.born⟩ := by
  unfold ents at h
  obtain ⟨y, hy, rfl⟩ := List.mem_map.1 h
  have := List.mem_zipIdx_iff_getElem?.1 hy
  exact ⟨y.1, this, rfl⟩
theorem nxt_spec {h0 h : H} {b : Nat} {m : MI} {it : Addr} {seen : Array Nat} (I : Iter h0 b m it seen h) {Q : Bool → H → Prop}
    (some_ : ∀ (i : Nat) (x : Int × Int) (h' : H), m[i]? = some x → i ∉ seen → Iter h0 b m it (seen.push i) h' → Ent (kI .i64) .i64 it h' x → Q true h') (end_ : (∀ i, i < m.length → i ∈ seen) → Q false h) : nxt it h Q := by
  have M : h[b]? = some (mobj m) := I.mp
  have hne : it.block ≠ b := by
    intro e
    have hi := I.i
    rw [e, M] at hi; cases hi
  have hlt : it.block < h.size := by
    rcases Nat.lt_or_ge it.block h.size with hl | hl
    · exact hl
    · have := I.i
      rw [Array.getElem?_eq_none hl] at this; cases this
  refine ⟨I.off, some b, m.length, seen, m.length, I.i, (ents m).toArray, m.length, M, ?_, fun e he hs => ?_, fun hall => end_ fun i hi => ?_⟩
  · cases m with
    | nil => simp [ents]
    | cons x m =>
      have : ((ents (x :: m)).toArray.all fun e => decide (e.born ≥ (x :: m).length)) = false := by
        simp [ents, ent1, List.zipIdx_cons]
      rw [this]; simp
  · obtain ⟨x, hx, he'⟩ := mem_ents (m := m) (by simpa using he)
    have hil : e.born < m.length := (List.getElem?_eq_some_iff.1 hx).1
    have I' : Iter h0 b m it (seen.push e.born) (h.setIfInBounds it.block (.mapIter (some b) m.length (seen.push e.born) m.length)) := by
      refine ⟨I.off, I.new, by simp [hlt], ?_, ⟨by simp [I.e.1], fun i hi => ?_⟩, fun i hi => ?_⟩
      · show (h.setIfInBounds it.block _)[b]? = _
        rw [Array.getElem?_setIfInBounds, if_neg hne]; exact M
      · rw [Array.getElem?_setIfInBounds, if_neg (by have := I.new; omega)]; exact I.e.2 i hi
      · rcases Array.mem_push.1 hi with h1 | h1
        · exact I.s i h1
        · omega
    refine some_ e.born x _ hx (by simpa using hs) I' ⟨I.off, b, m.length, _, m.length, (ents m).toArray, e.born, e, I'.i, by simp, I'.mp, ?_, by rw [he'], by rw [he']; rfl⟩
    rw [List.find?_toArray]
    -- the borns are the places
    have key : ∀ (l : MI) (o i : Nat) (y : Int × Int), l[i]? = some y → ((l.zipIdx o).map ent1).find? (·.born == o + i) = some (ent1 (y, o + i)) := by
      intro l
      induction l with
      | nil => intro o i y h; simp at h
      | cons z l ih =>
        intro o i y hy
        cases i with
        | zero => simp at hy; subst hy; simp [List.zipIdx_cons, ent1]
        | succ i =>
          have := ih (o + 1) i y (by simpa using hy)
          rw [show o + 1 + i = o + (i + 1) by omega] at this
          simp only [List.zipIdx_cons, List.map_cons]
          rw [List.find?_cons_of_neg (by simp [ent1])]
          exact this
    have := key m 0 e.born x hx
    rw [Nat.zero_add] at this
    rw [show ents m = (m.zipIdx 0).map ent1 from rfl, this]
    rw [he']; rfl
  · have hx := List.getElem?_eq_getElem hi
    have he : ent1 (m[i], i) ∈ (ents m).toArray := by
      simp only [ents, List.mem_toArray]
      exact List.mem_map_of_mem (List.mem_zipIdx_iff_getElem?.2 hx)
    cases hs : seen.contains i with
    | true => simpa using hs
    | false =>
      have := hall _ he hs
      simp only [ent1] at this
      omega
end Go.Proofs.Ytgmihbchcmjmdaa
