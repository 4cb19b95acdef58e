/- The net as lists: what each call answers, what it leaves. No heap, no program. -/
import Derived.Test.YtbdopnhfbjdegaaFlds
import Derived.Test.YtbdopnhfbjdegaaShow
namespace Go.Proofs.Ytbdopnhfbjdegaa
open Go Go.Tr
set_option linter.unusedVariables false
structure AC where
  way : List Int
  inb : List Int
  out : List Int
  heard : List Int
  closed : Bool
  cut : Bool
def AC.fresh : AC := ⟨[], [], [], [], false, false⟩
structure AN where
  i : Nat
  o : Nat
  cs : List (Option AC)
  moved : Int
inductive Look where
  | bad | none | some (n : Nat) (x : AC)
namespace AN
def look (A : AN) (c : Int) : Look := if c < 1 ∨ 64 < c then .bad else match A.cs[c.toNat]? with | some (some x) => .some c.toNat x | _ => .none
def put (A : AN) (n : Nat) (x : AC) : AN := { A with cs := A.cs.set n (some x) }
def gone (x : AC) : Bool := x.cut || x.closed
def open' (A : AN) (c : Int) : Int × AN := match A.look c with
  | .bad => (1, A) | .none => (0, A.put c.toNat .fresh) | .some _ _ => (43, A)
def send (A : AN) (c : Int) (b : List Int) : Int × AN := match A.look c with
  | .bad => (1, A) | .none => (44, A)
  | .some n x => if gone x then (44, A) else if x.way.length + b.length > 1048576 then (2, A) else (0, A.put n { x with way := x.way ++ b })
def bringN (A : AN) (x : AC) (most : Int) : Nat := min (min most.toNat x.way.length) (A.i - x.inb.length)
def bring (A : AN) (c most : Int) : (Int × Int) × AN := match A.look c with
  | .bad => ((0, 1), A) | .none => ((0, 44), A)
  | .some n x => (((A.bringN x most : Nat), 0), { A.put n { x with way := x.way.drop (A.bringN x most), inb := x.inb ++ x.way.take (A.bringN x most) } with moved := IntKind.i64.wrap (A.moved + (A.bringN x most : Nat)) })
def take (A : AN) (c : Int) : (List Int × Int) × AN := match A.look c with
  | .bad => (([], 1), A) | .none => (([], 44), A)
  | .some n x => if gone x then (([], 44), A) else ((x.inb, 0), A.put n { x with inb := [] })
def writeN (A : AN) (x : AC) (b : List Int) : Nat := min b.length (A.o - x.out.length)
def write (A : AN) (c : Int) (b : List Int) : (Int × Int) × AN := match A.look c with
  | .bad => ((0, 1), A) | .none => ((0, 44), A)
  | .some n x => if gone x then ((0, 44), A) else (((A.writeN x b : Nat), 0), A.put n { x with out := x.out ++ b.take (A.writeN x b) })
def fetchN (x : AC) (most : Int) : Nat := min most.toNat x.out.length
def fetch (A : AN) (c most : Int) : (Int × Int) × AN := match A.look c with
  | .bad => ((0, 1), A) | .none => ((0, 44), A)
  | .some n x => (((fetchN x most : Nat), 0), { A.put n { x with out := x.out.drop (fetchN x most), heard := x.heard ++ x.out.take (fetchN x most) } with moved := IntKind.i64.wrap (A.moved + (fetchN x most : Nat)) })
def close (A : AN) (c : Int) : Int × AN := match A.look c with
  | .bad => (1, A) | .none => (44, A)
  | .some n x => if gone x then (44, A) else (0, A.put n { x with closed := true, way := [], inb := [] })
def cutC (A : AN) (c : Int) : Int × AN := match A.look c with
  | .bad => (1, A) | .none => (44, A)
  | .some n x => if x.cut then (44, A) else (0, A.put n { x with cut := true, way := [], inb := [], out := [] })
def heard (A : AN) (c : Int) : List Int × Bool := match A.look c with
  | .some _ x => (x.heard, x.cut || x.closed && x.out.isEmpty) | _ => ([], false)
def is (A : AN) (c : Int) : Bool × Bool := match A.look c with
  | .some _ x => (!x.cut && !x.closed, x.cut) | _ => (false, false)
def under (A : AN) (c : Int) : Int × Int := match A.look c with
  | .some _ x => ((x.way.length + x.inb.length : Nat), (x.out.length : Nat)) | _ => (0, 0)
def new (i o : Nat) : AN := ⟨i, o, List.replicate 65 none, 0⟩
/-- What holds of every net; no client has heard more than B bytes. -/
structure Ok (A : AN) (B : Nat) : Prop where
  l : A.cs.length = 65
  i1 : 1 ≤ A.i
  i2 : A.i ≤ 131072
  o1 : 1 ≤ A.o
  o2 : A.o ≤ 131072
  x : ∀ (n : Nat) (x : AC), A.cs[n]? = some (some x) → x.way.length ≤ 1048576 ∧ x.inb.length ≤ A.i ∧ x.out.length ≤ A.o ∧ x.heard.length ≤ B
theorem look_cases (A : AN) (c : Int) (hl : A.cs.length = 65) : (A.look c = .bad ∧ (c < 1 ∨ 64 < c)) ∨ (A.look c = .none ∧ ∃ n : Nat, c = n ∧ 1 ≤ n ∧ n ≤ 64 ∧ A.cs[n]? = some none) ∨ (∃ (n : Nat) (x : AC), A.look c = .some n x ∧ c = n ∧ 1 ≤ n ∧ n ≤ 64 ∧ A.cs[n]? = some (some x)) := by
  unfold look
  by_cases hc : c < 1 ∨ 64 < c
  · exact .inl ⟨by rw [if_pos hc], hc⟩
  · right
    have h1 : c.toNat < A.cs.length := by omega
    rw [if_neg hc, List.getElem?_eq_getElem h1]
    have e : c = (c.toNat : Int) := by omega
    cases h : A.cs[c.toNat] with
    | none => exact .inl ⟨rfl, c.toNat, e, by omega, by omega, by rw [List.getElem?_eq_getElem h1, h]⟩
    | some x => exact .inr ⟨c.toNat, x, rfl, e, by omega, by omega, by rw [List.getElem?_eq_getElem h1, h]⟩
theorem Ok.put {A : AN} {B : Nat} (ok : A.Ok B) (n : Nat) (x : AC) (B' : Nat) (hB : B ≤ B') (h : x.way.length ≤ 1048576 ∧ x.inb.length ≤ A.i ∧ x.out.length ≤ A.o ∧ x.heard.length ≤ B') : (A.put n x).Ok B' := by
  refine ⟨by simp [AN.put, ok.l], ok.i1, ok.i2, ok.o1, ok.o2, fun m y hy => ?_⟩
  by_cases e : n = m
  · subst e
    simp only [AN.put] at hy
    rw [List.getElem?_set] at hy
    simp only [if_true] at hy
    split at hy
    · simp at hy; subst hy; exact h
    · cases hy
  · simp only [AN.put] at hy
    rw [List.getElem?_set_ne e] at hy
    have := ok.x m y hy
    exact ⟨this.1, this.2.1, this.2.2.1, by omega⟩
theorem Ok.mono {A : AN} {B B' : Nat} (ok : A.Ok B) (h : B ≤ B') : A.Ok B' := ⟨ok.l, ok.i1, ok.i2, ok.o1, ok.o2, fun n x hx => by have := ok.x n x hx; exact ⟨this.1, this.2.1, this.2.2.1, by omega⟩⟩
theorem Ok.moved {A : AN} {B : Nat} (ok : A.Ok B) (m : Int) : AN.Ok { A with moved := m } B := ⟨ok.l, ok.i1, ok.i2, ok.o1, ok.o2, ok.x⟩
theorem Ok.new {i o : Nat} (i1 : 1 ≤ i) (i2 : i ≤ 131072) (o1 : 1 ≤ o) (o2 : o ≤ 131072) : (AN.new i o).Ok 0 := ⟨by simp [AN.new], i1, i2, o1, o2, fun n x hx => by
  simp only [AN.new] at hx
  rw [List.getElem?_replicate] at hx
  split at hx <;> simp at hx⟩
theorem look_some {A : AN} {c : Int} {n : Nat} {x : AC} (h : A.look c = .some n x) : A.cs[n]? = some (some x) ∧ c = n ∧ 1 ≤ n ∧ n ≤ 64 := by
  unfold look at h
  split at h
  · cases h
  · split at h
    · rename_i hc y hy
      simp only [Look.some.injEq] at h
      obtain ⟨rfl, rfl⟩ := h
      exact ⟨hy, by omega, by omega, by omega⟩
    · cases h
section
variable {A : AN} {B : Nat} (ok : A.Ok B)
include ok
theorem Ok.open' (c : Int) : (A.open' c).2.Ok B := by
  unfold AN.open'
  split
  · exact ok
  · exact ok.put _ _ B (Nat.le_refl _) ⟨by simp [AC.fresh], by simp [AC.fresh], by simp [AC.fresh], by simp [AC.fresh]⟩
  · exact ok
theorem Ok.send (c : Int) (b : List Int) : (A.send c b).2.Ok B := by
  unfold AN.send
  split
  · exact ok
  · exact ok
  · rename_i n x hl
    have := ok.x n x (look_some hl).1
    split
    · exact ok
    · split
      · exact ok
      · exact ok.put _ _ B (Nat.le_refl _) ⟨by simp; omega, this.2.1, this.2.2.1, this.2.2.2⟩
theorem Ok.bring (c most : Int) : (A.bring c most).2.Ok B := by
  unfold AN.bring
  split
  · exact ok
  · exact ok
  · rename_i n x hl
    have := ok.x n x (look_some hl).1
    refine Ok.moved (ok.put _ _ B (Nat.le_refl _) ?_) _
    refine ⟨by simp; omega, ?_, this.2.2.1, this.2.2.2⟩
    simp [AN.bringN]; omega
theorem Ok.take (c : Int) : (A.take c).2.Ok B := by
  unfold AN.take
  split
  · exact ok
  · exact ok
  · rename_i n x hl
    have := ok.x n x (look_some hl).1
    split
    · exact ok
    · exact ok.put _ _ B (Nat.le_refl _) ⟨this.1, by simp, this.2.2.1, this.2.2.2⟩
theorem Ok.write (c : Int) (b : List Int) : (A.write c b).2.Ok B := by
  unfold AN.write
  split
  · exact ok
  · exact ok
  · rename_i n x hl
    have := ok.x n x (look_some hl).1
    split
    · exact ok
    · refine ok.put _ _ B (Nat.le_refl _) ⟨this.1, this.2.1, ?_, this.2.2.2⟩
      simp [AN.writeN]; omega
theorem Ok.fetch (c most : Int) : (A.fetch c most).2.Ok (B + 131072) := by
  unfold AN.fetch
  split
  · exact ok.mono (by omega)
  · exact ok.mono (by omega)
  · rename_i n x hl
    have := ok.x n x (look_some hl).1
    have h2 := ok.o2
    refine Ok.moved (ok.put _ _ (B + 131072) (by omega) ?_) _
    refine ⟨this.1, this.2.1, by simp; omega, ?_⟩
    simp [AN.fetchN]; omega
theorem Ok.close (c : Int) : (A.close c).2.Ok B := by
  unfold AN.close
  split
  · exact ok
  · exact ok
  · rename_i n x hl
    have := ok.x n x (look_some hl).1
    split
    · exact ok
    · exact ok.put _ _ B (Nat.le_refl _) ⟨by simp, by simp, this.2.2.1, this.2.2.2⟩
theorem Ok.cutC (c : Int) : (A.cutC c).2.Ok B := by
  unfold AN.cutC
  split
  · exact ok
  · exact ok
  · rename_i n x hl
    have := ok.x n x (look_some hl).1
    split
    · exact ok
    · exact ok.put _ _ B (Nat.le_refl _) ⟨by simp, by simp, by simp, this.2.2.2⟩
end
/-- The error of a call that wants a connection that is neither cut nor closed. -/
def liveE (A : AN) (c : Int) : Int := match A.look c with
  | .bad => 1 | .none => 44 | .some _ x => if gone x then 44 else 0
section
variable {A : AN} {c : Int}
theorem liveE_some {n : Nat} {x : AC} (h : A.look c = .some n x) (g : gone x = false) : A.liveE c = 0 := by unfold liveE; rw [h]; simp [g]
theorem send_e (h : A.liveE c ≠ 0) (b : List Int) : A.send c b = (A.liveE c, A) := by
  unfold send; unfold liveE at *
  cases hl : A.look c with
  | bad => rfl
  | none => rfl
  | some n x => rw [hl] at h; simp only at h ⊢; split at h <;> simp_all
theorem take_e (h : A.liveE c ≠ 0) : A.take c = (([], A.liveE c), A) := by
  unfold take; unfold liveE at *
  cases hl : A.look c with
  | bad => rfl
  | none => rfl
  | some n x => rw [hl] at h; simp only at h ⊢; split at h <;> simp_all
theorem write_e (h : A.liveE c ≠ 0) (b : List Int) : A.write c b = ((0, A.liveE c), A) := by
  unfold write; unfold liveE at *
  cases hl : A.look c with
  | bad => rfl
  | none => rfl
  | some n x => rw [hl] at h; simp only at h ⊢; split at h <;> simp_all
theorem close_e (h : A.liveE c ≠ 0) : A.close c = (A.liveE c, A) := by
  unfold close; unfold liveE at *
  cases hl : A.look c with
  | bad => rfl
  | none => rfl
  | some n x => rw [hl] at h; simp only at h ⊢; split at h <;> simp_all
end
end AN
end Go.Proofs.Ytbdopnhfbjdegaa
