/- The manager of sets of locks, as lists: what each call answers, what it leaves. No heap, no program. -/
import Derived.Test.YtgmihbchcmjmdaaLkN
import Derived.Test.YtgmihbchcmjmdaaMapsP
namespace Go.Proofs.Ytgmihbchcmjmdaa
open Go Go.Tr
set_option linter.unusedVariables false
abbrev C := Int × List Lk
def how (x : Lk) : Int := if x.f1 then 1 else 2
/-- A set as the program's map has it. -/
def setm (l : List Lk) : MI := l.map fun x => (x.f0, how x)
def conf (a b : List Lk) : Bool := a.any fun x => b.any fun y => x.f0 == y.f0 && !(x.f1 && y.f1)
abbrev nod (l : List Lk) : Prop := (l.map (·.f0)).Nodup
structure AM where
  locks : Nat
  has : List C
  queue : List C
def findC (l : List C) (t : Int) : Option Nat := l.findIdx? fun c => c.1 == t
def hit (l : List C) (x : List Lk) : Bool := l.any fun c => conf x c.2
/-- May that set be asked for? -/
def okSet (m : Nat) (l : List Lk) : Bool := !l.isEmpty && (l.all fun x => decide (0 ≤ x.f0) && decide (x.f0 < (m : Int))) && decide (nod l)
/-- The queue, gone through: who has sets then, who is left, who is told. -/
def thr : List C → List C → List C → List C × List C × List Int
  | has, left, [] => (has, left, [])
  | has, left, c :: q => if hit has c.2 || hit left c.2 then thr has (left ++ [c]) q else
      let r := thr (has ++ [c]) left q
      (r.1, r.2.1, c.1 :: r.2.2)
namespace AM
def ask (A : AM) (t : Int) (l : List Lk) : (Bool × Int) × AM :=
  if t < 0 ∨ okSet A.locks l = false then ((false, 1), A)
  else if (findC A.has t).isSome || (findC A.queue t).isSome then ((false, 41), A)
  else if hit A.has l || hit A.queue l then ((false, 0), { A with queue := A.queue ++ [(t, l)] })
  else ((true, 0), { A with has := A.has ++ [(t, l)] })
def through (A : AM) : List Int × AM :=
  let r := thr A.has [] A.queue
  (r.2.2, { A with has := r.1, queue := r.2.1 })
def free (A : AM) (t : Int) : (List Int × Int) × AM := match findC A.has t with
  | none => (([], 42), A)
  | some i => let r := through { A with has := A.has.eraseIdx i }; ((r.1, 0), r.2)
def quit (A : AM) (t : Int) : List Int × AM := match findC A.has t with
  | some i => through { A with has := A.has.eraseIdx i }
  | none => match findC A.queue t with
    | some i => through { A with queue := A.queue.eraseIdx i }
    | none => ([], A)
/-- A set, rising. -/
def sortL (m : Nat) (l : List Lk) : List Lk := (List.range m).flatMap fun (n : Nat) => l.filter fun x => x.f0 == (n : Int)
def hasL (A : AM) (t : Int) : List Lk := match findC A.has t with
  | none => []
  | some i => match A.has[i]? with | some c => sortL A.locks c.2 | none => []
def waits (A : AM) (t : Int) : Bool := (findC A.queue t).isSome
def queueL (A : AM) : List Int := A.queue.map (·.1)
def new (n : Nat) : AM := ⟨n, [], []⟩
/-- What holds of every manager; no more than B sets are there. -/
structure Ok (A : AM) (B : Nat) : Prop where
  l1 : 1 ≤ A.locks
  l2 : A.locks ≤ 1024
  ok : ∀ c ∈ A.has ++ A.queue, okSet A.locks c.2 = true
  b : A.has.length + A.queue.length ≤ B
end AM

theorem findC_isSome {l : List C} {t : Int} : (findC l t).isSome = l.any fun c => c.1 == t := by
  unfold findC
  rw [List.findIdx?_isSome]
theorem thr_len : ∀ (q has left : List C), (thr has left q).1.length + (thr has left q).2.1.length = has.length + left.length + q.length
  | [], has, left => by simp [thr]
  | c :: q, has, left => by
    unfold thr
    split
    · rw [thr_len q]; simp; omega
    · simp only; rw [thr_len q]; simp; omega
theorem thr_mem {P : C → Prop} : ∀ (q has left : List C), (∀ c ∈ has ++ left ++ q, P c) → ∀ c ∈ (thr has left q).1 ++ (thr has left q).2.1, P c
  | [], has, left, h => by simpa [thr] using h
  | c :: q, has, left, h => by
    unfold thr
    split
    · exact thr_mem q has (left ++ [c]) (by intro d hd; exact h d (by simp at hd ⊢; exact hd))
    · exact thr_mem q (has ++ [c]) left (by
        intro d hd
        refine h d ?_
        simp at hd ⊢
        rcases hd with hd | hd | hd | hd
        · exact .inl hd
        · exact .inr (.inr (.inl hd))
        · exact .inr (.inl hd)
        · exact .inr (.inr (.inr hd)))
theorem thr_told : ∀ (q has left : List C), (thr has left q).2.2.length ≤ q.length
  | [], has, left => by simp [thr]
  | c :: q, has, left => by
    unfold thr
    split
    · have := thr_told q has (left ++ [c]); simp; omega
    · simp only; have := thr_told q (has ++ [c]) left; simp; omega
namespace AM
variable {A : AM} {B : Nat}
theorem Ok.through (ok : A.Ok B) : (A.through).2.Ok B := by
  refine ⟨ok.l1, ok.l2, ?_, ?_⟩
  · exact thr_mem (P := fun c => okSet A.locks c.2 = true) A.queue A.has [] (by simpa using ok.ok)
  · have := thr_len A.queue A.has []
    have := ok.b
    simp only [AM.through]
    simp at *; omega
theorem Ok.ask (ok : A.Ok B) (t : Int) (l : List Lk) : (A.ask t l).2.Ok (B + 1) := by
  have hb := ok.b
  unfold AM.ask
  split
  · exact ⟨ok.l1, ok.l2, ok.ok, by simp only; omega⟩
  · rename_i h
    have hs : okSet A.locks l = true := by
      cases h' : okSet A.locks l with
      | true => rfl
      | false => exact absurd (.inr h') h
    split
    · exact ⟨ok.l1, ok.l2, ok.ok, by simp only; omega⟩
    · split
      · refine ⟨ok.l1, ok.l2, fun c hc => ?_, by simp; omega⟩
        simp only [List.mem_append, List.mem_singleton] at hc
        rcases hc with hc | hc | rfl
        · exact ok.ok c (by simp [hc])
        · exact ok.ok c (by simp [hc])
        · exact hs
      · refine ⟨ok.l1, ok.l2, fun c hc => ?_, by simp; omega⟩
        simp only [List.mem_append, List.mem_singleton] at hc
        rcases hc with (hc | rfl) | hc
        · exact ok.ok c (by simp [hc])
        · exact hs
        · exact ok.ok c (by simp [hc])
theorem Ok.eraseH (ok : A.Ok B) (i : Nat) : AM.Ok { A with has := A.has.eraseIdx i } B := by
  refine ⟨ok.l1, ok.l2, fun c hc => ok.ok c ?_, ?_⟩
  · simp only [List.mem_append] at hc ⊢
    exact hc.imp (fun h => List.mem_of_mem_eraseIdx h) id
  · have := List.length_eraseIdx_le A.has i
    have := ok.b
    simp only; omega
theorem Ok.eraseQ (ok : A.Ok B) (i : Nat) : AM.Ok { A with queue := A.queue.eraseIdx i } B := by
  refine ⟨ok.l1, ok.l2, fun c hc => ok.ok c ?_, ?_⟩
  · simp only [List.mem_append] at hc ⊢
    exact hc.imp id (fun h => List.mem_of_mem_eraseIdx h)
  · have := List.length_eraseIdx_le A.queue i
    have := ok.b
    simp only; omega
theorem Ok.free (ok : A.Ok B) (t : Int) : (A.free t).2.Ok B := by
  unfold AM.free
  split
  · exact ok
  · exact (ok.eraseH _).through
theorem Ok.quit (ok : A.Ok B) (t : Int) : (A.quit t).2.Ok B := by
  unfold AM.quit
  split
  · exact (ok.eraseH _).through
  · split
    · exact (ok.eraseQ _).through
    · exact ok
theorem Ok.mono {B' : Nat} (ok : A.Ok B) (h : B ≤ B') : A.Ok B' := ⟨ok.l1, ok.l2, ok.ok, by have := ok.b; omega⟩
theorem Ok.new {n : Nat} (h1 : 1 ≤ n) (h2 : n ≤ 1024) : (AM.new n).Ok 0 := ⟨h1, h2, by simp [AM.new], by simp [AM.new]⟩
end AM
end Go.Proofs.Ytgmihbchcmjmdaa
