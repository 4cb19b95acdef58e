/- One that dies holding the lock the others wait for: what each does. No heap. -/
import Derived.Test.YtomngllmnhdmlaaSdNC
namespace Go.Proofs.Ytomngllmnhdmlaa
open Go Go.Tr
set_option linter.unusedVariables false
def fAskX : MV := ⟨2, [⟨1, false⟩], 0, []⟩
def fAskS : MV := ⟨2, [⟨1, true⟩], 0, []⟩
def fGo : MV := ⟨1, [], 0, []⟩
def fEnd (k : Int) : MV := ⟨k, [], 0, []⟩
def f0 (o : Nat) : AS := ⟨AM.new 2, List.replicate (o + 1) ⟨1, 0, 0⟩⟩
def fS (o k : Nat) : AS := ⟨⟨2, [(0, [⟨1, false⟩])], (List.range k).map fun i => (((i + 1 : Nat) : Int), [⟨1, true⟩])⟩, (List.range (o + 1)).map fun i => ⟨if 1 ≤ i ∧ i ≤ k then 2 else 1, 0, 0⟩⟩
def fE (o : Nat) (fl : Int) : List TK := ⟨4, 0, fl⟩ :: List.replicate o ⟨1, 0, 0⟩
def eqB (A B : AS) : Bool := decide (A.m.locks = B.m.locks) && decide (A.m.has = B.m.has) && decide (A.m.queue = B.m.queue) && decide (A.ts = B.ts)
theorem eqB_eq {A B : AS} (h : eqB A B = true) : A = B := by
  unfold eqB at h
  simp only [Bool.and_eq_true, decide_eq_true_eq] at h
  exact AS.eqv ⟨h.1.1.1, h.1.1.2, h.1.2, h.2⟩
theorem fd1 : ∀ o < 20, eqB ((f0 o).step 0 fAskX) (fS o 0) = true := by decide +kernel
theorem fd2 : ∀ o < 20, ∀ k < o, eqB ((fS o k).step (k + 1) fAskS) (fS o (k + 1)) = true := by decide +kernel
theorem fd3 : ∀ o < 20, readyT (f0 o).ts = (List.range (o + 1)).map (fun i : Nat => (i : Int)) ∧ readyT (fS o o).ts = [0] := by decide +kernel
theorem fd4 : ∀ o < 20, ((fS o o).endT 0 42).ts = fE o 42 ∧ ((fS o o).endT 0 15).ts = fE o 15 ∧ readyT (fE o 42) = (List.range o).map (fun i : Nat => ((i + 1 : Nat) : Int)) ∧ readyT (fE o 15) = (List.range o).map (fun i : Nat => ((i + 1 : Nat) : Int)) := by decide +kernel
theorem fd5 : ∀ o < 20, stAt (fS o o).ts 0 = 1 ∧ flAt (fS o o).ts 0 = 0 := by decide +kernel
theorem fd6 : ∀ o < 20, (stAt (fE o 42) 0 = 4 ∧ flAt (fE o 42) 0 = 42 ∧ stAt (fE o 15) 0 = 4 ∧ flAt (fE o 15) 0 = 15) ∧ ∀ i < o, (stAt (fE o 42) ((i + 1 : Nat) : Int) = 1 ∧ flAt (fE o 42) ((i + 1 : Nat) : Int) = 0) ∧ stAt (fE o 15) ((i + 1 : Nat) : Int) = 1 ∧ flAt (fE o 15) ((i + 1 : Nat) : Int) = 0 := by decide +kernel
def fFl (k : Int) : Int := if isPan k then 42 else 15
theorem fFl_or (k : Int) : fFl k = 42 ∨ fFl k = 15 := by unfold fFl; split <;> simp
/-- The bad one's last move. -/
theorem step_bad (A : AS) {k : Int} (hk : k < 1 ∨ 5 < k) : A.step 0 (fEnd k) = A.endT 0 (fFl k) := by
  have e0 : A.step 0 (fEnd k) = if isPan k = true then A.endT 0 42 else if (A.move 0 (fEnd k)).1.1 = true then (A.move 0 (fEnd k)).2.endT 0 (A.move 0 (fEnd k)).1.2 else (A.move 0 (fEnd k)).2 := rfl
  rw [e0]
  unfold fFl
  cases isPan k with
  | true => rfl
  | false =>
    have e : A.move 0 (fEnd k) = ((true, 15), A.wakes []) := by
      have h1 : ∀ n : Int, 1 ≤ n → n ≤ 5 → ¬ (fEnd k).k = n := fun n a b (c : k = n) => by omega
      unfold AS.move
      simp only
      rw [if_neg (h1 1 (by omega) (by omega)), if_neg (h1 2 (by omega) (by omega)), if_neg (h1 3 (by omega) (by omega)), if_neg (h1 4 (by omega) (by omega)), if_neg (h1 5 (by omega) (by omega))]
      rfl
    rw [e]; rfl
theorem step_go (A : AS) : A.step 0 fGo = A := rfl
def fMs (m0 : List MV) (i : Nat) : List MV := if i = 0 then m0 else [fAskS]
/-- The first round. -/
theorem first_round {o : Nat} (ho : o < 20) {W : WS} {m0 : List MV} (hA : W.1 = f0 o) (hm : m0.getD 0 endR.mv = fAskX) (hab : ∀ i, i < o + 1 → (W.2.map PLY.ab)[i]? = some (0, fMs m0 i)) :
    ∀ k, k ≤ o → (stepsW W ((List.range (k + 1)).map fun i : Nat => (i : Int))).1 = fS o k ∧ ∀ i, i < o + 1 → ((stepsW W ((List.range (k + 1)).map fun i : Nat => (i : Int))).2.map PLY.ab)[i]? = some (if i ≤ k then 1 else 0, fMs m0 i)
  | 0, _ => by
    have e : stepsW W ((List.range (0 + 1)).map fun i : Nat => (i : Int)) = W.step 0 := rfl
    rw [e]
    have hmv : mvAtL W.2 0 = fAskX := by rw [mvAt_ab (hab 0 (by omega))]; exact hm
    refine ⟨?_, fun i hi => ?_⟩
    · show W.1.step 0 (mvAtL W.2 0) = _
      rw [hmv, hA]
      exact eqB_eq (fd1 o ho)
    · show ((bump W.2 0).map PLY.ab)[i]? = _
      rw [bump_ab_at (hab i hi)]
      by_cases c : i = 0
      · subst c; rfl
      · rw [if_neg (by omega), if_neg (by omega)]
  | k + 1, hk => by
    obtain ⟨h1, h2⟩ := first_round ho hA hm hab k (by omega)
    have e : stepsW W ((List.range (k + 1 + 1)).map fun i : Nat => (i : Int)) = (stepsW W ((List.range (k + 1)).map fun i : Nat => (i : Int))).step (k + 1) := by
      unfold stepsW
      rw [List.range_succ (n := k + 1), List.map_append, List.foldl_append]; rfl
    rw [e]
    generalize stepsW W ((List.range (k + 1)).map fun i : Nat => (i : Int)) = V at h1 h2
    have hmv : mvAtL V.2 (k + 1) = fAskS := by rw [mvAt_ab (h2 (k + 1) (by omega)), if_neg (by omega)]; rfl
    refine ⟨?_, fun i hi => ?_⟩
    · show V.1.step (k + 1) (mvAtL V.2 (k + 1)) = _
      rw [hmv, h1]
      exact eqB_eq (fd2 o ho k (by omega))
    · show ((bump V.2 (k + 1)).map PLY.ab)[i]? = _
      rw [bump_ab_at (h2 i hi)]
      by_cases c : k + 1 = i
      · subst c; rw [if_pos rfl, if_neg (by omega), if_pos (by omega)]
      · rw [if_neg c]
        by_cases d : i ≤ k
        · rw [if_pos d, if_pos (by omega)]
        · rw [if_neg d, if_neg (by omega)]
end Go.Proofs.Ytomngllmnhdmlaa
