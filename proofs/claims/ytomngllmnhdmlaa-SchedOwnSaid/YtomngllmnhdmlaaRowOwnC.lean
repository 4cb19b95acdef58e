/- SchedOwn returns true and its arguments read as they did: the row. Printed by row.py. -/
import Derived.Test.YtomngllmnhdmlaaRows
import Derived.Test.YtomngllmnhdmlaaLawOwnC
import Derived.WalkKit
import Derived.ProofKit
import Derived.OpenShut
import Derived.ShutString
import Derived.ChangeOld
import Derived.Below
import Derived.SizedLaws
import Derived.Carry
namespace Go.Proofs.Ytomngllmnhdmlaa.schedOwn
open Go Go.Tr Go.ChangeShapes Go.WideShapes Go.ChangeAt Go.RowKit
open Go.ChangeMaps (open_string shut_string)
set_option linter.unusedVariables false
theorem own : ownKnob Try.prog.godebug = none := by kernel_rfl
theorem laidOut : laidOutB Try.prog = true := by kernel_rfl
theorem walk (W : World) (a0 : Sl) (x0 : List Sl) (w0 : Rds kL W.heap a0 x0) (u0 : ∀ y ∈ x0, wTask W.heap y) (y0 : x0.length * 24 ≤ reachBytes) (a1 : Sl) (x1 : List Act) (w1 : Rds kAct W.heap a1 x1) (u1 : ∀ y ∈ x1, (fun _ => True) y) (y1 : x1.length * 16 ≤ reachBytes) :
    Calls Try.prog 7 #[Sl.val a0, Sl.val a1] W fun e W' => e = .returned (.bool true) ∧ Below W.heap.size W W' := by
  have h := spatelaw12_SchedOwn.sound (own_true a0 x0 a1 x1 W.heap w0 u0 y0 w1 u1 y1) ⟨W.tape, W.os, W.output⟩ W.drawn
  refine h.mono ?_
  rintro e w' ⟨v, h', d', rfl, rfl, x, rfl, rfl, ex⟩
  exact ⟨rfl, rfl, rfl, rfl, ex.1, ex.2⟩
set_option maxRecDepth 100000 in
theorem lifted (os : Os) (started : os.Started) (H : Type) (enc : TypeId × Value → H) :
    ReturnsInHanded {} Try.checked os 7 .any (Rows.schedOwnSpec.pre6 enc Try.prog Try.f7 Rows.schedOwnRow.domain false) (Rows.schedOwnSpec.post enc Try.prog Try.f7 false true false false) := by
  refine returnsInHanded_of_change_sized (C := Try.checked) own started (by kernel_rfl) Try.func7
    (ChangeSpec.witness6 (enc := enc) (C := Try.checked) false ⟨#[], #[.slice none 0 0, .slice none 0 0], []⟩ 8 (by kernel_rfl) (by kernel_rfl) (by kernel_rfl) (by kernel_rfl)) ?_
  intro W base args ds gs before hval0 hW hcnd hsz0 _
  have hsz : (DataW.weightsEach Try.prog (Try.f7.params.toList ++ Rows.schedOwnSpec.plain.varTypes Try.prog) (ds ++ gs)).all (· ≤ reachBytes) = true := hsz0
  have hval : ∀ (j : Nat) t v, Try.f7.params[j]? = some t → args[j]? = some v → Value.okWide Try.prog W .any base t v := hval0
  have hW' := hW
  obtain ⟨p, q, hA0, hV, rfl, hfz, hnd⟩ := hW
  have hA : DataW.TrodAll enc Try.prog W 0 (fun _ => true) true Try.f7.params.toList args.toList ds p := hA0
  rw [Try.params7] at hA hval hsz
  obtain ⟨v0, vs0, d0, ds0, p0, q0, hargs, rfl, rfl, h0, r0⟩ := trodAll_cons hA
  obtain ⟨v1, vs1, d1, ds1, p1, q1, rfl, rfl, rfl, h1, r1⟩ := trodAll_cons r0
  obtain ⟨rfl, rfl, rfl⟩ := trodAll_nil r1
  obtain rfl : args = #[v0, v1] := by cases args; simp_all
  obtain ⟨rfl, rfl⟩ := trodVars_none hV
  obtain ⟨s0, l0, c0, rfl⟩ := okWide_slice Try.underlying22 (hval 0 22 v0 rfl rfl)
  have k0 := h0
  have lt0 : ∀ x ∈ p0, x.block < W.heap.size := by obtain ⟨m, hm⟩ := k0; exact DataW.trod_lt m _ _ _ hm
  obtain ⟨f0, g0⟩ := h0
  obtain ⟨a0, x0, e0, w0, u0, z0, _⟩ := opens_slice Try.underlying22 (by kernel_rfl) opTask g0 (fits_of hsz 0 rfl rfl)
  have y0 : x0.length * 24 ≤ reachBytes := z0
  obtain ⟨rfl, rfl, rfl⟩ : s0 = a0.a ∧ l0 = a0.len ∧ c0 = a0.cap := by simpa [Value.cells, Sl.val] using e0
  obtain ⟨s1, l1, c1, rfl⟩ := okWide_slice Try.underlying23 (hval 1 23 v1 rfl rfl)
  have k1 := h1
  have lt1 : ∀ x ∈ p1, x.block < W.heap.size := by obtain ⟨m, hm⟩ := k1; exact DataW.trod_lt m _ _ _ hm
  obtain ⟨f1, g1⟩ := h1
  obtain ⟨a1, x1, e1, w1, u1, z1, _⟩ := opens_slice Try.underlying23 (by kernel_rfl) opAct g1 (fits_of hsz 1 rfl rfl)
  have y1 : x1.length * 16 ≤ reachBytes := z1
  obtain ⟨rfl, rfl, rfl⟩ : s1 = a1.a ∧ l1 = a1.len ∧ c1 = a1.cap := by simpa [Value.cells, Sl.val] using e1
  clear hA0 hval0 hsz0
  refine (walk W a0 x0 w0 u0 y0 a1 x1 w1 u1 y1).mono fun e W' ⟨he, bel⟩ => ?_
  subst he
  exact ⟨_, rfl, _, _, _, [], _, [], hW', trodAll_mk1 (shut_bool Try.underlying4 _), (trodAll_cons_mk (Below.trod laidOut (by kernel_rfl) (of_decide_eq_true (by kernel_rfl)) k0 bel lt0) (trodAll_cons_mk (Below.trod laidOut (by kernel_rfl) (of_decide_eq_true (by kernel_rfl)) k1 bel lt1) trodAll_mk0)), rfl, bel.frame _, fun h => by cases h⟩
theorem over : Rows.schedOwnRow.holds Try.pinned (OpenSpec.ofChange Rows.schedOwnSpec) :=
  OpenClaim.holds_of_wide 7 Try.f7 rfl rfl rfl rfl rfl rfl rfl ⟨rfl, rfl, rfl, rfl, rfl⟩ rfl rfl rfl rfl rfl (by kernel_rfl) Try.func7 (by kernel_rfl)
    (of_decide_eq_true (by kernel_rfl)) (by unfold Func.isWrapper; first | (rw [if_pos (by decide +kernel)]; kernel_rfl) | (rw [if_neg (by decide +kernel)]; exact ⟨rfl, rfl⟩))
    (fun os started H enc _ => lifted os started H enc)
theorem proved : Rows.SchedOwnSaid := over
#print axioms proved
end Go.Proofs.Ytomngllmnhdmlaa.schedOwn
namespace Go.Proofs.Ytomngllmnhdmlaa
/-- The row, under a short name, for the claim. -/
theorem schedOwn_holds : Rows.SchedOwnSaid := schedOwn.proved
end Go.Proofs.Ytomngllmnhdmlaa
