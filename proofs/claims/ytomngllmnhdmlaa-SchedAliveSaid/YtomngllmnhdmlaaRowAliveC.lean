/- SchedAlive returns true and its arguments read as they did: the row. Printed by row.py. -/
import Derived.Test.YtomngllmnhdmlaaRows
import Derived.Test.YtomngllmnhdmlaaLawAliveC
import Derived.WalkKit
import Derived.ProofKit
import Derived.OpenShut
import Derived.ShutString
import Derived.ChangeOld
import Derived.Below
import Derived.SizedLaws
import Derived.Carry
namespace Go.Proofs.Ytomngllmnhdmlaa.schedAlive
open Go Go.Tr Go.ChangeShapes Go.WideShapes Go.ChangeAt Go.RowKit
open Go.ChangeMaps (open_string shut_string)
set_option linter.unusedVariables false
theorem own : ownKnob Try.prog.godebug = none := by kernel_rfl
theorem laidOut : laidOutB Try.prog = true := by kernel_rfl
theorem walk (W : World) (a0 : Sl) (x0 : List Sl) (w0 : Rds kL W.heap a0 x0) (u0 : ∀ y ∈ x0, SlW kLk (fun _ _ => True) 16 W.heap y) (y0 : x0.length * 24 ≤ reachBytes) (a1 : Int) :
    Calls Try.prog 5 #[Sl.val a0, .int .i64 a1] W fun e W' => e = .returned (.bool true) ∧ Below W.heap.size W W' := by
  have h := spatelaw12_SchedAlive.sound (alive_true a0 x0 a1 W.heap w0 u0 y0) ⟨W.tape, W.os, W.output⟩ W.drawn
  refine h.mono ?_
  rintro e w' ⟨v, h', d', rfl, rfl, x, rfl, rfl, ex⟩
  exact ⟨rfl, rfl, rfl, rfl, ex.1, ex.2⟩
set_option maxRecDepth 100000 in
theorem lifted (os : Os) (started : os.Started) (H : Type) (enc : TypeId × Value → H) :
    ReturnsInHanded {} Try.checked os 5 .any (Rows.schedAliveSpec.pre6 enc Try.prog Try.f5 Rows.schedAliveRow.domain false) (Rows.schedAliveSpec.post enc Try.prog Try.f5 false true false false) := by
  refine returnsInHanded_of_change_sized (C := Try.checked) own started (by kernel_rfl) Try.func5
    (ChangeSpec.witness6 (enc := enc) (C := Try.checked) false ⟨#[], #[.slice none 0 0, .int .i64 0], []⟩ 8 (by kernel_rfl) (by kernel_rfl) (by kernel_rfl) (by kernel_rfl)) ?_
  intro W base args ds gs before hval0 hW hcnd hsz0 _
  have hsz : (DataW.weightsEach Try.prog (Try.f5.params.toList ++ Rows.schedAliveSpec.plain.varTypes Try.prog) (ds ++ gs)).all (· ≤ reachBytes) = true := hsz0
  have hval : ∀ (j : Nat) t v, Try.f5.params[j]? = some t → args[j]? = some v → Value.okWide Try.prog W .any base t v := hval0
  have hW' := hW
  obtain ⟨p, q, hA0, hV, rfl, hfz, hnd⟩ := hW
  have hA : DataW.TrodAll enc Try.prog W 0 (fun _ => true) true Try.f5.params.toList args.toList ds p := hA0
  rw [Try.params5] at hA hval hsz
  obtain ⟨v0, vs0, d0, ds0, p0, q0, hargs, rfl, rfl, h0, r0⟩ := trodAll_cons hA
  obtain ⟨v1, vs1, d1, ds1, p1, q1, rfl, rfl, rfl, h1, r1⟩ := trodAll_cons r0
  obtain ⟨rfl, rfl, rfl⟩ := trodAll_nil r1
  obtain rfl : args = #[v0, v1] := by cases args; simp_all
  obtain ⟨rfl, rfl⟩ := trodVars_none hV
  obtain ⟨s0, l0, c0, rfl⟩ := okWide_slice Try.underlying55 (hval 0 55 v0 rfl rfl)
  have k0 := h0
  have lt0 : ∀ x ∈ p0, x.block < W.heap.size := by obtain ⟨m, hm⟩ := k0; exact DataW.trod_lt m _ _ _ hm
  obtain ⟨f0, g0⟩ := h0
  obtain ⟨a0, x0, e0, w0, u0, z0, _⟩ := opens_slice Try.underlying55 (by kernel_rfl) opLks g0 (fits_of hsz 0 rfl rfl)
  have y0 : x0.length * 24 ≤ reachBytes := z0
  obtain ⟨rfl, rfl, rfl⟩ : s0 = a0.a ∧ l0 = a0.len ∧ c0 = a0.cap := by simpa [Value.cells, Sl.val] using e0
  obtain ⟨a1, rfl, rfl, rfl, w1⟩ := open_int Try.underlying3 (hval 1 3 v1 rfl rfl) h1
  clear hA0 hval0 hsz0
  refine (walk W a0 x0 w0 u0 y0 a1).mono fun e W' ⟨he, bel⟩ => ?_
  subst he
  exact ⟨_, rfl, _, _, _, [], _, [], hW', trodAll_mk1 (shut_bool Try.underlying4 _), (trodAll_cons_mk (Below.trod laidOut (by kernel_rfl) (of_decide_eq_true (by kernel_rfl)) k0 bel lt0) (trodAll_cons_mk (shut_int Try.underlying3 w1) trodAll_mk0)), rfl, bel.frame _, fun h => by cases h⟩
theorem over : Rows.schedAliveRow.holds Try.pinned (OpenSpec.ofChange Rows.schedAliveSpec) :=
  OpenClaim.holds_of_wide 5 Try.f5 rfl rfl rfl rfl rfl rfl rfl ⟨rfl, rfl, rfl, rfl, rfl⟩ rfl rfl rfl rfl rfl (by kernel_rfl) Try.func5 (by kernel_rfl)
    (of_decide_eq_true (by kernel_rfl)) (by unfold Func.isWrapper; first | (rw [if_pos (by decide +kernel)]; kernel_rfl) | (rw [if_neg (by decide +kernel)]; exact ⟨rfl, rfl⟩))
    (fun os started H enc _ => lifted os started H enc)
theorem proved : Rows.SchedAliveSaid := over
#print axioms proved
end Go.Proofs.Ytomngllmnhdmlaa.schedAlive
namespace Go.Proofs.Ytomngllmnhdmlaa
/-- The row, under a short name, for the claim. -/
theorem schedAlive_holds : Rows.SchedAliveSaid := schedAlive.proved
end Go.Proofs.Ytomngllmnhdmlaa
