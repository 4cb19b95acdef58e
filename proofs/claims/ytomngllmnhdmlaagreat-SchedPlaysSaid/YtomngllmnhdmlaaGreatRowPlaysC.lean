/- SchedPlays returns true and its arguments read as they did: the row. Printed by row.py. -/
import Derived.Test.YtomngllmnhdmlaaGreatRows
import Derived.Test.YtomngllmnhdmlaaGreatB5
import Derived.WalkKit
import Derived.ProofKit
import Derived.OpenShut
import Derived.ShutString
import Derived.ChangeOld
import Derived.Below
import Derived.SizedLaws
import Derived.Carry
namespace Go.Proofs.YtomngllmnhdmlaaGreat.schedPlays
open Go Go.Tr Go.ChangeShapes Go.WideShapes Go.ChangeAt Go.RowKit
open Go.ChangeMaps (open_string shut_string)
set_option linter.unusedVariables false
theorem own : ownKnob Tryz.prog.godebug = none := by kernel_rfl
theorem laidOut : laidOutB Tryz.prog = true := by kernel_rfl
theorem walk (W : World) (a0 : Int) (a1 : Sl) (x1 : List Sl) (w1 : Rds kL W.heap a1 x1) (u1 : ∀ y ∈ x1, wTask W.heap y) (y1 : x1.length * 24 ≤ reachBytes) (a2 : Sl) (x2 : List Act) (w2 : Rds kAct W.heap a2 x2) (u2 : ∀ y ∈ x2, (fun _ => True) y) (y2 : x2.length * 16 ≤ reachBytes) :
    Calls Tryz.prog 3 #[.int .i64 a0, Sl.val a1, Sl.val a2] W fun e W' => e = .returned (.bool true) ∧ Below W.heap.size W W' := by
  have h := spatelaw12_SchedPlays.sound (plays_true a0 a1 x1 a2 x2 W.heap w1 u1 y1 w2 u2 y2) ⟨W.tape, W.os, W.output⟩ W.drawn
  refine h.mono ?_
  rintro e w' ⟨v, h', d', rfl, rfl, x, rfl, rfl, ex⟩
  exact ⟨rfl, rfl, rfl, rfl, ex.1, ex.2⟩
set_option maxRecDepth 100000 in
theorem lifted (os : Os) (started : os.Started) (H : Type) (enc : TypeId × Value → H) :
    ReturnsInHanded {} Tryz.checked os 3 .any (Rows.schedPlaysSpec.pre6 enc Tryz.prog Tryz.f3 Rows.schedPlaysRow.domain false) (Rows.schedPlaysSpec.post enc Tryz.prog Tryz.f3 false true false false) := by
  refine returnsInHanded_of_change_sized (C := Tryz.checked) own started (by kernel_rfl) Tryz.func3
    (ChangeSpec.witness6 (enc := enc) (C := Tryz.checked) false ⟨#[], #[.int .i64 0, .slice none 0 0, .slice none 0 0], []⟩ 8 (by kernel_rfl) (by kernel_rfl) (by kernel_rfl) (by kernel_rfl)) ?_
  intro W base args ds gs before hval0 hW hcnd hsz0 _
  have hsz : (DataW.weightsEach Tryz.prog (Tryz.f3.params.toList ++ Rows.schedPlaysSpec.plain.varTypes Tryz.prog) (ds ++ gs)).all (· ≤ reachBytes) = true := hsz0
  have hval : ∀ (j : Nat) t v, Tryz.f3.params[j]? = some t → args[j]? = some v → Value.okWide Tryz.prog W .any base t v := hval0
  have hW' := hW
  obtain ⟨p, q, hA0, hV, rfl, hfz, hnd⟩ := hW
  have hA : DataW.TrodAll enc Tryz.prog W 0 (fun _ => true) true Tryz.f3.params.toList args.toList ds p := hA0
  rw [Tryz.params3] at hA hval hsz
  obtain ⟨v0, vs0, d0, ds0, p0, q0, hargs, rfl, rfl, h0, r0⟩ := trodAll_cons hA
  obtain ⟨v1, vs1, d1, ds1, p1, q1, rfl, rfl, rfl, h1, r1⟩ := trodAll_cons r0
  obtain ⟨v2, vs2, d2, ds2, p2, q2, rfl, rfl, rfl, h2, r2⟩ := trodAll_cons r1
  obtain ⟨rfl, rfl, rfl⟩ := trodAll_nil r2
  obtain rfl : args = #[v0, v1, v2] := by cases args; simp_all
  obtain ⟨rfl, rfl⟩ := trodVars_none hV
  obtain ⟨a0, rfl, rfl, rfl, w0⟩ := open_int Tryz.underlying3 (hval 0 3 v0 rfl rfl) h0
  obtain ⟨s1, l1, c1, rfl⟩ := okWide_slice Tryz.underlying22 (hval 1 22 v1 rfl rfl)
  have k1 := h1
  have lt1 : ∀ x ∈ p1, x.block < W.heap.size := by obtain ⟨m, hm⟩ := k1; exact DataW.trod_lt m _ _ _ hm
  obtain ⟨f1, g1⟩ := h1
  obtain ⟨a1, x1, e1, w1, u1, z1, _⟩ := opens_slice Tryz.underlying22 (by kernel_rfl) opTask g1 (fits_of hsz 1 rfl rfl)
  have y1 : x1.length * 24 ≤ reachBytes := z1
  obtain ⟨rfl, rfl, rfl⟩ : s1 = a1.a ∧ l1 = a1.len ∧ c1 = a1.cap := by simpa [Value.cells, Sl.val] using e1
  obtain ⟨s2, l2, c2, rfl⟩ := okWide_slice Tryz.underlying23 (hval 2 23 v2 rfl rfl)
  have k2 := h2
  have lt2 : ∀ x ∈ p2, x.block < W.heap.size := by obtain ⟨m, hm⟩ := k2; exact DataW.trod_lt m _ _ _ hm
  obtain ⟨f2, g2⟩ := h2
  obtain ⟨a2, x2, e2, w2, u2, z2, _⟩ := opens_slice Tryz.underlying23 (by kernel_rfl) opAct g2 (fits_of hsz 2 rfl rfl)
  have y2 : x2.length * 16 ≤ reachBytes := z2
  obtain ⟨rfl, rfl, rfl⟩ : s2 = a2.a ∧ l2 = a2.len ∧ c2 = a2.cap := by simpa [Value.cells, Sl.val] using e2
  clear hA0 hval0 hsz0
  refine (walk W a0 a1 x1 w1 u1 y1 a2 x2 w2 u2 y2).mono fun e W' ⟨he, bel⟩ => ?_
  subst he
  exact ⟨_, rfl, _, _, _, [], _, [], hW', trodAll_mk1 (shut_bool Tryz.underlying4 _), (trodAll_cons_mk (shut_int Tryz.underlying3 w0) (trodAll_cons_mk (Below.trod laidOut (by kernel_rfl) (of_decide_eq_true (by kernel_rfl)) k1 bel lt1) (trodAll_cons_mk (Below.trod laidOut (by kernel_rfl) (of_decide_eq_true (by kernel_rfl)) k2 bel lt2) trodAll_mk0))), rfl, bel.frame _, fun h => by cases h⟩
theorem over : Rows.schedPlaysRow.holds Tryz.pinned (OpenSpec.ofChange Rows.schedPlaysSpec) :=
  OpenClaim.holds_of_wide 3 Tryz.f3 rfl rfl rfl rfl rfl rfl rfl ⟨rfl, rfl, rfl, rfl, rfl⟩ rfl rfl rfl rfl rfl (by kernel_rfl) Tryz.func3 (by kernel_rfl)
    (of_decide_eq_true (by kernel_rfl)) (by unfold Func.isWrapper; first | (rw [if_pos (by decide +kernel)]; kernel_rfl) | (rw [if_neg (by decide +kernel)]; exact ⟨rfl, rfl⟩))
    (fun os started H enc _ => lifted os started H enc)
theorem proved : Rows.SchedPlaysSaid := over
#print axioms proved
end Go.Proofs.YtomngllmnhdmlaaGreat.schedPlays
namespace Go.Proofs.YtomngllmnhdmlaaGreat
/-- The row, under a short name, for the claim. -/
theorem schedPlays_holds : Rows.SchedPlaysSaid := schedPlays.proved
end Go.Proofs.YtomngllmnhdmlaaGreat
