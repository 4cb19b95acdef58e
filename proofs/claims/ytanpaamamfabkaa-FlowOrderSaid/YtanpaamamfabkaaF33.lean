/- (*spate/flow.Flow).of, as a predicate over the heap, and that the code comes to it. Printed by gen.py. -/
import Derived.Test.YtanpaamamfabkaaTy
namespace Go.Proofs.Ytanpaamamfabkaa
open Go Go.Tr
set_option linter.unusedVariables false
set_option maxRecDepth 100000
set_option maxHeartbeats 400000
/-- (*spate/flow.Flow).of -/
def flow_Flow_of (a0 : Option Addr) (a1 : Int) (h : H) (Q : ((Option Addr) × Int) → H → Prop) : Prop :=
  jn (fun (k1 : Bool → H → Prop) =>
    if (decide (a1 < 0)) = true then
      k1 true h
    else
      rd a0 fun q3 =>
      rd (ld kL (q3.add 0) h) fun x2 =>
      k1 (decide (a1 ≥ (x2.len : Int))) h) fun s1 h1 =>
  if s1 = true then
    Q (none, 1) h1
  else
    rd a0 fun q1 =>
    rd (ld kL (q1.add 0) h1) fun x1 =>
    rd (ixA 2 x1 a1) fun q2 =>
    Q ((some q2), 0) h1
theorem flow_Flow_of.sound {a0 : Option Addr} {a1 : Int} {h : H} {Q : ((Option Addr) × Int) → H → Prop} (hF : flow_Flow_of a0 a1 h Q) :
    CallsH Try.prog 33 (List.toArray (α := Value) [.pointer a0, .int .i64 a1]) h fun v h' => ∃ x : (Option Addr) × Int, v = .tuple #[.pointer x.1, .int .i64 x.2] ∧ Q x h' := by
  refine CallsH.of_body Try.func33 rfl 23 rfl rfl ?_
  refine WP.seq ?_
  refine WP.region ?_
  refine EvK.pure (v := .pointer none) (w_none rfl) rfl rfl (f_assign rfl rfl) ?_
  refine EvK.pure (v := .int .i64 0) (w_none rfl) rfl rfl (f_assign rfl rfl) ?_
  refine EvK.nil ?_
  refine WP.seq ?_
  refine WP.joinF (fun (s1 : Bool) => [(16, .bool s1), (0, .pointer a0), (1, .int .i64 a1)]) hF ?_ ?_
  · intro s1 E0 h1 hF
    rcases ite_inv hF with ⟨c1, hF⟩ | ⟨c1, hF⟩
    · refine WP.cond_true _ rfl c1 ?_
      refine WP.seq ?_
      refine WP.region ?_
      refine EvK.pure (v := .pointer none) (w_none rfl) rfl rfl (f_assign rfl rfl) ?_
      refine EvK.pure (v := .int .i64 1) (w_none rfl) rfl rfl (f_assign rfl rfl) ?_
      refine EvK.nil ?_
      refine WP.ret ?_
      exact Ret.mk (vs := [.pointer none, .int .i64 1]) (none, 1) ⟨rfl, rfl, trivial⟩ rfl hF
    · refine WP.cond_false _ rfl c1 ?_
      refine WP.skip ?_
      refine WP.seq ?_
      refine WP.region ?_
      refine EvK.pure (v := .pointer a0) (w_none rfl) rfl rfl (f_move rfl rfl) ?_
      obtain ⟨q1, hq1, hF⟩ := hF
      refine EvK.pure (v := .pointer (some q1)) (w_none rfl) rfl rfl (f_nilCheck rfl (congrArg Value.pointer hq1)) ?_
      refine EvK.pure (v := .pointer (some (q1.add 0))) (w_none rfl) rfl rfl (f_fieldAddr fd59_0 rfl rfl) ?_
      obtain ⟨x1, hx1, hF⟩ := hF
      refine EvK.read (v := Sl.val x1) (w_none rfl) rfl rfl (f_load kL ty56 rfl rfl hx1 rfl) ?_
      refine EvK.pure (v := .int .i64 a1) (w_none rfl) rfl rfl (f_move rfl rfl) ?_
      obtain ⟨q2, hq2, hF⟩ := hF
      refine EvK.pure (v := .pointer (some q2)) (w_none rfl) rfl rfl (f_indexAddr (s := x1) Try.underlying56 ty79.size rfl rfl rfl hq2) ?_
      refine EvK.pure (v := .pointer (some q2)) (w_none rfl) rfl rfl (f_assign rfl rfl) ?_
      refine EvK.pure (v := .int .i64 0) (w_none rfl) rfl rfl (f_assign rfl rfl) ?_
      refine EvK.nil ?_
      refine WP.ret ?_
      exact Ret.mk (vs := [.pointer (some q2), .int .i64 0]) ((some q2), 0) ⟨rfl, rfl, trivial⟩ rfl hF
  · intro k1 hF
    refine WP.region ?_
    refine EvK.pure (v := .int .i64 a1) (w_none rfl) rfl rfl (f_move rfl rfl) ?_
    refine EvK.pure (v := .bool (decide (a1 < 0))) (w_none rfl) rfl rfl (f_lss rfl rfl rfl) ?_
    refine EvK.pure (v := .bool (decide (a1 < 0))) (w_none rfl) rfl rfl (f_move rfl rfl) ?_
    rcases ite_inv hF with ⟨c2, hF⟩ | ⟨c2, hF⟩
    · refine EvK.not (w_not rfl rfl c2) rfl rfl ?_
      refine EvK.not (w_not rfl rfl c2) rfl rfl ?_
      refine EvK.not (w_not rfl rfl c2) rfl rfl ?_
      refine EvK.not (w_not rfl rfl c2) rfl rfl ?_
      refine EvK.not (w_not rfl rfl c2) rfl rfl ?_
      refine EvK.not (w_not rfl rfl c2) rfl rfl ?_
      refine EvK.not (w_not rfl rfl c2) rfl rfl ?_
      refine EvK.pure (v := .bool true) (w_none rfl) rfl rfl (f_pickT rfl rfl c2 rfl) ?_
      refine EvK.nil ?_
      exact KE.mk true ⟨rfl, rfl, rfl, trivial⟩ hF
    · refine EvK.pure (v := .int .i64 a1) (w_some rfl rfl c2) rfl rfl (f_move rfl rfl) ?_
      refine EvK.pure (v := .pointer a0) (w_some rfl rfl c2) rfl rfl (f_move rfl rfl) ?_
      obtain ⟨q3, hq3, hF⟩ := hF
      refine EvK.pure (v := .pointer (some q3)) (w_some rfl rfl c2) rfl rfl (f_nilCheck rfl (congrArg Value.pointer hq3)) ?_
      refine EvK.pure (v := .pointer (some (q3.add 0))) (w_some rfl rfl c2) rfl rfl (f_fieldAddr fd59_0 rfl rfl) ?_
      obtain ⟨x2, hx2, hF⟩ := hF
      refine EvK.read (v := Sl.val x2) (w_some rfl rfl c2) rfl rfl (f_load kL ty56 rfl rfl hx2 rfl) ?_
      refine EvK.pure (v := .int .i64 (x2.len : Int)) (w_some rfl rfl c2) rfl rfl (f_lenL (s := x2) Try.underlying56 rfl rfl) ?_
      refine EvK.pure (v := .bool (decide (a1 ≥ (x2.len : Int)))) (w_some rfl rfl c2) rfl rfl (f_geq rfl rfl rfl) ?_
      refine EvK.pure (v := .bool (decide (a1 ≥ (x2.len : Int)))) (w_none rfl) rfl rfl (f_pickF rfl rfl c2 rfl) ?_
      refine EvK.nil ?_
      exact KE.mk (decide (a1 ≥ (x2.len : Int))) ⟨rfl, rfl, rfl, trivial⟩ hF
end Go.Proofs.Ytanpaamamfabkaa
