/- spate/spatelaw15.FlowRoutes, as a predicate over the heap, and that the code comes to it. Printed by gen.py. -/
import Derived.Test.YtanpaamamfabkaaTy
import Derived.Test.YtanpaamamfabkaaF8
import Derived.Test.YtanpaamamfabkaaF9
import Derived.Test.YtanpaamamfabkaaF13
import Derived.Test.YtanpaamamfabkaaF14
namespace Go.Proofs.Ytanpaamamfabkaa
open Go Go.Tr
set_option linter.unusedVariables false
set_option maxRecDepth 100000
set_option maxHeartbeats 400000
/-- spate/spatelaw15.FlowRoutes -/
def spatelaw15_FlowRoutes (a0 : Int) (a1 : ByteArray) (h : H) (Q : Bool → H → Prop) : Prop :=
  spatelaw15_known  h fun r1 h1 =>
  if (!r1) = true then
    Q false h1
  else
    flow_New 1 a0 1 h1 fun r2 h2 =>
    jn (fun (k1 : Bool → H → Prop) =>
      if (r2.2 != 0) = true then
        k1 true h2
      else
        if r2.1.isNone = true then
          k1 true h2
        else
          k1 (decide ((a1.size : Int) > 1048576)) h2) fun s1 h3 =>
    if s1 = true then
      jn (fun (k2 : Bool → H → Prop) =>
        if (decide (a0 < 1)) = true then
          k2 true h3
        else
          if (decide (a0 > 8)) = true then
            k2 true h3
          else
            k2 (decide ((a1.size : Int) > 1048576)) h3) fun s2 h4 =>
      Q s2 h4
    else
      flow_Flow_Route r2.1 a1 h3 fun r3 h5 =>
      spateref15_Operator a1 a0 h5 fun r4 h6 =>
      Q (r3 == r4) h6
theorem spatelaw15_FlowRoutes.sound {a0 : Int} {a1 : ByteArray} {h : H} {Q : Bool → H → Prop} (hF : spatelaw15_FlowRoutes a0 a1 h Q) :
    CallsH Try.prog 4 (List.toArray (α := Value) [.int .i64 a0, .string a1]) h fun v h' => ∃ x : Bool, v = .bool x ∧ Q x h' := by
  refine CallsH.of_body Try.func4 rfl 43 rfl rfl ?_
  refine WP.seq ?_
  refine WP.region ?_
  refine EvK.pure (v := .bool false) (w_none rfl) rfl rfl (f_assign rfl rfl) ?_
  refine EvK.nil ?_
  refine WP.seq ?_
  refine WP.seq ?_
  refine WP.region ?_
  refine EvK.call (w_none rfl) rfl rfl (enterH Try.func8 rfl rfl rfl rfl (spatelaw15_known.sound hF)) ?_
  rintro _ h1 ⟨r1, rfl, hF⟩
  refine EvK.pure (v := .bool (!r1)) (w_none rfl) rfl rfl (f_not rfl rfl) ?_
  refine EvK.nil ?_
  rcases ite_inv hF with ⟨c1, hF⟩ | ⟨c1, hF⟩
  · refine WP.cond_true _ rfl c1 ?_
    refine WP.seq ?_
    refine WP.region ?_
    refine EvK.pure (v := .bool false) (w_none rfl) rfl rfl (f_assign rfl rfl) ?_
    refine EvK.nil ?_
    refine WP.ret ?_
    exact Ret.mk (vs := [.bool false]) false ⟨rfl, trivial⟩ rfl hF
  · refine WP.cond_false _ rfl c1 ?_
    refine WP.skip ?_
    refine WP.seq ?_
    refine WP.region ?_
    refine EvK.pure (v := .int .i64 a0) (w_none rfl) rfl rfl (f_move rfl rfl) ?_
    refine EvK.call (w_none rfl) rfl rfl (enterH Try.func9 rfl rfl rfl rfl (flow_New.sound hF)) ?_
    rintro _ h2 ⟨r2, rfl, hF⟩
    refine EvK.pure (v := .tuple #[.pointer r2.1, .int .i64 r2.2]) (w_none rfl) rfl rfl (f_move rfl rfl) ?_
    refine EvK.pure (v := .pointer r2.1) (w_none rfl) rfl rfl (f_extract (vs := #[.pointer r2.1, .int .i64 r2.2]) rfl rfl rfl) ?_
    refine EvK.pure (v := .int .i64 r2.2) (w_none rfl) rfl rfl (f_extract (vs := #[.pointer r2.1, .int .i64 r2.2]) rfl rfl rfl) ?_
    refine EvK.pure (v := .pointer r2.1) (w_none rfl) rfl rfl (f_assign rfl rfl) ?_
    refine EvK.pure (v := .int .i64 r2.2) (w_none rfl) rfl rfl (f_assign rfl rfl) ?_
    refine EvK.nil ?_
    refine WP.seq ?_
    refine WP.joinF (fun (s1 : Bool) => [(24, .bool s1), (0, .int .i64 a0), (1, .string a1), (5, .pointer r2.1)]) hF ?_ ?_
    · intro s1 E0 h3 hF
      rcases ite_inv hF with ⟨c2, hF⟩ | ⟨c2, hF⟩
      · refine WP.cond_true _ rfl c2 ?_
        refine WP.joinF (fun (s2 : Bool) => [(4, .bool s2)]) hF ?_ ?_
        · intro s2 E0 h4 hF
          refine WP.ret ?_
          exact Ret.mk (vs := [.bool s2]) s2 ⟨rfl, trivial⟩ rfl hF
        · intro k2 hF
          refine WP.region ?_
          refine EvK.pure (v := .int .i64 a0) (w_none rfl) rfl rfl (f_move rfl rfl) ?_
          refine EvK.pure (v := .bool (decide (a0 < 1))) (w_none rfl) rfl rfl (f_lss rfl rfl rfl) ?_
          refine EvK.pure (v := .bool (decide (a0 < 1))) (w_none rfl) rfl rfl (f_move rfl rfl) ?_
          rcases ite_inv hF with ⟨c3, hF⟩ | ⟨c3, hF⟩
          · refine EvK.not (w_not rfl rfl c3) rfl rfl ?_
            refine EvK.not (w_not rfl rfl c3) rfl rfl ?_
            refine EvK.pure (v := .bool true) (w_none rfl) rfl rfl (f_pickT rfl rfl c3 rfl) ?_
            refine EvK.pure (v := .bool true) (w_none rfl) rfl rfl (f_move rfl rfl) ?_
            refine EvK.not (w_not rfl rfl rfl) rfl rfl ?_
            refine EvK.not (w_not rfl rfl rfl) rfl rfl ?_
            refine EvK.not (w_not rfl rfl rfl) rfl rfl ?_
            refine EvK.pure (v := .bool true) (w_none rfl) rfl rfl (f_pickT rfl rfl rfl rfl) ?_
            refine EvK.pure (v := .bool true) (w_none rfl) rfl rfl (f_assign rfl rfl) ?_
            refine EvK.nil ?_
            exact KE.mk true ⟨rfl, trivial⟩ hF
          · refine EvK.pure (v := .int .i64 a0) (w_some rfl rfl c3) rfl rfl (f_move rfl rfl) ?_
            refine EvK.pure (v := .bool (decide (a0 > 8))) (w_some rfl rfl c3) rfl rfl (f_gtr rfl rfl rfl) ?_
            refine EvK.pure (v := .bool (decide (a0 > 8))) (w_none rfl) rfl rfl (f_pickF rfl rfl c3 rfl) ?_
            refine EvK.pure (v := .bool (decide (a0 > 8))) (w_none rfl) rfl rfl (f_move rfl rfl) ?_
            rcases ite_inv hF with ⟨c4, hF⟩ | ⟨c4, hF⟩
            · refine EvK.not (w_not rfl rfl c4) rfl rfl ?_
              refine EvK.not (w_not rfl rfl c4) rfl rfl ?_
              refine EvK.not (w_not rfl rfl c4) rfl rfl ?_
              refine EvK.pure (v := .bool true) (w_none rfl) rfl rfl (f_pickT rfl rfl c4 rfl) ?_
              refine EvK.pure (v := .bool true) (w_none rfl) rfl rfl (f_assign rfl rfl) ?_
              refine EvK.nil ?_
              exact KE.mk true ⟨rfl, trivial⟩ hF
            · refine EvK.pure (v := .string a1) (w_some rfl rfl c4) rfl rfl (f_move rfl rfl) ?_
              refine EvK.pure (v := .int .i64 (a1.size : Int)) (w_some rfl rfl c4) rfl rfl (f_lenS Try.underlying9 rfl rfl) ?_
              refine EvK.pure (v := .bool (decide ((a1.size : Int) > 1048576))) (w_some rfl rfl c4) rfl rfl (f_gtr rfl rfl rfl) ?_
              refine EvK.pure (v := .bool (decide ((a1.size : Int) > 1048576))) (w_none rfl) rfl rfl (f_pickF rfl rfl c4 rfl) ?_
              refine EvK.pure (v := .bool (decide ((a1.size : Int) > 1048576))) (w_none rfl) rfl rfl (f_assign rfl rfl) ?_
              refine EvK.nil ?_
              exact KE.mk (decide ((a1.size : Int) > 1048576)) ⟨rfl, trivial⟩ hF
      · refine WP.cond_false _ rfl c2 ?_
        refine WP.skip ?_
        refine WP.seq ?_
        refine WP.region ?_
        refine EvK.pure (v := .pointer r2.1) (w_none rfl) rfl rfl (f_move rfl rfl) ?_
        refine EvK.pure (v := .string a1) (w_none rfl) rfl rfl (f_move rfl rfl) ?_
        refine EvK.call (w_none rfl) rfl rfl (enterH Try.func13 rfl rfl rfl rfl (flow_Flow_Route.sound hF)) ?_
        rintro _ h5 ⟨r3, rfl, hF⟩
        refine EvK.pure (v := .string a1) (w_none rfl) rfl rfl (f_move rfl rfl) ?_
        refine EvK.pure (v := .int .i64 a0) (w_none rfl) rfl rfl (f_move rfl rfl) ?_
        refine EvK.call (w_none rfl) rfl rfl (enterH Try.func14 rfl rfl rfl rfl (spateref15_Operator.sound hF)) ?_
        rintro _ h6 ⟨r4, rfl, hF⟩
        refine EvK.pure (v := .bool (r3 == r4)) (w_none rfl) rfl rfl (f_eql rfl rfl rfl) ?_
        refine EvK.pure (v := .bool (r3 == r4)) (w_none rfl) rfl rfl (f_assign rfl rfl) ?_
        refine EvK.nil ?_
        refine WP.ret ?_
        exact Ret.mk (vs := [.bool (r3 == r4)]) (r3 == r4) ⟨rfl, trivial⟩ rfl hF
    · intro k1 hF
      refine WP.region ?_
      refine EvK.pure (v := .int .i64 r2.2) (w_none rfl) rfl rfl (f_move rfl rfl) ?_
      refine EvK.pure (v := .bool (r2.2 != 0)) (w_none rfl) rfl rfl (f_neq rfl rfl rfl) ?_
      refine EvK.pure (v := .bool (r2.2 != 0)) (w_none rfl) rfl rfl (f_move rfl rfl) ?_
      rcases ite_inv hF with ⟨c5, hF⟩ | ⟨c5, hF⟩
      · refine EvK.not (w_not rfl rfl c5) rfl rfl ?_
        refine EvK.not (w_not rfl rfl c5) rfl rfl ?_
        refine EvK.pure (v := .bool true) (w_none rfl) rfl rfl (f_pickT rfl rfl c5 rfl) ?_
        refine EvK.pure (v := .bool true) (w_none rfl) rfl rfl (f_move rfl rfl) ?_
        refine EvK.not (w_not rfl rfl rfl) rfl rfl ?_
        refine EvK.not (w_not rfl rfl rfl) rfl rfl ?_
        refine EvK.not (w_not rfl rfl rfl) rfl rfl ?_
        refine EvK.pure (v := .bool true) (w_none rfl) rfl rfl (f_pickT rfl rfl rfl rfl) ?_
        refine EvK.nil ?_
        exact KE.mk true ⟨rfl, rfl, rfl, rfl, trivial⟩ hF
      · refine EvK.pure (v := .pointer r2.1) (w_some rfl rfl c5) rfl rfl (f_move rfl rfl) ?_
        refine EvK.pure (v := .bool r2.1.isNone) (w_some rfl rfl c5) rfl rfl (f_peqln Try.underlying24 rfl rfl rfl) ?_
        refine EvK.pure (v := .bool r2.1.isNone) (w_none rfl) rfl rfl (f_pickF rfl rfl c5 rfl) ?_
        refine EvK.pure (v := .bool r2.1.isNone) (w_none rfl) rfl rfl (f_move rfl rfl) ?_
        rcases ite_inv hF with ⟨c6, hF⟩ | ⟨c6, hF⟩
        · refine EvK.not (w_not rfl rfl c6) rfl rfl ?_
          refine EvK.not (w_not rfl rfl c6) rfl rfl ?_
          refine EvK.not (w_not rfl rfl c6) rfl rfl ?_
          refine EvK.pure (v := .bool true) (w_none rfl) rfl rfl (f_pickT rfl rfl c6 rfl) ?_
          refine EvK.nil ?_
          exact KE.mk true ⟨rfl, rfl, rfl, rfl, trivial⟩ hF
        · refine EvK.pure (v := .string a1) (w_some rfl rfl c6) rfl rfl (f_move rfl rfl) ?_
          refine EvK.pure (v := .int .i64 (a1.size : Int)) (w_some rfl rfl c6) rfl rfl (f_lenS Try.underlying9 rfl rfl) ?_
          refine EvK.pure (v := .bool (decide ((a1.size : Int) > 1048576))) (w_some rfl rfl c6) rfl rfl (f_gtr rfl rfl rfl) ?_
          refine EvK.pure (v := .bool (decide ((a1.size : Int) > 1048576))) (w_none rfl) rfl rfl (f_pickF rfl rfl c6 rfl) ?_
          refine EvK.nil ?_
          exact KE.mk (decide ((a1.size : Int) > 1048576)) ⟨rfl, rfl, rfl, rfl, trivial⟩ hF
end Go.Proofs.Ytanpaamamfabkaa
