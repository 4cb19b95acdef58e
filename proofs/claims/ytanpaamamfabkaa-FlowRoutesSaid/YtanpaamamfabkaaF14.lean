/- spate/spateref15.Operator, as a predicate over the heap, and that the code comes to it. Printed by gen.py. -/
import Derived.Test.YtanpaamamfabkaaTy
import Derived.Test.YtanpaamamfabkaaF32
namespace Go.Proofs.Ytanpaamamfabkaa
open Go Go.Tr
set_option linter.unusedVariables false
set_option maxRecDepth 100000
set_option maxHeartbeats 400000
/-- spate/spateref15.Operator -/
def spateref15_Operator (a0 : ByteArray) (a1 : Int) (h : H) (Q : Int → H → Prop) : Prop :=
  spateref15_Hash a0 h fun r1 h1 =>
  rd (shrI .u64 (IntKind.u64.wrap (r1 * 11400714819323198485)) 32) fun x1 =>
  rd (remI x1 (IntKind.u64.wrap a1)) fun x2 =>
  Q (IntKind.i64.wrap x2) h1
theorem spateref15_Operator.sound {a0 : ByteArray} {a1 : Int} {h : H} {Q : Int → H → Prop} (hF : spateref15_Operator a0 a1 h Q) :
    CallsH Try.prog 14 (List.toArray (α := Value) [.string a0, .int .i64 a1]) h fun v h' => ∃ x : Int, v = .int .i64 x ∧ Q x h' := by
  refine CallsH.of_body Try.func14 rfl 13 rfl rfl ?_
  refine WP.seq ?_
  refine WP.region ?_
  refine EvK.pure (v := .int .i64 0) (w_none rfl) rfl rfl (f_assign rfl rfl) ?_
  refine EvK.nil ?_
  refine WP.seq ?_
  refine WP.region ?_
  refine EvK.pure (v := .string a0) (w_none rfl) rfl rfl (f_move rfl rfl) ?_
  refine EvK.call (w_none rfl) rfl rfl (enterH Try.func32 rfl rfl rfl rfl (spateref15_Hash.sound hF)) ?_
  rintro _ h1 ⟨r1, rfl, hF⟩
  refine EvK.pure (v := .int .u64 (IntKind.u64.wrap (r1 * 11400714819323198485))) (w_none rfl) rfl rfl (f_mul rfl rfl rfl) ?_
  obtain ⟨x1, hx1, hF⟩ := hF
  refine EvK.pure (v := .int .u64 x1) (w_none rfl) rfl rfl (f_shr rfl rfl rfl hx1) ?_
  refine EvK.pure (v := .int .i64 a1) (w_none rfl) rfl rfl (f_move rfl rfl) ?_
  refine EvK.pure (v := .int .u64 (IntKind.u64.wrap a1)) (w_none rfl) rfl rfl (f_convI Try.underlying3 Try.underlying72 rfl rfl) ?_
  obtain ⟨x2, hx2, hF⟩ := hF
  refine EvK.pure (v := .int .u64 x2) (w_none rfl) rfl rfl (f_rem rfl rfl rfl hx2) ?_
  refine EvK.pure (v := .int .i64 (IntKind.i64.wrap x2)) (w_none rfl) rfl rfl (f_convI Try.underlying72 Try.underlying3 rfl rfl) ?_
  refine EvK.pure (v := .int .i64 (IntKind.i64.wrap x2)) (w_none rfl) rfl rfl (f_assign rfl rfl) ?_
  refine EvK.nil ?_
  refine WP.ret ?_
  exact Ret.mk (vs := [.int .i64 (IntKind.i64.wrap x2)]) (IntKind.i64.wrap x2) ⟨rfl, trivial⟩ rfl hF
end Go.Proofs.Ytanpaamamfabkaa
