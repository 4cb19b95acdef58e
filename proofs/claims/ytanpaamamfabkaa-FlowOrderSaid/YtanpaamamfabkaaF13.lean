/- (*spate/flow.Flow).Route, as a predicate over the heap, and that the code comes to it. Printed by gen.py. -/
import Derived.Test.YtanpaamamfabkaaTy
import Derived.Test.YtanpaamamfabkaaF31
namespace Go.Proofs.Ytanpaamamfabkaa
open Go Go.Tr
set_option linter.unusedVariables false
set_option maxRecDepth 100000
set_option maxHeartbeats 400000
/-- (*spate/flow.Flow).Route -/
def flow_Flow_Route (a0 : Option Addr) (a1 : ByteArray) (h : H) (Q : Int → H → Prop) : Prop :=
  rd a0 fun q1 =>
  rd (ld kL (q1.add 1) h) fun x1 =>
  table_Hash a1 h fun r1 h1 =>
  ld kL (q1.add 1) h1 = some x1 ∧
  rd (shrI .u64 (IntKind.u64.wrap (r1 * 11400714819323198485)) 32) fun x2 =>
  rd (remI x2 (IntKind.u64.wrap (x1.len : Int))) fun x3 =>
  Q (IntKind.i64.wrap x3) h1
theorem flow_Flow_Route.sound {a0 : Option Addr} {a1 : ByteArray} {h : H} {Q : Int → H → Prop} (hF : flow_Flow_Route a0 a1 h Q) :
    CallsH Try.prog 13 (List.toArray (α := Value) [.pointer a0, .string a1]) h fun v h' => ∃ x : Int, v = .int .i64 x ∧ Q x h' := by
  refine CallsH.of_body Try.func13 rfl 17 rfl rfl ?_
  refine WP.seq ?_
  refine WP.region ?_
  refine EvK.pure (v := .int .i64 0) (w_none rfl) rfl rfl (f_assign rfl rfl) ?_
  refine EvK.nil ?_
  refine WP.seq ?_
  refine WP.draw mixed [.pure, .eff [7], .pure, .pure, .pure, .pure, .pure, .read, .pure, .pure, .pure, .pure, .pure] [[], [0], [0, 1], [0, 1, 2], [], [4], [4, 5], [4, 5, 6], [4, 5, 6, 7], [4, 5, 6, 7, 8], [0, 1, 2, 3, 4, 5, 6, 7, 8, 9], [0, 1, 2, 3, 4, 5, 6, 7, 8, 9, 10], [0, 1, 2, 3, 4, 5, 6, 7, 8, 9, 10, 11]] [0, 4, 5, 6, 7, 8, 9, 1, 2, 3, 10, 11, 12] (by kernel_rfl) (by kernel_rfl) ?_
  refine EvI.pure (v := .string a1) rfl rfl (w_none rfl) rfl (f_move rfl rfl) ?_
  refine EvI.pure (v := .pointer a0) rfl rfl (w_none rfl) rfl (f_move rfl rfl) ?_
  obtain ⟨q1, hq1, hF⟩ := hF
  refine EvI.pure (v := .pointer (some q1)) rfl rfl (w_none rfl) rfl (f_nilCheck rfl (congrArg Value.pointer hq1)) ?_
  refine EvI.pure (v := .pointer (some (q1.add 1))) rfl rfl (w_none rfl) rfl (f_fieldAddr fd59_1 rfl rfl) ?_
  obtain ⟨x1, hx1, hF⟩ := hF
  refine EvI.read (v := Sl.val x1) rfl rfl (w_none rfl) rfl (f_load kL ty57 rfl rfl hx1 rfl) ?_
  refine EvI.pure (v := .int .i64 (x1.len : Int)) rfl rfl (w_none rfl) rfl (f_lenL (s := x1) Try.underlying57 rfl rfl) ?_
  refine EvI.pure (v := .int .u64 (IntKind.u64.wrap (x1.len : Int))) rfl rfl (w_none rfl) rfl (f_convI Try.underlying3 Try.underlying72 rfl rfl) ?_
  refine EvI.call rfl rfl (w_none rfl) rfl (enterH Try.func31 rfl rfl rfl rfl (table_Hash.sound hF)) ?_
  rintro _ h1 ⟨r1, rfl, hF⟩
  obtain ⟨hy1, hF⟩ := hF
  refine ⟨⟨chk_yes rfl (f_load kL ty57 rfl rfl hy1 rfl), trivial⟩, ?_⟩
  refine EvI.pure (v := .int .u64 (IntKind.u64.wrap (r1 * 11400714819323198485))) rfl rfl (w_none rfl) rfl (f_mul rfl rfl rfl) ?_
  obtain ⟨x2, hx2, hF⟩ := hF
  refine EvI.pure (v := .int .u64 x2) rfl rfl (w_none rfl) rfl (f_shr rfl rfl rfl hx2) ?_
  obtain ⟨x3, hx3, hF⟩ := hF
  refine EvI.pure (v := .int .u64 x3) rfl rfl (w_none rfl) rfl (f_rem rfl rfl rfl hx3) ?_
  refine EvI.pure (v := .int .i64 (IntKind.i64.wrap x3)) rfl rfl (w_none rfl) rfl (f_convI Try.underlying72 Try.underlying3 rfl rfl) ?_
  refine EvI.pure (v := .int .i64 (IntKind.i64.wrap x3)) rfl rfl (w_none rfl) rfl (f_assign rfl rfl) ?_
  refine EvI.nil ?_
  refine WP.ret ?_
  exact Ret.mk (vs := [.int .i64 (IntKind.i64.wrap x3)]) (IntKind.i64.wrap x3) ⟨rfl, trivial⟩ rfl hF
end Go.Proofs.Ytanpaamamfabkaa
