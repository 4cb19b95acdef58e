/- (*spate/flow.Flow).Toward, as a predicate over the heap, and that the code comes to it. Printed by gen.py. -/
import Derived.Test.YtanpaamamfabkaaTy
import Derived.Test.YtanpaamamfabkaaF13
import Derived.Test.YtanpaamamfabkaaF33
namespace Go.Proofs.Ytanpaamamfabkaa
open Go Go.Tr
set_option linter.unusedVariables false
set_option maxRecDepth 100000
set_option maxHeartbeats 400000
/-- (*spate/flow.Flow).Toward -/
def flow_Flow_Toward (a0 : Option Addr) (a1 : Int) (h : H) (Q : (Int × Int) → H → Prop) : Prop :=
  flow_Flow_of a0 a1 h fun r1 h1 =>
  if (r1.2 != 0) = true then
    Q (0, r1.2) h1
  else
    rd r1.1 fun q1 =>
    rd (ld kL (q1.add 0) h1) fun x1 =>
    if ((x1.len : Int) == 0) = true then
      Q (0, 44) h1
    else
      rd r1.1 fun q2 =>
      rd (ld kL (q2.add 0) h1) fun x2 =>
      rd (ixA 4 x2 0) fun q3 =>
      rd (ld kB (q3.add 0) h1) fun x3 =>
      if x3 = true then
        rd r1.1 fun q4 =>
        rd (ld (kI .i64) (q4.add 1) h1) fun x4 =>
        Q (x4, 0) h1
      else
        rd r1.1 fun q5 =>
        rd (ld kL (q5.add 0) h1) fun x5 =>
        rd (ixA 4 x5 0) fun q6 =>
        rd (ld kS (q6.add 1) h1) fun x6 =>
        flow_Flow_Route a0 x6 h1 fun r2 h2 =>
        Q (r2, 0) h2
theorem flow_Flow_Toward.sound {a0 : Option Addr} {a1 : Int} {h : H} {Q : (Int × Int) → H → Prop} (hF : flow_Flow_Toward a0 a1 h Q) :
    CallsH Try.prog 22 (List.toArray (α := Value) [.pointer a0, .int .i64 a1]) h fun v h' => ∃ x : Int × Int, v = .tuple #[.int .i64 x.1, .int .i64 x.2] ∧ Q x h' := by
  refine CallsH.of_body Try.func22 rfl 46 rfl rfl ?_
  refine WP.seq ?_
  refine WP.region ?_
  refine EvK.pure (v := .int .i64 0) (w_none rfl) rfl rfl (f_assign rfl rfl) ?_
  refine EvK.pure (v := .int .i64 0) (w_none rfl) rfl rfl (f_assign rfl rfl) ?_
  refine EvK.nil ?_
  refine WP.seq ?_
  refine WP.region ?_
  refine EvK.pure (v := .pointer a0) (w_none rfl) rfl rfl (f_move rfl rfl) ?_
  refine EvK.pure (v := .int .i64 a1) (w_none rfl) rfl rfl (f_move rfl rfl) ?_
  refine EvK.call (w_none rfl) rfl rfl (enterH Try.func33 rfl rfl rfl rfl (flow_Flow_of.sound hF)) ?_
  rintro _ h1 ⟨r1, rfl, hF⟩
  refine EvK.pure (v := .tuple #[.pointer r1.1, .int .i64 r1.2]) (w_none rfl) rfl rfl (f_move rfl rfl) ?_
  refine EvK.pure (v := .pointer r1.1) (w_none rfl) rfl rfl (f_extract (vs := #[.pointer r1.1, .int .i64 r1.2]) rfl rfl rfl) ?_
  refine EvK.pure (v := .int .i64 r1.2) (w_none rfl) rfl rfl (f_extract (vs := #[.pointer r1.1, .int .i64 r1.2]) rfl rfl rfl) ?_
  refine EvK.pure (v := .pointer r1.1) (w_none rfl) rfl rfl (f_assign rfl rfl) ?_
  refine EvK.pure (v := .int .i64 r1.2) (w_none rfl) rfl rfl (f_assign rfl rfl) ?_
  refine EvK.nil ?_
  refine WP.seq ?_
  refine WP.block ?_
  refine WP.seq ?_
  refine WP.region ?_
  refine EvK.pure (v := .int .i64 r1.2) (w_none rfl) rfl rfl (f_move rfl rfl) ?_
  refine EvK.pure (v := .bool (r1.2 != 0)) (w_none rfl) rfl rfl (f_neq rfl rfl rfl) ?_
  refine EvK.pure (v := .bool (r1.2 != 0)) (w_none rfl) rfl rfl (f_assign rfl rfl) ?_
  refine EvK.nil ?_
  rcases ite_inv hF with ⟨c1, hF⟩ | ⟨c1, hF⟩
  · refine WP.cond_true _ rfl c1 ?_
    refine WP.seq ?_
    refine WP.region ?_
    refine EvK.pure (v := .int .i64 r1.2) (w_none rfl) rfl rfl (f_move rfl rfl) ?_
    refine EvK.pure (v := .int .i64 0) (w_none rfl) rfl rfl (f_assign rfl rfl) ?_
    refine EvK.pure (v := .int .i64 r1.2) (w_none rfl) rfl rfl (f_assign rfl rfl) ?_
    refine EvK.nil ?_
    refine WP.ret ?_
    exact Ret.mk (vs := [.int .i64 0, .int .i64 r1.2]) (0, r1.2) ⟨rfl, rfl, trivial⟩ rfl hF
  · refine WP.cond_false _ rfl c1 ?_
    refine WP.seq ?_
    refine WP.region ?_
    refine EvK.pure (v := .pointer r1.1) (w_none rfl) rfl rfl (f_move rfl rfl) ?_
    obtain ⟨q1, hq1, hF⟩ := hF
    refine EvK.pure (v := .pointer (some q1)) (w_none rfl) rfl rfl (f_nilCheck rfl (congrArg Value.pointer hq1)) ?_
    refine EvK.pure (v := .pointer (some (q1.add 0))) (w_none rfl) rfl rfl (f_fieldAddr fd79_0 rfl rfl) ?_
    obtain ⟨x1, hx1, hF⟩ := hF
    refine EvK.read (v := Sl.val x1) (w_none rfl) rfl rfl (f_load kL ty45 rfl rfl hx1 rfl) ?_
    refine EvK.pure (v := .int .i64 (x1.len : Int)) (w_none rfl) rfl rfl (f_lenL (s := x1) Try.underlying45 rfl rfl) ?_
    refine EvK.pure (v := .bool ((x1.len : Int) == 0)) (w_none rfl) rfl rfl (f_eql rfl rfl rfl) ?_
    refine EvK.pure (v := .bool ((x1.len : Int) == 0)) (w_none rfl) rfl rfl (f_assign rfl rfl) ?_
    refine EvK.nil ?_
    rcases ite_inv hF with ⟨c2, hF⟩ | ⟨c2, hF⟩
    · refine WP.cond_true _ rfl c2 ?_
      refine WP.seq ?_
      refine WP.region ?_
      refine EvK.pure (v := .int .i64 0) (w_none rfl) rfl rfl (f_assign rfl rfl) ?_
      refine EvK.pure (v := .int .i64 44) (w_none rfl) rfl rfl (f_assign rfl rfl) ?_
      refine EvK.nil ?_
      refine WP.ret ?_
      exact Ret.mk (vs := [.int .i64 0, .int .i64 44]) (0, 44) ⟨rfl, rfl, trivial⟩ rfl hF
    · refine WP.cond_false _ rfl c2 ?_
      refine WP.seq ?_
      refine WP.region ?_
      refine EvK.pure (v := .pointer r1.1) (w_none rfl) rfl rfl (f_move rfl rfl) ?_
      obtain ⟨q2, hq2, hF⟩ := hF
      refine EvK.pure (v := .pointer (some q2)) (w_none rfl) rfl rfl (f_nilCheck rfl (congrArg Value.pointer hq2)) ?_
      refine EvK.pure (v := .pointer (some (q2.add 0))) (w_none rfl) rfl rfl (f_fieldAddr fd79_0 rfl rfl) ?_
      obtain ⟨x2, hx2, hF⟩ := hF
      refine EvK.read (v := Sl.val x2) (w_none rfl) rfl rfl (f_load kL ty45 rfl rfl hx2 rfl) ?_
      obtain ⟨q3, hq3, hF⟩ := hF
      refine EvK.pure (v := .pointer (some q3)) (w_none rfl) rfl rfl (f_indexAddr (s := x2) Try.underlying45 ty33.size rfl rfl rfl hq3) ?_
      refine EvK.pure (v := .pointer (some (q3.add 0))) (w_none rfl) rfl rfl (f_fieldAddr fd33_0 rfl rfl) ?_
      obtain ⟨x3, hx3, hF⟩ := hF
      refine EvK.read (v := .bool x3) (w_none rfl) rfl rfl (f_load kB ty4 rfl rfl hx3 rfl) ?_
      refine EvK.pure (v := .bool x3) (w_none rfl) rfl rfl (f_assign rfl rfl) ?_
      refine EvK.nil ?_
      rcases ite_inv hF with ⟨c3, hF⟩ | ⟨c3, hF⟩
      · refine WP.cond_true _ rfl c3 ?_
        refine WP.seq ?_
        refine WP.region ?_
        refine EvK.pure (v := .pointer r1.1) (w_none rfl) rfl rfl (f_move rfl rfl) ?_
        obtain ⟨q4, hq4, hF⟩ := hF
        refine EvK.pure (v := .pointer (some q4)) (w_none rfl) rfl rfl (f_nilCheck rfl (congrArg Value.pointer hq4)) ?_
        refine EvK.pure (v := .pointer (some (q4.add 1))) (w_none rfl) rfl rfl (f_fieldAddr fd79_1 rfl rfl) ?_
        obtain ⟨x4, hx4, hF⟩ := hF
        refine EvK.read (v := .int .i64 x4) (w_none rfl) rfl rfl (f_load (kI .i64) ty3 rfl rfl hx4 rfl) ?_
        refine EvK.pure (v := .int .i64 x4) (w_none rfl) rfl rfl (f_assign rfl rfl) ?_
        refine EvK.pure (v := .int .i64 0) (w_none rfl) rfl rfl (f_assign rfl rfl) ?_
        refine EvK.nil ?_
        refine WP.ret ?_
        exact Ret.mk (vs := [.int .i64 x4, .int .i64 0]) (x4, 0) ⟨rfl, rfl, trivial⟩ rfl hF
      · refine WP.cond_false _ rfl c3 ?_
        refine WP.skip ?_
        refine WP.seq ?_
        refine WP.region ?_
        refine EvK.pure (v := .pointer a0) (w_none rfl) rfl rfl (f_move rfl rfl) ?_
        refine EvK.pure (v := .pointer r1.1) (w_none rfl) rfl rfl (f_move rfl rfl) ?_
        obtain ⟨q5, hq5, hF⟩ := hF
        refine EvK.pure (v := .pointer (some q5)) (w_none rfl) rfl rfl (f_nilCheck rfl (congrArg Value.pointer hq5)) ?_
        refine EvK.pure (v := .pointer (some (q5.add 0))) (w_none rfl) rfl rfl (f_fieldAddr fd79_0 rfl rfl) ?_
        obtain ⟨x5, hx5, hF⟩ := hF
        refine EvK.read (v := Sl.val x5) (w_none rfl) rfl rfl (f_load kL ty45 rfl rfl hx5 rfl) ?_
        obtain ⟨q6, hq6, hF⟩ := hF
        refine EvK.pure (v := .pointer (some q6)) (w_none rfl) rfl rfl (f_indexAddr (s := x5) Try.underlying45 ty33.size rfl rfl rfl hq6) ?_
        refine EvK.pure (v := .pointer (some (q6.add 1))) (w_none rfl) rfl rfl (f_fieldAddr fd33_1 rfl rfl) ?_
        obtain ⟨x6, hx6, hF⟩ := hF
        refine EvK.read (v := .string x6) (w_none rfl) rfl rfl (f_load kS ty9 rfl rfl hx6 rfl) ?_
        refine EvK.call (w_none rfl) rfl rfl (enterH Try.func13 rfl rfl rfl rfl (flow_Flow_Route.sound hF)) ?_
        rintro _ h2 ⟨r2, rfl, hF⟩
        refine EvK.pure (v := .int .i64 r2) (w_none rfl) rfl rfl (f_assign rfl rfl) ?_
        refine EvK.pure (v := .int .i64 0) (w_none rfl) rfl rfl (f_assign rfl rfl) ?_
        refine EvK.nil ?_
        refine WP.ret ?_
        exact Ret.mk (vs := [.int .i64 r2, .int .i64 0]) (r2, 0) ⟨rfl, rfl, trivial⟩ rfl hF
end Go.Proofs.Ytanpaamamfabkaa
