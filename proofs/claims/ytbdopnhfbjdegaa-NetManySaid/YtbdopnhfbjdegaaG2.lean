/- Functions as predicates over the heap, and that the code comes to them. Printed by gen.py, merged by group.py. -/
import Derived.Test.YtbdopnhfbjdegaaG0
import Derived.Test.YtbdopnhfbjdegaaG1
import Derived.Test.YtbdopnhfbjdegaaTy
namespace Go.Proofs.Ytbdopnhfbjdegaa
open Go Go.Tr
set_option linter.unusedVariables false
set_option maxRecDepth 100000
set_option maxHeartbeats 400000
/-- (*spate/net.Net).Take -/
def net_Net_Take (a0 : Option Addr) (a1 : Int) (h : H) (Q : (Sl × Int) → H → Prop) : Prop :=
  net_Net_live a0 a1 h fun r1 h1 =>
  if (r1.2 != 0) = true then
    Q (Sl.nil, r1.2) h1
  else
    rd r1.1 fun q1 =>
    rd r1.1 fun q2 =>
    rd (ld kL (((q2.add 0).add 2).add 0) h1) fun x1 =>
    net_buffer_take (some ((q1.add 0).add 2)) (x1.len : Int) h1 fun r2 h2 =>
    Q (r2, 0) h2
theorem net_Net_Take.sound {a0 : Option Addr} {a1 : Int} {h : H} {Q : (Sl × Int) → H → Prop} (hF : net_Net_Take a0 a1 h Q) :
    CallsH Try.prog 12 (List.toArray (α := Value) [.pointer a0, .int .i64 a1]) h fun v h' => ∃ x : Sl × Int, v = .tuple #[Sl.val x.1, .int .i64 x.2] ∧ Q x h' := by
  refine CallsH.of_body Try.func12 rfl 29 rfl rfl ?_
  refine WP.seq ?_
  refine WP.region ?_
  refine EvK.pure (v := Sl.val Sl.nil) (w_none rfl) rfl rfl (f_assign rfl rfl) ?_
  refine EvK.pure (v := .int .i64 0) (w_none rfl) rfl rfl (f_assign rfl rfl) ?_
  refine EvK.nil ?_
  refine WP.seq ?_
  refine WP.region ?_
  refine EvK.pure (v := .pointer a0) (w_none rfl) rfl rfl (f_move rfl rfl) ?_
  refine EvK.pure (v := .int .i64 a1) (w_none rfl) rfl rfl (f_move rfl rfl) ?_
  refine EvK.call (w_none rfl) rfl rfl (enterH Try.func27 rfl rfl rfl rfl (net_Net_live.sound hF)) ?_
  rintro _ h1 ⟨r1, rfl, hF⟩
  refine EvK.pure (v := .tuple #[.pointer r1.1, .int .i64 r1.2]) (w_none rfl) rfl rfl (f_move rfl rfl) ?_
  refine EvK.pure (v := .pointer r1.1) (w_none rfl) rfl rfl (f_extract (vs := #[.pointer r1.1, .int .i64 r1.2]) rfl rfl rfl) ?_
  refine EvK.pure (v := .int .i64 r1.2) (w_none rfl) rfl rfl (f_extract (vs := #[.pointer r1.1, .int .i64 r1.2]) rfl rfl rfl) ?_
  refine EvK.pure (v := .pointer r1.1) (w_none rfl) rfl rfl (f_assign rfl rfl) ?_
  refine EvK.pure (v := .int .i64 r1.2) (w_none rfl) rfl rfl (f_assign rfl rfl) ?_
  refine EvK.nil ?_
  refine WP.seq ?_
  refine WP.seq ?_
  refine WP.region ?_
  refine EvK.pure (v := .int .i64 r1.2) (w_none rfl) rfl rfl (f_move rfl rfl) ?_
  refine EvK.pure (v := .bool (r1.2 != 0)) (w_none rfl) rfl rfl (f_neq rfl rfl rfl) ?_
  refine EvK.nil ?_
  rcases ite_inv hF with ⟨c1, hF⟩ | ⟨c1, hF⟩
  · refine WP.cond_true _ rfl c1 ?_
    refine WP.seq ?_
    refine WP.region ?_
    refine EvK.pure (v := .int .i64 r1.2) (w_none rfl) rfl rfl (f_move rfl rfl) ?_
    refine EvK.pure (v := Sl.val Sl.nil) (w_none rfl) rfl rfl (f_assign rfl rfl) ?_
    refine EvK.pure (v := .int .i64 r1.2) (w_none rfl) rfl rfl (f_assign rfl rfl) ?_
    refine EvK.nil ?_
    refine WP.ret ?_
    exact Ret.mk (vs := [Sl.val Sl.nil, .int .i64 r1.2]) (Sl.nil, r1.2) ⟨rfl, rfl, trivial⟩ rfl hF
  · refine WP.cond_false _ rfl c1 ?_
    refine WP.skip ?_
    refine WP.seq ?_
    refine WP.draw mixed [.pure, .pure, .pure, .pure, .pure, .pure, .pure, .pure, .pure, .read, .pure, .eff [], .pure, .pure] [[], [0], [0, 1], [0, 1, 2], [], [4], [4, 5], [4, 5, 6], [4, 5, 6, 7], [4, 5, 6, 7, 8], [4, 5, 6, 7, 8, 9], [0, 1, 2, 3, 4, 5, 6, 7, 8, 9, 10], [0, 1, 2, 3, 4, 5, 6, 7, 8, 9, 10, 11], [0, 1, 2, 3, 4, 5, 6, 7, 8, 9, 10, 11, 12]] [0, 1, 2, 3, 4, 5, 6, 7, 8, 9, 10, 11, 12, 13] (by kernel_rfl) (by kernel_rfl) ?_
    refine EvI.pure (v := .pointer r1.1) rfl rfl (w_none rfl) rfl (f_move rfl rfl) ?_
    obtain ⟨q1, hq1, hF⟩ := hF
    refine EvI.pure (v := .pointer (some q1)) rfl rfl (w_none rfl) rfl (f_nilCheck rfl (congrArg Value.pointer hq1)) ?_
    refine EvI.pure (v := .pointer (some (q1.add 0))) rfl rfl (w_none rfl) rfl (f_fieldAddr fd75_0 rfl rfl) ?_
    refine EvI.pure (v := .pointer (some ((q1.add 0).add 2))) rfl rfl (w_none rfl) rfl (f_fieldAddr fd73_1 rfl rfl) ?_
    refine EvI.pure (v := .pointer r1.1) rfl rfl (w_none rfl) rfl (f_move rfl rfl) ?_
    obtain ⟨q2, hq2, hF⟩ := hF
    refine EvI.pure (v := .pointer (some q2)) rfl rfl (w_none rfl) rfl (f_nilCheck rfl (congrArg Value.pointer hq2)) ?_
    refine EvI.pure (v := .pointer (some (q2.add 0))) rfl rfl (w_none rfl) rfl (f_fieldAddr fd75_0 rfl rfl) ?_
    refine EvI.pure (v := .pointer (some ((q2.add 0).add 2))) rfl rfl (w_none rfl) rfl (f_fieldAddr fd73_1 rfl rfl) ?_
    refine EvI.pure (v := .pointer (some (((q2.add 0).add 2).add 0))) rfl rfl (w_none rfl) rfl (f_fieldAddr fd71_0 rfl rfl) ?_
    obtain ⟨x1, hx1, hF⟩ := hF
    refine EvI.read (v := Sl.val x1) rfl rfl (w_none rfl) rfl (f_load kL ty29 rfl rfl hx1 rfl) ?_
    refine EvI.pure (v := .int .i64 (x1.len : Int)) rfl rfl (w_none rfl) rfl (f_lenL (s := x1) Try.underlying29 rfl rfl) ?_
    refine EvI.call rfl rfl (w_none rfl) rfl (enterH Try.func29 rfl rfl rfl rfl (net_buffer_take.sound hF)) ?_
    rintro _ h2 ⟨r2, rfl, hF⟩
    refine ⟨⟨chk_no rfl, trivial⟩, ?_⟩
    refine EvI.pure (v := Sl.val r2) rfl rfl (w_none rfl) rfl (f_assign rfl rfl) ?_
    refine EvI.pure (v := .int .i64 0) rfl rfl (w_none rfl) rfl (f_assign rfl rfl) ?_
    refine EvI.nil ?_
    refine WP.ret ?_
    exact Ret.mk (vs := [Sl.val r2, .int .i64 0]) (r2, 0) ⟨rfl, rfl, trivial⟩ rfl hF
end Go.Proofs.Ytbdopnhfbjdegaa

namespace Go.Proofs.Ytbdopnhfbjdegaa
open Go Go.Tr
set_option linter.unusedVariables false
set_option maxRecDepth 100000
set_option maxHeartbeats 400000
/-- (*spate/net.Net).Write -/
def net_Net_Write (a0 : Option Addr) (a1 : Int) (a2 : Sl) (h : H) (Q : (Int × Int) → H → Prop) : Prop :=
  net_Net_live a0 a1 h fun r1 h1 =>
  if (r1.2 != 0) = true then
    Q (0, r1.2) h1
  else
    rd r1.1 fun q1 =>
    net_buffer_lay (some (q1.add 4)) a2 h1 fun r2 h2 =>
    Q (r2, 0) h2
theorem net_Net_Write.sound {a0 : Option Addr} {a1 : Int} {a2 : Sl} {h : H} {Q : (Int × Int) → H → Prop} (hF : net_Net_Write a0 a1 a2 h Q) :
    CallsH Try.prog 13 (List.toArray (α := Value) [.pointer a0, .int .i64 a1, Sl.val a2]) h fun v h' => ∃ x : Int × Int, v = .tuple #[.int .i64 x.1, .int .i64 x.2] ∧ Q x h' := by
  refine CallsH.of_body Try.func13 rfl 24 rfl rfl ?_
  refine WP.seq ?_
  refine WP.region ?_
  refine EvK.pure (v := .int .i64 0) (w_none rfl) rfl rfl (f_assign rfl rfl) ?_
  refine EvK.pure (v := .int .i64 0) (w_none rfl) rfl rfl (f_assign rfl rfl) ?_
  refine EvK.nil ?_
  refine WP.seq ?_
  refine WP.region ?_
  refine EvK.pure (v := .pointer a0) (w_none rfl) rfl rfl (f_move rfl rfl) ?_
  refine EvK.pure (v := .int .i64 a1) (w_none rfl) rfl rfl (f_move rfl rfl) ?_
  refine EvK.call (w_none rfl) rfl rfl (enterH Try.func27 rfl rfl rfl rfl (net_Net_live.sound hF)) ?_
  rintro _ h1 ⟨r1, rfl, hF⟩
  refine EvK.pure (v := .tuple #[.pointer r1.1, .int .i64 r1.2]) (w_none rfl) rfl rfl (f_move rfl rfl) ?_
  refine EvK.pure (v := .pointer r1.1) (w_none rfl) rfl rfl (f_extract (vs := #[.pointer r1.1, .int .i64 r1.2]) rfl rfl rfl) ?_
  refine EvK.pure (v := .int .i64 r1.2) (w_none rfl) rfl rfl (f_extract (vs := #[.pointer r1.1, .int .i64 r1.2]) rfl rfl rfl) ?_
  refine EvK.pure (v := .pointer r1.1) (w_none rfl) rfl rfl (f_assign rfl rfl) ?_
  refine EvK.pure (v := .int .i64 r1.2) (w_none rfl) rfl rfl (f_assign rfl rfl) ?_
  refine EvK.nil ?_
  refine WP.seq ?_
  refine WP.seq ?_
  refine WP.region ?_
  refine EvK.pure (v := .int .i64 r1.2) (w_none rfl) rfl rfl (f_move rfl rfl) ?_
  refine EvK.pure (v := .bool (r1.2 != 0)) (w_none rfl) rfl rfl (f_neq rfl rfl rfl) ?_
  refine EvK.nil ?_
  rcases ite_inv hF with ⟨c1, hF⟩ | ⟨c1, hF⟩
  · refine WP.cond_true _ rfl c1 ?_
    refine WP.seq ?_
    refine WP.region ?_
    refine EvK.pure (v := .int .i64 r1.2) (w_none rfl) rfl rfl (f_move rfl rfl) ?_
    refine EvK.pure (v := .int .i64 0) (w_none rfl) rfl rfl (f_assign rfl rfl) ?_
    refine EvK.pure (v := .int .i64 r1.2) (w_none rfl) rfl rfl (f_assign rfl rfl) ?_
    refine EvK.nil ?_
    refine WP.ret ?_
    exact Ret.mk (vs := [.int .i64 0, .int .i64 r1.2]) (0, r1.2) ⟨rfl, rfl, trivial⟩ rfl hF
  · refine WP.cond_false _ rfl c1 ?_
    refine WP.skip ?_
    refine WP.seq ?_
    refine WP.region ?_
    refine EvK.pure (v := .pointer r1.1) (w_none rfl) rfl rfl (f_move rfl rfl) ?_
    obtain ⟨q1, hq1, hF⟩ := hF
    refine EvK.pure (v := .pointer (some q1)) (w_none rfl) rfl rfl (f_nilCheck rfl (congrArg Value.pointer hq1)) ?_
    refine EvK.pure (v := .pointer (some (q1.add 4))) (w_none rfl) rfl rfl (f_fieldAddr fd75_1 rfl rfl) ?_
    refine EvK.pure (v := Sl.val a2) (w_none rfl) rfl rfl (f_move rfl rfl) ?_
    refine EvK.call (w_none rfl) rfl rfl (enterH Try.func28 rfl rfl rfl rfl (net_buffer_lay.sound hF)) ?_
    rintro _ h2 ⟨r2, rfl, hF⟩
    refine EvK.pure (v := .int .i64 r2) (w_none rfl) rfl rfl (f_assign rfl rfl) ?_
    refine EvK.pure (v := .int .i64 0) (w_none rfl) rfl rfl (f_assign rfl rfl) ?_
    refine EvK.nil ?_
    refine WP.ret ?_
    exact Ret.mk (vs := [.int .i64 r2, .int .i64 0]) (r2, 0) ⟨rfl, rfl, trivial⟩ rfl hF
end Go.Proofs.Ytbdopnhfbjdegaa

namespace Go.Proofs.Ytbdopnhfbjdegaa
open Go Go.Tr
set_option linter.unusedVariables false
set_option maxRecDepth 100000
set_option maxHeartbeats 400000
/-- (*spate/net.Net).Fetch -/
def net_Net_Fetch (a0 : Option Addr) (a1 : Int) (a2 : Int) (h : H) (Q : (Int × Int) → H → Prop) : Prop :=
  net_Net_get a0 a1 h fun r1 h1 =>
  if (r1.2 != 0) = true then
    Q (0, r1.2) h1
  else
    rd r1.1 fun q1 =>
    rd r1.1 fun q2 =>
    rd (ld kL ((q2.add 4).add 0) h1) fun x1 =>
    net_buffer_take (some (q1.add 4)) (if (if (x1.len : Int) < a2 then (x1.len : Int) else a2) > 0 then (if (x1.len : Int) < a2 then (x1.len : Int) else a2) else 0) h1 fun r2 h2 =>
    rd r1.1 fun q3 =>
    rd (ld kL (q3.add 6) h2) fun x2 =>
    ap (kI .u8).n 1 5 ((kI .u8).enc 0) x2 r2 h2 fun x3 h3 =>
    rd r1.1 fun q4 =>
    rd (st kL (q4.add 6) x3 h3) fun h4 =>
    rd a0 fun q5 =>
    sync_atomic_Int64_Add (some (q5.add 67)) (r2.len : Int) h4 fun r3 h5 =>
    Q ((r2.len : Int), 0) h5
theorem net_Net_Fetch.sound {a0 : Option Addr} {a1 : Int} {a2 : Int} {h : H} {Q : (Int × Int) → H → Prop} (hF : net_Net_Fetch a0 a1 a2 h Q) :
    CallsH Try.prog 14 (List.toArray (α := Value) [.pointer a0, .int .i64 a1, .int .i64 a2]) h fun v h' => ∃ x : Int × Int, v = .tuple #[.int .i64 x.1, .int .i64 x.2] ∧ Q x h' := by
  refine CallsH.of_body Try.func14 rfl 50 rfl rfl ?_
  refine WP.seq ?_
  refine WP.region ?_
  refine EvK.pure (v := .int .i64 0) (w_none rfl) rfl rfl (f_assign rfl rfl) ?_
  refine EvK.pure (v := .int .i64 0) (w_none rfl) rfl rfl (f_assign rfl rfl) ?_
  refine EvK.nil ?_
  refine WP.seq ?_
  refine WP.region ?_
  refine EvK.pure (v := .pointer a0) (w_none rfl) rfl rfl (f_move rfl rfl) ?_
  refine EvK.pure (v := .int .i64 a1) (w_none rfl) rfl rfl (f_move rfl rfl) ?_
  refine EvK.call (w_none rfl) rfl rfl (enterH Try.func26 rfl rfl rfl rfl (net_Net_get.sound hF)) ?_
  rintro _ h1 ⟨r1, rfl, hF⟩
  refine EvK.pure (v := .tuple #[.pointer r1.1, .int .i64 r1.2]) (w_none rfl) rfl rfl (f_move rfl rfl) ?_
  refine EvK.pure (v := .pointer r1.1) (w_none rfl) rfl rfl (f_extract (vs := #[.pointer r1.1, .int .i64 r1.2]) rfl rfl rfl) ?_
  refine EvK.pure (v := .int .i64 r1.2) (w_none rfl) rfl rfl (f_extract (vs := #[.pointer r1.1, .int .i64 r1.2]) rfl rfl rfl) ?_
  refine EvK.pure (v := .pointer r1.1) (w_none rfl) rfl rfl (f_assign rfl rfl) ?_
  refine EvK.pure (v := .int .i64 r1.2) (w_none rfl) rfl rfl (f_assign rfl rfl) ?_
  refine EvK.nil ?_
  refine WP.seq ?_
  refine WP.seq ?_
  refine WP.region ?_
  refine EvK.pure (v := .int .i64 r1.2) (w_none rfl) rfl rfl (f_move rfl rfl) ?_
  refine EvK.pure (v := .bool (r1.2 != 0)) (w_none rfl) rfl rfl (f_neq rfl rfl rfl) ?_
  refine EvK.nil ?_
  rcases ite_inv hF with ⟨c1, hF⟩ | ⟨c1, hF⟩
  · refine WP.cond_true _ rfl c1 ?_
    refine WP.seq ?_
    refine WP.region ?_
    refine EvK.pure (v := .int .i64 r1.2) (w_none rfl) rfl rfl (f_move rfl rfl) ?_
    refine EvK.pure (v := .int .i64 0) (w_none rfl) rfl rfl (f_assign rfl rfl) ?_
    refine EvK.pure (v := .int .i64 r1.2) (w_none rfl) rfl rfl (f_assign rfl rfl) ?_
    refine EvK.nil ?_
    refine WP.ret ?_
    exact Ret.mk (vs := [.int .i64 0, .int .i64 r1.2]) (0, r1.2) ⟨rfl, rfl, trivial⟩ rfl hF
  · refine WP.cond_false _ rfl c1 ?_
    refine WP.skip ?_
    refine WP.seq ?_
    refine WP.draw mixed [.pure, .pure, .pure, .pure, .pure, .pure, .pure, .pure, .read, .pure, .pure, .pure, .eff [], .pure] [[], [0], [0, 1], [], [], [4], [4, 5], [4, 5, 6], [4, 5, 6, 7], [4, 5, 6, 7, 8], [3, 4, 5, 6, 7, 8, 9], [3, 4, 5, 6, 7, 8, 9, 10], [0, 1, 2, 3, 4, 5, 6, 7, 8, 9, 10, 11], [0, 1, 2, 3, 4, 5, 6, 7, 8, 9, 10, 11, 12]] [0, 1, 2, 3, 4, 5, 6, 7, 8, 9, 10, 11, 12, 13] (by kernel_rfl) (by kernel_rfl) ?_
    refine EvI.pure (v := .pointer r1.1) rfl rfl (w_none rfl) rfl (f_move rfl rfl) ?_
    obtain ⟨q1, hq1, hF⟩ := hF
    refine EvI.pure (v := .pointer (some q1)) rfl rfl (w_none rfl) rfl (f_nilCheck rfl (congrArg Value.pointer hq1)) ?_
    refine EvI.pure (v := .pointer (some (q1.add 4))) rfl rfl (w_none rfl) rfl (f_fieldAddr fd75_1 rfl rfl) ?_
    refine EvI.pure (v := .int .i64 a2) rfl rfl (w_none rfl) rfl (f_move rfl rfl) ?_
    refine EvI.pure (v := .pointer r1.1) rfl rfl (w_none rfl) rfl (f_move rfl rfl) ?_
    obtain ⟨q2, hq2, hF⟩ := hF
    refine EvI.pure (v := .pointer (some q2)) rfl rfl (w_none rfl) rfl (f_nilCheck rfl (congrArg Value.pointer hq2)) ?_
    refine EvI.pure (v := .pointer (some (q2.add 4))) rfl rfl (w_none rfl) rfl (f_fieldAddr fd75_1 rfl rfl) ?_
    refine EvI.pure (v := .pointer (some ((q2.add 4).add 0))) rfl rfl (w_none rfl) rfl (f_fieldAddr fd71_0 rfl rfl) ?_
    obtain ⟨x1, hx1, hF⟩ := hF
    refine EvI.read (v := Sl.val x1) rfl rfl (w_none rfl) rfl (f_load kL ty29 rfl rfl hx1 rfl) ?_
    refine EvI.pure (v := .int .i64 (x1.len : Int)) rfl rfl (w_none rfl) rfl (f_lenL (s := x1) Try.underlying29 rfl rfl) ?_
    refine EvI.pure (v := .int .i64 (if (x1.len : Int) < a2 then (x1.len : Int) else a2)) rfl rfl (w_none rfl) rfl (f_min2 rfl rfl rfl) ?_
    refine EvI.pure (v := .int .i64 (if (if (x1.len : Int) < a2 then (x1.len : Int) else a2) > 0 then (if (x1.len : Int) < a2 then (x1.len : Int) else a2) else 0)) rfl rfl (w_none rfl) rfl (f_max2 rfl rfl rfl) ?_
    refine EvI.call rfl rfl (w_none rfl) rfl (enterH Try.func29 rfl rfl rfl rfl (net_buffer_take.sound hF)) ?_
    rintro _ h2 ⟨r2, rfl, hF⟩
    refine ⟨⟨chk_no rfl, trivial⟩, ?_⟩
    refine EvI.pure (v := Sl.val r2) rfl rfl (w_none rfl) rfl (f_assign rfl rfl) ?_
    refine EvI.nil ?_
    refine WP.seq ?_
    refine WP.region ?_
    refine EvK.pure (v := .pointer r1.1) (w_none rfl) rfl rfl (f_move rfl rfl) ?_
    refine EvK.pure (v := .pointer r1.1) (w_none rfl) rfl rfl (f_move rfl rfl) ?_
    obtain ⟨q3, hq3, hF⟩ := hF
    refine EvK.pure (v := .pointer (some q3)) (w_none rfl) rfl rfl (f_nilCheck rfl (congrArg Value.pointer hq3)) ?_
    refine EvK.pure (v := .pointer (some (q3.add 6))) (w_none rfl) rfl rfl (f_fieldAddr fd75_2 rfl rfl) ?_
    obtain ⟨x2, hx2, hF⟩ := hF
    refine EvK.read (v := Sl.val x2) (w_none rfl) rfl rfl (f_load kL ty29 rfl rfl hx2 rfl) ?_
    refine EvK.pure (v := Sl.val r2) (w_none rfl) rfl rfl (f_move rfl rfl) ?_
    refine EvK.run (w_none rfl) rfl rfl (f_appendE (s := x2) (x := r2) Try.underlying29 el5 rfl rfl rfl hF) ?_
    rintro _ h3 ⟨x3, rfl, hF⟩
    obtain ⟨q4, hq4, hF⟩ := hF
    refine EvK.pure (v := .pointer (some q4)) (w_none rfl) rfl rfl (f_nilCheck rfl (congrArg Value.pointer hq4)) ?_
    refine EvK.pure (v := .pointer (some (q4.add 6))) (w_none rfl) rfl rfl (f_fieldAddr fd75_2 rfl rfl) ?_
    obtain ⟨h4, hs1, hF⟩ := hF
    refine EvK.runN (w_none rfl) rfl (f_store kL ty29.size (z := x3) rfl rfl rfl hs1) ?_
    rintro _ _ ⟨rfl, rfl⟩
    refine EvK.nil ?_
    refine WP.seq ?_
    refine WP.region ?_
    refine EvK.pure (v := .pointer a0) (w_none rfl) rfl rfl (f_move rfl rfl) ?_
    obtain ⟨q5, hq5, hF⟩ := hF
    refine EvK.pure (v := .pointer (some q5)) (w_none rfl) rfl rfl (f_nilCheck rfl (congrArg Value.pointer hq5)) ?_
    refine EvK.pure (v := .pointer (some (q5.add 67))) (w_none rfl) rfl rfl (f_fieldAddr fd67_3 rfl rfl) ?_
    refine EvK.pure (v := Sl.val r2) (w_none rfl) rfl rfl (f_move rfl rfl) ?_
    refine EvK.pure (v := .int .i64 (r2.len : Int)) (w_none rfl) rfl rfl (f_lenL (s := r2) Try.underlying29 rfl rfl) ?_
    refine EvK.call (w_none rfl) rfl rfl (enterH Try.func30 rfl rfl rfl rfl (sync_atomic_Int64_Add.sound hF)) ?_
    rintro _ h5 ⟨r3, rfl, hF⟩
    refine EvK.nil ?_
    refine WP.seq ?_
    refine WP.region ?_
    refine EvK.pure (v := Sl.val r2) (w_none rfl) rfl rfl (f_move rfl rfl) ?_
    refine EvK.pure (v := .int .i64 (r2.len : Int)) (w_none rfl) rfl rfl (f_lenL (s := r2) Try.underlying29 rfl rfl) ?_
    refine EvK.pure (v := .int .i64 (r2.len : Int)) (w_none rfl) rfl rfl (f_assign rfl rfl) ?_
    refine EvK.pure (v := .int .i64 0) (w_none rfl) rfl rfl (f_assign rfl rfl) ?_
    refine EvK.nil ?_
    refine WP.ret ?_
    exact Ret.mk (vs := [.int .i64 (r2.len : Int), .int .i64 0]) ((r2.len : Int), 0) ⟨rfl, rfl, trivial⟩ rfl hF
end Go.Proofs.Ytbdopnhfbjdegaa

namespace Go.Proofs.Ytbdopnhfbjdegaa
open Go Go.Tr
set_option linter.unusedVariables false
set_option maxRecDepth 100000
set_option maxHeartbeats 400000
/-- (*spate/net.Net).Heard -/
def net_Net_Heard (a0 : Option Addr) (a1 : Int) (h : H) (Q : (Sl × Bool) → H → Prop) : Prop :=
  net_Net_get a0 a1 h fun r1 h1 =>
  if (r1.2 != 0) = true then
    Q (Sl.nil, false) h1
  else
    jn (fun (k1 : (Sl × Bool) → H → Prop) =>
      rd r1.1 fun q1 =>
      rd (ld kL (q1.add 6) h1) fun x1 =>
      rd r1.1 fun q2 =>
      rd (ld kB (q2.add 8) h1) fun x2 =>
      slices_Clone___byte_byte_ x1 h1 fun r2 h3 =>
      ld kB (q2.add 8) h3 = some x2 ∧
      if x2 = true then
        k1 (r2, true) h3
      else
        rd r1.1 fun q3 =>
        rd (ld kB (q3.add 7) h3) fun x3 =>
        if x3 = true then
          rd r1.1 fun q4 =>
          rd (ld kL ((q4.add 4).add 0) h3) fun x4 =>
          k1 (r2, ((x4.len : Int) == 0)) h3
        else
          k1 (r2, false) h3) fun s1 h2 =>
    Q (s1.1, s1.2) h2
theorem net_Net_Heard.sound {a0 : Option Addr} {a1 : Int} {h : H} {Q : (Sl × Bool) → H → Prop} (hF : net_Net_Heard a0 a1 h Q) :
    CallsH Try.prog 15 (List.toArray (α := Value) [.pointer a0, .int .i64 a1]) h fun v h' => ∃ x : Sl × Bool, v = .tuple #[Sl.val x.1, .bool x.2] ∧ Q x h' := by
  refine CallsH.of_body Try.func15 rfl 40 rfl rfl ?_
  refine WP.seq ?_
  refine WP.region ?_
  refine EvK.pure (v := Sl.val Sl.nil) (w_none rfl) rfl rfl (f_assign rfl rfl) ?_
  refine EvK.pure (v := .bool false) (w_none rfl) rfl rfl (f_assign rfl rfl) ?_
  refine EvK.nil ?_
  refine WP.seq ?_
  refine WP.region ?_
  refine EvK.pure (v := .pointer a0) (w_none rfl) rfl rfl (f_move rfl rfl) ?_
  refine EvK.pure (v := .int .i64 a1) (w_none rfl) rfl rfl (f_move rfl rfl) ?_
  refine EvK.call (w_none rfl) rfl rfl (enterH Try.func26 rfl rfl rfl rfl (net_Net_get.sound hF)) ?_
  rintro _ h1 ⟨r1, rfl, hF⟩
  refine EvK.pure (v := .tuple #[.pointer r1.1, .int .i64 r1.2]) (w_none rfl) rfl rfl (f_move rfl rfl) ?_
  refine EvK.pure (v := .pointer r1.1) (w_none rfl) rfl rfl (f_extract (vs := #[.pointer r1.1, .int .i64 r1.2]) rfl rfl rfl) ?_
  refine EvK.pure (v := .int .i64 r1.2) (w_none rfl) rfl rfl (f_extract (vs := #[.pointer r1.1, .int .i64 r1.2]) rfl rfl rfl) ?_
  refine EvK.pure (v := .pointer r1.1) (w_none rfl) rfl rfl (f_assign rfl rfl) ?_
  refine EvK.pure (v := .int .i64 r1.2) (w_none rfl) rfl rfl (f_assign rfl rfl) ?_
  refine EvK.nil ?_
  refine WP.seq ?_
  refine WP.seq ?_
  refine WP.region ?_
  refine EvK.pure (v := .int .i64 r1.2) (w_none rfl) rfl rfl (f_move rfl rfl) ?_
  refine EvK.pure (v := .bool (r1.2 != 0)) (w_none rfl) rfl rfl (f_neq rfl rfl rfl) ?_
  refine EvK.nil ?_
  rcases ite_inv hF with ⟨c1, hF⟩ | ⟨c1, hF⟩
  · refine WP.cond_true _ rfl c1 ?_
    refine WP.seq ?_
    refine WP.region ?_
    refine EvK.pure (v := Sl.val Sl.nil) (w_none rfl) rfl rfl (f_assign rfl rfl) ?_
    refine EvK.pure (v := .bool false) (w_none rfl) rfl rfl (f_assign rfl rfl) ?_
    refine EvK.nil ?_
    refine WP.ret ?_
    exact Ret.mk (vs := [Sl.val Sl.nil, .bool false]) (Sl.nil, false) ⟨rfl, rfl, trivial⟩ rfl hF
  · refine WP.cond_false _ rfl c1 ?_
    refine WP.skip ?_
    refine WP.joinF (fun (s1 : Sl × Bool) => [(4, Sl.val s1.1), (5, .bool s1.2)]) hF ?_ ?_
    · intro s1 E0 h2 hF
      refine WP.ret ?_
      exact Ret.mk (vs := [Sl.val s1.1, .bool s1.2]) (s1.1, s1.2) ⟨rfl, rfl, trivial⟩ rfl hF
    · intro k1 hF
      refine WP.draw mixed [.pure, .pure, .pure, .read, .eff [8], .pure, .pure, .pure, .read, .pure, .pure, .pure, .pure, .read, .pure, .pure, .pure, .pure, .pure, .read, .pure, .pure, .pure, .pure, .pure, .pure] [[], [0], [0, 1], [0, 1, 2], [0, 1, 2, 3], [], [5], [5, 6], [5, 6, 7], [0, 1, 2, 3, 4, 5, 6, 7, 8], [0, 1, 2, 3, 4, 5, 6, 7, 8, 9], [0, 1, 2, 3, 4, 5, 6, 7, 8, 9, 10], [0, 1, 2, 3, 4, 5, 6, 7, 8, 9, 10, 11], [0, 1, 2, 3, 4, 5, 6, 7, 8, 9, 10, 11, 12], [0, 1, 2, 3, 4, 5, 6, 7, 8, 9, 10, 11, 12, 13], [0, 1, 2, 3, 4, 5, 6, 7, 8, 9, 10, 11, 12, 13, 14], [0, 1, 2, 3, 4, 5, 6, 7, 8, 9, 10, 11, 12, 13, 14, 15], [0, 1, 2, 3, 4, 5, 6, 7, 8, 9, 10, 11, 12, 13, 14, 15, 16], [0, 1, 2, 3, 4, 5, 6, 7, 8, 9, 10, 11, 12, 13, 14, 15, 16, 17], [0, 1, 2, 3, 4, 5, 6, 7, 8, 9, 10, 11, 12, 13, 14, 15, 16, 17, 18], [0, 1, 2, 3, 4, 5, 6, 7, 8, 9, 10, 11, 12, 13, 14, 15, 16, 17, 18, 19], [0, 1, 2, 3, 4, 5, 6, 7, 8, 9, 10, 11, 12, 13, 14, 15, 16, 17, 18, 19, 20], [0, 1, 2, 3, 4, 5, 6, 7, 8, 9, 10, 11, 12, 13, 14, 15, 16, 17, 18, 19, 20, 21], [0, 1, 2, 3, 4, 5, 6, 7, 8, 9, 10, 11, 12, 13, 14, 15, 16, 17, 18, 19, 20, 21, 22], [0, 1, 2, 3, 4, 5, 6, 7, 8, 9, 10, 11, 12, 13, 14], [0, 1, 2, 3, 4, 5, 6, 7, 8, 9, 10, 11, 12, 13, 14, 15, 16, 17, 18, 19, 20, 21, 22, 23, 24]] [0, 1, 2, 3, 5, 6, 7, 8, 4, 9, 10, 11, 12, 13, 14, 15, 16, 17, 18, 19, 20, 21, 22, 23, 24, 25] (by kernel_rfl) (by kernel_rfl) ?_
      refine EvI.pure (v := .pointer r1.1) rfl rfl (w_none rfl) rfl (f_move rfl rfl) ?_
      obtain ⟨q1, hq1, hF⟩ := hF
      refine EvI.pure (v := .pointer (some q1)) rfl rfl (w_none rfl) rfl (f_nilCheck rfl (congrArg Value.pointer hq1)) ?_
      refine EvI.pure (v := .pointer (some (q1.add 6))) rfl rfl (w_none rfl) rfl (f_fieldAddr fd75_2 rfl rfl) ?_
      obtain ⟨x1, hx1, hF⟩ := hF
      refine EvI.read (v := Sl.val x1) rfl rfl (w_none rfl) rfl (f_load kL ty29 rfl rfl hx1 rfl) ?_
      refine EvI.pure (v := .pointer r1.1) rfl rfl (w_none rfl) rfl (f_move rfl rfl) ?_
      obtain ⟨q2, hq2, hF⟩ := hF
      refine EvI.pure (v := .pointer (some q2)) rfl rfl (w_none rfl) rfl (f_nilCheck rfl (congrArg Value.pointer hq2)) ?_
      refine EvI.pure (v := .pointer (some (q2.add 8))) rfl rfl (w_none rfl) rfl (f_fieldAddr fd75_4 rfl rfl) ?_
      obtain ⟨x2, hx2, hF⟩ := hF
      refine EvI.read (v := .bool x2) rfl rfl (w_none rfl) rfl (f_load kB ty4 rfl rfl hx2 rfl) ?_
      refine EvI.call rfl rfl (w_none rfl) rfl (enterH Try.func31 rfl rfl rfl rfl (slices_Clone___byte_byte_.sound hF)) ?_
      rintro _ h3 ⟨r2, rfl, hF⟩
      obtain ⟨hy1, hF⟩ := hF
      refine ⟨⟨chk_yes rfl (f_load kB ty4 rfl rfl hy1 rfl), chk_no rfl, trivial⟩, ?_⟩
      refine EvI.pure (v := .bool x2) rfl rfl (w_none rfl) rfl (f_move rfl rfl) ?_
      rcases ite_inv hF with ⟨c2, hF⟩ | ⟨c2, hF⟩
      · refine EvI.not rfl (w_not rfl rfl c2) rfl ?_
        refine EvI.not rfl (w_not rfl rfl c2) rfl ?_
        refine EvI.not rfl (w_not rfl rfl c2) rfl ?_
        refine EvI.not rfl (w_not rfl rfl c2) rfl ?_
        refine EvI.not rfl (w_not rfl rfl c2) rfl ?_
        refine EvI.not rfl (w_undef rfl rfl) rfl ?_
        refine EvI.not rfl (w_undef rfl rfl) rfl ?_
        refine EvI.not rfl (w_undef rfl rfl) rfl ?_
        refine EvI.not rfl (w_undef rfl rfl) rfl ?_
        refine EvI.not rfl (w_undef rfl rfl) rfl ?_
        refine EvI.not rfl (w_undef rfl rfl) rfl ?_
        refine EvI.not rfl (w_undef rfl rfl) rfl ?_
        refine EvI.not rfl (w_not rfl rfl c2) rfl ?_
        refine EvI.pure (v := .bool true) rfl rfl (w_none rfl) rfl (f_pickT rfl rfl c2 rfl) ?_
        refine EvI.pure (v := Sl.val r2) rfl rfl (w_none rfl) rfl (f_assign rfl rfl) ?_
        refine EvI.pure (v := .bool true) rfl rfl (w_none rfl) rfl (f_assign rfl rfl) ?_
        refine EvI.nil ?_
        exact KE.mk (r2, true) ⟨rfl, rfl, trivial⟩ hF
      · refine EvI.pure (v := .pointer r1.1) rfl rfl (w_some rfl rfl c2) rfl (f_move rfl rfl) ?_
        obtain ⟨q3, hq3, hF⟩ := hF
        refine EvI.pure (v := .pointer (some q3)) rfl rfl (w_some rfl rfl c2) rfl (f_nilCheck rfl (congrArg Value.pointer hq3)) ?_
        refine EvI.pure (v := .pointer (some (q3.add 7))) rfl rfl (w_some rfl rfl c2) rfl (f_fieldAddr fd75_3 rfl rfl) ?_
        obtain ⟨x3, hx3, hF⟩ := hF
        refine EvI.read (v := .bool x3) rfl rfl (w_some rfl rfl c2) rfl (f_load kB ty4 rfl rfl hx3 rfl) ?_
        refine EvI.pure (v := .bool x3) rfl rfl (w_some rfl rfl c2) rfl (f_move rfl rfl) ?_
        rcases ite_inv hF with ⟨c3, hF⟩ | ⟨c3, hF⟩
        · refine EvI.pure (v := .pointer r1.1) rfl rfl (w_some rfl rfl c3) rfl (f_move rfl rfl) ?_
          obtain ⟨q4, hq4, hF⟩ := hF
          refine EvI.pure (v := .pointer (some q4)) rfl rfl (w_some rfl rfl c3) rfl (f_nilCheck rfl (congrArg Value.pointer hq4)) ?_
          refine EvI.pure (v := .pointer (some (q4.add 4))) rfl rfl (w_some rfl rfl c3) rfl (f_fieldAddr fd75_1 rfl rfl) ?_
          refine EvI.pure (v := .pointer (some ((q4.add 4).add 0))) rfl rfl (w_some rfl rfl c3) rfl (f_fieldAddr fd71_0 rfl rfl) ?_
          obtain ⟨x4, hx4, hF⟩ := hF
          refine EvI.read (v := Sl.val x4) rfl rfl (w_some rfl rfl c3) rfl (f_load kL ty29 rfl rfl hx4 rfl) ?_
          refine EvI.pure (v := .int .i64 (x4.len : Int)) rfl rfl (w_some rfl rfl c3) rfl (f_lenL (s := x4) Try.underlying29 rfl rfl) ?_
          refine EvI.pure (v := .bool ((x4.len : Int) == 0)) rfl rfl (w_some rfl rfl c3) rfl (f_eql rfl rfl rfl) ?_
          refine EvI.pure (v := .bool ((x4.len : Int) == 0)) rfl rfl (w_some rfl rfl c2) rfl (f_pickT rfl rfl c3 rfl) ?_
          refine EvI.pure (v := .bool ((x4.len : Int) == 0)) rfl rfl (w_none rfl) rfl (f_pickF rfl rfl c2 rfl) ?_
          refine EvI.pure (v := Sl.val r2) rfl rfl (w_none rfl) rfl (f_assign rfl rfl) ?_
          refine EvI.pure (v := .bool ((x4.len : Int) == 0)) rfl rfl (w_none rfl) rfl (f_assign rfl rfl) ?_
          refine EvI.nil ?_
          exact KE.mk (r2, ((x4.len : Int) == 0)) ⟨rfl, rfl, trivial⟩ hF
        · refine EvI.not rfl (w_not rfl rfl c3) rfl ?_
          refine EvI.not rfl (w_not rfl rfl c3) rfl ?_
          refine EvI.not rfl (w_not rfl rfl c3) rfl ?_
          refine EvI.not rfl (w_not rfl rfl c3) rfl ?_
          refine EvI.not rfl (w_not rfl rfl c3) rfl ?_
          refine EvI.not rfl (w_not rfl rfl c3) rfl ?_
          refine EvI.not rfl (w_not rfl rfl c3) rfl ?_
          refine EvI.pure (v := .bool false) rfl rfl (w_some rfl rfl c2) rfl (f_pickF rfl rfl c3 rfl) ?_
          refine EvI.pure (v := .bool false) rfl rfl (w_none rfl) rfl (f_pickF rfl rfl c2 rfl) ?_
          refine EvI.pure (v := Sl.val r2) rfl rfl (w_none rfl) rfl (f_assign rfl rfl) ?_
          refine EvI.pure (v := .bool false) rfl rfl (w_none rfl) rfl (f_assign rfl rfl) ?_
          refine EvI.nil ?_
          exact KE.mk (r2, false) ⟨rfl, rfl, trivial⟩ hF
end Go.Proofs.Ytbdopnhfbjdegaa

namespace Go.Proofs.Ytbdopnhfbjdegaa
open Go Go.Tr
set_option linter.unusedVariables false
set_option maxRecDepth 100000
set_option maxHeartbeats 400000
/-- (*sync/atomic.Int64).Load -/
def sync_atomic_Int64_Load (a0 : Option Addr) (h : H) (Q : Int → H → Prop) : Prop :=
  rd a0 fun q1 =>
  rd (ld (kI .i64) (q1.add 0) h) fun x1 =>
  Q x1 h
theorem sync_atomic_Int64_Load.sound {a0 : Option Addr} {h : H} {Q : Int → H → Prop} (hF : sync_atomic_Int64_Load a0 h Q) :
    CallsH Try.prog 32 (List.toArray (α := Value) [.pointer a0]) h fun v h' => ∃ x : Int, v = .int .i64 x ∧ Q x h' := by
  refine CallsH.of_body Try.func32 rfl 7 rfl rfl ?_
  refine WP.seq ?_
  refine WP.region ?_
  refine EvK.pure (v := .int .i64 0) (w_none rfl) rfl rfl (f_assign rfl rfl) ?_
  refine EvK.nil ?_
  refine WP.seq ?_
  refine WP.region ?_
  refine EvK.pure (v := .pointer a0) (w_none rfl) rfl rfl (f_move rfl rfl) ?_
  obtain ⟨q1, hq1, hF⟩ := hF
  refine EvK.pure (v := .pointer (some q1)) (w_none rfl) rfl rfl (f_nilCheck rfl (congrArg Value.pointer hq1)) ?_
  refine EvK.pure (v := .pointer (some (q1.add 0))) (w_none rfl) rfl rfl (f_fieldAddr fd65_2 rfl rfl) ?_
  obtain ⟨x1, hx1, hF⟩ := hF
  refine EvK.read (v := .int .i64 x1) (w_none rfl) rfl rfl (f_atomLoad Try.func48 rfl rfl (by kernel_rfl) (by kernel_rfl) rfl rfl hx1) ?_
  refine EvK.pure (v := .int .i64 x1) (w_none rfl) rfl rfl (f_assign rfl rfl) ?_
  refine EvK.nil ?_
  refine WP.ret ?_
  exact Ret.mk (vs := [.int .i64 x1]) x1 ⟨rfl, trivial⟩ rfl hF
end Go.Proofs.Ytbdopnhfbjdegaa

namespace Go.Proofs.Ytbdopnhfbjdegaa
open Go Go.Tr
set_option linter.unusedVariables false
set_option maxRecDepth 100000
set_option maxHeartbeats 400000
/-- (*spate/net.Net).Moved -/
def net_Net_Moved (a0 : Option Addr) (h : H) (Q : Int → H → Prop) : Prop :=
  rd a0 fun q1 =>
  sync_atomic_Int64_Load (some (q1.add 67)) h fun r1 h1 =>
  Q r1 h1
theorem net_Net_Moved.sound {a0 : Option Addr} {h : H} {Q : Int → H → Prop} (hF : net_Net_Moved a0 h Q) :
    CallsH Try.prog 16 (List.toArray (α := Value) [.pointer a0]) h fun v h' => ∃ x : Int, v = .int .i64 x ∧ Q x h' := by
  refine CallsH.of_body Try.func16 rfl 7 rfl rfl ?_
  refine WP.seq ?_
  refine WP.region ?_
  refine EvK.pure (v := .int .i64 0) (w_none rfl) rfl rfl (f_assign rfl rfl) ?_
  refine EvK.nil ?_
  refine WP.seq ?_
  refine WP.region ?_
  refine EvK.pure (v := .pointer a0) (w_none rfl) rfl rfl (f_move rfl rfl) ?_
  obtain ⟨q1, hq1, hF⟩ := hF
  refine EvK.pure (v := .pointer (some q1)) (w_none rfl) rfl rfl (f_nilCheck rfl (congrArg Value.pointer hq1)) ?_
  refine EvK.pure (v := .pointer (some (q1.add 67))) (w_none rfl) rfl rfl (f_fieldAddr fd67_3 rfl rfl) ?_
  refine EvK.call (w_none rfl) rfl rfl (enterH Try.func32 rfl rfl rfl rfl (sync_atomic_Int64_Load.sound hF)) ?_
  rintro _ h1 ⟨r1, rfl, hF⟩
  refine EvK.pure (v := .int .i64 r1) (w_none rfl) rfl rfl (f_assign rfl rfl) ?_
  refine EvK.nil ?_
  refine WP.ret ?_
  exact Ret.mk (vs := [.int .i64 r1]) r1 ⟨rfl, trivial⟩ rfl hF
end Go.Proofs.Ytbdopnhfbjdegaa
