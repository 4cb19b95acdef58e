/- (*spate/flow.Flow).Pass, as a predicate over the heap, and that the code comes to it. Printed by gen.py. -/
import Derived.Test.YtanpaamamfabkaaTy
import Derived.Test.YtanpaamamfabkaaF22
import Derived.Test.YtanpaamamfabkaaF34
import Derived.Test.YtanpaamamfabkaaF35
namespace Go.Proofs.Ytanpaamamfabkaa
open Go Go.Tr
set_option linter.unusedVariables false
set_option maxRecDepth 100000
set_option maxHeartbeats 400000
/-- (*spate/flow.Flow).Pass -/
def flow_Flow_Pass (a0 : Option Addr) (a1 : Int) (h : H) (Q : (Int × Int) → H → Prop) : Prop :=
  jn (fun (k1 : (Int × (Option Addr)) → H → Prop) =>
    flow_Flow_Toward a0 a1 h fun r2 h3 =>
    if (r2.2 != 0) = true then
      Q (0, r2.2) h3
    else
      rd a0 fun q1 =>
      rd (ld kL (q1.add 1) h3) fun x1 =>
      rd (ixA 3 x1 r2.1) fun q2 =>
      rd a0 fun q3 =>
      rd (ld kL (q3.add 0) h3) fun x2 =>
      rd (ixA 2 x2 a1) fun q4 =>
      rd (ld (kI .i64) (q2.add 2) h3) fun x3 =>
      rd (ld kL (q2.add 0) h3) fun x4 =>
      if (x3 == (x4.len : Int)) = true then
        Q (0, 45) h3
      else
        rd (ld kL (q4.add 0) h3) fun x5 =>
        rd (ixA 4 x5 0) fun q5 =>
        rd (ld k32 q5 h3) fun x6 =>
        flow_box_put (some q2) (S82.mk a1 x6) h3 fun r3 h4 =>
        rd (ld kL (q4.add 0) h4) fun x7 =>
        rd (ixA 4 x7 0) fun q6 =>
        rd (ld kB (q6.add 0) h4) fun x8 =>
        if (!x8) = true then
          k1 (r2.1, (some q4)) h4
        else
          rd (ld (kI .i64) (q4.add 1) h4) fun x9 =>
          rd (st (kI .i64) (q4.add 1) (IntKind.i64.wrap (x9 + 1)) h4) fun h5 =>
          rd (ld (kI .i64) (q4.add 1) h5) fun x10 =>
          rd a0 fun q7 =>
          rd (ld kL (q7.add 1) h5) fun x11 =>
          if (decide (x10 < (x11.len : Int))) = true then
            Q (r2.1, 0) h5
          else
            flow_queue_shift (some q4) h5 fun r4 h6 =>
            Q (r2.1, 0) h6) fun s1 h1 =>
  flow_queue_shift s1.2 h1 fun r1 h2 =>
  Q (s1.1, 0) h2
theorem flow_Flow_Pass.sound {a0 : Option Addr} {a1 : Int} {h : H} {Q : (Int × Int) → H → Prop} (hF : flow_Flow_Pass a0 a1 h Q) :
    CallsH Try.prog 17 (List.toArray (α := Value) [.pointer a0, .int .i64 a1]) h fun v h' => ∃ x : Int × Int, v = .tuple #[.int .i64 x.1, .int .i64 x.2] ∧ Q x h' := by
  refine CallsH.of_body Try.func17 rfl 80 rfl rfl ?_
  refine WP.seq ?_
  refine WP.region ?_
  refine EvK.pure (v := .int .i64 0) (w_none rfl) rfl rfl (f_assign rfl rfl) ?_
  refine EvK.pure (v := .int .i64 0) (w_none rfl) rfl rfl (f_assign rfl rfl) ?_
  refine EvK.nil ?_
  refine WP.scopeF 0 rfl (fun (s1 : Int × (Option Addr)) => [(6, .int .i64 s1.1), (9, .pointer s1.2)]) hF ?_ ?_
  · intro s1 E0 h1 hF
    refine WP.seq ?_
    refine WP.skip ?_
    refine WP.seq ?_
    refine WP.region ?_
    refine EvK.pure (v := .pointer s1.2) (w_none rfl) rfl rfl (f_move rfl rfl) ?_
    refine EvK.call (w_none rfl) rfl rfl (enterH Try.func35 rfl rfl rfl rfl (flow_queue_shift.sound hF)) ?_
    rintro _ h2 ⟨r1, rfl, hF⟩
    refine EvK.nil ?_
    refine WP.seq ?_
    refine WP.region ?_
    refine EvK.pure (v := .int .i64 s1.1) (w_none rfl) rfl rfl (f_move rfl rfl) ?_
    refine EvK.pure (v := .int .i64 s1.1) (w_none rfl) rfl rfl (f_assign rfl rfl) ?_
    refine EvK.pure (v := .int .i64 0) (w_none rfl) rfl rfl (f_assign rfl rfl) ?_
    refine EvK.nil ?_
    refine WP.ret ?_
    exact Ret.mk (vs := [.int .i64 s1.1, .int .i64 0]) (s1.1, 0) ⟨rfl, rfl, trivial⟩ rfl hF
  · intro k1 hF
    refine WP.seq ?_
    refine WP.region ?_
    refine EvK.pure (v := .pointer a0) (w_none rfl) rfl rfl (f_move rfl rfl) ?_
    refine EvK.pure (v := .int .i64 a1) (w_none rfl) rfl rfl (f_move rfl rfl) ?_
    refine EvK.call (w_none rfl) rfl rfl (enterH Try.func22 rfl rfl rfl rfl (flow_Flow_Toward.sound hF)) ?_
    rintro _ h3 ⟨r2, rfl, hF⟩
    refine EvK.pure (v := .tuple #[.int .i64 r2.1, .int .i64 r2.2]) (w_none rfl) rfl rfl (f_move rfl rfl) ?_
    refine EvK.pure (v := .int .i64 r2.1) (w_none rfl) rfl rfl (f_extract (vs := #[.int .i64 r2.1, .int .i64 r2.2]) rfl rfl rfl) ?_
    refine EvK.pure (v := .int .i64 r2.2) (w_none rfl) rfl rfl (f_extract (vs := #[.int .i64 r2.1, .int .i64 r2.2]) rfl rfl rfl) ?_
    refine EvK.pure (v := .int .i64 r2.1) (w_none rfl) rfl rfl (f_assign rfl rfl) ?_
    refine EvK.pure (v := .int .i64 r2.2) (w_none rfl) rfl rfl (f_assign rfl rfl) ?_
    refine EvK.nil ?_
    refine WP.seq ?_
    refine WP.seq ?_
    refine WP.region ?_
    refine EvK.pure (v := .int .i64 r2.2) (w_none rfl) rfl rfl (f_move rfl rfl) ?_
    refine EvK.pure (v := .bool (r2.2 != 0)) (w_none rfl) rfl rfl (f_neq rfl rfl rfl) ?_
    refine EvK.nil ?_
    rcases ite_inv hF with ⟨c1, hF⟩ | ⟨c1, hF⟩
    · refine WP.cond_true _ rfl c1 ?_
      refine WP.seq ?_
      refine WP.region ?_
      refine EvK.pure (v := .int .i64 r2.2) (w_none rfl) rfl rfl (f_move rfl rfl) ?_
      refine EvK.pure (v := .int .i64 0) (w_none rfl) rfl rfl (f_assign rfl rfl) ?_
      refine EvK.pure (v := .int .i64 r2.2) (w_none rfl) rfl rfl (f_assign rfl rfl) ?_
      refine EvK.nil ?_
      refine WP.ret ?_
      exact Ret.mk (vs := [.int .i64 0, .int .i64 r2.2]) (0, r2.2) ⟨rfl, rfl, trivial⟩ rfl hF
    · refine WP.cond_false _ rfl c1 ?_
      refine WP.skip ?_
      refine WP.seq ?_
      refine WP.draw mixed [.pure, .pure, .pure, .read, .pure, .pure, .pure, .pure, .pure, .read, .pure, .pure, .pure, .pure] [[], [0], [0, 1], [0, 1, 2], [], [0, 1, 2, 3, 4], [], [6], [6, 7], [6, 7, 8], [], [6, 7, 8, 9, 10], [0, 1, 2, 3, 4, 5], [0, 1, 2, 3, 4, 5, 6, 7, 8, 9, 10, 11, 12]] [0, 1, 2, 3, 4, 5, 6, 7, 8, 9, 10, 11, 12, 13] (by kernel_rfl) (by kernel_rfl) ?_
      refine EvI.pure (v := .pointer a0) rfl rfl (w_none rfl) rfl (f_move rfl rfl) ?_
      obtain ⟨q1, hq1, hF⟩ := hF
      refine EvI.pure (v := .pointer (some q1)) rfl rfl (w_none rfl) rfl (f_nilCheck rfl (congrArg Value.pointer hq1)) ?_
      refine EvI.pure (v := .pointer (some (q1.add 1))) rfl rfl (w_none rfl) rfl (f_fieldAddr fd59_1 rfl rfl) ?_
      obtain ⟨x1, hx1, hF⟩ := hF
      refine EvI.read (v := Sl.val x1) rfl rfl (w_none rfl) rfl (f_load kL ty57 rfl rfl hx1 rfl) ?_
      refine EvI.pure (v := .int .i64 r2.1) rfl rfl (w_none rfl) rfl (f_move rfl rfl) ?_
      obtain ⟨q2, hq2, hF⟩ := hF
      refine EvI.pure (v := .pointer (some q2)) rfl rfl (w_none rfl) rfl (f_indexAddr (s := x1) Try.underlying57 ty62.size rfl rfl rfl hq2) ?_
      refine EvI.pure (v := .pointer a0) rfl rfl (w_none rfl) rfl (f_move rfl rfl) ?_
      obtain ⟨q3, hq3, hF⟩ := hF
      refine EvI.pure (v := .pointer (some q3)) rfl rfl (w_none rfl) rfl (f_nilCheck rfl (congrArg Value.pointer hq3)) ?_
      refine EvI.pure (v := .pointer (some (q3.add 0))) rfl rfl (w_none rfl) rfl (f_fieldAddr fd59_0 rfl rfl) ?_
      obtain ⟨x2, hx2, hF⟩ := hF
      refine EvI.read (v := Sl.val x2) rfl rfl (w_none rfl) rfl (f_load kL ty56 rfl rfl hx2 rfl) ?_
      refine EvI.pure (v := .int .i64 a1) rfl rfl (w_none rfl) rfl (f_move rfl rfl) ?_
      obtain ⟨q4, hq4, hF⟩ := hF
      refine EvI.pure (v := .pointer (some q4)) rfl rfl (w_none rfl) rfl (f_indexAddr (s := x2) Try.underlying56 ty79.size rfl rfl rfl hq4) ?_
      refine EvI.pure (v := .pointer (some q2)) rfl rfl (w_none rfl) rfl (f_assign rfl rfl) ?_
      refine EvI.pure (v := .pointer (some q4)) rfl rfl (w_none rfl) rfl (f_assign rfl rfl) ?_
      refine EvI.nil ?_
      refine WP.seq ?_
      refine WP.seq ?_
      refine WP.draw mixed [.pure, .pure, .pure, .read, .pure, .pure, .pure, .read, .pure, .pure] [[], [0], [0, 1], [0, 1, 2], [], [4], [4, 5], [4, 5, 6], [4, 5, 6, 7], [0, 1, 2, 3, 4, 5, 6, 7, 8]] [0, 1, 2, 3, 4, 5, 6, 7, 8, 9] (by kernel_rfl) (by kernel_rfl) ?_
      refine EvI.pure (v := .pointer (some q2)) rfl rfl (w_none rfl) rfl (f_move rfl rfl) ?_
      refine EvI.pure (v := .pointer (some q2)) rfl rfl (w_none rfl) rfl (f_nilCheck rfl rfl) ?_
      refine EvI.pure (v := .pointer (some (q2.add 2))) rfl rfl (w_none rfl) rfl (f_fieldAddr fd62_2 rfl rfl) ?_
      obtain ⟨x3, hx3, hF⟩ := hF
      refine EvI.read (v := .int .i64 x3) rfl rfl (w_none rfl) rfl (f_load (kI .i64) ty3 rfl rfl hx3 rfl) ?_
      refine EvI.pure (v := .pointer (some q2)) rfl rfl (w_none rfl) rfl (f_move rfl rfl) ?_
      refine EvI.pure (v := .pointer (some q2)) rfl rfl (w_none rfl) rfl (f_nilCheck rfl rfl) ?_
      refine EvI.pure (v := .pointer (some (q2.add 0))) rfl rfl (w_none rfl) rfl (f_fieldAddr fd62_0 rfl rfl) ?_
      obtain ⟨x4, hx4, hF⟩ := hF
      refine EvI.read (v := Sl.val x4) rfl rfl (w_none rfl) rfl (f_load kL ty60 rfl rfl hx4 rfl) ?_
      refine EvI.pure (v := .int .i64 (x4.len : Int)) rfl rfl (w_none rfl) rfl (f_lenL (s := x4) Try.underlying60 rfl rfl) ?_
      refine EvI.pure (v := .bool (x3 == (x4.len : Int))) rfl rfl (w_none rfl) rfl (f_eql rfl rfl rfl) ?_
      refine EvI.nil ?_
      rcases ite_inv hF with ⟨c2, hF⟩ | ⟨c2, hF⟩
      · refine WP.cond_true _ rfl c2 ?_
        refine WP.seq ?_
        refine WP.region ?_
        refine EvK.pure (v := .int .i64 0) (w_none rfl) rfl rfl (f_assign rfl rfl) ?_
        refine EvK.pure (v := .int .i64 45) (w_none rfl) rfl rfl (f_assign rfl rfl) ?_
        refine EvK.nil ?_
        refine WP.ret ?_
        exact Ret.mk (vs := [.int .i64 0, .int .i64 45]) (0, 45) ⟨rfl, rfl, trivial⟩ rfl hF
      · refine WP.cond_false _ rfl c2 ?_
        refine WP.skip ?_
        refine WP.seq ?_
        refine WP.region ?_
        refine EvK.pure (v := .pointer (some q2)) (w_none rfl) rfl rfl (f_move rfl rfl) ?_
        refine EvK.pure (v := .int .i64 a1) (w_none rfl) rfl rfl (f_move rfl rfl) ?_
        refine EvK.pure (v := .pointer (some q4)) (w_none rfl) rfl rfl (f_move rfl rfl) ?_
        refine EvK.pure (v := .pointer (some q4)) (w_none rfl) rfl rfl (f_nilCheck rfl rfl) ?_
        refine EvK.pure (v := .pointer (some (q4.add 0))) (w_none rfl) rfl rfl (f_fieldAddr fd79_0 rfl rfl) ?_
        obtain ⟨x5, hx5, hF⟩ := hF
        refine EvK.read (v := Sl.val x5) (w_none rfl) rfl rfl (f_load kL ty45 rfl rfl hx5 rfl) ?_
        obtain ⟨q5, hq5, hF⟩ := hF
        refine EvK.pure (v := .pointer (some q5)) (w_none rfl) rfl rfl (f_indexAddr (s := x5) Try.underlying45 ty33.size rfl rfl rfl hq5) ?_
        obtain ⟨x6, hx6, hF⟩ := hF
        refine EvK.read (v := k32.val x6) (w_none rfl) rfl rfl (f_load k32 ty33 rfl rfl hx6 rfl) ?_
        refine EvK.pure (v := k82.val (S82.mk a1 x6)) (w_none rfl) rfl rfl (f_build (cells := k82.enc (S82.mk a1 x6)) st83 rfl rfl rfl) ?_
        refine EvK.call (w_none rfl) rfl rfl (enterH Try.func34 rfl rfl rfl rfl (flow_box_put.sound hF)) ?_
        rintro _ h4 ⟨r3, rfl, hF⟩
        refine EvK.nil ?_
        refine WP.seq ?_
        refine WP.seq ?_
        refine WP.region ?_
        refine EvK.pure (v := .pointer (some q4)) (w_none rfl) rfl rfl (f_move rfl rfl) ?_
        refine EvK.pure (v := .pointer (some q4)) (w_none rfl) rfl rfl (f_nilCheck rfl rfl) ?_
        refine EvK.pure (v := .pointer (some (q4.add 0))) (w_none rfl) rfl rfl (f_fieldAddr fd79_0 rfl rfl) ?_
        obtain ⟨x7, hx7, hF⟩ := hF
        refine EvK.read (v := Sl.val x7) (w_none rfl) rfl rfl (f_load kL ty45 rfl rfl hx7 rfl) ?_
        obtain ⟨q6, hq6, hF⟩ := hF
        refine EvK.pure (v := .pointer (some q6)) (w_none rfl) rfl rfl (f_indexAddr (s := x7) Try.underlying45 ty33.size rfl rfl rfl hq6) ?_
        refine EvK.pure (v := .pointer (some (q6.add 0))) (w_none rfl) rfl rfl (f_fieldAddr fd33_0 rfl rfl) ?_
        obtain ⟨x8, hx8, hF⟩ := hF
        refine EvK.read (v := .bool x8) (w_none rfl) rfl rfl (f_load kB ty4 rfl rfl hx8 rfl) ?_
        refine EvK.pure (v := .bool (!x8)) (w_none rfl) rfl rfl (f_not rfl rfl) ?_
        refine EvK.nil ?_
        rcases ite_inv hF with ⟨c3, hF⟩ | ⟨c3, hF⟩
        · refine WP.cond_true _ rfl c3 ?_
          refine WP.goto ?_
          exact KE.mk (r2.1, (some q4)) ⟨rfl, rfl, trivial⟩ hF
        · refine WP.cond_false _ rfl c3 ?_
          refine WP.skip ?_
          refine WP.seq ?_
          refine WP.region ?_
          refine EvK.pure (v := .pointer (some q4)) (w_none rfl) rfl rfl (f_move rfl rfl) ?_
          refine EvK.pure (v := .pointer (some q4)) (w_none rfl) rfl rfl (f_nilCheck rfl rfl) ?_
          refine EvK.pure (v := .pointer (some (q4.add 1))) (w_none rfl) rfl rfl (f_fieldAddr fd79_1 rfl rfl) ?_
          obtain ⟨x9, hx9, hF⟩ := hF
          refine EvK.read (v := .int .i64 x9) (w_none rfl) rfl rfl (f_load (kI .i64) ty3 rfl rfl hx9 rfl) ?_
          refine EvK.pure (v := .int .i64 (IntKind.i64.wrap (x9 + 1))) (w_none rfl) rfl rfl (f_add rfl rfl rfl) ?_
          refine EvK.pure (v := .pointer (some q4)) (w_none rfl) rfl rfl (f_nilCheck rfl rfl) ?_
          refine EvK.pure (v := .pointer (some (q4.add 1))) (w_none rfl) rfl rfl (f_fieldAddr fd79_1 rfl rfl) ?_
          obtain ⟨h5, hs1, hF⟩ := hF
          refine EvK.runN (w_none rfl) rfl (f_store (kI .i64) ty3.size (z := IntKind.i64.wrap (x9 + 1)) rfl rfl rfl hs1) ?_
          rintro _ _ ⟨rfl, rfl⟩
          refine EvK.nil ?_
          refine WP.seq ?_
          refine WP.seq ?_
          refine WP.draw mixed [.pure, .pure, .pure, .read, .pure, .pure, .pure, .read, .pure, .pure] [[], [0], [0, 1], [0, 1, 2], [], [4], [4, 5], [4, 5, 6], [4, 5, 6, 7], [0, 1, 2, 3, 4, 5, 6, 7, 8]] [0, 1, 2, 3, 4, 5, 6, 7, 8, 9] (by kernel_rfl) (by kernel_rfl) ?_
          refine EvI.pure (v := .pointer (some q4)) rfl rfl (w_none rfl) rfl (f_move rfl rfl) ?_
          refine EvI.pure (v := .pointer (some q4)) rfl rfl (w_none rfl) rfl (f_nilCheck rfl rfl) ?_
          refine EvI.pure (v := .pointer (some (q4.add 1))) rfl rfl (w_none rfl) rfl (f_fieldAddr fd79_1 rfl rfl) ?_
          obtain ⟨x10, hx10, hF⟩ := hF
          refine EvI.read (v := .int .i64 x10) rfl rfl (w_none rfl) rfl (f_load (kI .i64) ty3 rfl rfl hx10 rfl) ?_
          refine EvI.pure (v := .pointer a0) rfl rfl (w_none rfl) rfl (f_move rfl rfl) ?_
          obtain ⟨q7, hq7, hF⟩ := hF
          refine EvI.pure (v := .pointer (some q7)) rfl rfl (w_none rfl) rfl (f_nilCheck rfl (congrArg Value.pointer hq7)) ?_
          refine EvI.pure (v := .pointer (some (q7.add 1))) rfl rfl (w_none rfl) rfl (f_fieldAddr fd59_1 rfl rfl) ?_
          obtain ⟨x11, hx11, hF⟩ := hF
          refine EvI.read (v := Sl.val x11) rfl rfl (w_none rfl) rfl (f_load kL ty57 rfl rfl hx11 rfl) ?_
          refine EvI.pure (v := .int .i64 (x11.len : Int)) rfl rfl (w_none rfl) rfl (f_lenL (s := x11) Try.underlying57 rfl rfl) ?_
          refine EvI.pure (v := .bool (decide (x10 < (x11.len : Int)))) rfl rfl (w_none rfl) rfl (f_lss rfl rfl rfl) ?_
          refine EvI.nil ?_
          rcases ite_inv hF with ⟨c4, hF⟩ | ⟨c4, hF⟩
          · refine WP.cond_true _ rfl c4 ?_
            refine WP.seq ?_
            refine WP.region ?_
            refine EvK.pure (v := .int .i64 r2.1) (w_none rfl) rfl rfl (f_move rfl rfl) ?_
            refine EvK.pure (v := .int .i64 r2.1) (w_none rfl) rfl rfl (f_assign rfl rfl) ?_
            refine EvK.pure (v := .int .i64 0) (w_none rfl) rfl rfl (f_assign rfl rfl) ?_
            refine EvK.nil ?_
            refine WP.ret ?_
            exact Ret.mk (vs := [.int .i64 r2.1, .int .i64 0]) (r2.1, 0) ⟨rfl, rfl, trivial⟩ rfl hF
          · refine WP.cond_false _ rfl c4 ?_
            refine WP.skip ?_
            refine WP.seq ?_
            refine WP.label ?_
            refine WP.seq ?_
            refine WP.region ?_
            refine EvK.pure (v := .pointer (some q4)) (w_none rfl) rfl rfl (f_move rfl rfl) ?_
            refine EvK.call (w_none rfl) rfl rfl (enterH Try.func35 rfl rfl rfl rfl (flow_queue_shift.sound hF)) ?_
            rintro _ h6 ⟨r4, rfl, hF⟩
            refine EvK.nil ?_
            refine WP.seq ?_
            refine WP.region ?_
            refine EvK.pure (v := .int .i64 r2.1) (w_none rfl) rfl rfl (f_move rfl rfl) ?_
            refine EvK.pure (v := .int .i64 r2.1) (w_none rfl) rfl rfl (f_assign rfl rfl) ?_
            refine EvK.pure (v := .int .i64 0) (w_none rfl) rfl rfl (f_assign rfl rfl) ?_
            refine EvK.nil ?_
            refine WP.ret ?_
            exact Ret.mk (vs := [.int .i64 r2.1, .int .i64 0]) (r2.1, 0) ⟨rfl, rfl, trivial⟩ rfl hF
end Go.Proofs.Ytanpaamamfabkaa
