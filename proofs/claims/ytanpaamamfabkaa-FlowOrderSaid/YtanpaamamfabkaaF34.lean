/- (*spate/flow.box).put, as a predicate over the heap, and that the code comes to it. Printed by gen.py. -/
import Derived.Test.YtanpaamamfabkaaTy
namespace Go.Proofs.Ytanpaamamfabkaa
open Go Go.Tr
set_option linter.unusedVariables false
set_option maxRecDepth 100000
set_option maxHeartbeats 400000
/-- (*spate/flow.box).put -/
def flow_box_put (a0 : Option Addr) (a1 : S82) (h : H) (Q : Unit → H → Prop) : Prop :=
  al 83 (k82.enc a1) h fun q1 h1 =>
  rd a0 fun q2 =>
  rd (ld kL (q2.add 0) h1) fun x1 =>
  rd a0 fun q3 =>
  rd (ld (kI .i64) (q3.add 1) h1) fun x2 =>
  rd a0 fun q4 =>
  rd (ld (kI .i64) (q4.add 2) h1) fun x3 =>
  rd a0 fun q5 =>
  rd (ld kL (q5.add 0) h1) fun x4 =>
  rd (remI (IntKind.i64.wrap (x2 + x3)) (x4.len : Int)) fun x5 =>
  rd (ld k82 q1 h1) fun x6 =>
  rd (ixA 5 x1 x5) fun q6 =>
  rd (st k82 q6 x6 h1) fun h2 =>
  rd a0 fun q7 =>
  rd (ld (kI .i64) (q7.add 2) h2) fun x7 =>
  rd a0 fun q8 =>
  rd (st (kI .i64) (q8.add 2) (IntKind.i64.wrap (x7 + 1)) h2) fun h3 =>
  Q () h3
theorem flow_box_put.sound {a0 : Option Addr} {a1 : S82} {h : H} {Q : Unit → H → Prop} (hF : flow_box_put a0 a1 h Q) :
    CallsH Try.prog 34 (List.toArray (α := Value) [.pointer a0, k82.val a1]) h fun v h' => ∃ x : Unit, v = .tuple #[] ∧ Q x h' := by
  refine CallsH.of_body Try.func34 rfl 32 rfl rfl ?_
  refine WP.seq ?_
  refine WP.region ?_
  refine EvK.alloc (w_none rfl) rfl rfl (f_boxF (v := k82.val a1) rfl rfl rfl hF) ?_
  rintro _ h1 ⟨q1, rfl, hF⟩
  refine EvK.nil ?_
  refine WP.seq ?_
  refine WP.draw mixed [.pure, .pure, .pure, .read, .pure, .pure, .pure, .read, .pure, .pure, .pure, .read, .pure, .pure, .pure, .pure, .read, .pure, .pure, .read, .pure, .eff []] [[], [0], [0, 1], [0, 1, 2], [], [4], [4, 5], [4, 5, 6], [], [8], [8, 9], [8, 9, 10], [4, 5, 6, 7, 8, 9, 10, 11], [], [13], [13, 14], [13, 14, 15], [13, 14, 15, 16], [4, 5, 6, 7, 8, 9, 10, 11, 12, 13, 14, 15, 16, 17], [], [0, 1, 2, 3, 4, 5, 6, 7, 8, 9, 10, 11, 12, 13, 14, 15, 16, 17, 18, 19], [0, 1, 2, 3, 4, 5, 6, 7, 8, 9, 10, 11, 12, 13, 14, 15, 16, 17, 18, 19, 20]] [0, 1, 2, 3, 4, 5, 6, 7, 8, 9, 10, 11, 12, 13, 14, 15, 16, 17, 18, 19, 20, 21] (by kernel_rfl) (by kernel_rfl) ?_
  refine EvI.pure (v := .pointer a0) rfl rfl (w_none rfl) rfl (f_move rfl rfl) ?_
  obtain ⟨q2, hq1, hF⟩ := hF
  refine EvI.pure (v := .pointer (some q2)) rfl rfl (w_none rfl) rfl (f_nilCheck rfl (congrArg Value.pointer hq1)) ?_
  refine EvI.pure (v := .pointer (some (q2.add 0))) rfl rfl (w_none rfl) rfl (f_fieldAddr fd62_0 rfl rfl) ?_
  obtain ⟨x1, hx1, hF⟩ := hF
  refine EvI.read (v := Sl.val x1) rfl rfl (w_none rfl) rfl (f_load kL ty60 rfl rfl hx1 rfl) ?_
  refine EvI.pure (v := .pointer a0) rfl rfl (w_none rfl) rfl (f_move rfl rfl) ?_
  obtain ⟨q3, hq2, hF⟩ := hF
  refine EvI.pure (v := .pointer (some q3)) rfl rfl (w_none rfl) rfl (f_nilCheck rfl (congrArg Value.pointer hq2)) ?_
  refine EvI.pure (v := .pointer (some (q3.add 1))) rfl rfl (w_none rfl) rfl (f_fieldAddr fd62_1 rfl rfl) ?_
  obtain ⟨x2, hx2, hF⟩ := hF
  refine EvI.read (v := .int .i64 x2) rfl rfl (w_none rfl) rfl (f_load (kI .i64) ty3 rfl rfl hx2 rfl) ?_
  refine EvI.pure (v := .pointer a0) rfl rfl (w_none rfl) rfl (f_move rfl rfl) ?_
  obtain ⟨q4, hq3, hF⟩ := hF
  refine EvI.pure (v := .pointer (some q4)) rfl rfl (w_none rfl) rfl (f_nilCheck rfl (congrArg Value.pointer hq3)) ?_
  refine EvI.pure (v := .pointer (some (q4.add 2))) rfl rfl (w_none rfl) rfl (f_fieldAddr fd62_2 rfl rfl) ?_
  obtain ⟨x3, hx3, hF⟩ := hF
  refine EvI.read (v := .int .i64 x3) rfl rfl (w_none rfl) rfl (f_load (kI .i64) ty3 rfl rfl hx3 rfl) ?_
  refine EvI.pure (v := .int .i64 (IntKind.i64.wrap (x2 + x3))) rfl rfl (w_none rfl) rfl (f_add rfl rfl rfl) ?_
  refine EvI.pure (v := .pointer a0) rfl rfl (w_none rfl) rfl (f_move rfl rfl) ?_
  obtain ⟨q5, hq4, hF⟩ := hF
  refine EvI.pure (v := .pointer (some q5)) rfl rfl (w_none rfl) rfl (f_nilCheck rfl (congrArg Value.pointer hq4)) ?_
  refine EvI.pure (v := .pointer (some (q5.add 0))) rfl rfl (w_none rfl) rfl (f_fieldAddr fd62_0 rfl rfl) ?_
  obtain ⟨x4, hx4, hF⟩ := hF
  refine EvI.read (v := Sl.val x4) rfl rfl (w_none rfl) rfl (f_load kL ty60 rfl rfl hx4 rfl) ?_
  refine EvI.pure (v := .int .i64 (x4.len : Int)) rfl rfl (w_none rfl) rfl (f_lenL (s := x4) Try.underlying60 rfl rfl) ?_
  obtain ⟨x5, hx5, hF⟩ := hF
  refine EvI.pure (v := .int .i64 x5) rfl rfl (w_none rfl) rfl (f_rem rfl rfl rfl hx5) ?_
  obtain ⟨x6, hx6, hF⟩ := hF
  refine EvI.read (v := k82.val x6) rfl rfl (w_none rfl) rfl (f_load k82 ty83 rfl rfl hx6 rfl) ?_
  obtain ⟨q6, hq5, hF⟩ := hF
  refine EvI.pure (v := .pointer (some q6)) rfl rfl (w_none rfl) rfl (f_indexAddr (s := x1) Try.underlying60 ty83.size rfl rfl rfl hq5) ?_
  obtain ⟨h2, hs1, hF⟩ := hF
  refine EvI.runN rfl rfl (w_none rfl) rfl (f_store k82 ty83.size (z := x6) rfl rfl rfl hs1) ?_
  rintro _ _ ⟨rfl, rfl⟩
  refine ⟨⟨chk_no rfl, chk_no rfl, chk_no rfl, chk_no rfl, chk_no rfl, trivial⟩, ?_⟩
  refine EvI.nil ?_
  refine WP.region ?_
  refine EvK.pure (v := .pointer a0) (w_none rfl) rfl rfl (f_move rfl rfl) ?_
  obtain ⟨q7, hq6, hF⟩ := hF
  refine EvK.pure (v := .pointer (some q7)) (w_none rfl) rfl rfl (f_nilCheck rfl (congrArg Value.pointer hq6)) ?_
  refine EvK.pure (v := .pointer (some (q7.add 2))) (w_none rfl) rfl rfl (f_fieldAddr fd62_2 rfl rfl) ?_
  obtain ⟨x7, hx7, hF⟩ := hF
  refine EvK.read (v := .int .i64 x7) (w_none rfl) rfl rfl (f_load (kI .i64) ty3 rfl rfl hx7 rfl) ?_
  refine EvK.pure (v := .int .i64 (IntKind.i64.wrap (x7 + 1))) (w_none rfl) rfl rfl (f_add rfl rfl rfl) ?_
  obtain ⟨q8, hq7, hF⟩ := hF
  refine EvK.pure (v := .pointer (some q8)) (w_none rfl) rfl rfl (f_nilCheck rfl (congrArg Value.pointer hq7)) ?_
  refine EvK.pure (v := .pointer (some (q8.add 2))) (w_none rfl) rfl rfl (f_fieldAddr fd62_2 rfl rfl) ?_
  obtain ⟨h3, hs2, hF⟩ := hF
  refine EvK.runN (w_none rfl) rfl (f_store (kI .i64) ty3.size (z := IntKind.i64.wrap (x7 + 1)) rfl rfl rfl hs2) ?_
  rintro _ _ ⟨rfl, rfl⟩
  refine EvK.nil ?_
  exact Ret.mk (vs := []) () trivial rfl hF
end Go.Proofs.Ytanpaamamfabkaa
