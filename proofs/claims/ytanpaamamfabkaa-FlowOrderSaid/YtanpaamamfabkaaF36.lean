/- (*spate/flow.box).take, as a predicate over the heap, and that the code comes to it. Printed by gen.py. -/
import Derived.Test.YtanpaamamfabkaaTy
namespace Go.Proofs.Ytanpaamamfabkaa
open Go Go.Tr
set_option linter.unusedVariables false
set_option maxRecDepth 100000
set_option maxHeartbeats 400000
/-- (*spate/flow.box).take -/
def flow_box_take (a0 : Option Addr) (h : H) (Q : S82 → H → Prop) : Prop :=
  al 83 (k82.enc z82) h fun q1 h1 =>
  rd a0 fun q2 =>
  rd (ld kL (q2.add 0) h1) fun x1 =>
  rd a0 fun q3 =>
  rd (ld (kI .i64) (q3.add 1) h1) fun x2 =>
  rd (ixA 5 x1 x2) fun q4 =>
  rd (ld k82 q4 h1) fun x3 =>
  al 83 (k82.enc z82) h1 fun q5 h2 =>
  rd (st k82 q5 x3 h2) fun h3 =>
  rd a0 fun q6 =>
  rd (ld kL (q6.add 0) h3) fun x4 =>
  rd a0 fun q7 =>
  rd (ld (kI .i64) (q7.add 1) h3) fun x5 =>
  rd (ixA 5 x4 x5) fun q8 =>
  rd (st k82 q8 (S82.mk 0 z32) h3) fun h4 =>
  rd a0 fun q9 =>
  rd (ld (kI .i64) (q9.add 1) h4) fun x6 =>
  rd a0 fun q10 =>
  rd (ld kL (q10.add 0) h4) fun x7 =>
  rd (remI (IntKind.i64.wrap (x6 + 1)) (x7.len : Int)) fun x8 =>
  rd a0 fun q11 =>
  rd (st (kI .i64) (q11.add 1) x8 h4) fun h5 =>
  rd a0 fun q12 =>
  rd (ld (kI .i64) (q12.add 2) h5) fun x9 =>
  rd a0 fun q13 =>
  rd (st (kI .i64) (q13.add 2) (IntKind.i64.wrap (x9 - 1)) h5) fun h6 =>
  rd (ld k82 q5 h6) fun x10 =>
  rd (st k82 q1 x10 h6) fun h7 =>
  rd (ld k82 q1 h7) fun x11 =>
  Q x11 h7
theorem flow_box_take.sound {a0 : Option Addr} {h : H} {Q : S82 → H → Prop} (hF : flow_box_take a0 h Q) :
    CallsH Try.prog 36 (List.toArray (α := Value) [.pointer a0]) h fun v h' => ∃ x : S82, v = k82.val x ∧ Q x h' := by
  refine CallsH.of_body Try.func36 rfl 46 rfl rfl ?_
  refine WP.seq ?_
  refine WP.region ?_
  refine EvK.alloc (w_none rfl) rfl rfl (f_allocF zero83 rfl rfl hF) ?_
  rintro _ h1 ⟨q1, rfl, hF⟩
  refine EvK.nil ?_
  refine WP.seq ?_
  refine WP.draw mixed [.pure, .pure, .pure, .read, .pure, .pure, .pure, .read, .pure, .read, .alloc, .eff []] [[], [0], [0, 1], [0, 1, 2], [], [4], [4, 5], [4, 5, 6], [0, 1, 2, 3, 4, 5, 6, 7], [0, 1, 2, 3, 4, 5, 6, 7, 8], [], [0, 1, 2, 3, 4, 5, 6, 7, 8, 9, 10]] [0, 1, 2, 3, 4, 5, 6, 7, 8, 9, 10, 11] (by kernel_rfl) (by kernel_rfl) ?_
  refine EvI.pure (v := .pointer a0) rfl rfl (w_none rfl) rfl (f_move rfl rfl) ?_
  obtain ⟨q2, hq1, hF⟩ := hF
  refine EvI.pure (v := .pointer (some q2)) rfl rfl (w_none rfl) rfl (f_nilCheck rfl (congrArg Value.pointer hq1)) ?_
  refine EvI.pure (v := .pointer (some (q2.add 0))) rfl rfl (w_none rfl) rfl (f_fieldAddr fd62_0 rfl rfl) ?_
  obtain ⟨x1, hx1, hF⟩ := hF
  refine EvI.read (v := Sl.val x1) rfl rfl (w_none rfl) rfl (f_load kL ty60 rfl rfl hx1 rfl) ?_
  refine EvI.pure (v := .pointer a0) rfl rfl (w_none rfl) rfl (f_move rfl rfl) ?_
  obtain ⟨q3, hq2, hF⟩ := hF
  refine EvI.pure (v := .pointer (some q3)) rfl rfl (w_none rfl) rfl (f_nilCheck rfl (congrArg Value.pointer hq2)) ?_
  refine EvI.pure (v := .pointer (some (q3.add 1))) rfl rfl (w_none rfl) rfl (f_fieldAddr fd62_1 rfl rfl) ?_
  obtain ⟨x2, hx2, hF⟩ := hF
  refine EvI.read (v := .int .i64 x2) rfl rfl (w_none rfl) rfl (f_load (kI .i64) ty3 rfl rfl hx2 rfl) ?_
  obtain ⟨q4, hq3, hF⟩ := hF
  refine EvI.pure (v := .pointer (some q4)) rfl rfl (w_none rfl) rfl (f_indexAddr (s := x1) Try.underlying60 ty83.size rfl rfl rfl hq3) ?_
  obtain ⟨x3, hx3, hF⟩ := hF
  refine EvI.read (v := k82.val x3) rfl rfl (w_none rfl) rfl (f_load k82 ty83 rfl rfl hx3 rfl) ?_
  refine EvI.alloc rfl rfl (w_none rfl) rfl (f_allocF zero83 rfl rfl hF) ?_
  rintro _ h2 ⟨q5, rfl, hF⟩
  obtain ⟨h3, hs1, hF⟩ := hF
  refine EvI.runN rfl rfl (w_none rfl) rfl (f_store k82 ty83.size (z := x3) rfl rfl rfl hs1) ?_
  rintro _ _ ⟨rfl, rfl⟩
  refine ⟨⟨chk_no rfl, chk_no rfl, chk_no rfl, trivial⟩, ?_⟩
  refine EvI.nil ?_
  refine WP.seq ?_
  refine WP.draw mixed [.pure, .pure, .pure, .read, .pure, .pure, .pure, .read, .pure, .pure, .eff []] [[], [0], [0, 1], [0, 1, 2], [], [4], [4, 5], [4, 5, 6], [], [0, 1, 2, 3, 4, 5, 6, 7, 8], [0, 1, 2, 3, 4, 5, 6, 7, 8, 9]] [0, 1, 2, 3, 4, 5, 6, 7, 8, 9, 10] (by kernel_rfl) (by kernel_rfl) ?_
  refine EvI.pure (v := .pointer a0) rfl rfl (w_none rfl) rfl (f_move rfl rfl) ?_
  obtain ⟨q6, hq4, hF⟩ := hF
  refine EvI.pure (v := .pointer (some q6)) rfl rfl (w_none rfl) rfl (f_nilCheck rfl (congrArg Value.pointer hq4)) ?_
  refine EvI.pure (v := .pointer (some (q6.add 0))) rfl rfl (w_none rfl) rfl (f_fieldAddr fd62_0 rfl rfl) ?_
  obtain ⟨x4, hx4, hF⟩ := hF
  refine EvI.read (v := Sl.val x4) rfl rfl (w_none rfl) rfl (f_load kL ty60 rfl rfl hx4 rfl) ?_
  refine EvI.pure (v := .pointer a0) rfl rfl (w_none rfl) rfl (f_move rfl rfl) ?_
  obtain ⟨q7, hq5, hF⟩ := hF
  refine EvI.pure (v := .pointer (some q7)) rfl rfl (w_none rfl) rfl (f_nilCheck rfl (congrArg Value.pointer hq5)) ?_
  refine EvI.pure (v := .pointer (some (q7.add 1))) rfl rfl (w_none rfl) rfl (f_fieldAddr fd62_1 rfl rfl) ?_
  obtain ⟨x5, hx5, hF⟩ := hF
  refine EvI.read (v := .int .i64 x5) rfl rfl (w_none rfl) rfl (f_load (kI .i64) ty3 rfl rfl hx5 rfl) ?_
  refine EvI.pure (v := k82.val (S82.mk 0 z32)) rfl rfl (w_none rfl) rfl (f_build (cells := k82.enc (S82.mk 0 z32)) st83 rfl rfl rfl) ?_
  obtain ⟨q8, hq6, hF⟩ := hF
  refine EvI.pure (v := .pointer (some q8)) rfl rfl (w_none rfl) rfl (f_indexAddr (s := x4) Try.underlying60 ty83.size rfl rfl rfl hq6) ?_
  obtain ⟨h4, hs2, hF⟩ := hF
  refine EvI.runN rfl rfl (w_none rfl) rfl (f_store k82 ty83.size (z := (S82.mk 0 z32)) rfl rfl rfl hs2) ?_
  rintro _ _ ⟨rfl, rfl⟩
  refine ⟨⟨chk_no rfl, chk_no rfl, trivial⟩, ?_⟩
  refine EvI.nil ?_
  refine WP.seq ?_
  refine WP.draw mixed [.pure, .pure, .pure, .pure, .read, .pure, .pure, .pure, .pure, .read, .pure, .pure, .pure, .pure, .eff []] [[], [], [1], [1, 2], [1, 2, 3], [1, 2, 3, 4], [], [6], [6, 7], [6, 7, 8], [6, 7, 8, 9], [1, 2, 3, 4, 5, 6, 7, 8, 9, 10], [0, 1, 2, 3, 4, 5, 6, 7, 8, 9, 10, 11], [0, 1, 2, 3, 4, 5, 6, 7, 8, 9, 10, 11, 12], [0, 1, 2, 3, 4, 5, 6, 7, 8, 9, 10, 11, 12, 13]] [0, 1, 2, 3, 4, 5, 6, 7, 8, 9, 10, 11, 12, 13, 14] (by kernel_rfl) (by kernel_rfl) ?_
  refine EvI.pure (v := .pointer a0) rfl rfl (w_none rfl) rfl (f_move rfl rfl) ?_
  refine EvI.pure (v := .pointer a0) rfl rfl (w_none rfl) rfl (f_move rfl rfl) ?_
  obtain ⟨q9, hq7, hF⟩ := hF
  refine EvI.pure (v := .pointer (some q9)) rfl rfl (w_none rfl) rfl (f_nilCheck rfl (congrArg Value.pointer hq7)) ?_
  refine EvI.pure (v := .pointer (some (q9.add 1))) rfl rfl (w_none rfl) rfl (f_fieldAddr fd62_1 rfl rfl) ?_
  obtain ⟨x6, hx6, hF⟩ := hF
  refine EvI.read (v := .int .i64 x6) rfl rfl (w_none rfl) rfl (f_load (kI .i64) ty3 rfl rfl hx6 rfl) ?_
  refine EvI.pure (v := .int .i64 (IntKind.i64.wrap (x6 + 1))) rfl rfl (w_none rfl) rfl (f_add rfl rfl rfl) ?_
  refine EvI.pure (v := .pointer a0) rfl rfl (w_none rfl) rfl (f_move rfl rfl) ?_
  obtain ⟨q10, hq8, hF⟩ := hF
  refine EvI.pure (v := .pointer (some q10)) rfl rfl (w_none rfl) rfl (f_nilCheck rfl (congrArg Value.pointer hq8)) ?_
  refine EvI.pure (v := .pointer (some (q10.add 0))) rfl rfl (w_none rfl) rfl (f_fieldAddr fd62_0 rfl rfl) ?_
  obtain ⟨x7, hx7, hF⟩ := hF
  refine EvI.read (v := Sl.val x7) rfl rfl (w_none rfl) rfl (f_load kL ty60 rfl rfl hx7 rfl) ?_
  refine EvI.pure (v := .int .i64 (x7.len : Int)) rfl rfl (w_none rfl) rfl (f_lenL (s := x7) Try.underlying60 rfl rfl) ?_
  obtain ⟨x8, hx8, hF⟩ := hF
  refine EvI.pure (v := .int .i64 x8) rfl rfl (w_none rfl) rfl (f_rem rfl rfl rfl hx8) ?_
  obtain ⟨q11, hq9, hF⟩ := hF
  refine EvI.pure (v := .pointer (some q11)) rfl rfl (w_none rfl) rfl (f_nilCheck rfl (congrArg Value.pointer hq9)) ?_
  refine EvI.pure (v := .pointer (some (q11.add 1))) rfl rfl (w_none rfl) rfl (f_fieldAddr fd62_1 rfl rfl) ?_
  obtain ⟨h5, hs3, hF⟩ := hF
  refine EvI.runN rfl rfl (w_none rfl) rfl (f_store (kI .i64) ty3.size (z := x8) rfl rfl rfl hs3) ?_
  rintro _ _ ⟨rfl, rfl⟩
  refine ⟨⟨chk_no rfl, chk_no rfl, trivial⟩, ?_⟩
  refine EvI.nil ?_
  refine WP.seq ?_
  refine WP.region ?_
  refine EvK.pure (v := .pointer a0) (w_none rfl) rfl rfl (f_move rfl rfl) ?_
  obtain ⟨q12, hq10, hF⟩ := hF
  refine EvK.pure (v := .pointer (some q12)) (w_none rfl) rfl rfl (f_nilCheck rfl (congrArg Value.pointer hq10)) ?_
  refine EvK.pure (v := .pointer (some (q12.add 2))) (w_none rfl) rfl rfl (f_fieldAddr fd62_2 rfl rfl) ?_
  obtain ⟨x9, hx9, hF⟩ := hF
  refine EvK.read (v := .int .i64 x9) (w_none rfl) rfl rfl (f_load (kI .i64) ty3 rfl rfl hx9 rfl) ?_
  refine EvK.pure (v := .int .i64 (IntKind.i64.wrap (x9 - 1))) (w_none rfl) rfl rfl (f_sub rfl rfl rfl) ?_
  obtain ⟨q13, hq11, hF⟩ := hF
  refine EvK.pure (v := .pointer (some q13)) (w_none rfl) rfl rfl (f_nilCheck rfl (congrArg Value.pointer hq11)) ?_
  refine EvK.pure (v := .pointer (some (q13.add 2))) (w_none rfl) rfl rfl (f_fieldAddr fd62_2 rfl rfl) ?_
  obtain ⟨h6, hs4, hF⟩ := hF
  refine EvK.runN (w_none rfl) rfl (f_store (kI .i64) ty3.size (z := IntKind.i64.wrap (x9 - 1)) rfl rfl rfl hs4) ?_
  rintro _ _ ⟨rfl, rfl⟩
  refine EvK.nil ?_
  refine WP.seq ?_
  refine WP.region ?_
  obtain ⟨x10, hx10, hF⟩ := hF
  refine EvK.read (v := k82.val x10) (w_none rfl) rfl rfl (f_load k82 ty83 rfl rfl hx10 rfl) ?_
  obtain ⟨h7, hs5, hF⟩ := hF
  refine EvK.runN (w_none rfl) rfl (f_store k82 ty83.size (z := x10) rfl rfl rfl hs5) ?_
  rintro _ _ ⟨rfl, rfl⟩
  refine EvK.nil ?_
  refine WP.ret ?_
  obtain ⟨x11, hx11, hF⟩ := hF
  exact Ret.mk (vs := [k82.val x11]) x11 ⟨⟨_, rfl, fun c d => run_loadVar k82 ty83 hx11 c d⟩, trivial⟩ rfl hF
end Go.Proofs.Ytanpaamamfabkaa
