/- Functions as predicates over the heap, and that the code comes to them. Printed by gen.py, merged by group.py. -/
import Derived.Test.YtanpaamamfabkaaG0
import Derived.Test.YtanpaamamfabkaaTy
namespace Go.Proofs.Ytanpaamamfabkaa
open Go Go.Tr
set_option linter.unusedVariables false
set_option maxRecDepth 100000
set_option maxHeartbeats 400000
/-- (*spate/flow.box).put -/
def flow_box_put (a0 : Option Addr) (a1 : S82) (h : H) (Q : Unit → H → Prop) : Prop :=
  al 83 (k82.enc a1) h fun q1 h1 =>
  rd a0 fun q2 =>
  rd (ld kL (q2.add 0) h1) fun x1 =>
  rd a0 fun q3 =>
  rd (ld (kI .i64) (q3.add 1) h1) fun x2 =>
  rd a0 fun q4 =>
  rd (ld (kI .i64) (q4.add 2) h1) fun x3 =>
  rd a0 fun q5 =>
  rd (ld kL (q5.add 0) h1) fun x4 =>
  rd (remI (IntKind.i64.wrap (x2 + x3)) (x4.len : Int)) fun x5 =>
  rd (ld k82 q1 h1) fun x6 =>
  rd (ixA 5 x1 x5) fun q6 =>
  rd (st k82 q6 x6 h1) fun h2 =>
  rd a0 fun q7 =>
  rd (ld (kI .i64) (q7.add 2) h2) fun x7 =>
  rd a0 fun q8 =>
  rd (st (kI .i64) (q8.add 2) (IntKind.i64.wrap (x7 + 1)) h2) fun h3 =>
  Q () h3
theorem flow_box_put.sound {a0 : Option Addr} {a1 : S82} {h : H} {Q : Unit → H → Prop} (hF : flow_box_put a0 a1 h Q) :
    CallsH Try.prog 34 (List.toArray (α := Value) [.pointer a0, k82.val a1]) h fun v h' => ∃ x : Unit, v = .tuple #[] ∧ Q x h' := by
  refine CallsH.of_body Try.func34 rfl 32 rfl rfl ?_
  refine WP.seq ?_
  refine WP.region ?_
  refine EvK.alloc (w_none rfl) rfl rfl (f_boxF (v := k82.val a1) rfl rfl rfl hF) ?_
  rintro _ h1 ⟨q1, rfl, hF⟩
  refine EvK.nil ?_
  refine WP.seq ?_
  refine WP.draw mixed [.pure, .pure, .pure, .read, .pure, .pure, .pure, .read, .pure, .pure, .pure, .read, .pure, .pure, .pure, .pure, .read, .pure, .pure, .read, .pure, .eff []] [[], [0], [0, 1], [0, 1, 2], [], [4], [4, 5], [4, 5, 6], [], [8], [8, 9], [8, 9, 10], [4, 5, 6, 7, 8, 9, 10, 11], [], [13], [13, 14], [13, 14, 15], [13, 14, 15, 16], [4, 5, 6, 7, 8, 9, 10, 11, 12, 13, 14, 15, 16, 17], [], [0, 1, 2, 3, 4, 5, 6, 7, 8, 9, 10, 11, 12, 13, 14, 15, 16, 17, 18, 19], [0, 1, 2, 3, 4, 5, 6, 7, 8, 9, 10, 11, 12, 13, 14, 15, 16, 17, 18, 19, 20]] [0, 1, 2, 3, 4, 5, 6, 7, 8, 9, 10, 11, 12, 13, 14, 15, 16, 17, 18, 19, 20, 21] (by kernel_rfl) (by kernel_rfl) ?_
  refine EvI.pure (v := .pointer a0) rfl rfl (w_none rfl) rfl (f_move rfl rfl) ?_
  obtain ⟨q2, hq1, hF⟩ := hF
  refine EvI.pure (v := .pointer (some q2)) rfl rfl (w_none rfl) rfl (f_nilCheck rfl (congrArg Value.pointer hq1)) ?_
  refine EvI.pure (v := .pointer (some (q2.add 0))) rfl rfl (w_none rfl) rfl (f_fieldAddr fd62_0 rfl rfl) ?_
  obtain ⟨x1, hx1, hF⟩ := hF
  refine EvI.read (v := Sl.val x1) rfl rfl (w_none rfl) rfl (f_load kL ty60 rfl rfl hx1 rfl) ?_
  refine EvI.pure (v := .pointer a0) rfl rfl (w_none rfl) rfl (f_move rfl rfl) ?_
  obtain ⟨q3, hq2, hF⟩ := hF
  refine EvI.pure (v := .pointer (some q3)) rfl rfl (w_none rfl) rfl (f_nilCheck rfl (congrArg Value.pointer hq2)) ?_
  refine EvI.pure (v := .pointer (some (q3.add 1))) rfl rfl (w_none rfl) rfl (f_fieldAddr fd62_1 rfl rfl) ?_
  obtain ⟨x2, hx2, hF⟩ := hF
  refine EvI.read (v := .int .i64 x2) rfl rfl (w_none rfl) rfl (f_load (kI .i64) ty3 rfl rfl hx2 rfl) ?_
  refine EvI.pure (v := .pointer a0) rfl rfl (w_none rfl) rfl (f_move rfl rfl) ?_
  obtain ⟨q4, hq3, hF⟩ := hF
  refine EvI.pure (v := .pointer (some q4)) rfl rfl (w_none rfl) rfl (f_nilCheck rfl (congrArg Value.pointer hq3)) ?_
  refine EvI.pure (v := .pointer (some (q4.add 2))) rfl rfl (w_none rfl) rfl (f_fieldAddr fd62_2 rfl rfl) ?_
  obtain ⟨x3, hx3, hF⟩ := hF
  refine EvI.read (v := .int .i64 x3) rfl rfl (w_none rfl) rfl (f_load (kI .i64) ty3 rfl rfl hx3 rfl) ?_
  refine EvI.pure (v := .int .i64 (IntKind.i64.wrap (x2 + x3))) rfl rfl (w_none rfl) rfl (f_add rfl rfl rfl) ?_
  refine EvI.pure (v := .pointer a0) rfl rfl (w_none rfl) rfl (f_move rfl rfl) ?_
  obtain ⟨q5, hq4, hF⟩ := hF
  refine EvI.pure (v := .pointer (some q5)) rfl rfl (w_none rfl) rfl (f_nilCheck rfl (congrArg Value.pointer hq4)) ?_
  refine EvI.pure (v := .pointer (some (q5.add 0))) rfl rfl (w_none rfl) rfl (f_fieldAddr fd62_0 rfl rfl) ?_
  obtain ⟨x4, hx4, hF⟩ := hF
  refine EvI.read (v := Sl.val x4) rfl rfl (w_none rfl) rfl (f_load kL ty60 rfl rfl hx4 rfl) ?_
  refine EvI.pure (v := .int .i64 (x4.len : Int)) rfl rfl (w_none rfl) rfl (f_lenL (s := x4) Try.underlying60 rfl rfl) ?_
  obtain ⟨x5, hx5, hF⟩ := hF
  refine EvI.pure (v := .int .i64 x5) rfl rfl (w_none rfl) rfl (f_rem rfl rfl rfl hx5) ?_
  obtain ⟨x6, hx6, hF⟩ := hF
  refine EvI.read (v := k82.val x6) rfl rfl (w_none rfl) rfl (f_load k82 ty83 rfl rfl hx6 rfl) ?_
  obtain ⟨q6, hq5, hF⟩ := hF
  refine EvI.pure (v := .pointer (some q6)) rfl rfl (w_none rfl) rfl (f_indexAddr (s := x1) Try.underlying60 ty83.size rfl rfl rfl hq5) ?_
  obtain ⟨h2, hs1, hF⟩ := hF
  refine EvI.runN rfl rfl (w_none rfl) rfl (f_store k82 ty83.size (z := x6) rfl rfl rfl hs1) ?_
  rintro _ _ ⟨rfl, rfl⟩
  refine ⟨⟨chk_no rfl, chk_no rfl, chk_no rfl, chk_no rfl, chk_no rfl, trivial⟩, ?_⟩
  refine EvI.nil ?_
  refine WP.region ?_
  refine EvK.pure (v := .pointer a0) (w_none rfl) rfl rfl (f_move rfl rfl) ?_
  obtain ⟨q7, hq6, hF⟩ := hF
  refine EvK.pure (v := .pointer (some q7)) (w_none rfl) rfl rfl (f_nilCheck rfl (congrArg Value.pointer hq6)) ?_
  refine EvK.pure (v := .pointer (some (q7.add 2))) (w_none rfl) rfl rfl (f_fieldAddr fd62_2 rfl rfl) ?_
  obtain ⟨x7, hx7, hF⟩ := hF
  refine EvK.read (v := .int .i64 x7) (w_none rfl) rfl rfl (f_load (kI .i64) ty3 rfl rfl hx7 rfl) ?_
  refine EvK.pure (v := .int .i64 (IntKind.i64.wrap (x7 + 1))) (w_none rfl) rfl rfl (f_add rfl rfl rfl) ?_
  obtain ⟨q8, hq7, hF⟩ := hF
  refine EvK.pure (v := .pointer (some q8)) (w_none rfl) rfl rfl (f_nilCheck rfl (congrArg Value.pointer hq7)) ?_
  refine EvK.pure (v := .pointer (some (q8.add 2))) (w_none rfl) rfl rfl (f_fieldAddr fd62_2 rfl rfl) ?_
  obtain ⟨h3, hs2, hF⟩ := hF
  refine EvK.runN (w_none rfl) rfl (f_store (kI .i64) ty3.size (z := IntKind.i64.wrap (x7 + 1)) rfl rfl rfl hs2) ?_
  rintro _ _ ⟨rfl, rfl⟩
  refine EvK.nil ?_
  exact Ret.mk (vs := []) () trivial rfl hF
end Go.Proofs.Ytanpaamamfabkaa

namespace Go.Proofs.Ytanpaamamfabkaa
open Go Go.Tr
set_option linter.unusedVariables false
set_option maxRecDepth 100000
set_option maxHeartbeats 400000
/-- (*spate/flow.queue).shift -/
def flow_queue_shift (a0 : Option Addr) (h : H) (Q : Unit → H → Prop) : Prop :=
  rd a0 fun q1 =>
  rd (ld kL (q1.add 0) h) fun x1 =>
  rd (ixA 4 x1 0) fun q2 =>
  rd (st k32 q2 (S32.mk false ⟨#[]⟩ 0 0) h) fun h1 =>
  rd a0 fun q3 =>
  rd (ld kL (q3.add 0) h1) fun x2 =>
  rd (slx 4 x2 (some 1) none none) fun x3 =>
  rd a0 fun q4 =>
  rd (st kL (q4.add 0) x3 h1) fun h2 =>
  rd a0 fun q5 =>
  rd (st (kI .i64) (q5.add 1) 0 h2) fun h3 =>
  rd a0 fun q6 =>
  rd (ld kL (q6.add 0) h3) fun x4 =>
  rd a0 fun q7 =>
  rd (ld kL (q7.add 0) h3) fun x5 =>
  rd (quoI .i64 (x5.cap : Int) 4) fun x6 =>
  if (decide ((x4.len : Int) < x6)) = true then
    rd a0 fun q8 =>
    rd (ld kL (q8.add 0) h3) fun x7 =>
    mk k32.n 40 33 (k32.enc z32) (x7.len : Int) (x7.len : Int) h3 fun x8 h4 =>
    rd a0 fun q9 =>
    rd (ld kL (q9.add 0) h4) fun x9 =>
    rd (cpy 4 x8 x9 h4) fun h5 =>
    rd a0 fun q10 =>
    rd (st kL (q10.add 0) x8 h5) fun h6 =>
    Q () h6
  else
    Q () h3
theorem flow_queue_shift.sound {a0 : Option Addr} {h : H} {Q : Unit → H → Prop} (hF : flow_queue_shift a0 h Q) :
    CallsH Try.prog 35 (List.toArray (α := Value) [.pointer a0]) h fun v h' => ∃ x : Unit, v = .tuple #[] ∧ Q x h' := by
  refine CallsH.of_body Try.func35 rfl 48 rfl rfl ?_
  refine WP.seq ?_
  refine WP.region ?_
  refine EvK.pure (v := .pointer a0) (w_none rfl) rfl rfl (f_move rfl rfl) ?_
  obtain ⟨q1, hq1, hF⟩ := hF
  refine EvK.pure (v := .pointer (some q1)) (w_none rfl) rfl rfl (f_nilCheck rfl (congrArg Value.pointer hq1)) ?_
  refine EvK.pure (v := .pointer (some (q1.add 0))) (w_none rfl) rfl rfl (f_fieldAddr fd79_0 rfl rfl) ?_
  obtain ⟨x1, hx1, hF⟩ := hF
  refine EvK.read (v := Sl.val x1) (w_none rfl) rfl rfl (f_load kL ty45 rfl rfl hx1 rfl) ?_
  refine EvK.pure (v := k32.val (S32.mk false ⟨#[]⟩ 0 0)) (w_none rfl) rfl rfl (f_build (cells := k32.enc (S32.mk false ⟨#[]⟩ 0 0)) st33 rfl rfl rfl) ?_
  obtain ⟨q2, hq2, hF⟩ := hF
  refine EvK.pure (v := .pointer (some q2)) (w_none rfl) rfl rfl (f_indexAddr (s := x1) Try.underlying45 ty33.size rfl rfl rfl hq2) ?_
  obtain ⟨h1, hs1, hF⟩ := hF
  refine EvK.runN (w_none rfl) rfl (f_store k32 ty33.size (z := (S32.mk false ⟨#[]⟩ 0 0)) rfl rfl rfl hs1) ?_
  rintro _ _ ⟨rfl, rfl⟩
  refine EvK.nil ?_
  refine WP.seq ?_
  refine WP.region ?_
  refine EvK.pure (v := .pointer a0) (w_none rfl) rfl rfl (f_move rfl rfl) ?_
  refine EvK.pure (v := .pointer a0) (w_none rfl) rfl rfl (f_move rfl rfl) ?_
  refine EvK.pure (v := .pointer a0) (w_none rfl) rfl rfl (f_move rfl rfl) ?_
  obtain ⟨q3, hq3, hF⟩ := hF
  refine EvK.pure (v := .pointer (some q3)) (w_none rfl) rfl rfl (f_nilCheck rfl (congrArg Value.pointer hq3)) ?_
  refine EvK.pure (v := .pointer (some (q3.add 0))) (w_none rfl) rfl rfl (f_fieldAddr fd79_0 rfl rfl) ?_
  obtain ⟨x2, hx2, hF⟩ := hF
  refine EvK.read (v := Sl.val x2) (w_none rfl) rfl rfl (f_load kL ty45 rfl rfl hx2 rfl) ?_
  obtain ⟨x3, hx3, hF⟩ := hF
  refine EvK.pure (v := Sl.val x3) (w_none rfl) rfl rfl (f_slice Try.underlying45 ty33.size rfl rfl (bndV_some rfl) bndV_none bndV_none hx3) ?_
  obtain ⟨q4, hq4, hF⟩ := hF
  refine EvK.pure (v := .pointer (some q4)) (w_none rfl) rfl rfl (f_nilCheck rfl (congrArg Value.pointer hq4)) ?_
  refine EvK.pure (v := .pointer (some (q4.add 0))) (w_none rfl) rfl rfl (f_fieldAddr fd79_0 rfl rfl) ?_
  obtain ⟨h2, hs2, hF⟩ := hF
  refine EvK.runN (w_none rfl) rfl (f_store kL ty45.size (z := x3) rfl rfl rfl hs2) ?_
  rintro _ _ ⟨rfl, rfl⟩
  obtain ⟨q5, hq5, hF⟩ := hF
  refine EvK.pure (v := .pointer (some q5)) (w_none rfl) rfl rfl (f_nilCheck rfl (congrArg Value.pointer hq5)) ?_
  refine EvK.pure (v := .pointer (some (q5.add 1))) (w_none rfl) rfl rfl (f_fieldAddr fd79_1 rfl rfl) ?_
  obtain ⟨h3, hs3, hF⟩ := hF
  refine EvK.runN (w_none rfl) rfl (f_store (kI .i64) ty3.size (z := 0) rfl rfl rfl hs3) ?_
  rintro _ _ ⟨rfl, rfl⟩
  refine EvK.nil ?_
  refine WP.seq ?_
  refine WP.draw mixed [.pure, .pure, .pure, .read, .pure, .pure, .pure, .pure, .read, .pure, .pure, .pure] [[], [0], [0, 1], [0, 1, 2], [0, 1, 2, 3], [], [5], [5, 6], [5, 6, 7], [5, 6, 7, 8], [5, 6, 7, 8, 9], [0, 1, 2, 3, 4, 5, 6, 7, 8, 9, 10]] [0, 1, 2, 3, 4, 5, 6, 7, 8, 9, 10, 11] (by kernel_rfl) (by kernel_rfl) ?_
  refine EvI.pure (v := .pointer a0) rfl rfl (w_none rfl) rfl (f_move rfl rfl) ?_
  obtain ⟨q6, hq6, hF⟩ := hF
  refine EvI.pure (v := .pointer (some q6)) rfl rfl (w_none rfl) rfl (f_nilCheck rfl (congrArg Value.pointer hq6)) ?_
  refine EvI.pure (v := .pointer (some (q6.add 0))) rfl rfl (w_none rfl) rfl (f_fieldAddr fd79_0 rfl rfl) ?_
  obtain ⟨x4, hx4, hF⟩ := hF
  refine EvI.read (v := Sl.val x4) rfl rfl (w_none rfl) rfl (f_load kL ty45 rfl rfl hx4 rfl) ?_
  refine EvI.pure (v := .int .i64 (x4.len : Int)) rfl rfl (w_none rfl) rfl (f_lenL (s := x4) Try.underlying45 rfl rfl) ?_
  refine EvI.pure (v := .pointer a0) rfl rfl (w_none rfl) rfl (f_move rfl rfl) ?_
  obtain ⟨q7, hq7, hF⟩ := hF
  refine EvI.pure (v := .pointer (some q7)) rfl rfl (w_none rfl) rfl (f_nilCheck rfl (congrArg Value.pointer hq7)) ?_
  refine EvI.pure (v := .pointer (some (q7.add 0))) rfl rfl (w_none rfl) rfl (f_fieldAddr fd79_0 rfl rfl) ?_
  obtain ⟨x5, hx5, hF⟩ := hF
  refine EvI.read (v := Sl.val x5) rfl rfl (w_none rfl) rfl (f_load kL ty45 rfl rfl hx5 rfl) ?_
  refine EvI.pure (v := .int .i64 (x5.cap : Int)) rfl rfl (w_none rfl) rfl (f_capL (s := x5) Try.underlying45 rfl rfl) ?_
  obtain ⟨x6, hx6, hF⟩ := hF
  refine EvI.pure (v := .int .i64 x6) rfl rfl (w_none rfl) rfl (f_quo rfl rfl rfl hx6) ?_
  refine EvI.pure (v := .bool (decide ((x4.len : Int) < x6))) rfl rfl (w_none rfl) rfl (f_lss rfl rfl rfl) ?_
  refine EvI.nil ?_
  rcases ite_inv hF with ⟨c1, hF⟩ | ⟨c1, hF⟩
  · refine WP.cond_true _ rfl c1 ?_
    refine WP.seq ?_
    refine WP.region ?_
    refine EvK.pure (v := .pointer a0) (w_none rfl) rfl rfl (f_move rfl rfl) ?_
    obtain ⟨q8, hq8, hF⟩ := hF
    refine EvK.pure (v := .pointer (some q8)) (w_none rfl) rfl rfl (f_nilCheck rfl (congrArg Value.pointer hq8)) ?_
    refine EvK.pure (v := .pointer (some (q8.add 0))) (w_none rfl) rfl rfl (f_fieldAddr fd79_0 rfl rfl) ?_
    obtain ⟨x7, hx7, hF⟩ := hF
    refine EvK.read (v := Sl.val x7) (w_none rfl) rfl rfl (f_load kL ty45 rfl rfl hx7 rfl) ?_
    refine EvK.pure (v := .int .i64 (x7.len : Int)) (w_none rfl) rfl rfl (f_lenL (s := x7) Try.underlying45 rfl rfl) ?_
    refine EvK.alloc (w_none rfl) rfl rfl (f_makeSlice Try.underlying45 el33 rfl rfl rfl hF) ?_
    rintro _ h4 ⟨x8, rfl, hF⟩
    refine EvK.pure (v := Sl.val x8) (w_none rfl) rfl rfl (f_assign rfl rfl) ?_
    refine EvK.nil ?_
    refine WP.seq ?_
    refine WP.region ?_
    refine EvK.pure (v := Sl.val x8) (w_none rfl) rfl rfl (f_move rfl rfl) ?_
    refine EvK.pure (v := .pointer a0) (w_none rfl) rfl rfl (f_move rfl rfl) ?_
    obtain ⟨q9, hq9, hF⟩ := hF
    refine EvK.pure (v := .pointer (some q9)) (w_none rfl) rfl rfl (f_nilCheck rfl (congrArg Value.pointer hq9)) ?_
    refine EvK.pure (v := .pointer (some (q9.add 0))) (w_none rfl) rfl rfl (f_fieldAddr fd79_0 rfl rfl) ?_
    obtain ⟨x9, hx8, hF⟩ := hF
    refine EvK.read (v := Sl.val x9) (w_none rfl) rfl rfl (f_load kL ty45 rfl rfl hx8 rfl) ?_
    obtain ⟨h5, hs4, hF⟩ := hF
    refine EvK.run (w_none rfl) rfl rfl (f_copy (s := x8) (r := x9) Try.underlying45 ty33.size rfl rfl rfl rfl hs4) ?_
    rintro _ _ ⟨rfl, rfl⟩
    refine EvK.nil ?_
    refine WP.region ?_
    refine EvK.pure (v := .pointer a0) (w_none rfl) rfl rfl (f_move rfl rfl) ?_
    refine EvK.pure (v := Sl.val x8) (w_none rfl) rfl rfl (f_move rfl rfl) ?_
    obtain ⟨q10, hq10, hF⟩ := hF
    refine EvK.pure (v := .pointer (some q10)) (w_none rfl) rfl rfl (f_nilCheck rfl (congrArg Value.pointer hq10)) ?_
    refine EvK.pure (v := .pointer (some (q10.add 0))) (w_none rfl) rfl rfl (f_fieldAddr fd79_0 rfl rfl) ?_
    obtain ⟨h6, hs5, hF⟩ := hF
    refine EvK.runN (w_none rfl) rfl (f_store kL ty45.size (z := x8) rfl rfl rfl hs5) ?_
    rintro _ _ ⟨rfl, rfl⟩
    refine EvK.nil ?_
    exact Ret.mk (vs := []) () trivial rfl hF
  · refine WP.cond_false _ rfl c1 ?_
    refine WP.skip ?_
    exact Ret.mk (vs := []) () trivial rfl hF
end Go.Proofs.Ytanpaamamfabkaa

namespace Go.Proofs.Ytanpaamamfabkaa
open Go Go.Tr
set_option linter.unusedVariables false
set_option maxRecDepth 100000
set_option maxHeartbeats 400000
/-- (*spate/flow.Flow).Pass -/
def flow_Flow_Pass (a0 : Option Addr) (a1 : Int) (h : H) (Q : (Int × Int) → H → Prop) : Prop :=
  jn (fun (k1 : (Int × (Option Addr)) → H → Prop) =>
    flow_Flow_Toward a0 a1 h fun r2 h3 =>
    if (r2.2 != 0) = true then
      Q (0, r2.2) h3
    else
      rd a0 fun q1 =>
      rd (ld kL (q1.add 1) h3) fun x1 =>
      rd (ixA 3 x1 r2.1) fun q2 =>
      rd a0 fun q3 =>
      rd (ld kL (q3.add 0) h3) fun x2 =>
      rd (ixA 2 x2 a1) fun q4 =>
      rd (ld (kI .i64) (q2.add 2) h3) fun x3 =>
      rd (ld kL (q2.add 0) h3) fun x4 =>
      if (x3 == (x4.len : Int)) = true then
        Q (0, 45) h3
      else
        rd (ld kL (q4.add 0) h3) fun x5 =>
        rd (ixA 4 x5 0) fun q5 =>
        rd (ld k32 q5 h3) fun x6 =>
        flow_box_put (some q2) (S82.mk a1 x6) h3 fun r3 h4 =>
        rd (ld kL (q4.add 0) h4) fun x7 =>
        rd (ixA 4 x7 0) fun q6 =>
        rd (ld kB (q6.add 0) h4) fun x8 =>
        if (!x8) = true then
          k1 (r2.1, (some q4)) h4
        else
          rd (ld (kI .i64) (q4.add 1) h4) fun x9 =>
          rd (st (kI .i64) (q4.add 1) (IntKind.i64.wrap (x9 + 1)) h4) fun h5 =>
          rd (ld (kI .i64) (q4.add 1) h5) fun x10 =>
          rd a0 fun q7 =>
          rd (ld kL (q7.add 1) h5) fun x11 =>
          if (decide (x10 < (x11.len : Int))) = true then
            Q (r2.1, 0) h5
          else
            flow_queue_shift (some q4) h5 fun r4 h6 =>
            Q (r2.1, 0) h6) fun s1 h1 =>
  flow_queue_shift s1.2 h1 fun r1 h2 =>
  Q (s1.1, 0) h2
theorem flow_Flow_Pass.sound {a0 : Option Addr} {a1 : Int} {h : H} {Q : (Int × Int) → H → Prop} (hF : flow_Flow_Pass a0 a1 h Q) :
    CallsH Try.prog 17 (List.toArray (α := Value) [.pointer a0, .int .i64 a1]) h fun v h' => ∃ x : Int × Int, v = .tuple #[.int .i64 x.1, .int .i64 x.2] ∧ Q x h' := by
  refine CallsH.of_body Try.func17 rfl 80 rfl rfl ?_
  refine WP.seq ?_
  refine WP.region ?_
  refine EvK.pure (v := .int .i64 0) (w_none rfl) rfl rfl (f_assign rfl rfl) ?_
  refine EvK.pure (v := .int .i64 0) (w_none rfl) rfl rfl (f_assign rfl rfl) ?_
  refine EvK.nil ?_
  refine WP.scopeF 0 rfl (fun (s1 : Int × (Option Addr)) => [(6, .int .i64 s1.1), (9, .pointer s1.2)]) hF ?_ ?_
  · intro s1 E0 h1 hF
    refine WP.seq ?_
    refine WP.skip ?_
    refine WP.seq ?_
    refine WP.region ?_
    refine EvK.pure (v := .pointer s1.2) (w_none rfl) rfl rfl (f_move rfl rfl) ?_
    refine EvK.call (w_none rfl) rfl rfl (enterH Try.func35 rfl rfl rfl rfl (flow_queue_shift.sound hF)) ?_
    rintro _ h2 ⟨r1, rfl, hF⟩
    refine EvK.nil ?_
    refine WP.seq ?_
    refine WP.region ?_
    refine EvK.pure (v := .int .i64 s1.1) (w_none rfl) rfl rfl (f_move rfl rfl) ?_
    refine EvK.pure (v := .int .i64 s1.1) (w_none rfl) rfl rfl (f_assign rfl rfl) ?_
    refine EvK.pure (v := .int .i64 0) (w_none rfl) rfl rfl (f_assign rfl rfl) ?_
    refine EvK.nil ?_
    refine WP.ret ?_
    exact Ret.mk (vs := [.int .i64 s1.1, .int .i64 0]) (s1.1, 0) ⟨rfl, rfl, trivial⟩ rfl hF
  · intro k1 hF
    refine WP.seq ?_
    refine WP.region ?_
    refine EvK.pure (v := .pointer a0) (w_none rfl) rfl rfl (f_move rfl rfl) ?_
    refine EvK.pure (v := .int .i64 a1) (w_none rfl) rfl rfl (f_move rfl rfl) ?_
    refine EvK.call (w_none rfl) rfl rfl (enterH Try.func22 rfl rfl rfl rfl (flow_Flow_Toward.sound hF)) ?_
    rintro _ h3 ⟨r2, rfl, hF⟩
    refine EvK.pure (v := .tuple #[.int .i64 r2.1, .int .i64 r2.2]) (w_none rfl) rfl rfl (f_move rfl rfl) ?_
    refine EvK.pure (v := .int .i64 r2.1) (w_none rfl) rfl rfl (f_extract (vs := #[.int .i64 r2.1, .int .i64 r2.2]) rfl rfl rfl) ?_
    refine EvK.pure (v := .int .i64 r2.2) (w_none rfl) rfl rfl (f_extract (vs := #[.int .i64 r2.1, .int .i64 r2.2]) rfl rfl rfl) ?_
    refine EvK.pure (v := .int .i64 r2.1) (w_none rfl) rfl rfl (f_assign rfl rfl) ?_
    refine EvK.pure (v := .int .i64 r2.2) (w_none rfl) rfl rfl (f_assign rfl rfl) ?_
    refine EvK.nil ?_
    refine WP.seq ?_
    refine WP.seq ?_
    refine WP.region ?_
    refine EvK.pure (v := .int .i64 r2.2) (w_none rfl) rfl rfl (f_move rfl rfl) ?_
    refine EvK.pure (v := .bool (r2.2 != 0)) (w_none rfl) rfl rfl (f_neq rfl rfl rfl) ?_
    refine EvK.nil ?_
    rcases ite_inv hF with ⟨c1, hF⟩ | ⟨c1, hF⟩
    · refine WP.cond_true _ rfl c1 ?_
      refine WP.seq ?_
      refine WP.region ?_
      refine EvK.pure (v := .int .i64 r2.2) (w_none rfl) rfl rfl (f_move rfl rfl) ?_
      refine EvK.pure (v := .int .i64 0) (w_none rfl) rfl rfl (f_assign rfl rfl) ?_
      refine EvK.pure (v := .int .i64 r2.2) (w_none rfl) rfl rfl (f_assign rfl rfl) ?_
      refine EvK.nil ?_
      refine WP.ret ?_
      exact Ret.mk (vs := [.int .i64 0, .int .i64 r2.2]) (0, r2.2) ⟨rfl, rfl, trivial⟩ rfl hF
    · refine WP.cond_false _ rfl c1 ?_
      refine WP.skip ?_
      refine WP.seq ?_
      refine WP.draw mixed [.pure, .pure, .pure, .read, .pure, .pure, .pure, .pure, .pure, .read, .pure, .pure, .pure, .pure] [[], [0], [0, 1], [0, 1, 2], [], [0, 1, 2, 3, 4], [], [6], [6, 7], [6, 7, 8], [], [6, 7, 8, 9, 10], [0, 1, 2, 3, 4, 5], [0, 1, 2, 3, 4, 5, 6, 7, 8, 9, 10, 11, 12]] [0, 1, 2, 3, 4, 5, 6, 7, 8, 9, 10, 11, 12, 13] (by kernel_rfl) (by kernel_rfl) ?_
      refine EvI.pure (v := .pointer a0) rfl rfl (w_none rfl) rfl (f_move rfl rfl) ?_
      obtain ⟨q1, hq1, hF⟩ := hF
      refine EvI.pure (v := .pointer (some q1)) rfl rfl (w_none rfl) rfl (f_nilCheck rfl (congrArg Value.pointer hq1)) ?_
      refine EvI.pure (v := .pointer (some (q1.add 1))) rfl rfl (w_none rfl) rfl (f_fieldAddr fd59_1 rfl rfl) ?_
      obtain ⟨x1, hx1, hF⟩ := hF
      refine EvI.read (v := Sl.val x1) rfl rfl (w_none rfl) rfl (f_load kL ty57 rfl rfl hx1 rfl) ?_
      refine EvI.pure (v := .int .i64 r2.1) rfl rfl (w_none rfl) rfl (f_move rfl rfl) ?_
      obtain ⟨q2, hq2, hF⟩ := hF
      refine EvI.pure (v := .pointer (some q2)) rfl rfl (w_none rfl) rfl (f_indexAddr (s := x1) Try.underlying57 ty62.size rfl rfl rfl hq2) ?_
      refine EvI.pure (v := .pointer a0) rfl rfl (w_none rfl) rfl (f_move rfl rfl) ?_
      obtain ⟨q3, hq3, hF⟩ := hF
      refine EvI.pure (v := .pointer (some q3)) rfl rfl (w_none rfl) rfl (f_nilCheck rfl (congrArg Value.pointer hq3)) ?_
      refine EvI.pure (v := .pointer (some (q3.add 0))) rfl rfl (w_none rfl) rfl (f_fieldAddr fd59_0 rfl rfl) ?_
      obtain ⟨x2, hx2, hF⟩ := hF
      refine EvI.read (v := Sl.val x2) rfl rfl (w_none rfl) rfl (f_load kL ty56 rfl rfl hx2 rfl) ?_
      refine EvI.pure (v := .int .i64 a1) rfl rfl (w_none rfl) rfl (f_move rfl rfl) ?_
      obtain ⟨q4, hq4, hF⟩ := hF
      refine EvI.pure (v := .pointer (some q4)) rfl rfl (w_none rfl) rfl (f_indexAddr (s := x2) Try.underlying56 ty79.size rfl rfl rfl hq4) ?_
      refine EvI.pure (v := .pointer (some q2)) rfl rfl (w_none rfl) rfl (f_assign rfl rfl) ?_
      refine EvI.pure (v := .pointer (some q4)) rfl rfl (w_none rfl) rfl (f_assign rfl rfl) ?_
      refine EvI.nil ?_
      refine WP.seq ?_
      refine WP.seq ?_
      refine WP.draw mixed [.pure, .pure, .pure, .read, .pure, .pure, .pure, .read, .pure, .pure] [[], [0], [0, 1], [0, 1, 2], [], [4], [4, 5], [4, 5, 6], [4, 5, 6, 7], [0, 1, 2, 3, 4, 5, 6, 7, 8]] [0, 1, 2, 3, 4, 5, 6, 7, 8, 9] (by kernel_rfl) (by kernel_rfl) ?_
      refine EvI.pure (v := .pointer (some q2)) rfl rfl (w_none rfl) rfl (f_move rfl rfl) ?_
      refine EvI.pure (v := .pointer (some q2)) rfl rfl (w_none rfl) rfl (f_nilCheck rfl rfl) ?_
      refine EvI.pure (v := .pointer (some (q2.add 2))) rfl rfl (w_none rfl) rfl (f_fieldAddr fd62_2 rfl rfl) ?_
      obtain ⟨x3, hx3, hF⟩ := hF
      refine EvI.read (v := .int .i64 x3) rfl rfl (w_none rfl) rfl (f_load (kI .i64) ty3 rfl rfl hx3 rfl) ?_
      refine EvI.pure (v := .pointer (some q2)) rfl rfl (w_none rfl) rfl (f_move rfl rfl) ?_
      refine EvI.pure (v := .pointer (some q2)) rfl rfl (w_none rfl) rfl (f_nilCheck rfl rfl) ?_
      refine EvI.pure (v := .pointer (some (q2.add 0))) rfl rfl (w_none rfl) rfl (f_fieldAddr fd62_0 rfl rfl) ?_
      obtain ⟨x4, hx4, hF⟩ := hF
      refine EvI.read (v := Sl.val x4) rfl rfl (w_none rfl) rfl (f_load kL ty60 rfl rfl hx4 rfl) ?_
      refine EvI.pure (v := .int .i64 (x4.len : Int)) rfl rfl (w_none rfl) rfl (f_lenL (s := x4) Try.underlying60 rfl rfl) ?_
      refine EvI.pure (v := .bool (x3 == (x4.len : Int))) rfl rfl (w_none rfl) rfl (f_eql rfl rfl rfl) ?_
      refine EvI.nil ?_
      rcases ite_inv hF with ⟨c2, hF⟩ | ⟨c2, hF⟩
      · refine WP.cond_true _ rfl c2 ?_
        refine WP.seq ?_
        refine WP.region ?_
        refine EvK.pure (v := .int .i64 0) (w_none rfl) rfl rfl (f_assign rfl rfl) ?_
        refine EvK.pure (v := .int .i64 45) (w_none rfl) rfl rfl (f_assign rfl rfl) ?_
        refine EvK.nil ?_
        refine WP.ret ?_
        exact Ret.mk (vs := [.int .i64 0, .int .i64 45]) (0, 45) ⟨rfl, rfl, trivial⟩ rfl hF
      · refine WP.cond_false _ rfl c2 ?_
        refine WP.skip ?_
        refine WP.seq ?_
        refine WP.region ?_
        refine EvK.pure (v := .pointer (some q2)) (w_none rfl) rfl rfl (f_move rfl rfl) ?_
        refine EvK.pure (v := .int .i64 a1) (w_none rfl) rfl rfl (f_move rfl rfl) ?_
        refine EvK.pure (v := .pointer (some q4)) (w_none rfl) rfl rfl (f_move rfl rfl) ?_
        refine EvK.pure (v := .pointer (some q4)) (w_none rfl) rfl rfl (f_nilCheck rfl rfl) ?_
        refine EvK.pure (v := .pointer (some (q4.add 0))) (w_none rfl) rfl rfl (f_fieldAddr fd79_0 rfl rfl) ?_
        obtain ⟨x5, hx5, hF⟩ := hF
        refine EvK.read (v := Sl.val x5) (w_none rfl) rfl rfl (f_load kL ty45 rfl rfl hx5 rfl) ?_
        obtain ⟨q5, hq5, hF⟩ := hF
        refine EvK.pure (v := .pointer (some q5)) (w_none rfl) rfl rfl (f_indexAddr (s := x5) Try.underlying45 ty33.size rfl rfl rfl hq5) ?_
        obtain ⟨x6, hx6, hF⟩ := hF
        refine EvK.read (v := k32.val x6) (w_none rfl) rfl rfl (f_load k32 ty33 rfl rfl hx6 rfl) ?_
        refine EvK.pure (v := k82.val (S82.mk a1 x6)) (w_none rfl) rfl rfl (f_build (cells := k82.enc (S82.mk a1 x6)) st83 rfl rfl rfl) ?_
        refine EvK.call (w_none rfl) rfl rfl (enterH Try.func34 rfl rfl rfl rfl (flow_box_put.sound hF)) ?_
        rintro _ h4 ⟨r3, rfl, hF⟩
        refine EvK.nil ?_
        refine WP.seq ?_
        refine WP.seq ?_
        refine WP.region ?_
        refine EvK.pure (v := .pointer (some q4)) (w_none rfl) rfl rfl (f_move rfl rfl) ?_
        refine EvK.pure (v := .pointer (some q4)) (w_none rfl) rfl rfl (f_nilCheck rfl rfl) ?_
        refine EvK.pure (v := .pointer (some (q4.add 0))) (w_none rfl) rfl rfl (f_fieldAddr fd79_0 rfl rfl) ?_
        obtain ⟨x7, hx7, hF⟩ := hF
        refine EvK.read (v := Sl.val x7) (w_none rfl) rfl rfl (f_load kL ty45 rfl rfl hx7 rfl) ?_
        obtain ⟨q6, hq6, hF⟩ := hF
        refine EvK.pure (v := .pointer (some q6)) (w_none rfl) rfl rfl (f_indexAddr (s := x7) Try.underlying45 ty33.size rfl rfl rfl hq6) ?_
        refine EvK.pure (v := .pointer (some (q6.add 0))) (w_none rfl) rfl rfl (f_fieldAddr fd33_0 rfl rfl) ?_
        obtain ⟨x8, hx8, hF⟩ := hF
        refine EvK.read (v := .bool x8) (w_none rfl) rfl rfl (f_load kB ty4 rfl rfl hx8 rfl) ?_
        refine EvK.pure (v := .bool (!x8)) (w_none rfl) rfl rfl (f_not rfl rfl) ?_
        refine EvK.nil ?_
        rcases ite_inv hF with ⟨c3, hF⟩ | ⟨c3, hF⟩
        · refine WP.cond_true _ rfl c3 ?_
          refine WP.goto ?_
          exact KE.mk (r2.1, (some q4)) ⟨rfl, rfl, trivial⟩ hF
        · refine WP.cond_false _ rfl c3 ?_
          refine WP.skip ?_
          refine WP.seq ?_
          refine WP.region ?_
          refine EvK.pure (v := .pointer (some q4)) (w_none rfl) rfl rfl (f_move rfl rfl) ?_
          refine EvK.pure (v := .pointer (some q4)) (w_none rfl) rfl rfl (f_nilCheck rfl rfl) ?_
          refine EvK.pure (v := .pointer (some (q4.add 1))) (w_none rfl) rfl rfl (f_fieldAddr fd79_1 rfl rfl) ?_
          obtain ⟨x9, hx9, hF⟩ := hF
          refine EvK.read (v := .int .i64 x9) (w_none rfl) rfl rfl (f_load (kI .i64) ty3 rfl rfl hx9 rfl) ?_
          refine EvK.pure (v := .int .i64 (IntKind.i64.wrap (x9 + 1))) (w_none rfl) rfl rfl (f_add rfl rfl rfl) ?_
          refine EvK.pure (v := .pointer (some q4)) (w_none rfl) rfl rfl (f_nilCheck rfl rfl) ?_
          refine EvK.pure (v := .pointer (some (q4.add 1))) (w_none rfl) rfl rfl (f_fieldAddr fd79_1 rfl rfl) ?_
          obtain ⟨h5, hs1, hF⟩ := hF
          refine EvK.runN (w_none rfl) rfl (f_store (kI .i64) ty3.size (z := IntKind.i64.wrap (x9 + 1)) rfl rfl rfl hs1) ?_
          rintro _ _ ⟨rfl, rfl⟩
          refine EvK.nil ?_
          refine WP.seq ?_
          refine WP.seq ?_
          refine WP.draw mixed [.pure, .pure, .pure, .read, .pure, .pure, .pure, .read, .pure, .pure] [[], [0], [0, 1], [0, 1, 2], [], [4], [4, 5], [4, 5, 6], [4, 5, 6, 7], [0, 1, 2, 3, 4, 5, 6, 7, 8]] [0, 1, 2, 3, 4, 5, 6, 7, 8, 9] (by kernel_rfl) (by kernel_rfl) ?_
          refine EvI.pure (v := .pointer (some q4)) rfl rfl (w_none rfl) rfl (f_move rfl rfl) ?_
          refine EvI.pure (v := .pointer (some q4)) rfl rfl (w_none rfl) rfl (f_nilCheck rfl rfl) ?_
          refine EvI.pure (v := .pointer (some (q4.add 1))) rfl rfl (w_none rfl) rfl (f_fieldAddr fd79_1 rfl rfl) ?_
          obtain ⟨x10, hx10, hF⟩ := hF
          refine EvI.read (v := .int .i64 x10) rfl rfl (w_none rfl) rfl (f_load (kI .i64) ty3 rfl rfl hx10 rfl) ?_
          refine EvI.pure (v := .pointer a0) rfl rfl (w_none rfl) rfl (f_move rfl rfl) ?_
          obtain ⟨q7, hq7, hF⟩ := hF
          refine EvI.pure (v := .pointer (some q7)) rfl rfl (w_none rfl) rfl (f_nilCheck rfl (congrArg Value.pointer hq7)) ?_
          refine EvI.pure (v := .pointer (some (q7.add 1))) rfl rfl (w_none rfl) rfl (f_fieldAddr fd59_1 rfl rfl) ?_
          obtain ⟨x11, hx11, hF⟩ := hF
          refine EvI.read (v := Sl.val x11) rfl rfl (w_none rfl) rfl (f_load kL ty57 rfl rfl hx11 rfl) ?_
          refine EvI.pure (v := .int .i64 (x11.len : Int)) rfl rfl (w_none rfl) rfl (f_lenL (s := x11) Try.underlying57 rfl rfl) ?_
          refine EvI.pure (v := .bool (decide (x10 < (x11.len : Int)))) rfl rfl (w_none rfl) rfl (f_lss rfl rfl rfl) ?_
          refine EvI.nil ?_
          rcases ite_inv hF with ⟨c4, hF⟩ | ⟨c4, hF⟩
          · refine WP.cond_true _ rfl c4 ?_
            refine WP.seq ?_
            refine WP.region ?_
            refine EvK.pure (v := .int .i64 r2.1) (w_none rfl) rfl rfl (f_move rfl rfl) ?_
            refine EvK.pure (v := .int .i64 r2.1) (w_none rfl) rfl rfl (f_assign rfl rfl) ?_
            refine EvK.pure (v := .int .i64 0) (w_none rfl) rfl rfl (f_assign rfl rfl) ?_
            refine EvK.nil ?_
            refine WP.ret ?_
            exact Ret.mk (vs := [.int .i64 r2.1, .int .i64 0]) (r2.1, 0) ⟨rfl, rfl, trivial⟩ rfl hF
          · refine WP.cond_false _ rfl c4 ?_
            refine WP.skip ?_
            refine WP.seq ?_
            refine WP.label ?_
            refine WP.seq ?_
            refine WP.region ?_
            refine EvK.pure (v := .pointer (some q4)) (w_none rfl) rfl rfl (f_move rfl rfl) ?_
            refine EvK.call (w_none rfl) rfl rfl (enterH Try.func35 rfl rfl rfl rfl (flow_queue_shift.sound hF)) ?_
            rintro _ h6 ⟨r4, rfl, hF⟩
            refine EvK.nil ?_
            refine WP.seq ?_
            refine WP.region ?_
            refine EvK.pure (v := .int .i64 r2.1) (w_none rfl) rfl rfl (f_move rfl rfl) ?_
            refine EvK.pure (v := .int .i64 r2.1) (w_none rfl) rfl rfl (f_assign rfl rfl) ?_
            refine EvK.pure (v := .int .i64 0) (w_none rfl) rfl rfl (f_assign rfl rfl) ?_
            refine EvK.nil ?_
            refine WP.ret ?_
            exact Ret.mk (vs := [.int .i64 r2.1, .int .i64 0]) (r2.1, 0) ⟨rfl, rfl, trivial⟩ rfl hF
end Go.Proofs.Ytanpaamamfabkaa

namespace Go.Proofs.Ytanpaamamfabkaa
open Go Go.Tr
set_option linter.unusedVariables false
set_option maxRecDepth 100000
set_option maxHeartbeats 400000
/-- (*spate/flow.box).take -/
def flow_box_take (a0 : Option Addr) (h : H) (Q : S82 → H → Prop) : Prop :=
  al 83 (k82.enc z82) h fun q1 h1 =>
  rd a0 fun q2 =>
  rd (ld kL (q2.add 0) h1) fun x1 =>
  rd a0 fun q3 =>
  rd (ld (kI .i64) (q3.add 1) h1) fun x2 =>
  rd (ixA 5 x1 x2) fun q4 =>
  rd (ld k82 q4 h1) fun x3 =>
  al 83 (k82.enc z82) h1 fun q5 h2 =>
  rd (st k82 q5 x3 h2) fun h3 =>
  rd a0 fun q6 =>
  rd (ld kL (q6.add 0) h3) fun x4 =>
  rd a0 fun q7 =>
  rd (ld (kI .i64) (q7.add 1) h3) fun x5 =>
  rd (ixA 5 x4 x5) fun q8 =>
  rd (st k82 q8 (S82.mk 0 z32) h3) fun h4 =>
  rd a0 fun q9 =>
  rd (ld (kI .i64) (q9.add 1) h4) fun x6 =>
  rd a0 fun q10 =>
  rd (ld kL (q10.add 0) h4) fun x7 =>
  rd (remI (IntKind.i64.wrap (x6 + 1)) (x7.len : Int)) fun x8 =>
  rd a0 fun q11 =>
  rd (st (kI .i64) (q11.add 1) x8 h4) fun h5 =>
  rd a0 fun q12 =>
  rd (ld (kI .i64) (q12.add 2) h5) fun x9 =>
  rd a0 fun q13 =>
  rd (st (kI .i64) (q13.add 2) (IntKind.i64.wrap (x9 - 1)) h5) fun h6 =>
  rd (ld k82 q5 h6) fun x10 =>
  rd (st k82 q1 x10 h6) fun h7 =>
  rd (ld k82 q1 h7) fun x11 =>
  Q x11 h7
theorem flow_box_take.sound {a0 : Option Addr} {h : H} {Q : S82 → H → Prop} (hF : flow_box_take a0 h Q) :
    CallsH Try.prog 36 (List.toArray (α := Value) [.pointer a0]) h fun v h' => ∃ x : S82, v = k82.val x ∧ Q x h' := by
  refine CallsH.of_body Try.func36 rfl 46 rfl rfl ?_
  refine WP.seq ?_
  refine WP.region ?_
  refine EvK.alloc (w_none rfl) rfl rfl (f_allocF zero83 rfl rfl hF) ?_
  rintro _ h1 ⟨q1, rfl, hF⟩
  refine EvK.nil ?_
  refine WP.seq ?_
  refine WP.draw mixed [.pure, .pure, .pure, .read, .pure, .pure, .pure, .read, .pure, .read, .alloc, .eff []] [[], [0], [0, 1], [0, 1, 2], [], [4], [4, 5], [4, 5, 6], [0, 1, 2, 3, 4, 5, 6, 7], [0, 1, 2, 3, 4, 5, 6, 7, 8], [], [0, 1, 2, 3, 4, 5, 6, 7, 8, 9, 10]] [0, 1, 2, 3, 4, 5, 6, 7, 8, 9, 10, 11] (by kernel_rfl) (by kernel_rfl) ?_
  refine EvI.pure (v := .pointer a0) rfl rfl (w_none rfl) rfl (f_move rfl rfl) ?_
  obtain ⟨q2, hq1, hF⟩ := hF
  refine EvI.pure (v := .pointer (some q2)) rfl rfl (w_none rfl) rfl (f_nilCheck rfl (congrArg Value.pointer hq1)) ?_
  refine EvI.pure (v := .pointer (some (q2.add 0))) rfl rfl (w_none rfl) rfl (f_fieldAddr fd62_0 rfl rfl) ?_
  obtain ⟨x1, hx1, hF⟩ := hF
  refine EvI.read (v := Sl.val x1) rfl rfl (w_none rfl) rfl (f_load kL ty60 rfl rfl hx1 rfl) ?_
  refine EvI.pure (v := .pointer a0) rfl rfl (w_none rfl) rfl (f_move rfl rfl) ?_
  obtain ⟨q3, hq2, hF⟩ := hF
  refine EvI.pure (v := .pointer (some q3)) rfl rfl (w_none rfl) rfl (f_nilCheck rfl (congrArg Value.pointer hq2)) ?_
  refine EvI.pure (v := .pointer (some (q3.add 1))) rfl rfl (w_none rfl) rfl (f_fieldAddr fd62_1 rfl rfl) ?_
  obtain ⟨x2, hx2, hF⟩ := hF
  refine EvI.read (v := .int .i64 x2) rfl rfl (w_none rfl) rfl (f_load (kI .i64) ty3 rfl rfl hx2 rfl) ?_
  obtain ⟨q4, hq3, hF⟩ := hF
  refine EvI.pure (v := .pointer (some q4)) rfl rfl (w_none rfl) rfl (f_indexAddr (s := x1) Try.underlying60 ty83.size rfl rfl rfl hq3) ?_
  obtain ⟨x3, hx3, hF⟩ := hF
  refine EvI.read (v := k82.val x3) rfl rfl (w_none rfl) rfl (f_load k82 ty83 rfl rfl hx3 rfl) ?_
  refine EvI.alloc rfl rfl (w_none rfl) rfl (f_allocF zero83 rfl rfl hF) ?_
  rintro _ h2 ⟨q5, rfl, hF⟩
  obtain ⟨h3, hs1, hF⟩ := hF
  refine EvI.runN rfl rfl (w_none rfl) rfl (f_store k82 ty83.size (z := x3) rfl rfl rfl hs1) ?_
  rintro _ _ ⟨rfl, rfl⟩
  refine ⟨⟨chk_no rfl, chk_no rfl, chk_no rfl, trivial⟩, ?_⟩
  refine EvI.nil ?_
  refine WP.seq ?_
  refine WP.draw mixed [.pure, .pure, .pure, .read, .pure, .pure, .pure, .read, .pure, .pure, .eff []] [[], [0], [0, 1], [0, 1, 2], [], [4], [4, 5], [4, 5, 6], [], [0, 1, 2, 3, 4, 5, 6, 7, 8], [0, 1, 2, 3, 4, 5, 6, 7, 8, 9]] [0, 1, 2, 3, 4, 5, 6, 7, 8, 9, 10] (by kernel_rfl) (by kernel_rfl) ?_
  refine EvI.pure (v := .pointer a0) rfl rfl (w_none rfl) rfl (f_move rfl rfl) ?_
  obtain ⟨q6, hq4, hF⟩ := hF
  refine EvI.pure (v := .pointer (some q6)) rfl rfl (w_none rfl) rfl (f_nilCheck rfl (congrArg Value.pointer hq4)) ?_
  refine EvI.pure (v := .pointer (some (q6.add 0))) rfl rfl (w_none rfl) rfl (f_fieldAddr fd62_0 rfl rfl) ?_
  obtain ⟨x4, hx4, hF⟩ := hF
  refine EvI.read (v := Sl.val x4) rfl rfl (w_none rfl) rfl (f_load kL ty60 rfl rfl hx4 rfl) ?_
  refine EvI.pure (v := .pointer a0) rfl rfl (w_none rfl) rfl (f_move rfl rfl) ?_
  obtain ⟨q7, hq5, hF⟩ := hF
  refine EvI.pure (v := .pointer (some q7)) rfl rfl (w_none rfl) rfl (f_nilCheck rfl (congrArg Value.pointer hq5)) ?_
  refine EvI.pure (v := .pointer (some (q7.add 1))) rfl rfl (w_none rfl) rfl (f_fieldAddr fd62_1 rfl rfl) ?_
  obtain ⟨x5, hx5, hF⟩ := hF
  refine EvI.read (v := .int .i64 x5) rfl rfl (w_none rfl) rfl (f_load (kI .i64) ty3 rfl rfl hx5 rfl) ?_
  refine EvI.pure (v := k82.val (S82.mk 0 z32)) rfl rfl (w_none rfl) rfl (f_build (cells := k82.enc (S82.mk 0 z32)) st83 rfl rfl rfl) ?_
  obtain ⟨q8, hq6, hF⟩ := hF
  refine EvI.pure (v := .pointer (some q8)) rfl rfl (w_none rfl) rfl (f_indexAddr (s := x4) Try.underlying60 ty83.size rfl rfl rfl hq6) ?_
  obtain ⟨h4, hs2, hF⟩ := hF
  refine EvI.runN rfl rfl (w_none rfl) rfl (f_store k82 ty83.size (z := (S82.mk 0 z32)) rfl rfl rfl hs2) ?_
  rintro _ _ ⟨rfl, rfl⟩
  refine ⟨⟨chk_no rfl, chk_no rfl, trivial⟩, ?_⟩
  refine EvI.nil ?_
  refine WP.seq ?_
  refine WP.draw mixed [.pure, .pure, .pure, .pure, .read, .pure, .pure, .pure, .pure, .read, .pure, .pure, .pure, .pure, .eff []] [[], [], [1], [1, 2], [1, 2, 3], [1, 2, 3, 4], [], [6], [6, 7], [6, 7, 8], [6, 7, 8, 9], [1, 2, 3, 4, 5, 6, 7, 8, 9, 10], [0, 1, 2, 3, 4, 5, 6, 7, 8, 9, 10, 11], [0, 1, 2, 3, 4, 5, 6, 7, 8, 9, 10, 11, 12], [0, 1, 2, 3, 4, 5, 6, 7, 8, 9, 10, 11, 12, 13]] [0, 1, 2, 3, 4, 5, 6, 7, 8, 9, 10, 11, 12, 13, 14] (by kernel_rfl) (by kernel_rfl) ?_
  refine EvI.pure (v := .pointer a0) rfl rfl (w_none rfl) rfl (f_move rfl rfl) ?_
  refine EvI.pure (v := .pointer a0) rfl rfl (w_none rfl) rfl (f_move rfl rfl) ?_
  obtain ⟨q9, hq7, hF⟩ := hF
  refine EvI.pure (v := .pointer (some q9)) rfl rfl (w_none rfl) rfl (f_nilCheck rfl (congrArg Value.pointer hq7)) ?_
  refine EvI.pure (v := .pointer (some (q9.add 1))) rfl rfl (w_none rfl) rfl (f_fieldAddr fd62_1 rfl rfl) ?_
  obtain ⟨x6, hx6, hF⟩ := hF
  refine EvI.read (v := .int .i64 x6) rfl rfl (w_none rfl) rfl (f_load (kI .i64) ty3 rfl rfl hx6 rfl) ?_
  refine EvI.pure (v := .int .i64 (IntKind.i64.wrap (x6 + 1))) rfl rfl (w_none rfl) rfl (f_add rfl rfl rfl) ?_
  refine EvI.pure (v := .pointer a0) rfl rfl (w_none rfl) rfl (f_move rfl rfl) ?_
  obtain ⟨q10, hq8, hF⟩ := hF
  refine EvI.pure (v := .pointer (some q10)) rfl rfl (w_none rfl) rfl (f_nilCheck rfl (congrArg Value.pointer hq8)) ?_
  refine EvI.pure (v := .pointer (some (q10.add 0))) rfl rfl (w_none rfl) rfl (f_fieldAddr fd62_0 rfl rfl) ?_
  obtain ⟨x7, hx7, hF⟩ := hF
  refine EvI.read (v := Sl.val x7) rfl rfl (w_none rfl) rfl (f_load kL ty60 rfl rfl hx7 rfl) ?_
  refine EvI.pure (v := .int .i64 (x7.len : Int)) rfl rfl (w_none rfl) rfl (f_lenL (s := x7) Try.underlying60 rfl rfl) ?_
  obtain ⟨x8, hx8, hF⟩ := hF
  refine EvI.pure (v := .int .i64 x8) rfl rfl (w_none rfl) rfl (f_rem rfl rfl rfl hx8) ?_
  obtain ⟨q11, hq9, hF⟩ := hF
  refine EvI.pure (v := .pointer (some q11)) rfl rfl (w_none rfl) rfl (f_nilCheck rfl (congrArg Value.pointer hq9)) ?_
  refine EvI.pure (v := .pointer (some (q11.add 1))) rfl rfl (w_none rfl) rfl (f_fieldAddr fd62_1 rfl rfl) ?_
  obtain ⟨h5, hs3, hF⟩ := hF
  refine EvI.runN rfl rfl (w_none rfl) rfl (f_store (kI .i64) ty3.size (z := x8) rfl rfl rfl hs3) ?_
  rintro _ _ ⟨rfl, rfl⟩
  refine ⟨⟨chk_no rfl, chk_no rfl, trivial⟩, ?_⟩
  refine EvI.nil ?_
  refine WP.seq ?_
  refine WP.region ?_
  refine EvK.pure (v := .pointer a0) (w_none rfl) rfl rfl (f_move rfl rfl) ?_
  obtain ⟨q12, hq10, hF⟩ := hF
  refine EvK.pure (v := .pointer (some q12)) (w_none rfl) rfl rfl (f_nilCheck rfl (congrArg Value.pointer hq10)) ?_
  refine EvK.pure (v := .pointer (some (q12.add 2))) (w_none rfl) rfl rfl (f_fieldAddr fd62_2 rfl rfl) ?_
  obtain ⟨x9, hx9, hF⟩ := hF
  refine EvK.read (v := .int .i64 x9) (w_none rfl) rfl rfl (f_load (kI .i64) ty3 rfl rfl hx9 rfl) ?_
  refine EvK.pure (v := .int .i64 (IntKind.i64.wrap (x9 - 1))) (w_none rfl) rfl rfl (f_sub rfl rfl rfl) ?_
  obtain ⟨q13, hq11, hF⟩ := hF
  refine EvK.pure (v := .pointer (some q13)) (w_none rfl) rfl rfl (f_nilCheck rfl (congrArg Value.pointer hq11)) ?_
  refine EvK.pure (v := .pointer (some (q13.add 2))) (w_none rfl) rfl rfl (f_fieldAddr fd62_2 rfl rfl) ?_
  obtain ⟨h6, hs4, hF⟩ := hF
  refine EvK.runN (w_none rfl) rfl (f_store (kI .i64) ty3.size (z := IntKind.i64.wrap (x9 - 1)) rfl rfl rfl hs4) ?_
  rintro _ _ ⟨rfl, rfl⟩
  refine EvK.nil ?_
  refine WP.seq ?_
  refine WP.region ?_
  obtain ⟨x10, hx10, hF⟩ := hF
  refine EvK.read (v := k82.val x10) (w_none rfl) rfl rfl (f_load k82 ty83 rfl rfl hx10 rfl) ?_
  obtain ⟨h7, hs5, hF⟩ := hF
  refine EvK.runN (w_none rfl) rfl (f_store k82 ty83.size (z := x10) rfl rfl rfl hs5) ?_
  rintro _ _ ⟨rfl, rfl⟩
  refine EvK.nil ?_
  refine WP.ret ?_
  obtain ⟨x11, hx11, hF⟩ := hF
  exact Ret.mk (vs := [k82.val x11]) x11 ⟨⟨_, rfl, fun c d => run_loadVar k82 ty83 hx11 c d⟩, trivial⟩ rfl hF
end Go.Proofs.Ytanpaamamfabkaa

namespace Go.Proofs.Ytanpaamamfabkaa
open Go Go.Tr
set_option linter.unusedVariables false
set_option maxRecDepth 100000
set_option maxHeartbeats 400000
/-- (*spate/flow.Flow).Take -/
def flow_Flow_Take (a0 : Option Addr) (a1 : Int) (h : H) (Q : (Int × S32 × Int) → H → Prop) : Prop :=
  al 33 (k32.enc z32) h fun q1 h1 =>
  jn (fun (k1 : Bool → H → Prop) =>
    if (decide (a1 < 0)) = true then
      k1 true h1
    else
      rd a0 fun q7 =>
      rd (ld kL (q7.add 1) h1) fun x9 =>
      k1 (decide (a1 ≥ (x9.len : Int))) h1) fun s1 h2 =>
  if s1 = true then
    rd (st k32 q1 (S32.mk false ⟨#[]⟩ 0 0) h2) fun h3 =>
    rd (ld k32 q1 h3) fun x1 =>
    Q (0, x1, 1) h3
  else
    rd a0 fun q2 =>
    rd (ld kL (q2.add 1) h2) fun x2 =>
    rd (ixA 3 x2 a1) fun q3 =>
    rd (ld (kI .i64) (q3.add 2) h2) fun x3 =>
    if (x3 == 0) = true then
      rd (st k32 q1 (S32.mk false ⟨#[]⟩ 0 0) h2) fun h4 =>
      rd (ld k32 q1 h4) fun x4 =>
      Q (0, x4, 44) h4
    else
      rd a0 fun q4 =>
      rd (ld kL (q4.add 1) h2) fun x5 =>
      rd (ixA 3 x5 a1) fun q5 =>
      flow_box_take (some q5) h2 fun r1 h5 =>
      al 83 (k82.enc z82) h5 fun q6 h6 =>
      rd (st k82 q6 r1 h6) fun h7 =>
      rd (ld (kI .i64) (q6.add 0) h7) fun x6 =>
      rd (ld k32 (q6.add 1) h7) fun x7 =>
      rd (st k32 q1 x7 h7) fun h8 =>
      rd (ld k32 q1 h8) fun x8 =>
      Q (x6, x8, 0) h8
theorem flow_Flow_Take.sound {a0 : Option Addr} {a1 : Int} {h : H} {Q : (Int × S32 × Int) → H → Prop} (hF : flow_Flow_Take a0 a1 h Q) :
    CallsH Try.prog 18 (List.toArray (α := Value) [.pointer a0, .int .i64 a1]) h fun v h' => ∃ x : Int × S32 × Int, v = .tuple #[.int .i64 x.1, k32.val x.2.1, .int .i64 x.2.2] ∧ Q x h' := by
  refine CallsH.of_body Try.func18 rfl 41 rfl rfl ?_
  refine WP.seq ?_
  refine WP.region ?_
  refine EvK.pure (v := .int .i64 0) (w_none rfl) rfl rfl (f_assign rfl rfl) ?_
  refine EvK.alloc (w_none rfl) rfl rfl (f_allocF zero33 rfl rfl hF) ?_
  rintro _ h1 ⟨q1, rfl, hF⟩
  refine EvK.pure (v := .int .i64 0) (w_none rfl) rfl rfl (f_assign rfl rfl) ?_
  refine EvK.nil ?_
  refine WP.seq ?_
  refine WP.joinF (fun (s1 : Bool) => [(18, .bool s1), (0, .pointer a0), (1, .int .i64 a1), (5, .pointer (some q1))]) hF ?_ ?_
  · intro s1 E0 h2 hF
    rcases ite_inv hF with ⟨c1, hF⟩ | ⟨c1, hF⟩
    · refine WP.cond_true _ rfl c1 ?_
      refine WP.seq ?_
      refine WP.region ?_
      refine EvK.pure (v := k32.val (S32.mk false ⟨#[]⟩ 0 0)) (w_none rfl) rfl rfl (f_build (cells := k32.enc (S32.mk false ⟨#[]⟩ 0 0)) st33 rfl rfl rfl) ?_
      refine EvK.pure (v := .int .i64 0) (w_none rfl) rfl rfl (f_assign rfl rfl) ?_
      obtain ⟨h3, hs1, hF⟩ := hF
      refine EvK.runN (w_none rfl) rfl (f_store k32 ty33.size (z := (S32.mk false ⟨#[]⟩ 0 0)) rfl rfl rfl hs1) ?_
      rintro _ _ ⟨rfl, rfl⟩
      refine EvK.pure (v := .int .i64 1) (w_none rfl) rfl rfl (f_assign rfl rfl) ?_
      refine EvK.nil ?_
      refine WP.ret ?_
      obtain ⟨x1, hx1, hF⟩ := hF
      exact Ret.mk (vs := [.int .i64 0, k32.val x1, .int .i64 1]) (0, x1, 1) ⟨rfl, ⟨_, rfl, fun c d => run_loadVar k32 ty33 hx1 c d⟩, rfl, trivial⟩ rfl hF
    · refine WP.cond_false _ rfl c1 ?_
      refine WP.skip ?_
      refine WP.seq ?_
      refine WP.seq ?_
      refine WP.region ?_
      refine EvK.pure (v := .pointer a0) (w_none rfl) rfl rfl (f_move rfl rfl) ?_
      obtain ⟨q2, hq1, hF⟩ := hF
      refine EvK.pure (v := .pointer (some q2)) (w_none rfl) rfl rfl (f_nilCheck rfl (congrArg Value.pointer hq1)) ?_
      refine EvK.pure (v := .pointer (some (q2.add 1))) (w_none rfl) rfl rfl (f_fieldAddr fd59_1 rfl rfl) ?_
      obtain ⟨x2, hx2, hF⟩ := hF
      refine EvK.read (v := Sl.val x2) (w_none rfl) rfl rfl (f_load kL ty57 rfl rfl hx2 rfl) ?_
      refine EvK.pure (v := .int .i64 a1) (w_none rfl) rfl rfl (f_move rfl rfl) ?_
      obtain ⟨q3, hq2, hF⟩ := hF
      refine EvK.pure (v := .pointer (some q3)) (w_none rfl) rfl rfl (f_indexAddr (s := x2) Try.underlying57 ty62.size rfl rfl rfl hq2) ?_
      refine EvK.pure (v := .pointer (some (q3.add 2))) (w_none rfl) rfl rfl (f_fieldAddr fd62_2 rfl rfl) ?_
      obtain ⟨x3, hx3, hF⟩ := hF
      refine EvK.read (v := .int .i64 x3) (w_none rfl) rfl rfl (f_load (kI .i64) ty3 rfl rfl hx3 rfl) ?_
      refine EvK.pure (v := .bool (x3 == 0)) (w_none rfl) rfl rfl (f_eql rfl rfl rfl) ?_
      refine EvK.nil ?_
      rcases ite_inv hF with ⟨c2, hF⟩ | ⟨c2, hF⟩
      · refine WP.cond_true _ rfl c2 ?_
        refine WP.seq ?_
        refine WP.region ?_
        refine EvK.pure (v := k32.val (S32.mk false ⟨#[]⟩ 0 0)) (w_none rfl) rfl rfl (f_build (cells := k32.enc (S32.mk false ⟨#[]⟩ 0 0)) st33 rfl rfl rfl) ?_
        refine EvK.pure (v := .int .i64 0) (w_none rfl) rfl rfl (f_assign rfl rfl) ?_
        obtain ⟨h4, hs2, hF⟩ := hF
        refine EvK.runN (w_none rfl) rfl (f_store k32 ty33.size (z := (S32.mk false ⟨#[]⟩ 0 0)) rfl rfl rfl hs2) ?_
        rintro _ _ ⟨rfl, rfl⟩
        refine EvK.pure (v := .int .i64 44) (w_none rfl) rfl rfl (f_assign rfl rfl) ?_
        refine EvK.nil ?_
        refine WP.ret ?_
        obtain ⟨x4, hx4, hF⟩ := hF
        exact Ret.mk (vs := [.int .i64 0, k32.val x4, .int .i64 44]) (0, x4, 44) ⟨rfl, ⟨_, rfl, fun c d => run_loadVar k32 ty33 hx4 c d⟩, rfl, trivial⟩ rfl hF
      · refine WP.cond_false _ rfl c2 ?_
        refine WP.skip ?_
        refine WP.seq ?_
        refine WP.region ?_
        refine EvK.pure (v := .pointer a0) (w_none rfl) rfl rfl (f_move rfl rfl) ?_
        obtain ⟨q4, hq3, hF⟩ := hF
        refine EvK.pure (v := .pointer (some q4)) (w_none rfl) rfl rfl (f_nilCheck rfl (congrArg Value.pointer hq3)) ?_
        refine EvK.pure (v := .pointer (some (q4.add 1))) (w_none rfl) rfl rfl (f_fieldAddr fd59_1 rfl rfl) ?_
        obtain ⟨x5, hx5, hF⟩ := hF
        refine EvK.read (v := Sl.val x5) (w_none rfl) rfl rfl (f_load kL ty57 rfl rfl hx5 rfl) ?_
        refine EvK.pure (v := .int .i64 a1) (w_none rfl) rfl rfl (f_move rfl rfl) ?_
        obtain ⟨q5, hq4, hF⟩ := hF
        refine EvK.pure (v := .pointer (some q5)) (w_none rfl) rfl rfl (f_indexAddr (s := x5) Try.underlying57 ty62.size rfl rfl rfl hq4) ?_
        refine EvK.call (w_none rfl) rfl rfl (enterH Try.func36 rfl rfl rfl rfl (flow_box_take.sound hF)) ?_
        rintro _ h5 ⟨r1, rfl, hF⟩
        refine EvK.alloc (w_none rfl) rfl rfl (f_allocF zero83 rfl rfl hF) ?_
        rintro _ h6 ⟨q6, rfl, hF⟩
        obtain ⟨h7, hs3, hF⟩ := hF
        refine EvK.runN (w_none rfl) rfl (f_store k82 ty83.size (z := r1) rfl rfl rfl hs3) ?_
        rintro _ _ ⟨rfl, rfl⟩
        refine EvK.nil ?_
        refine WP.seq ?_
        refine WP.draw mixed [.pure, .read, .pure, .read, .pure, .eff [], .pure] [[], [0], [], [2], [0, 1], [0, 1, 2, 3, 4], [0, 1, 2, 3, 4, 5]] [0, 1, 2, 3, 4, 5, 6] (by kernel_rfl) (by kernel_rfl) ?_
        refine EvI.pure (v := .pointer (some (q6.add 0))) rfl rfl (w_none rfl) rfl (f_fieldAddr fd83_0 rfl rfl) ?_
        obtain ⟨x6, hx6, hF⟩ := hF
        refine EvI.read (v := .int .i64 x6) rfl rfl (w_none rfl) rfl (f_load (kI .i64) ty3 rfl rfl hx6 rfl) ?_
        refine EvI.pure (v := .pointer (some (q6.add 1))) rfl rfl (w_none rfl) rfl (f_fieldAddr fd83_1 rfl rfl) ?_
        obtain ⟨x7, hx7, hF⟩ := hF
        refine EvI.read (v := k32.val x7) rfl rfl (w_none rfl) rfl (f_load k32 ty33 rfl rfl hx7 rfl) ?_
        refine EvI.pure (v := .int .i64 x6) rfl rfl (w_none rfl) rfl (f_assign rfl rfl) ?_
        obtain ⟨h8, hs4, hF⟩ := hF
        refine EvI.runN rfl rfl (w_none rfl) rfl (f_store k32 ty33.size (z := x7) rfl rfl rfl hs4) ?_
        rintro _ _ ⟨rfl, rfl⟩
        refine ⟨⟨chk_no rfl, chk_no rfl, trivial⟩, ?_⟩
        refine EvI.pure (v := .int .i64 0) rfl rfl (w_none rfl) rfl (f_assign rfl rfl) ?_
        refine EvI.nil ?_
        refine WP.ret ?_
        obtain ⟨x8, hx8, hF⟩ := hF
        exact Ret.mk (vs := [.int .i64 x6, k32.val x8, .int .i64 0]) (x6, x8, 0) ⟨rfl, ⟨_, rfl, fun c d => run_loadVar k32 ty33 hx8 c d⟩, rfl, trivial⟩ rfl hF
  · intro k1 hF
    refine WP.region ?_
    refine EvK.pure (v := .int .i64 a1) (w_none rfl) rfl rfl (f_move rfl rfl) ?_
    refine EvK.pure (v := .bool (decide (a1 < 0))) (w_none rfl) rfl rfl (f_lss rfl rfl rfl) ?_
    refine EvK.pure (v := .bool (decide (a1 < 0))) (w_none rfl) rfl rfl (f_move rfl rfl) ?_
    rcases ite_inv hF with ⟨c3, hF⟩ | ⟨c3, hF⟩
    · refine EvK.not (w_not rfl rfl c3) rfl rfl ?_
      refine EvK.not (w_not rfl rfl c3) rfl rfl ?_
      refine EvK.not (w_not rfl rfl c3) rfl rfl ?_
      refine EvK.not (w_not rfl rfl c3) rfl rfl ?_
      refine EvK.not (w_not rfl rfl c3) rfl rfl ?_
      refine EvK.not (w_not rfl rfl c3) rfl rfl ?_
      refine EvK.not (w_not rfl rfl c3) rfl rfl ?_
      refine EvK.pure (v := .bool true) (w_none rfl) rfl rfl (f_pickT rfl rfl c3 rfl) ?_
      refine EvK.nil ?_
      exact KE.mk true ⟨rfl, rfl, rfl, rfl, trivial⟩ hF
    · refine EvK.pure (v := .int .i64 a1) (w_some rfl rfl c3) rfl rfl (f_move rfl rfl) ?_
      refine EvK.pure (v := .pointer a0) (w_some rfl rfl c3) rfl rfl (f_move rfl rfl) ?_
      obtain ⟨q7, hq5, hF⟩ := hF
      refine EvK.pure (v := .pointer (some q7)) (w_some rfl rfl c3) rfl rfl (f_nilCheck rfl (congrArg Value.pointer hq5)) ?_
      refine EvK.pure (v := .pointer (some (q7.add 1))) (w_some rfl rfl c3) rfl rfl (f_fieldAddr fd59_1 rfl rfl) ?_
      obtain ⟨x9, hx9, hF⟩ := hF
      refine EvK.read (v := Sl.val x9) (w_some rfl rfl c3) rfl rfl (f_load kL ty57 rfl rfl hx9 rfl) ?_
      refine EvK.pure (v := .int .i64 (x9.len : Int)) (w_some rfl rfl c3) rfl rfl (f_lenL (s := x9) Try.underlying57 rfl rfl) ?_
      refine EvK.pure (v := .bool (decide (a1 ≥ (x9.len : Int)))) (w_some rfl rfl c3) rfl rfl (f_geq rfl rfl rfl) ?_
      refine EvK.pure (v := .bool (decide (a1 ≥ (x9.len : Int)))) (w_none rfl) rfl rfl (f_pickF rfl rfl c3 rfl) ?_
      refine EvK.nil ?_
      exact KE.mk (decide (a1 ≥ (x9.len : Int))) ⟨rfl, rfl, rfl, rfl, trivial⟩ hF
end Go.Proofs.Ytanpaamamfabkaa

namespace Go.Proofs.Ytanpaamamfabkaa
open Go Go.Tr
set_option linter.unusedVariables false
set_option maxRecDepth 100000
set_option maxHeartbeats 400000
def flow_Flow_Empty.b1 (p26 : Sl) (p27 : Int) (s : Int × Int) (h : H) (K : (Int × Int) ⊕ Int → H → Prop) : Prop :=
  if (decide (s.2 < p27)) = true then
    rd (ixA 3 p26 s.2) fun q2 =>
    rd (ld k61 q2 h) fun x2 =>
    al 62 (k61.enc z61) h fun q3 h3 =>
    rd (st k61 q3 x2 h3) fun h4 =>
    rd (ld (kI .i64) (q3.add 2) h4) fun x3 =>
    K (.inl (IntKind.i64.wrap (s.1 + x3), IntKind.i64.wrap (s.2 + 1))) h4
  else
    K (.inr s.1) h
def flow_Flow_Empty.b2 (p0 : Option Addr) (p11 : Sl) (p12 : Int) (s : Int × Int) (h : H) (K : (Int × Int) ⊕ Int → H → Prop) : Prop :=
  if (decide (s.2 < p12)) = true then
    rd (ixA 2 p11 s.2) fun q5 =>
    rd (ld k78 q5 h) fun x5 =>
    al 79 (k78.enc z78) h fun q6 h6 =>
    rd (st k78 q6 x5 h6) fun h7 =>
    rd (ld kL (q6.add 0) h7) fun x6 =>
    K (.inl (IntKind.i64.wrap (s.1 + (x6.len : Int)), IntKind.i64.wrap (s.2 + 1))) h7
  else
    K (.inr s.1) h
/-- (*spate/flow.Flow).Empty -/
def flow_Flow_Empty (a0 : Option Addr) (h : H) (Q : Bool → H → Prop) : Prop :=
  jn (fun (k1 : Int → H → Prop) =>
    rd a0 fun q4 =>
    rd (ld kL (q4.add 0) h) fun x4 =>
    loopE (flow_Flow_Empty.b2 a0 x4 (x4.len : Int)) (0, 0) h (fun r2 hh => k1 r2 hh)) fun s1 h1 =>
  jn (fun (k2 : Int → H → Prop) =>
    rd a0 fun q1 =>
    rd (ld kL (q1.add 1) h1) fun x1 =>
    loopE (flow_Flow_Empty.b1 x1 (x1.len : Int)) (s1, 0) h1 (fun r1 hh => k2 r1 hh)) fun s2 h2 =>
  Q (s2 == 0) h2
theorem flow_Flow_Empty.sound {a0 : Option Addr} {h : H} {Q : Bool → H → Prop} (hF : flow_Flow_Empty a0 h Q) :
    CallsH Try.prog 19 (List.toArray (α := Value) [.pointer a0]) h fun v h' => ∃ x : Bool, v = .bool x ∧ Q x h' := by
  refine CallsH.of_body Try.func19 rfl 39 rfl rfl ?_
  refine WP.seq ?_
  refine WP.region ?_
  refine EvK.pure (v := .bool false) (w_none rfl) rfl rfl (f_assign rfl rfl) ?_
  refine EvK.nil ?_
  refine WP.seq ?_
  refine WP.region ?_
  refine EvK.pure (v := .int .i64 0) (w_none rfl) rfl rfl (f_assign rfl rfl) ?_
  refine EvK.nil ?_
  refine WP.joinF (fun (s1 : Int) => [(3, .int .i64 s1), (0, .pointer a0)]) hF ?_ ?_
  · intro s1 E0 h1 hF
    refine WP.joinF (fun (s2 : Int) => [(3, .int .i64 s2)]) hF ?_ ?_
    · intro s2 E0 h2 hF
      refine WP.seq ?_
      refine WP.region ?_
      refine EvK.pure (v := .int .i64 s2) (w_none rfl) rfl rfl (f_move rfl rfl) ?_
      refine EvK.pure (v := .bool (s2 == 0)) (w_none rfl) rfl rfl (f_eql rfl rfl rfl) ?_
      refine EvK.pure (v := .bool (s2 == 0)) (w_none rfl) rfl rfl (f_assign rfl rfl) ?_
      refine EvK.nil ?_
      refine WP.ret ?_
      exact Ret.mk (vs := [.bool (s2 == 0)]) (s2 == 0) ⟨rfl, trivial⟩ rfl hF
    · intro k2 hF
      refine WP.seq ?_
      refine WP.region ?_
      refine EvK.pure (v := .pointer a0) (w_none rfl) rfl rfl (f_move rfl rfl) ?_
      obtain ⟨q1, hq1, hF⟩ := hF
      refine EvK.pure (v := .pointer (some q1)) (w_none rfl) rfl rfl (f_nilCheck rfl (congrArg Value.pointer hq1)) ?_
      refine EvK.pure (v := .pointer (some (q1.add 1))) (w_none rfl) rfl rfl (f_fieldAddr fd59_1 rfl rfl) ?_
      obtain ⟨x1, hx1, hF⟩ := hF
      refine EvK.read (v := Sl.val x1) (w_none rfl) rfl rfl (f_load kL ty57 rfl rfl hx1 rfl) ?_
      refine EvK.pure (v := .int .i64 (x1.len : Int)) (w_none rfl) rfl rfl (f_lenL (s := x1) Try.underlying57 rfl rfl) ?_
      refine EvK.pure (v := .int .i64 0) (w_none rfl) rfl rfl (f_move rfl rfl) ?_
      refine EvK.nil ?_
      refine WP.block ?_
      refine WP.loopF (fun (s3 : Int × Int) => [(3, .int .i64 s3.1), (28, .int .i64 s3.2), (26, Sl.val x1), (27, .int .i64 (x1.len : Int))]) hF ⟨rfl, rfl, rfl, rfl, trivial⟩ ?_
      intro k3 s3 E0 h3 hF
      refine WP.seq ?_
      refine WP.region ?_
      refine EvK.pure (v := .bool (decide (s3.2 < (x1.len : Int)))) (w_none rfl) rfl rfl (f_lss rfl rfl rfl) ?_
      refine EvK.nil ?_
      refine WP.seq ?_
      rcases ite_inv hF with ⟨c1, hF⟩ | ⟨c1, hF⟩
      · refine WP.cond_true _ rfl c1 ?_
        refine WP.skip ?_
        refine WP.seq ?_
        refine WP.block ?_
        refine WP.seq ?_
        refine WP.region ?_
        obtain ⟨q2, hq2, hF⟩ := hF
        refine EvK.pure (v := .pointer (some q2)) (w_none rfl) rfl rfl (f_indexAddr (s := x1) Try.underlying57 ty62.size rfl rfl rfl hq2) ?_
        obtain ⟨x2, hx2, hF⟩ := hF
        refine EvK.read (v := k61.val x2) (w_none rfl) rfl rfl (f_load k61 ty62 rfl rfl hx2 rfl) ?_
        refine EvK.alloc (w_none rfl) rfl rfl (f_allocF zero62 rfl rfl hF) ?_
        rintro _ h4 ⟨q3, rfl, hF⟩
        obtain ⟨h5, hs1, hF⟩ := hF
        refine EvK.runN (w_none rfl) rfl (f_store k61 ty62.size (z := x2) rfl rfl rfl hs1) ?_
        rintro _ _ ⟨rfl, rfl⟩
        refine EvK.nil ?_
        refine WP.region ?_
        refine EvK.pure (v := .int .i64 s3.1) (w_none rfl) rfl rfl (f_move rfl rfl) ?_
        refine EvK.pure (v := .pointer (some (q3.add 2))) (w_none rfl) rfl rfl (f_fieldAddr fd62_2 rfl rfl) ?_
        obtain ⟨x3, hx3, hF⟩ := hF
        refine EvK.read (v := .int .i64 x3) (w_none rfl) rfl rfl (f_load (kI .i64) ty3 rfl rfl hx3 rfl) ?_
        refine EvK.pure (v := .int .i64 (IntKind.i64.wrap (s3.1 + x3))) (w_none rfl) rfl rfl (f_add rfl rfl rfl) ?_
        refine EvK.pure (v := .int .i64 (IntKind.i64.wrap (s3.1 + x3))) (w_none rfl) rfl rfl (f_assign rfl rfl) ?_
        refine EvK.nil ?_
        refine WP.region ?_
        refine EvK.pure (v := .int .i64 (IntKind.i64.wrap (s3.2 + 1))) (w_none rfl) rfl rfl (f_add rfl rfl rfl) ?_
        refine EvK.pure (v := .int .i64 (IntKind.i64.wrap (s3.2 + 1))) (w_none rfl) rfl rfl (f_move rfl rfl) ?_
        refine EvK.nil ?_
        exact KE.mk (IntKind.i64.wrap (s3.1 + x3), IntKind.i64.wrap (s3.2 + 1)) ⟨rfl, rfl, rfl, rfl, trivial⟩ hF
      · refine WP.cond_false _ rfl c1 ?_
        refine WP.exit ?_
        exact KE.mk s3.1 ⟨rfl, trivial⟩ hF
  · intro k1 hF
    refine WP.seq ?_
    refine WP.region ?_
    refine EvK.pure (v := .pointer a0) (w_none rfl) rfl rfl (f_move rfl rfl) ?_
    obtain ⟨q4, hq3, hF⟩ := hF
    refine EvK.pure (v := .pointer (some q4)) (w_none rfl) rfl rfl (f_nilCheck rfl (congrArg Value.pointer hq3)) ?_
    refine EvK.pure (v := .pointer (some (q4.add 0))) (w_none rfl) rfl rfl (f_fieldAddr fd59_0 rfl rfl) ?_
    obtain ⟨x4, hx4, hF⟩ := hF
    refine EvK.read (v := Sl.val x4) (w_none rfl) rfl rfl (f_load kL ty56 rfl rfl hx4 rfl) ?_
    refine EvK.pure (v := .int .i64 (x4.len : Int)) (w_none rfl) rfl rfl (f_lenL (s := x4) Try.underlying56 rfl rfl) ?_
    refine EvK.pure (v := .int .i64 0) (w_none rfl) rfl rfl (f_move rfl rfl) ?_
    refine EvK.nil ?_
    refine WP.block ?_
    refine WP.loopF (fun (s4 : Int × Int) => [(3, .int .i64 s4.1), (13, .int .i64 s4.2), (0, .pointer a0), (11, Sl.val x4), (12, .int .i64 (x4.len : Int))]) hF ⟨rfl, rfl, rfl, rfl, rfl, trivial⟩ ?_
    intro k4 s4 E0 h6 hF
    refine WP.seq ?_
    refine WP.region ?_
    refine EvK.pure (v := .bool (decide (s4.2 < (x4.len : Int)))) (w_none rfl) rfl rfl (f_lss rfl rfl rfl) ?_
    refine EvK.nil ?_
    refine WP.seq ?_
    rcases ite_inv hF with ⟨c2, hF⟩ | ⟨c2, hF⟩
    · refine WP.cond_true _ rfl c2 ?_
      refine WP.skip ?_
      refine WP.seq ?_
      refine WP.block ?_
      refine WP.seq ?_
      refine WP.region ?_
      obtain ⟨q5, hq4, hF⟩ := hF
      refine EvK.pure (v := .pointer (some q5)) (w_none rfl) rfl rfl (f_indexAddr (s := x4) Try.underlying56 ty79.size rfl rfl rfl hq4) ?_
      obtain ⟨x5, hx5, hF⟩ := hF
      refine EvK.read (v := k78.val x5) (w_none rfl) rfl rfl (f_load k78 ty79 rfl rfl hx5 rfl) ?_
      refine EvK.alloc (w_none rfl) rfl rfl (f_allocF zero79 rfl rfl hF) ?_
      rintro _ h7 ⟨q6, rfl, hF⟩
      obtain ⟨h8, hs2, hF⟩ := hF
      refine EvK.runN (w_none rfl) rfl (f_store k78 ty79.size (z := x5) rfl rfl rfl hs2) ?_
      rintro _ _ ⟨rfl, rfl⟩
      refine EvK.nil ?_
      refine WP.region ?_
      refine EvK.pure (v := .int .i64 s4.1) (w_none rfl) rfl rfl (f_move rfl rfl) ?_
      refine EvK.pure (v := .pointer (some (q6.add 0))) (w_none rfl) rfl rfl (f_fieldAddr fd79_0 rfl rfl) ?_
      obtain ⟨x6, hx6, hF⟩ := hF
      refine EvK.read (v := Sl.val x6) (w_none rfl) rfl rfl (f_load kL ty45 rfl rfl hx6 rfl) ?_
      refine EvK.pure (v := .int .i64 (x6.len : Int)) (w_none rfl) rfl rfl (f_lenL (s := x6) Try.underlying45 rfl rfl) ?_
      refine EvK.pure (v := .int .i64 (IntKind.i64.wrap (s4.1 + (x6.len : Int)))) (w_none rfl) rfl rfl (f_add rfl rfl rfl) ?_
      refine EvK.pure (v := .int .i64 (IntKind.i64.wrap (s4.1 + (x6.len : Int)))) (w_none rfl) rfl rfl (f_assign rfl rfl) ?_
      refine EvK.nil ?_
      refine WP.region ?_
      refine EvK.pure (v := .int .i64 (IntKind.i64.wrap (s4.2 + 1))) (w_none rfl) rfl rfl (f_add rfl rfl rfl) ?_
      refine EvK.pure (v := .int .i64 (IntKind.i64.wrap (s4.2 + 1))) (w_none rfl) rfl rfl (f_move rfl rfl) ?_
      refine EvK.nil ?_
      exact KE.mk (IntKind.i64.wrap (s4.1 + (x6.len : Int)), IntKind.i64.wrap (s4.2 + 1)) ⟨rfl, rfl, rfl, rfl, rfl, trivial⟩ hF
    · refine WP.cond_false _ rfl c2 ?_
      refine WP.exit ?_
      exact KE.mk s4.1 ⟨rfl, rfl, trivial⟩ hF
end Go.Proofs.Ytanpaamamfabkaa
