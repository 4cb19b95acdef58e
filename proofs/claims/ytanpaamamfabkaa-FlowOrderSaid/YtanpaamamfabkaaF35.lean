/- (*spate/flow.queue).shift, as a predicate over the heap, and that the code comes to it. Printed by gen.py. -/
import Derived.Test.YtanpaamamfabkaaTy
namespace Go.Proofs.Ytanpaamamfabkaa
open Go Go.Tr
set_option linter.unusedVariables false
set_option maxRecDepth 100000
set_option maxHeartbeats 400000
/-- (*spate/flow.queue).shift -/
def flow_queue_shift (a0 : Option Addr) (h : H) (Q : Unit → H → Prop) : Prop :=
  rd a0 fun q1 =>
  rd (ld kL (q1.add 0) h) fun x1 =>
  rd (ixA 4 x1 0) fun q2 =>
  rd (st k32 q2 (S32.mk false ⟨#[]⟩ 0 0) h) fun h1 =>
  rd a0 fun q3 =>
  rd (ld kL (q3.add 0) h1) fun x2 =>
  rd (slx 4 x2 (some 1) none none) fun x3 =>
  rd a0 fun q4 =>
  rd (st kL (q4.add 0) x3 h1) fun h2 =>
  rd a0 fun q5 =>
  rd (st (kI .i64) (q5.add 1) 0 h2) fun h3 =>
  rd a0 fun q6 =>
  rd (ld kL (q6.add 0) h3) fun x4 =>
  rd a0 fun q7 =>
  rd (ld kL (q7.add 0) h3) fun x5 =>
  rd (quoI .i64 (x5.cap : Int) 4) fun x6 =>
  if (decide ((x4.len : Int) < x6)) = true then
    rd a0 fun q8 =>
    rd (ld kL (q8.add 0) h3) fun x7 =>
    mk k32.n 40 33 (k32.enc z32) (x7.len : Int) (x7.len : Int) h3 fun x8 h4 =>
    rd a0 fun q9 =>
    rd (ld kL (q9.add 0) h4) fun x9 =>
    rd (cpy 4 x8 x9 h4) fun h5 =>
    rd a0 fun q10 =>
    rd (st kL (q10.add 0) x8 h5) fun h6 =>
    Q () h6
  else
    Q () h3
theorem flow_queue_shift.sound {a0 : Option Addr} {h : H} {Q : Unit → H → Prop} (hF : flow_queue_shift a0 h Q) :
    CallsH Try.prog 35 (List.toArray (α := Value) [.pointer a0]) h fun v h' => ∃ x : Unit, v = .tuple #[] ∧ Q x h' := by
  refine CallsH.of_body Try.func35 rfl 48 rfl rfl ?_
  refine WP.seq ?_
  refine WP.region ?_
  refine EvK.pure (v := .pointer a0) (w_none rfl) rfl rfl (f_move rfl rfl) ?_
  obtain ⟨q1, hq1, hF⟩ := hF
  refine EvK.pure (v := .pointer (some q1)) (w_none rfl) rfl rfl (f_nilCheck rfl (congrArg Value.pointer hq1)) ?_
  refine EvK.pure (v := .pointer (some (q1.add 0))) (w_none rfl) rfl rfl (f_fieldAddr fd79_0 rfl rfl) ?_
  obtain ⟨x1, hx1, hF⟩ := hF
  refine EvK.read (v := Sl.val x1) (w_none rfl) rfl rfl (f_load kL ty45 rfl rfl hx1 rfl) ?_
  refine EvK.pure (v := k32.val (S32.mk false ⟨#[]⟩ 0 0)) (w_none rfl) rfl rfl (f_build (cells := k32.enc (S32.mk false ⟨#[]⟩ 0 0)) st33 rfl rfl rfl) ?_
  obtain ⟨q2, hq2, hF⟩ := hF
  refine EvK.pure (v := .pointer (some q2)) (w_none rfl) rfl rfl (f_indexAddr (s := x1) Try.underlying45 ty33.size rfl rfl rfl hq2) ?_
  obtain ⟨h1, hs1, hF⟩ := hF
  refine EvK.runN (w_none rfl) rfl (f_store k32 ty33.size (z := (S32.mk false ⟨#[]⟩ 0 0)) rfl rfl rfl hs1) ?_
  rintro _ _ ⟨rfl, rfl⟩
  refine EvK.nil ?_
  refine WP.seq ?_
  refine WP.region ?_
  refine EvK.pure (v := .pointer a0) (w_none rfl) rfl rfl (f_move rfl rfl) ?_
  refine EvK.pure (v := .pointer a0) (w_none rfl) rfl rfl (f_move rfl rfl) ?_
  refine EvK.pure (v := .pointer a0) (w_none rfl) rfl rfl (f_move rfl rfl) ?_
  obtain ⟨q3, hq3, hF⟩ := hF
  refine EvK.pure (v := .pointer (some q3)) (w_none rfl) rfl rfl (f_nilCheck rfl (congrArg Value.pointer hq3)) ?_
  refine EvK.pure (v := .pointer (some (q3.add 0))) (w_none rfl) rfl rfl (f_fieldAddr fd79_0 rfl rfl) ?_
  obtain ⟨x2, hx2, hF⟩ := hF
  refine EvK.read (v := Sl.val x2) (w_none rfl) rfl rfl (f_load kL ty45 rfl rfl hx2 rfl) ?_
  obtain ⟨x3, hx3, hF⟩ := hF
  refine EvK.pure (v := Sl.val x3) (w_none rfl) rfl rfl (f_slice Try.underlying45 ty33.size rfl rfl (bndV_some rfl) bndV_none bndV_none hx3) ?_
  obtain ⟨q4, hq4, hF⟩ := hF
  refine EvK.pure (v := .pointer (some q4)) (w_none rfl) rfl rfl (f_nilCheck rfl (congrArg Value.pointer hq4)) ?_
  refine EvK.pure (v := .pointer (some (q4.add 0))) (w_none rfl) rfl rfl (f_fieldAddr fd79_0 rfl rfl) ?_
  obtain ⟨h2, hs2, hF⟩ := hF
  refine EvK.runN (w_none rfl) rfl (f_store kL ty45.size (z := x3) rfl rfl rfl hs2) ?_
  rintro _ _ ⟨rfl, rfl⟩
  obtain ⟨q5, hq5, hF⟩ := hF
  refine EvK.pure (v := .pointer (some q5)) (w_none rfl) rfl rfl (f_nilCheck rfl (congrArg Value.pointer hq5)) ?_
  refine EvK.pure (v := .pointer (some (q5.add 1))) (w_none rfl) rfl rfl (f_fieldAddr fd79_1 rfl rfl) ?_
  obtain ⟨h3, hs3, hF⟩ := hF
  refine EvK.runN (w_none rfl) rfl (f_store (kI .i64) ty3.size (z := 0) rfl rfl rfl hs3) ?_
  rintro _ _ ⟨rfl, rfl⟩
  refine EvK.nil ?_
  refine WP.seq ?_
  refine WP.draw mixed [.pure, .pure, .pure, .read, .pure, .pure, .pure, .pure, .read, .pure, .pure, .pure] [[], [0], [0, 1], [0, 1, 2], [0, 1, 2, 3], [], [5], [5, 6], [5, 6, 7], [5, 6, 7, 8], [5, 6, 7, 8, 9], [0, 1, 2, 3, 4, 5, 6, 7, 8, 9, 10]] [0, 1, 2, 3, 4, 5, 6, 7, 8, 9, 10, 11] (by kernel_rfl) (by kernel_rfl) ?_
  refine EvI.pure (v := .pointer a0) rfl rfl (w_none rfl) rfl (f_move rfl rfl) ?_
  obtain ⟨q6, hq6, hF⟩ := hF
  refine EvI.pure (v := .pointer (some q6)) rfl rfl (w_none rfl) rfl (f_nilCheck rfl (congrArg Value.pointer hq6)) ?_
  refine EvI.pure (v := .pointer (some (q6.add 0))) rfl rfl (w_none rfl) rfl (f_fieldAddr fd79_0 rfl rfl) ?_
  obtain ⟨x4, hx4, hF⟩ := hF
  refine EvI.read (v := Sl.val x4) rfl rfl (w_none rfl) rfl (f_load kL ty45 rfl rfl hx4 rfl) ?_
  refine EvI.pure (v := .int .i64 (x4.len : Int)) rfl rfl (w_none rfl) rfl (f_lenL (s := x4) Try.underlying45 rfl rfl) ?_
  refine EvI.pure (v := .pointer a0) rfl rfl (w_none rfl) rfl (f_move rfl rfl) ?_
  obtain ⟨q7, hq7, hF⟩ := hF
  refine EvI.pure (v := .pointer (some q7)) rfl rfl (w_none rfl) rfl (f_nilCheck rfl (congrArg Value.pointer hq7)) ?_
  refine EvI.pure (v := .pointer (some (q7.add 0))) rfl rfl (w_none rfl) rfl (f_fieldAddr fd79_0 rfl rfl) ?_
  obtain ⟨x5, hx5, hF⟩ := hF
  refine EvI.read (v := Sl.val x5) rfl rfl (w_none rfl) rfl (f_load kL ty45 rfl rfl hx5 rfl) ?_
  refine EvI.pure (v := .int .i64 (x5.cap : Int)) rfl rfl (w_none rfl) rfl (f_capL (s := x5) Try.underlying45 rfl rfl) ?_
  obtain ⟨x6, hx6, hF⟩ := hF
  refine EvI.pure (v := .int .i64 x6) rfl rfl (w_none rfl) rfl (f_quo rfl rfl rfl hx6) ?_
  refine EvI.pure (v := .bool (decide ((x4.len : Int) < x6))) rfl rfl (w_none rfl) rfl (f_lss rfl rfl rfl) ?_
  refine EvI.nil ?_
  rcases ite_inv hF with ⟨c1, hF⟩ | ⟨c1, hF⟩
  · refine WP.cond_true _ rfl c1 ?_
    refine WP.seq ?_
    refine WP.region ?_
    refine EvK.pure (v := .pointer a0) (w_none rfl) rfl rfl (f_move rfl rfl) ?_
    obtain ⟨q8, hq8, hF⟩ := hF
    refine EvK.pure (v := .pointer (some q8)) (w_none rfl) rfl rfl (f_nilCheck rfl (congrArg Value.pointer hq8)) ?_
    refine EvK.pure (v := .pointer (some (q8.add 0))) (w_none rfl) rfl rfl (f_fieldAddr fd79_0 rfl rfl) ?_
    obtain ⟨x7, hx7, hF⟩ := hF
    refine EvK.read (v := Sl.val x7) (w_none rfl) rfl rfl (f_load kL ty45 rfl rfl hx7 rfl) ?_
    refine EvK.pure (v := .int .i64 (x7.len : Int)) (w_none rfl) rfl rfl (f_lenL (s := x7) Try.underlying45 rfl rfl) ?_
    refine EvK.alloc (w_none rfl) rfl rfl (f_makeSlice Try.underlying45 el33 rfl rfl rfl hF) ?_
    rintro _ h4 ⟨x8, rfl, hF⟩
    refine EvK.pure (v := Sl.val x8) (w_none rfl) rfl rfl (f_assign rfl rfl) ?_
    refine EvK.nil ?_
    refine WP.seq ?_
    refine WP.region ?_
    refine EvK.pure (v := Sl.val x8) (w_none rfl) rfl rfl (f_move rfl rfl) ?_
    refine EvK.pure (v := .pointer a0) (w_none rfl) rfl rfl (f_move rfl rfl) ?_
    obtain ⟨q9, hq9, hF⟩ := hF
    refine EvK.pure (v := .pointer (some q9)) (w_none rfl) rfl rfl (f_nilCheck rfl (congrArg Value.pointer hq9)) ?_
    refine EvK.pure (v := .pointer (some (q9.add 0))) (w_none rfl) rfl rfl (f_fieldAddr fd79_0 rfl rfl) ?_
    obtain ⟨x9, hx8, hF⟩ := hF
    refine EvK.read (v := Sl.val x9) (w_none rfl) rfl rfl (f_load kL ty45 rfl rfl hx8 rfl) ?_
    obtain ⟨h5, hs4, hF⟩ := hF
    refine EvK.run (w_none rfl) rfl rfl (f_copy (s := x8) (r := x9) Try.underlying45 ty33.size rfl rfl rfl rfl hs4) ?_
    rintro _ _ ⟨rfl, rfl⟩
    refine EvK.nil ?_
    refine WP.region ?_
    refine EvK.pure (v := .pointer a0) (w_none rfl) rfl rfl (f_move rfl rfl) ?_
    refine EvK.pure (v := Sl.val x8) (w_none rfl) rfl rfl (f_move rfl rfl) ?_
    obtain ⟨q10, hq10, hF⟩ := hF
    refine EvK.pure (v := .pointer (some q10)) (w_none rfl) rfl rfl (f_nilCheck rfl (congrArg Value.pointer hq10)) ?_
    refine EvK.pure (v := .pointer (some (q10.add 0))) (w_none rfl) rfl rfl (f_fieldAddr fd79_0 rfl rfl) ?_
    obtain ⟨h6, hs5, hF⟩ := hF
    refine EvK.runN (w_none rfl) rfl (f_store kL ty45.size (z := x8) rfl rfl rfl hs5) ?_
    rintro _ _ ⟨rfl, rfl⟩
    refine EvK.nil ?_
    exact Ret.mk (vs := []) () trivial rfl hF
  · refine WP.cond_false _ rfl c1 ?_
    refine WP.skip ?_
    exact Ret.mk (vs := []) () trivial rfl hF
end Go.Proofs.Ytanpaamamfabkaa
