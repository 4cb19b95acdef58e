/- (*spate/flow.Flow).Take, as a predicate over the heap, and that the code comes to it. Printed by gen.py. -/
import Derived.Test.YtanpaamamfabkaaTy
import Derived.Test.YtanpaamamfabkaaF36
namespace Go.Proofs.Ytanpaamamfabkaa
open Go Go.Tr
set_option linter.unusedVariables false
set_option maxRecDepth 100000
set_option maxHeartbeats 400000
/-- (*spate/flow.Flow).Take -/
def flow_Flow_Take (a0 : Option Addr) (a1 : Int) (h : H) (Q : (Int × S32 × Int) → H → Prop) : Prop :=
  al 33 (k32.enc z32) h fun q1 h1 =>
  jn (fun (k1 : Bool → H → Prop) =>
    if (decide (a1 < 0)) = true then
      k1 true h1
    else
      rd a0 fun q7 =>
      rd (ld kL (q7.add 1) h1) fun x9 =>
      k1 (decide (a1 ≥ (x9.len : Int))) h1) fun s1 h2 =>
  if s1 = true then
    rd (st k32 q1 (S32.mk false ⟨#[]⟩ 0 0) h2) fun h3 =>
    rd (ld k32 q1 h3) fun x1 =>
    Q (0, x1, 1) h3
  else
    rd a0 fun q2 =>
    rd (ld kL (q2.add 1) h2) fun x2 =>
    rd (ixA 3 x2 a1) fun q3 =>
    rd (ld (kI .i64) (q3.add 2) h2) fun x3 =>
    if (x3 == 0) = true then
      rd (st k32 q1 (S32.mk false ⟨#[]⟩ 0 0) h2) fun h4 =>
      rd (ld k32 q1 h4) fun x4 =>
      Q (0, x4, 44) h4
    else
      rd a0 fun q4 =>
      rd (ld kL (q4.add 1) h2) fun x5 =>
      rd (ixA 3 x5 a1) fun q5 =>
      flow_box_take (some q5) h2 fun r1 h5 =>
      al 83 (k82.enc z82) h5 fun q6 h6 =>
      rd (st k82 q6 r1 h6) fun h7 =>
      rd (ld (kI .i64) (q6.add 0) h7) fun x6 =>
      rd (ld k32 (q6.add 1) h7) fun x7 =>
      rd (st k32 q1 x7 h7) fun h8 =>
      rd (ld k32 q1 h8) fun x8 =>
      Q (x6, x8, 0) h8
theorem flow_Flow_Take.sound {a0 : Option Addr} {a1 : Int} {h : H} {Q : (Int × S32 × Int) → H → Prop} (hF : flow_Flow_Take a0 a1 h Q) :
    CallsH Try.prog 18 (List.toArray (α := Value) [.pointer a0, .int .i64 a1]) h fun v h' => ∃ x : Int × S32 × Int, v = .tuple #[.int .i64 x.1, k32.val x.2.1, .int .i64 x.2.2] ∧ Q x h' := by
  refine CallsH.of_body Try.func18 rfl 41 rfl rfl ?_
  refine WP.seq ?_
  refine WP.region ?_
  refine EvK.pure (v := .int .i64 0) (w_none rfl) rfl rfl (f_assign rfl rfl) ?_
  refine EvK.alloc (w_none rfl) rfl rfl (f_allocF zero33 rfl rfl hF) ?_
  rintro _ h1 ⟨q1, rfl, hF⟩
  refine EvK.pure (v := .int .i64 0) (w_none rfl) rfl rfl (f_assign rfl rfl) ?_
  refine EvK.nil ?_
  refine WP.seq ?_
  refine WP.joinF (fun (s1 : Bool) => [(18, .bool s1), (0, .pointer a0), (1, .int .i64 a1), (5, .pointer (some q1))]) hF ?_ ?_
  · intro s1 E0 h2 hF
    rcases ite_inv hF with ⟨c1, hF⟩ | ⟨c1, hF⟩
    · refine WP.cond_true _ rfl c1 ?_
      refine WP.seq ?_
      refine WP.region ?_
      refine EvK.pure (v := k32.val (S32.mk false ⟨#[]⟩ 0 0)) (w_none rfl) rfl rfl (f_build (cells := k32.enc (S32.mk false ⟨#[]⟩ 0 0)) st33 rfl rfl rfl) ?_
      refine EvK.pure (v := .int .i64 0) (w_none rfl) rfl rfl (f_assign rfl rfl) ?_
      obtain ⟨h3, hs1, hF⟩ := hF
      refine EvK.runN (w_none rfl) rfl (f_store k32 ty33.size (z := (S32.mk false ⟨#[]⟩ 0 0)) rfl rfl rfl hs1) ?_
      rintro _ _ ⟨rfl, rfl⟩
      refine EvK.pure (v := .int .i64 1) (w_none rfl) rfl rfl (f_assign rfl rfl) ?_
      refine EvK.nil ?_
      refine WP.ret ?_
      obtain ⟨x1, hx1, hF⟩ := hF
      exact Ret.mk (vs := [.int .i64 0, k32.val x1, .int .i64 1]) (0, x1, 1) ⟨rfl, ⟨_, rfl, fun c d => run_loadVar k32 ty33 hx1 c d⟩, rfl, trivial⟩ rfl hF
    · refine WP.cond_false _ rfl c1 ?_
      refine WP.skip ?_
      refine WP.seq ?_
      refine WP.seq ?_
      refine WP.region ?_
      refine EvK.pure (v := .pointer a0) (w_none rfl) rfl rfl (f_move rfl rfl) ?_
      obtain ⟨q2, hq1, hF⟩ := hF
      refine EvK.pure (v := .pointer (some q2)) (w_none rfl) rfl rfl (f_nilCheck rfl (congrArg Value.pointer hq1)) ?_
      refine EvK.pure (v := .pointer (some (q2.add 1))) (w_none rfl) rfl rfl (f_fieldAddr fd59_1 rfl rfl) ?_
      obtain ⟨x2, hx2, hF⟩ := hF
      refine EvK.read (v := Sl.val x2) (w_none rfl) rfl rfl (f_load kL ty57 rfl rfl hx2 rfl) ?_
      refine EvK.pure (v := .int .i64 a1) (w_none rfl) rfl rfl (f_move rfl rfl) ?_
      obtain ⟨q3, hq2, hF⟩ := hF
      refine EvK.pure (v := .pointer (some q3)) (w_none rfl) rfl rfl (f_indexAddr (s := x2) Try.underlying57 ty62.size rfl rfl rfl hq2) ?_
      refine EvK.pure (v := .pointer (some (q3.add 2))) (w_none rfl) rfl rfl (f_fieldAddr fd62_2 rfl rfl) ?_
      obtain ⟨x3, hx3, hF⟩ := hF
      refine EvK.read (v := .int .i64 x3) (w_none rfl) rfl rfl (f_load (kI .i64) ty3 rfl rfl hx3 rfl) ?_
      refine EvK.pure (v := .bool (x3 == 0)) (w_none rfl) rfl rfl (f_eql rfl rfl rfl) ?_
      refine EvK.nil ?_
      rcases ite_inv hF with ⟨c2, hF⟩ | ⟨c2, hF⟩
      · refine WP.cond_true _ rfl c2 ?_
        refine WP.seq ?_
        refine WP.region ?_
        refine EvK.pure (v := k32.val (S32.mk false ⟨#[]⟩ 0 0)) (w_none rfl) rfl rfl (f_build (cells := k32.enc (S32.mk false ⟨#[]⟩ 0 0)) st33 rfl rfl rfl) ?_
        refine EvK.pure (v := .int .i64 0) (w_none rfl) rfl rfl (f_assign rfl rfl) ?_
        obtain ⟨h4, hs2, hF⟩ := hF
        refine EvK.runN (w_none rfl) rfl (f_store k32 ty33.size (z := (S32.mk false ⟨#[]⟩ 0 0)) rfl rfl rfl hs2) ?_
        rintro _ _ ⟨rfl, rfl⟩
        refine EvK.pure (v := .int .i64 44) (w_none rfl) rfl rfl (f_assign rfl rfl) ?_
        refine EvK.nil ?_
        refine WP.ret ?_
        obtain ⟨x4, hx4, hF⟩ := hF
        exact Ret.mk (vs := [.int .i64 0, k32.val x4, .int .i64 44]) (0, x4, 44) ⟨rfl, ⟨_, rfl, fun c d => run_loadVar k32 ty33 hx4 c d⟩, rfl, trivial⟩ rfl hF
      · refine WP.cond_false _ rfl c2 ?_
        refine WP.skip ?_
        refine WP.seq ?_
        refine WP.region ?_
        refine EvK.pure (v := .pointer a0) (w_none rfl) rfl rfl (f_move rfl rfl) ?_
        obtain ⟨q4, hq3, hF⟩ := hF
        refine EvK.pure (v := .pointer (some q4)) (w_none rfl) rfl rfl (f_nilCheck rfl (congrArg Value.pointer hq3)) ?_
        refine EvK.pure (v := .pointer (some (q4.add 1))) (w_none rfl) rfl rfl (f_fieldAddr fd59_1 rfl rfl) ?_
        obtain ⟨x5, hx5, hF⟩ := hF
        refine EvK.read (v := Sl.val x5) (w_none rfl) rfl rfl (f_load kL ty57 rfl rfl hx5 rfl) ?_
        refine EvK.pure (v := .int .i64 a1) (w_none rfl) rfl rfl (f_move rfl rfl) ?_
        obtain ⟨q5, hq4, hF⟩ := hF
        refine EvK.pure (v := .pointer (some q5)) (w_none rfl) rfl rfl (f_indexAddr (s := x5) Try.underlying57 ty62.size rfl rfl rfl hq4) ?_
        refine EvK.call (w_none rfl) rfl rfl (enterH Try.func36 rfl rfl rfl rfl (flow_box_take.sound hF)) ?_
        rintro _ h5 ⟨r1, rfl, hF⟩
        refine EvK.alloc (w_none rfl) rfl rfl (f_allocF zero83 rfl rfl hF) ?_
        rintro _ h6 ⟨q6, rfl, hF⟩
        obtain ⟨h7, hs3, hF⟩ := hF
        refine EvK.runN (w_none rfl) rfl (f_store k82 ty83.size (z := r1) rfl rfl rfl hs3) ?_
        rintro _ _ ⟨rfl, rfl⟩
        refine EvK.nil ?_
        refine WP.seq ?_
        refine WP.draw mixed [.pure, .read, .pure, .read, .pure, .eff [], .pure] [[], [0], [], [2], [0, 1], [0, 1, 2, 3, 4], [0, 1, 2, 3, 4, 5]] [0, 1, 2, 3, 4, 5, 6] (by kernel_rfl) (by kernel_rfl) ?_
        refine EvI.pure (v := .pointer (some (q6.add 0))) rfl rfl (w_none rfl) rfl (f_fieldAddr fd83_0 rfl rfl) ?_
        obtain ⟨x6, hx6, hF⟩ := hF
        refine EvI.read (v := .int .i64 x6) rfl rfl (w_none rfl) rfl (f_load (kI .i64) ty3 rfl rfl hx6 rfl) ?_
        refine EvI.pure (v := .pointer (some (q6.add 1))) rfl rfl (w_none rfl) rfl (f_fieldAddr fd83_1 rfl rfl) ?_
        obtain ⟨x7, hx7, hF⟩ := hF
        refine EvI.read (v := k32.val x7) rfl rfl (w_none rfl) rfl (f_load k32 ty33 rfl rfl hx7 rfl) ?_
        refine EvI.pure (v := .int .i64 x6) rfl rfl (w_none rfl) rfl (f_assign rfl rfl) ?_
        obtain ⟨h8, hs4, hF⟩ := hF
        refine EvI.runN rfl rfl (w_none rfl) rfl (f_store k32 ty33.size (z := x7) rfl rfl rfl hs4) ?_
        rintro _ _ ⟨rfl, rfl⟩
        refine ⟨⟨chk_no rfl, chk_no rfl, trivial⟩, ?_⟩
        refine EvI.pure (v := .int .i64 0) rfl rfl (w_none rfl) rfl (f_assign rfl rfl) ?_
        refine EvI.nil ?_
        refine WP.ret ?_
        obtain ⟨x8, hx8, hF⟩ := hF
        exact Ret.mk (vs := [.int .i64 x6, k32.val x8, .int .i64 0]) (x6, x8, 0) ⟨rfl, ⟨_, rfl, fun c d => run_loadVar k32 ty33 hx8 c d⟩, rfl, trivial⟩ rfl hF
  · intro k1 hF
    refine WP.region ?_
    refine EvK.pure (v := .int .i64 a1) (w_none rfl) rfl rfl (f_move rfl rfl) ?_
    refine EvK.pure (v := .bool (decide (a1 < 0))) (w_none rfl) rfl rfl (f_lss rfl rfl rfl) ?_
    refine EvK.pure (v := .bool (decide (a1 < 0))) (w_none rfl) rfl rfl (f_move rfl rfl) ?_
    rcases ite_inv hF with ⟨c3, hF⟩ | ⟨c3, hF⟩
    · refine EvK.not (w_not rfl rfl c3) rfl rfl ?_
      refine EvK.not (w_not rfl rfl c3) rfl rfl ?_
      refine EvK.not (w_not rfl rfl c3) rfl rfl ?_
      refine EvK.not (w_not rfl rfl c3) rfl rfl ?_
      refine EvK.not (w_not rfl rfl c3) rfl rfl ?_
      refine EvK.not (w_not rfl rfl c3) rfl rfl ?_
      refine EvK.not (w_not rfl rfl c3) rfl rfl ?_
      refine EvK.pure (v := .bool true) (w_none rfl) rfl rfl (f_pickT rfl rfl c3 rfl) ?_
      refine EvK.nil ?_
      exact KE.mk true ⟨rfl, rfl, rfl, rfl, trivial⟩ hF
    · refine EvK.pure (v := .int .i64 a1) (w_some rfl rfl c3) rfl rfl (f_move rfl rfl) ?_
      refine EvK.pure (v := .pointer a0) (w_some rfl rfl c3) rfl rfl (f_move rfl rfl) ?_
      obtain ⟨q7, hq5, hF⟩ := hF
      refine EvK.pure (v := .pointer (some q7)) (w_some rfl rfl c3) rfl rfl (f_nilCheck rfl (congrArg Value.pointer hq5)) ?_
      refine EvK.pure (v := .pointer (some (q7.add 1))) (w_some rfl rfl c3) rfl rfl (f_fieldAddr fd59_1 rfl rfl) ?_
      obtain ⟨x9, hx9, hF⟩ := hF
      refine EvK.read (v := Sl.val x9) (w_some rfl rfl c3) rfl rfl (f_load kL ty57 rfl rfl hx9 rfl) ?_
      refine EvK.pure (v := .int .i64 (x9.len : Int)) (w_some rfl rfl c3) rfl rfl (f_lenL (s := x9) Try.underlying57 rfl rfl) ?_
      refine EvK.pure (v := .bool (decide (a1 ≥ (x9.len : Int)))) (w_some rfl rfl c3) rfl rfl (f_geq rfl rfl rfl) ?_
      refine EvK.pure (v := .bool (decide (a1 ≥ (x9.len : Int)))) (w_none rfl) rfl rfl (f_pickF rfl rfl c3 rfl) ?_
      refine EvK.nil ?_
      exact KE.mk (decide (a1 ≥ (x9.len : Int))) ⟨rfl, rfl, rfl, rfl, trivial⟩ hF
end Go.Proofs.Ytanpaamamfabkaa
