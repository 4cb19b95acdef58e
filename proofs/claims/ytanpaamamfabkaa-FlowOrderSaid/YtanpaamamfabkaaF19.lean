/- (*spate/flow.Flow).Empty, as a predicate over the heap, and that the code comes to it. Printed by gen.py. -/
import Derived.Test.YtanpaamamfabkaaTy
namespace Go.Proofs.Ytanpaamamfabkaa
open Go Go.Tr
set_option linter.unusedVariables false
set_option maxRecDepth 100000
set_option maxHeartbeats 400000
def flow_Flow_Empty.b1 (p26 : Sl) (p27 : Int) (s : Int × Int) (h : H) (K : (Int × Int) ⊕ Int → H → Prop) : Prop :=
  if (decide (s.2 < p27)) = true then
    rd (ixA 3 p26 s.2) fun q2 =>
    rd (ld k61 q2 h) fun x2 =>
    al 62 (k61.enc z61) h fun q3 h3 =>
    rd (st k61 q3 x2 h3) fun h4 =>
    rd (ld (kI .i64) (q3.add 2) h4) fun x3 =>
    K (.inl (IntKind.i64.wrap (s.1 + x3), IntKind.i64.wrap (s.2 + 1))) h4
  else
    K (.inr s.1) h
def flow_Flow_Empty.b2 (p0 : Option Addr) (p11 : Sl) (p12 : Int) (s : Int × Int) (h : H) (K : (Int × Int) ⊕ Int → H → Prop) : Prop :=
  if (decide (s.2 < p12)) = true then
    rd (ixA 2 p11 s.2) fun q5 =>
    rd (ld k78 q5 h) fun x5 =>
    al 79 (k78.enc z78) h fun q6 h6 =>
    rd (st k78 q6 x5 h6) fun h7 =>
    rd (ld kL (q6.add 0) h7) fun x6 =>
    K (.inl (IntKind.i64.wrap (s.1 + (x6.len : Int)), IntKind.i64.wrap (s.2 + 1))) h7
  else
    K (.inr s.1) h
/-- (*spate/flow.Flow).Empty -/
def flow_Flow_Empty (a0 : Option Addr) (h : H) (Q : Bool → H → Prop) : Prop :=
  jn (fun (k1 : Int → H → Prop) =>
    rd a0 fun q4 =>
    rd (ld kL (q4.add 0) h) fun x4 =>
    loopE (flow_Flow_Empty.b2 a0 x4 (x4.len : Int)) (0, 0) h (fun r2 hh => k1 r2 hh)) fun s1 h1 =>
  jn (fun (k2 : Int → H → Prop) =>
    rd a0 fun q1 =>
    rd (ld kL (q1.add 1) h1) fun x1 =>
    loopE (flow_Flow_Empty.b1 x1 (x1.len : Int)) (s1, 0) h1 (fun r1 hh => k2 r1 hh)) fun s2 h2 =>
  Q (s2 == 0) h2
theorem flow_Flow_Empty.sound {a0 : Option Addr} {h : H} {Q : Bool → H → Prop} (hF : flow_Flow_Empty a0 h Q) :
    CallsH Try.prog 19 (List.toArray (α := Value) [.pointer a0]) h fun v h' => ∃ x : Bool, v = .bool x ∧ Q x h' := by
  refine CallsH.of_body Try.func19 rfl 39 rfl rfl ?_
  refine WP.seq ?_
  refine WP.region ?_
  refine EvK.pure (v := .bool false) (w_none rfl) rfl rfl (f_assign rfl rfl) ?_
  refine EvK.nil ?_
  refine WP.seq ?_
  refine WP.region ?_
  refine EvK.pure (v := .int .i64 0) (w_none rfl) rfl rfl (f_assign rfl rfl) ?_
  refine EvK.nil ?_
  refine WP.joinF (fun (s1 : Int) => [(3, .int .i64 s1), (0, .pointer a0)]) hF ?_ ?_
  · intro s1 E0 h1 hF
    refine WP.joinF (fun (s2 : Int) => [(3, .int .i64 s2)]) hF ?_ ?_
    · intro s2 E0 h2 hF
      refine WP.seq ?_
      refine WP.region ?_
      refine EvK.pure (v := .int .i64 s2) (w_none rfl) rfl rfl (f_move rfl rfl) ?_
      refine EvK.pure (v := .bool (s2 == 0)) (w_none rfl) rfl rfl (f_eql rfl rfl rfl) ?_
      refine EvK.pure (v := .bool (s2 == 0)) (w_none rfl) rfl rfl (f_assign rfl rfl) ?_
      refine EvK.nil ?_
      refine WP.ret ?_
      exact Ret.mk (vs := [.bool (s2 == 0)]) (s2 == 0) ⟨rfl, trivial⟩ rfl hF
    · intro k2 hF
      refine WP.seq ?_
      refine WP.region ?_
      refine EvK.pure (v := .pointer a0) (w_none rfl) rfl rfl (f_move rfl rfl) ?_
      obtain ⟨q1, hq1, hF⟩ := hF
      refine EvK.pure (v := .pointer (some q1)) (w_none rfl) rfl rfl (f_nilCheck rfl (congrArg Value.pointer hq1)) ?_
      refine EvK.pure (v := .pointer (some (q1.add 1))) (w_none rfl) rfl rfl (f_fieldAddr fd59_1 rfl rfl) ?_
      obtain ⟨x1, hx1, hF⟩ := hF
      refine EvK.read (v := Sl.val x1) (w_none rfl) rfl rfl (f_load kL ty57 rfl rfl hx1 rfl) ?_
      refine EvK.pure (v := .int .i64 (x1.len : Int)) (w_none rfl) rfl rfl (f_lenL (s := x1) Try.underlying57 rfl rfl) ?_
      refine EvK.pure (v := .int .i64 0) (w_none rfl) rfl rfl (f_move rfl rfl) ?_
      refine EvK.nil ?_
      refine WP.block ?_
      refine WP.loopF (fun (s3 : Int × Int) => [(3, .int .i64 s3.1), (28, .int .i64 s3.2), (26, Sl.val x1), (27, .int .i64 (x1.len : Int))]) hF ⟨rfl, rfl, rfl, rfl, trivial⟩ ?_
      intro k3 s3 E0 h3 hF
      refine WP.seq ?_
      refine WP.region ?_
      refine EvK.pure (v := .bool (decide (s3.2 < (x1.len : Int)))) (w_none rfl) rfl rfl (f_lss rfl rfl rfl) ?_
      refine EvK.nil ?_
      refine WP.seq ?_
      rcases ite_inv hF with ⟨c1, hF⟩ | ⟨c1, hF⟩
      · refine WP.cond_true _ rfl c1 ?_
        refine WP.skip ?_
        refine WP.seq ?_
        refine WP.block ?_
        refine WP.seq ?_
        refine WP.region ?_
        obtain ⟨q2, hq2, hF⟩ := hF
        refine EvK.pure (v := .pointer (some q2)) (w_none rfl) rfl rfl (f_indexAddr (s := x1) Try.underlying57 ty62.size rfl rfl rfl hq2) ?_
        obtain ⟨x2, hx2, hF⟩ := hF
        refine EvK.read (v := k61.val x2) (w_none rfl) rfl rfl (f_load k61 ty62 rfl rfl hx2 rfl) ?_
        refine EvK.alloc (w_none rfl) rfl rfl (f_allocF zero62 rfl rfl hF) ?_
        rintro _ h4 ⟨q3, rfl, hF⟩
        obtain ⟨h5, hs1, hF⟩ := hF
        refine EvK.runN (w_none rfl) rfl (f_store k61 ty62.size (z := x2) rfl rfl rfl hs1) ?_
        rintro _ _ ⟨rfl, rfl⟩
        refine EvK.nil ?_
        refine WP.region ?_
        refine EvK.pure (v := .int .i64 s3.1) (w_none rfl) rfl rfl (f_move rfl rfl) ?_
        refine EvK.pure (v := .pointer (some (q3.add 2))) (w_none rfl) rfl rfl (f_fieldAddr fd62_2 rfl rfl) ?_
        obtain ⟨x3, hx3, hF⟩ := hF
        refine EvK.read (v := .int .i64 x3) (w_none rfl) rfl rfl (f_load (kI .i64) ty3 rfl rfl hx3 rfl) ?_
        refine EvK.pure (v := .int .i64 (IntKind.i64.wrap (s3.1 + x3))) (w_none rfl) rfl rfl (f_add rfl rfl rfl) ?_
        refine EvK.pure (v := .int .i64 (IntKind.i64.wrap (s3.1 + x3))) (w_none rfl) rfl rfl (f_assign rfl rfl) ?_
        refine EvK.nil ?_
        refine WP.region ?_
        refine EvK.pure (v := .int .i64 (IntKind.i64.wrap (s3.2 + 1))) (w_none rfl) rfl rfl (f_add rfl rfl rfl) ?_
        refine EvK.pure (v := .int .i64 (IntKind.i64.wrap (s3.2 + 1))) (w_none rfl) rfl rfl (f_move rfl rfl) ?_
        refine EvK.nil ?_
        exact KE.mk (IntKind.i64.wrap (s3.1 + x3), IntKind.i64.wrap (s3.2 + 1)) ⟨rfl, rfl, rfl, rfl, trivial⟩ hF
      · refine WP.cond_false _ rfl c1 ?_
        refine WP.exit ?_
        exact KE.mk s3.1 ⟨rfl, trivial⟩ hF
  · intro k1 hF
    refine WP.seq ?_
    refine WP.region ?_
    refine EvK.pure (v := .pointer a0) (w_none rfl) rfl rfl (f_move rfl rfl) ?_
    obtain ⟨q4, hq3, hF⟩ := hF
    refine EvK.pure (v := .pointer (some q4)) (w_none rfl) rfl rfl (f_nilCheck rfl (congrArg Value.pointer hq3)) ?_
    refine EvK.pure (v := .pointer (some (q4.add 0))) (w_none rfl) rfl rfl (f_fieldAddr fd59_0 rfl rfl) ?_
    obtain ⟨x4, hx4, hF⟩ := hF
    refine EvK.read (v := Sl.val x4) (w_none rfl) rfl rfl (f_load kL ty56 rfl rfl hx4 rfl) ?_
    refine EvK.pure (v := .int .i64 (x4.len : Int)) (w_none rfl) rfl rfl (f_lenL (s := x4) Try.underlying56 rfl rfl) ?_
    refine EvK.pure (v := .int .i64 0) (w_none rfl) rfl rfl (f_move rfl rfl) ?_
    refine EvK.nil ?_
    refine WP.block ?_
    refine WP.loopF (fun (s4 : Int × Int) => [(3, .int .i64 s4.1), (13, .int .i64 s4.2), (0, .pointer a0), (11, Sl.val x4), (12, .int .i64 (x4.len : Int))]) hF ⟨rfl, rfl, rfl, rfl, rfl, trivial⟩ ?_
    intro k4 s4 E0 h6 hF
    refine WP.seq ?_
    refine WP.region ?_
    refine EvK.pure (v := .bool (decide (s4.2 < (x4.len : Int)))) (w_none rfl) rfl rfl (f_lss rfl rfl rfl) ?_
    refine EvK.nil ?_
    refine WP.seq ?_
    rcases ite_inv hF with ⟨c2, hF⟩ | ⟨c2, hF⟩
    · refine WP.cond_true _ rfl c2 ?_
      refine WP.skip ?_
      refine WP.seq ?_
      refine WP.block ?_
      refine WP.seq ?_
      refine WP.region ?_
      obtain ⟨q5, hq4, hF⟩ := hF
      refine EvK.pure (v := .pointer (some q5)) (w_none rfl) rfl rfl (f_indexAddr (s := x4) Try.underlying56 ty79.size rfl rfl rfl hq4) ?_
      obtain ⟨x5, hx5, hF⟩ := hF
      refine EvK.read (v := k78.val x5) (w_none rfl) rfl rfl (f_load k78 ty79 rfl rfl hx5 rfl) ?_
      refine EvK.alloc (w_none rfl) rfl rfl (f_allocF zero79 rfl rfl hF) ?_
      rintro _ h7 ⟨q6, rfl, hF⟩
      obtain ⟨h8, hs2, hF⟩ := hF
      refine EvK.runN (w_none rfl) rfl (f_store k78 ty79.size (z := x5) rfl rfl rfl hs2) ?_
      rintro _ _ ⟨rfl, rfl⟩
      refine EvK.nil ?_
      refine WP.region ?_
      refine EvK.pure (v := .int .i64 s4.1) (w_none rfl) rfl rfl (f_move rfl rfl) ?_
      refine EvK.pure (v := .pointer (some (q6.add 0))) (w_none rfl) rfl rfl (f_fieldAddr fd79_0 rfl rfl) ?_
      obtain ⟨x6, hx6, hF⟩ := hF
      refine EvK.read (v := Sl.val x6) (w_none rfl) rfl rfl (f_load kL ty45 rfl rfl hx6 rfl) ?_
      refine EvK.pure (v := .int .i64 (x6.len : Int)) (w_none rfl) rfl rfl (f_lenL (s := x6) Try.underlying45 rfl rfl) ?_
      refine EvK.pure (v := .int .i64 (IntKind.i64.wrap (s4.1 + (x6.len : Int)))) (w_none rfl) rfl rfl (f_add rfl rfl rfl) ?_
      refine EvK.pure (v := .int .i64 (IntKind.i64.wrap (s4.1 + (x6.len : Int)))) (w_none rfl) rfl rfl (f_assign rfl rfl) ?_
      refine EvK.nil ?_
      refine WP.region ?_
      refine EvK.pure (v := .int .i64 (IntKind.i64.wrap (s4.2 + 1))) (w_none rfl) rfl rfl (f_add rfl rfl rfl) ?_
      refine EvK.pure (v := .int .i64 (IntKind.i64.wrap (s4.2 + 1))) (w_none rfl) rfl rfl (f_move rfl rfl) ?_
      refine EvK.nil ?_
      exact KE.mk (IntKind.i64.wrap (s4.1 + (x6.len : Int)), IntKind.i64.wrap (s4.2 + 1)) ⟨rfl, rfl, rfl, rfl, rfl, trivial⟩ hF
    · refine WP.cond_false _ rfl c2 ?_
      refine WP.exit ?_
      exact KE.mk s4.1 ⟨rfl, rfl, trivial⟩ hF
end Go.Proofs.Ytanpaamamfabkaa
