/- Functions as predicates over the heap, and that the code comes to them. Printed by gen.py, merged by group.py. -/
import Derived.Test.YtbdopnhfbjdegaaG0
import Derived.Test.YtbdopnhfbjdegaaTy
namespace Go.Proofs.Ytbdopnhfbjdegaa
open Go Go.Tr
set_option linter.unusedVariables false
set_option maxRecDepth 100000
set_option maxHeartbeats 400000
/-- (*spate/net.Net).Send -/
def net_Net_Send (a0 : Option Addr) (a1 : Int) (a2 : Sl) (h : H) (Q : Int → H → Prop) : Prop :=
  net_Net_live a0 a1 h fun r1 h1 =>
  if (r1.2 != 0) = true then
    Q r1.2 h1
  else
    rd r1.1 fun q1 =>
    rd (ld kL (((q1.add 0).add 0).add 0) h1) fun x1 =>
    if (decide ((IntKind.i64.wrap ((x1.len : Int) + (a2.len : Int))) > 1048576)) = true then
      Q 2 h1
    else
      rd r1.1 fun q2 =>
      net_buffer_lay (some ((q2.add 0).add 0)) a2 h1 fun r2 h2 =>
      Q 0 h2
theorem net_Net_Send.sound {a0 : Option Addr} {a1 : Int} {a2 : Sl} {h : H} {Q : Int → H → Prop} (hF : net_Net_Send a0 a1 a2 h Q) :
    CallsH Try.prog 9 (List.toArray (α := Value) [.pointer a0, .int .i64 a1, Sl.val a2]) h fun v h' => ∃ x : Int, v = .int .i64 x ∧ Q x h' := by
  refine CallsH.of_body Try.func9 rfl 35 rfl rfl ?_
  refine WP.seq ?_
  refine WP.region ?_
  refine EvK.pure (v := .int .i64 0) (w_none rfl) rfl rfl (f_assign rfl rfl) ?_
  refine EvK.nil ?_
  refine WP.seq ?_
  refine WP.region ?_
  refine EvK.pure (v := .pointer a0) (w_none rfl) rfl rfl (f_move rfl rfl) ?_
  refine EvK.pure (v := .int .i64 a1) (w_none rfl) rfl rfl (f_move rfl rfl) ?_
  refine EvK.call (w_none rfl) rfl rfl (enterH Try.func27 rfl rfl rfl rfl (net_Net_live.sound hF)) ?_
  rintro _ h1 ⟨r1, rfl, hF⟩
  refine EvK.pure (v := .tuple #[.pointer r1.1, .int .i64 r1.2]) (w_none rfl) rfl rfl (f_move rfl rfl) ?_
  refine EvK.pure (v := .pointer r1.1) (w_none rfl) rfl rfl (f_extract (vs := #[.pointer r1.1, .int .i64 r1.2]) rfl rfl rfl) ?_
  refine EvK.pure (v := .int .i64 r1.2) (w_none rfl) rfl rfl (f_extract (vs := #[.pointer r1.1, .int .i64 r1.2]) rfl rfl rfl) ?_
  refine EvK.pure (v := .pointer r1.1) (w_none rfl) rfl rfl (f_assign rfl rfl) ?_
  refine EvK.pure (v := .int .i64 r1.2) (w_none rfl) rfl rfl (f_assign rfl rfl) ?_
  refine EvK.nil ?_
  refine WP.seq ?_
  refine WP.seq ?_
  refine WP.region ?_
  refine EvK.pure (v := .int .i64 r1.2) (w_none rfl) rfl rfl (f_move rfl rfl) ?_
  refine EvK.pure (v := .bool (r1.2 != 0)) (w_none rfl) rfl rfl (f_neq rfl rfl rfl) ?_
  refine EvK.nil ?_
  rcases ite_inv hF with ⟨c1, hF⟩ | ⟨c1, hF⟩
  · refine WP.cond_true _ rfl c1 ?_
    refine WP.seq ?_
    refine WP.region ?_
    refine EvK.pure (v := .int .i64 r1.2) (w_none rfl) rfl rfl (f_move rfl rfl) ?_
    refine EvK.pure (v := .int .i64 r1.2) (w_none rfl) rfl rfl (f_assign rfl rfl) ?_
    refine EvK.nil ?_
    refine WP.ret ?_
    exact Ret.mk (vs := [.int .i64 r1.2]) r1.2 ⟨rfl, trivial⟩ rfl hF
  · refine WP.cond_false _ rfl c1 ?_
    refine WP.skip ?_
    refine WP.seq ?_
    refine WP.seq ?_
    refine WP.region ?_
    refine EvK.pure (v := .pointer r1.1) (w_none rfl) rfl rfl (f_move rfl rfl) ?_
    obtain ⟨q1, hq1, hF⟩ := hF
    refine EvK.pure (v := .pointer (some q1)) (w_none rfl) rfl rfl (f_nilCheck rfl (congrArg Value.pointer hq1)) ?_
    refine EvK.pure (v := .pointer (some (q1.add 0))) (w_none rfl) rfl rfl (f_fieldAddr fd75_0 rfl rfl) ?_
    refine EvK.pure (v := .pointer (some ((q1.add 0).add 0))) (w_none rfl) rfl rfl (f_fieldAddr fd73_0 rfl rfl) ?_
    refine EvK.pure (v := .pointer (some (((q1.add 0).add 0).add 0))) (w_none rfl) rfl rfl (f_fieldAddr fd71_0 rfl rfl) ?_
    obtain ⟨x1, hx1, hF⟩ := hF
    refine EvK.read (v := Sl.val x1) (w_none rfl) rfl rfl (f_load kL ty29 rfl rfl hx1 rfl) ?_
    refine EvK.pure (v := .int .i64 (x1.len : Int)) (w_none rfl) rfl rfl (f_lenL (s := x1) Try.underlying29 rfl rfl) ?_
    refine EvK.pure (v := Sl.val a2) (w_none rfl) rfl rfl (f_move rfl rfl) ?_
    refine EvK.pure (v := .int .i64 (a2.len : Int)) (w_none rfl) rfl rfl (f_lenL (s := a2) Try.underlying29 rfl rfl) ?_
    refine EvK.pure (v := .int .i64 (IntKind.i64.wrap ((x1.len : Int) + (a2.len : Int)))) (w_none rfl) rfl rfl (f_add rfl rfl rfl) ?_
    refine EvK.pure (v := .bool (decide ((IntKind.i64.wrap ((x1.len : Int) + (a2.len : Int))) > 1048576))) (w_none rfl) rfl rfl (f_gtr rfl rfl rfl) ?_
    refine EvK.nil ?_
    rcases ite_inv hF with ⟨c2, hF⟩ | ⟨c2, hF⟩
    · refine WP.cond_true _ rfl c2 ?_
      refine WP.seq ?_
      refine WP.region ?_
      refine EvK.pure (v := .int .i64 2) (w_none rfl) rfl rfl (f_assign rfl rfl) ?_
      refine EvK.nil ?_
      refine WP.ret ?_
      exact Ret.mk (vs := [.int .i64 2]) 2 ⟨rfl, trivial⟩ rfl hF
    · refine WP.cond_false _ rfl c2 ?_
      refine WP.skip ?_
      refine WP.seq ?_
      refine WP.region ?_
      refine EvK.pure (v := .pointer r1.1) (w_none rfl) rfl rfl (f_move rfl rfl) ?_
      obtain ⟨q2, hq2, hF⟩ := hF
      refine EvK.pure (v := .pointer (some q2)) (w_none rfl) rfl rfl (f_nilCheck rfl (congrArg Value.pointer hq2)) ?_
      refine EvK.pure (v := .pointer (some (q2.add 0))) (w_none rfl) rfl rfl (f_fieldAddr fd75_0 rfl rfl) ?_
      refine EvK.pure (v := .pointer (some ((q2.add 0).add 0))) (w_none rfl) rfl rfl (f_fieldAddr fd73_0 rfl rfl) ?_
      refine EvK.pure (v := Sl.val a2) (w_none rfl) rfl rfl (f_move rfl rfl) ?_
      refine EvK.call (w_none rfl) rfl rfl (enterH Try.func28 rfl rfl rfl rfl (net_buffer_lay.sound hF)) ?_
      rintro _ h2 ⟨r2, rfl, hF⟩
      refine EvK.nil ?_
      refine WP.seq ?_
      refine WP.region ?_
      refine EvK.pure (v := .int .i64 0) (w_none rfl) rfl rfl (f_assign rfl rfl) ?_
      refine EvK.nil ?_
      refine WP.ret ?_
      exact Ret.mk (vs := [.int .i64 0]) 0 ⟨rfl, trivial⟩ rfl hF
end Go.Proofs.Ytbdopnhfbjdegaa

namespace Go.Proofs.Ytbdopnhfbjdegaa
open Go Go.Tr
set_option linter.unusedVariables false
set_option maxRecDepth 100000
set_option maxHeartbeats 400000
def spatelaw16_bytes.b1 (p0 : Int) (p1 : Int) (s : Sl × Int) (h : H) (K : (Sl × Int) ⊕ Sl → H → Prop) : Prop :=
  if (decide (s.2 < p1)) = true then
    bs 5 1 ((kI .u8).enc (IntKind.u8.wrap (IntKind.i64.wrap ((IntKind.i64.wrap (p0 * 7)) + (IntKind.i64.wrap (s.2 * s.2)))))) h fun x1 h2 =>
    ap (kI .u8).n 1 5 ((kI .u8).enc 0) s.1 x1 h2 fun x2 h3 =>
    K (.inl (x2, IntKind.i64.wrap (s.2 + 1))) h3
  else
    K (.inr s.1) h
/-- spate/spatelaw16.bytes -/
def spatelaw16_bytes (a0 : Int) (a1 : Int) (h : H) (Q : Sl → H → Prop) : Prop :=
  jn (fun (k1 : Sl → H → Prop) =>
    loopE (spatelaw16_bytes.b1 a0 a1) (Sl.nil, 0) h (fun r1 hh => k1 r1 hh)) fun s1 h1 =>
  Q s1 h1
theorem spatelaw16_bytes.sound {a0 : Int} {a1 : Int} {h : H} {Q : Sl → H → Prop} (hF : spatelaw16_bytes a0 a1 h Q) :
    CallsH Try.prog 10 (List.toArray (α := Value) [.int .i64 a0, .int .i64 a1]) h fun v h' => ∃ x : Sl, v = Sl.val x ∧ Q x h' := by
  refine CallsH.of_body Try.func10 rfl 23 rfl rfl ?_
  refine WP.seq ?_
  refine WP.region ?_
  refine EvK.pure (v := Sl.val Sl.nil) (w_none rfl) rfl rfl (f_assign rfl rfl) ?_
  refine EvK.nil ?_
  refine WP.seq ?_
  refine WP.region ?_
  refine EvK.pure (v := Sl.val Sl.nil) (w_none rfl) rfl rfl (f_assign rfl rfl) ?_
  refine EvK.nil ?_
  refine WP.joinF (fun (s1 : Sl) => [(5, Sl.val s1)]) hF ?_ ?_
  · intro s1 E0 h1 hF
    refine WP.seq ?_
    refine WP.region ?_
    refine EvK.pure (v := Sl.val s1) (w_none rfl) rfl rfl (f_move rfl rfl) ?_
    refine EvK.pure (v := Sl.val s1) (w_none rfl) rfl rfl (f_assign rfl rfl) ?_
    refine EvK.nil ?_
    refine WP.ret ?_
    exact Ret.mk (vs := [Sl.val s1]) s1 ⟨rfl, trivial⟩ rfl hF
  · intro k1 hF
    refine WP.seq ?_
    refine WP.region ?_
    refine EvK.pure (v := .int .i64 0) (w_none rfl) rfl rfl (f_assign rfl rfl) ?_
    refine EvK.nil ?_
    refine WP.block ?_
    refine WP.loopF (fun (s2 : Sl × Int) => [(5, Sl.val s2.1), (6, .int .i64 s2.2), (0, .int .i64 a0), (1, .int .i64 a1)]) hF ⟨rfl, rfl, rfl, rfl, trivial⟩ ?_
    intro k2 s2 E0 h2 hF
    refine WP.seq ?_
    refine WP.seq ?_
    refine WP.region ?_
    refine EvK.pure (v := .int .i64 s2.2) (w_none rfl) rfl rfl (f_move rfl rfl) ?_
    refine EvK.pure (v := .int .i64 a1) (w_none rfl) rfl rfl (f_move rfl rfl) ?_
    refine EvK.pure (v := .bool (decide (s2.2 < a1))) (w_none rfl) rfl rfl (f_lss rfl rfl rfl) ?_
    refine EvK.nil ?_
    rcases ite_inv hF with ⟨c1, hF⟩ | ⟨c1, hF⟩
    · refine WP.cond_true _ rfl c1 ?_
      refine WP.skip ?_
      refine WP.seq ?_
      refine WP.block ?_
      refine WP.region ?_
      refine EvK.pure (v := Sl.val s2.1) (w_none rfl) rfl rfl (f_move rfl rfl) ?_
      refine EvK.pure (v := .int .i64 a0) (w_none rfl) rfl rfl (f_move rfl rfl) ?_
      refine EvK.pure (v := .int .i64 (IntKind.i64.wrap (a0 * 7))) (w_none rfl) rfl rfl (f_mul rfl rfl rfl) ?_
      refine EvK.pure (v := .int .i64 s2.2) (w_none rfl) rfl rfl (f_move rfl rfl) ?_
      refine EvK.pure (v := .int .i64 s2.2) (w_none rfl) rfl rfl (f_move rfl rfl) ?_
      refine EvK.pure (v := .int .i64 (IntKind.i64.wrap (s2.2 * s2.2))) (w_none rfl) rfl rfl (f_mul rfl rfl rfl) ?_
      refine EvK.pure (v := .int .i64 (IntKind.i64.wrap ((IntKind.i64.wrap (a0 * 7)) + (IntKind.i64.wrap (s2.2 * s2.2))))) (w_none rfl) rfl rfl (f_add rfl rfl rfl) ?_
      refine EvK.pure (v := .int .u8 (IntKind.u8.wrap (IntKind.i64.wrap ((IntKind.i64.wrap (a0 * 7)) + (IntKind.i64.wrap (s2.2 * s2.2)))))) (w_none rfl) rfl rfl (f_convI Try.underlying3 Try.underlying5 rfl rfl) ?_
      refine EvK.alloc (w_none rfl) rfl rfl (f_buildSliceF Try.underlying29 el5 (by decide) rfl rfl rfl hF) ?_
      rintro _ h3 ⟨x1, rfl, hF⟩
      refine EvK.run (w_none rfl) rfl rfl (f_appendE (s := s2.1) (x := x1) Try.underlying29 el5 rfl rfl rfl hF) ?_
      rintro _ h4 ⟨x2, rfl, hF⟩
      refine EvK.pure (v := Sl.val x2) (w_none rfl) rfl rfl (f_assign rfl rfl) ?_
      refine EvK.nil ?_
      refine WP.region ?_
      refine EvK.pure (v := .int .i64 s2.2) (w_none rfl) rfl rfl (f_move rfl rfl) ?_
      refine EvK.pure (v := .int .i64 (IntKind.i64.wrap (s2.2 + 1))) (w_none rfl) rfl rfl (f_add rfl rfl rfl) ?_
      refine EvK.pure (v := .int .i64 (IntKind.i64.wrap (s2.2 + 1))) (w_none rfl) rfl rfl (f_assign rfl rfl) ?_
      refine EvK.nil ?_
      exact KE.mk (x2, IntKind.i64.wrap (s2.2 + 1)) ⟨rfl, rfl, rfl, rfl, trivial⟩ hF
    · refine WP.cond_false _ rfl c1 ?_
      refine WP.exit ?_
      exact KE.mk s2.1 ⟨rfl, trivial⟩ hF
end Go.Proofs.Ytbdopnhfbjdegaa

namespace Go.Proofs.Ytbdopnhfbjdegaa
open Go Go.Tr
set_option linter.unusedVariables false
set_option maxRecDepth 100000
set_option maxHeartbeats 400000
/-- slices.Clone[[]byte,byte] -/
def slices_Clone___byte_byte_ (a0 : Sl) (h : H) (Q : Sl → H → Prop) : Prop :=
  if a0.a.isNone = true then
    Q Sl.nil h
  else
    bs 5 0 ([]) h fun x1 h1 =>
    ap (kI .u8).n 1 5 ((kI .u8).enc 0) x1 a0 h1 fun x2 h2 =>
    Q x2 h2
theorem slices_Clone___byte_byte_.sound {a0 : Sl} {h : H} {Q : Sl → H → Prop} (hF : slices_Clone___byte_byte_ a0 h Q) :
    CallsH Try.prog 31 (List.toArray (α := Value) [Sl.val a0]) h fun v h' => ∃ x : Sl, v = Sl.val x ∧ Q x h' := by
  refine CallsH.of_body Try.func31 rfl 8 rfl rfl ?_
  refine WP.seq ?_
  refine WP.region ?_
  refine EvK.pure (v := Sl.val Sl.nil) (w_none rfl) rfl rfl (f_assign rfl rfl) ?_
  refine EvK.nil ?_
  refine WP.seq ?_
  refine WP.seq ?_
  refine WP.region ?_
  refine EvK.pure (v := Sl.val a0) (w_none rfl) rfl rfl (f_move rfl rfl) ?_
  refine EvK.pure (v := .bool a0.a.isNone) (w_none rfl) rfl rfl (f_leqln (s := a0) Try.underlying29 rfl rfl rfl) ?_
  refine EvK.nil ?_
  rcases ite_inv hF with ⟨c1, hF⟩ | ⟨c1, hF⟩
  · refine WP.cond_true _ rfl c1 ?_
    refine WP.seq ?_
    refine WP.region ?_
    refine EvK.pure (v := Sl.val Sl.nil) (w_none rfl) rfl rfl (f_assign rfl rfl) ?_
    refine EvK.nil ?_
    refine WP.ret ?_
    exact Ret.mk (vs := [Sl.val Sl.nil]) Sl.nil ⟨rfl, trivial⟩ rfl hF
  · refine WP.cond_false _ rfl c1 ?_
    refine WP.skip ?_
    refine WP.seq ?_
    refine WP.region ?_
    refine EvK.alloc (w_none rfl) rfl rfl (f_buildSliceF Try.underlying29 el5 (by decide) rfl rfl rfl hF) ?_
    rintro _ h1 ⟨x1, rfl, hF⟩
    refine EvK.pure (v := Sl.val a0) (w_none rfl) rfl rfl (f_move rfl rfl) ?_
    refine EvK.run (w_none rfl) rfl rfl (f_appendE (s := x1) (x := a0) Try.underlying29 el5 rfl rfl rfl hF) ?_
    rintro _ h2 ⟨x2, rfl, hF⟩
    refine EvK.pure (v := Sl.val x2) (w_none rfl) rfl rfl (f_assign rfl rfl) ?_
    refine EvK.nil ?_
    refine WP.ret ?_
    exact Ret.mk (vs := [Sl.val x2]) x2 ⟨rfl, trivial⟩ rfl hF
end Go.Proofs.Ytbdopnhfbjdegaa

namespace Go.Proofs.Ytbdopnhfbjdegaa
open Go Go.Tr
set_option linter.unusedVariables false
set_option maxRecDepth 100000
set_option maxHeartbeats 400000
/-- (*spate/net.buffer).take -/
def net_buffer_take (a0 : Option Addr) (a1 : Int) (h : H) (Q : Sl → H → Prop) : Prop :=
  rd a0 fun q1 =>
  rd (ld kL (q1.add 0) h) fun x1 =>
  rd (slx 1 x1 none (some a1) none) fun x2 =>
  slices_Clone___byte_byte_ x2 h fun r1 h1 =>
  rd a0 fun q2 =>
  rd (ld kL (q2.add 0) h1) fun x3 =>
  rd (slx 1 x3 (some a1) none none) fun x4 =>
  slices_Clone___byte_byte_ x4 h1 fun r2 h2 =>
  rd a0 fun q3 =>
  rd (st kL (q3.add 0) r2 h2) fun h3 =>
  Q r1 h3
theorem net_buffer_take.sound {a0 : Option Addr} {a1 : Int} {h : H} {Q : Sl → H → Prop} (hF : net_buffer_take a0 a1 h Q) :
    CallsH Try.prog 29 (List.toArray (α := Value) [.pointer a0, .int .i64 a1]) h fun v h' => ∃ x : Sl, v = Sl.val x ∧ Q x h' := by
  refine CallsH.of_body Try.func29 rfl 24 rfl rfl ?_
  refine WP.seq ?_
  refine WP.region ?_
  refine EvK.pure (v := Sl.val Sl.nil) (w_none rfl) rfl rfl (f_assign rfl rfl) ?_
  refine EvK.nil ?_
  refine WP.seq ?_
  refine WP.region ?_
  refine EvK.pure (v := .pointer a0) (w_none rfl) rfl rfl (f_move rfl rfl) ?_
  obtain ⟨q1, hq1, hF⟩ := hF
  refine EvK.pure (v := .pointer (some q1)) (w_none rfl) rfl rfl (f_nilCheck rfl (congrArg Value.pointer hq1)) ?_
  refine EvK.pure (v := .pointer (some (q1.add 0))) (w_none rfl) rfl rfl (f_fieldAddr fd71_0 rfl rfl) ?_
  obtain ⟨x1, hx1, hF⟩ := hF
  refine EvK.read (v := Sl.val x1) (w_none rfl) rfl rfl (f_load kL ty29 rfl rfl hx1 rfl) ?_
  refine EvK.pure (v := .int .i64 a1) (w_none rfl) rfl rfl (f_move rfl rfl) ?_
  obtain ⟨x2, hx2, hF⟩ := hF
  refine EvK.pure (v := Sl.val x2) (w_none rfl) rfl rfl (f_slice Try.underlying29 ty5.size rfl rfl bndV_none (bndV_some rfl) bndV_none hx2) ?_
  refine EvK.call (w_none rfl) rfl rfl (enterH Try.func31 rfl rfl rfl rfl (slices_Clone___byte_byte_.sound hF)) ?_
  rintro _ h1 ⟨r1, rfl, hF⟩
  refine EvK.pure (v := Sl.val r1) (w_none rfl) rfl rfl (f_assign rfl rfl) ?_
  refine EvK.nil ?_
  refine WP.seq ?_
  refine WP.region ?_
  refine EvK.pure (v := .pointer a0) (w_none rfl) rfl rfl (f_move rfl rfl) ?_
  refine EvK.pure (v := .pointer a0) (w_none rfl) rfl rfl (f_move rfl rfl) ?_
  obtain ⟨q2, hq2, hF⟩ := hF
  refine EvK.pure (v := .pointer (some q2)) (w_none rfl) rfl rfl (f_nilCheck rfl (congrArg Value.pointer hq2)) ?_
  refine EvK.pure (v := .pointer (some (q2.add 0))) (w_none rfl) rfl rfl (f_fieldAddr fd71_0 rfl rfl) ?_
  obtain ⟨x3, hx3, hF⟩ := hF
  refine EvK.read (v := Sl.val x3) (w_none rfl) rfl rfl (f_load kL ty29 rfl rfl hx3 rfl) ?_
  refine EvK.pure (v := .int .i64 a1) (w_none rfl) rfl rfl (f_move rfl rfl) ?_
  obtain ⟨x4, hx4, hF⟩ := hF
  refine EvK.pure (v := Sl.val x4) (w_none rfl) rfl rfl (f_slice Try.underlying29 ty5.size rfl rfl (bndV_some rfl) bndV_none bndV_none hx4) ?_
  refine EvK.call (w_none rfl) rfl rfl (enterH Try.func31 rfl rfl rfl rfl (slices_Clone___byte_byte_.sound hF)) ?_
  rintro _ h2 ⟨r2, rfl, hF⟩
  obtain ⟨q3, hq3, hF⟩ := hF
  refine EvK.pure (v := .pointer (some q3)) (w_none rfl) rfl rfl (f_nilCheck rfl (congrArg Value.pointer hq3)) ?_
  refine EvK.pure (v := .pointer (some (q3.add 0))) (w_none rfl) rfl rfl (f_fieldAddr fd71_0 rfl rfl) ?_
  obtain ⟨h3, hs1, hF⟩ := hF
  refine EvK.runN (w_none rfl) rfl (f_store kL ty29.size (z := r2) rfl rfl rfl hs1) ?_
  rintro _ _ ⟨rfl, rfl⟩
  refine EvK.nil ?_
  refine WP.seq ?_
  refine WP.region ?_
  refine EvK.pure (v := Sl.val r1) (w_none rfl) rfl rfl (f_move rfl rfl) ?_
  refine EvK.pure (v := Sl.val r1) (w_none rfl) rfl rfl (f_assign rfl rfl) ?_
  refine EvK.nil ?_
  refine WP.ret ?_
  exact Ret.mk (vs := [Sl.val r1]) r1 ⟨rfl, trivial⟩ rfl hF
end Go.Proofs.Ytbdopnhfbjdegaa

namespace Go.Proofs.Ytbdopnhfbjdegaa
open Go Go.Tr
set_option linter.unusedVariables false
set_option maxRecDepth 100000
set_option maxHeartbeats 400000
/-- (*sync/atomic.Int64).Add -/
def sync_atomic_Int64_Add (a0 : Option Addr) (a1 : Int) (h : H) (Q : Int → H → Prop) : Prop :=
  rd a0 fun q1 =>
  rd (ld (kI .i64) (q1.add 0) h) fun x1 =>
  rd (st (kI .i64) (q1.add 0) (IntKind.i64.wrap (x1 + a1)) h) fun h1 =>
  Q (IntKind.i64.wrap (x1 + a1)) h1
theorem sync_atomic_Int64_Add.sound {a0 : Option Addr} {a1 : Int} {h : H} {Q : Int → H → Prop} (hF : sync_atomic_Int64_Add a0 a1 h Q) :
    CallsH Try.prog 30 (List.toArray (α := Value) [.pointer a0, .int .i64 a1]) h fun v h' => ∃ x : Int, v = .int .i64 x ∧ Q x h' := by
  refine CallsH.of_body Try.func30 rfl 10 rfl rfl ?_
  refine WP.seq ?_
  refine WP.region ?_
  refine EvK.pure (v := .int .i64 0) (w_none rfl) rfl rfl (f_assign rfl rfl) ?_
  refine EvK.nil ?_
  refine WP.seq ?_
  refine WP.region ?_
  refine EvK.pure (v := .pointer a0) (w_none rfl) rfl rfl (f_move rfl rfl) ?_
  obtain ⟨q1, hq1, hF⟩ := hF
  refine EvK.pure (v := .pointer (some q1)) (w_none rfl) rfl rfl (f_nilCheck rfl (congrArg Value.pointer hq1)) ?_
  refine EvK.pure (v := .pointer (some (q1.add 0))) (w_none rfl) rfl rfl (f_fieldAddr fd65_2 rfl rfl) ?_
  refine EvK.pure (v := .int .i64 a1) (w_none rfl) rfl rfl (f_move rfl rfl) ?_
  obtain ⟨x1, hx1, hF⟩ := hF
  obtain ⟨h1, hs1, hF⟩ := hF
  refine EvK.run (w_none rfl) rfl rfl (f_atomAdd Try.func47 rfl rfl (by kernel_rfl) (by kernel_rfl) rfl rfl rfl hx1 hs1) ?_
  rintro _ _ ⟨rfl, rfl⟩
  refine EvK.pure (v := .int .i64 (IntKind.i64.wrap (x1 + a1))) (w_none rfl) rfl rfl (f_assign rfl rfl) ?_
  refine EvK.nil ?_
  refine WP.ret ?_
  exact Ret.mk (vs := [.int .i64 (IntKind.i64.wrap (x1 + a1))]) (IntKind.i64.wrap (x1 + a1)) ⟨rfl, trivial⟩ rfl hF
end Go.Proofs.Ytbdopnhfbjdegaa

namespace Go.Proofs.Ytbdopnhfbjdegaa
open Go Go.Tr
set_option linter.unusedVariables false
set_option maxRecDepth 100000
set_option maxHeartbeats 400000
/-- (*spate/net.Net).Bring -/
def net_Net_Bring (a0 : Option Addr) (a1 : Int) (a2 : Int) (h : H) (Q : (Int × Int) → H → Prop) : Prop :=
  net_Net_get a0 a1 h fun r1 h1 =>
  if (r1.2 != 0) = true then
    Q (0, r1.2) h1
  else
    rd r1.1 fun q1 =>
    rd r1.1 fun q2 =>
    rd (ld kL (((q2.add 0).add 0).add 0) h1) fun x1 =>
    rd r1.1 fun q3 =>
    rd (ld kL (((q3.add 0).add 0).add 0) h1) fun x2 =>
    rd (slx 1 x1 none (some (if (if (x2.len : Int) < a2 then (x2.len : Int) else a2) > 0 then (if (x2.len : Int) < a2 then (x2.len : Int) else a2) else 0)) none) fun x3 =>
    net_buffer_lay (some ((q1.add 0).add 2)) x3 h1 fun r2 h2 =>
    rd r1.1 fun q4 =>
    net_buffer_take (some ((q4.add 0).add 0)) r2 h2 fun r3 h3 =>
    rd a0 fun q5 =>
    sync_atomic_Int64_Add (some (q5.add 67)) r2 h3 fun r4 h4 =>
    Q (r2, 0) h4
theorem net_Net_Bring.sound {a0 : Option Addr} {a1 : Int} {a2 : Int} {h : H} {Q : (Int × Int) → H → Prop} (hF : net_Net_Bring a0 a1 a2 h Q) :
    CallsH Try.prog 11 (List.toArray (α := Value) [.pointer a0, .int .i64 a1, .int .i64 a2]) h fun v h' => ∃ x : Int × Int, v = .tuple #[.int .i64 x.1, .int .i64 x.2] ∧ Q x h' := by
  refine CallsH.of_body Try.func11 rfl 54 rfl rfl ?_
  refine WP.seq ?_
  refine WP.region ?_
  refine EvK.pure (v := .int .i64 0) (w_none rfl) rfl rfl (f_assign rfl rfl) ?_
  refine EvK.pure (v := .int .i64 0) (w_none rfl) rfl rfl (f_assign rfl rfl) ?_
  refine EvK.nil ?_
  refine WP.seq ?_
  refine WP.region ?_
  refine EvK.pure (v := .pointer a0) (w_none rfl) rfl rfl (f_move rfl rfl) ?_
  refine EvK.pure (v := .int .i64 a1) (w_none rfl) rfl rfl (f_move rfl rfl) ?_
  refine EvK.call (w_none rfl) rfl rfl (enterH Try.func26 rfl rfl rfl rfl (net_Net_get.sound hF)) ?_
  rintro _ h1 ⟨r1, rfl, hF⟩
  refine EvK.pure (v := .tuple #[.pointer r1.1, .int .i64 r1.2]) (w_none rfl) rfl rfl (f_move rfl rfl) ?_
  refine EvK.pure (v := .pointer r1.1) (w_none rfl) rfl rfl (f_extract (vs := #[.pointer r1.1, .int .i64 r1.2]) rfl rfl rfl) ?_
  refine EvK.pure (v := .int .i64 r1.2) (w_none rfl) rfl rfl (f_extract (vs := #[.pointer r1.1, .int .i64 r1.2]) rfl rfl rfl) ?_
  refine EvK.pure (v := .pointer r1.1) (w_none rfl) rfl rfl (f_assign rfl rfl) ?_
  refine EvK.pure (v := .int .i64 r1.2) (w_none rfl) rfl rfl (f_assign rfl rfl) ?_
  refine EvK.nil ?_
  refine WP.seq ?_
  refine WP.seq ?_
  refine WP.region ?_
  refine EvK.pure (v := .int .i64 r1.2) (w_none rfl) rfl rfl (f_move rfl rfl) ?_
  refine EvK.pure (v := .bool (r1.2 != 0)) (w_none rfl) rfl rfl (f_neq rfl rfl rfl) ?_
  refine EvK.nil ?_
  rcases ite_inv hF with ⟨c1, hF⟩ | ⟨c1, hF⟩
  · refine WP.cond_true _ rfl c1 ?_
    refine WP.seq ?_
    refine WP.region ?_
    refine EvK.pure (v := .int .i64 r1.2) (w_none rfl) rfl rfl (f_move rfl rfl) ?_
    refine EvK.pure (v := .int .i64 0) (w_none rfl) rfl rfl (f_assign rfl rfl) ?_
    refine EvK.pure (v := .int .i64 r1.2) (w_none rfl) rfl rfl (f_assign rfl rfl) ?_
    refine EvK.nil ?_
    refine WP.ret ?_
    exact Ret.mk (vs := [.int .i64 0, .int .i64 r1.2]) (0, r1.2) ⟨rfl, rfl, trivial⟩ rfl hF
  · refine WP.cond_false _ rfl c1 ?_
    refine WP.skip ?_
    refine WP.seq ?_
    refine WP.draw mixed [.pure, .pure, .pure, .pure, .pure, .pure, .pure, .pure, .pure, .read, .pure, .pure, .pure, .pure, .pure, .pure, .read, .pure, .pure, .pure, .pure, .eff [], .pure] [[], [0], [0, 1], [0, 1, 2], [], [4], [4, 5], [4, 5, 6], [4, 5, 6, 7], [4, 5, 6, 7, 8], [], [], [11], [11, 12], [11, 12, 13], [11, 12, 13, 14], [11, 12, 13, 14, 15], [11, 12, 13, 14, 15, 16], [10, 11, 12, 13, 14, 15, 16, 17], [10, 11, 12, 13, 14, 15, 16, 17, 18], [4, 5, 6, 7, 8, 9, 10, 11, 12, 13, 14, 15, 16, 17, 18, 19], [0, 1, 2, 3, 4, 5, 6, 7, 8, 9, 10, 11, 12, 13, 14, 15, 16, 17, 18, 19, 20], [0, 1, 2, 3, 4, 5, 6, 7, 8, 9, 10, 11, 12, 13, 14, 15, 16, 17, 18, 19, 20, 21]] [0, 1, 2, 3, 4, 5, 6, 7, 8, 9, 10, 11, 12, 13, 14, 15, 16, 17, 18, 19, 20, 21, 22] (by kernel_rfl) (by kernel_rfl) ?_
    refine EvI.pure (v := .pointer r1.1) rfl rfl (w_none rfl) rfl (f_move rfl rfl) ?_
    obtain ⟨q1, hq1, hF⟩ := hF
    refine EvI.pure (v := .pointer (some q1)) rfl rfl (w_none rfl) rfl (f_nilCheck rfl (congrArg Value.pointer hq1)) ?_
    refine EvI.pure (v := .pointer (some (q1.add 0))) rfl rfl (w_none rfl) rfl (f_fieldAddr fd75_0 rfl rfl) ?_
    refine EvI.pure (v := .pointer (some ((q1.add 0).add 2))) rfl rfl (w_none rfl) rfl (f_fieldAddr fd73_1 rfl rfl) ?_
    refine EvI.pure (v := .pointer r1.1) rfl rfl (w_none rfl) rfl (f_move rfl rfl) ?_
    obtain ⟨q2, hq2, hF⟩ := hF
    refine EvI.pure (v := .pointer (some q2)) rfl rfl (w_none rfl) rfl (f_nilCheck rfl (congrArg Value.pointer hq2)) ?_
    refine EvI.pure (v := .pointer (some (q2.add 0))) rfl rfl (w_none rfl) rfl (f_fieldAddr fd75_0 rfl rfl) ?_
    refine EvI.pure (v := .pointer (some ((q2.add 0).add 0))) rfl rfl (w_none rfl) rfl (f_fieldAddr fd73_0 rfl rfl) ?_
    refine EvI.pure (v := .pointer (some (((q2.add 0).add 0).add 0))) rfl rfl (w_none rfl) rfl (f_fieldAddr fd71_0 rfl rfl) ?_
    obtain ⟨x1, hx1, hF⟩ := hF
    refine EvI.read (v := Sl.val x1) rfl rfl (w_none rfl) rfl (f_load kL ty29 rfl rfl hx1 rfl) ?_
    refine EvI.pure (v := .int .i64 a2) rfl rfl (w_none rfl) rfl (f_move rfl rfl) ?_
    refine EvI.pure (v := .pointer r1.1) rfl rfl (w_none rfl) rfl (f_move rfl rfl) ?_
    obtain ⟨q3, hq3, hF⟩ := hF
    refine EvI.pure (v := .pointer (some q3)) rfl rfl (w_none rfl) rfl (f_nilCheck rfl (congrArg Value.pointer hq3)) ?_
    refine EvI.pure (v := .pointer (some (q3.add 0))) rfl rfl (w_none rfl) rfl (f_fieldAddr fd75_0 rfl rfl) ?_
    refine EvI.pure (v := .pointer (some ((q3.add 0).add 0))) rfl rfl (w_none rfl) rfl (f_fieldAddr fd73_0 rfl rfl) ?_
    refine EvI.pure (v := .pointer (some (((q3.add 0).add 0).add 0))) rfl rfl (w_none rfl) rfl (f_fieldAddr fd71_0 rfl rfl) ?_
    obtain ⟨x2, hx2, hF⟩ := hF
    refine EvI.read (v := Sl.val x2) rfl rfl (w_none rfl) rfl (f_load kL ty29 rfl rfl hx2 rfl) ?_
    refine EvI.pure (v := .int .i64 (x2.len : Int)) rfl rfl (w_none rfl) rfl (f_lenL (s := x2) Try.underlying29 rfl rfl) ?_
    refine EvI.pure (v := .int .i64 (if (x2.len : Int) < a2 then (x2.len : Int) else a2)) rfl rfl (w_none rfl) rfl (f_min2 rfl rfl rfl) ?_
    refine EvI.pure (v := .int .i64 (if (if (x2.len : Int) < a2 then (x2.len : Int) else a2) > 0 then (if (x2.len : Int) < a2 then (x2.len : Int) else a2) else 0)) rfl rfl (w_none rfl) rfl (f_max2 rfl rfl rfl) ?_
    obtain ⟨x3, hx3, hF⟩ := hF
    refine EvI.pure (v := Sl.val x3) rfl rfl (w_none rfl) rfl (f_slice Try.underlying29 ty5.size rfl rfl bndV_none (bndV_some rfl) bndV_none hx3) ?_
    refine EvI.call rfl rfl (w_none rfl) rfl (enterH Try.func28 rfl rfl rfl rfl (net_buffer_lay.sound hF)) ?_
    rintro _ h2 ⟨r2, rfl, hF⟩
    refine ⟨⟨chk_no rfl, chk_no rfl, trivial⟩, ?_⟩
    refine EvI.pure (v := .int .i64 r2) rfl rfl (w_none rfl) rfl (f_assign rfl rfl) ?_
    refine EvI.nil ?_
    refine WP.seq ?_
    refine WP.region ?_
    refine EvK.pure (v := .pointer r1.1) (w_none rfl) rfl rfl (f_move rfl rfl) ?_
    obtain ⟨q4, hq4, hF⟩ := hF
    refine EvK.pure (v := .pointer (some q4)) (w_none rfl) rfl rfl (f_nilCheck rfl (congrArg Value.pointer hq4)) ?_
    refine EvK.pure (v := .pointer (some (q4.add 0))) (w_none rfl) rfl rfl (f_fieldAddr fd75_0 rfl rfl) ?_
    refine EvK.pure (v := .pointer (some ((q4.add 0).add 0))) (w_none rfl) rfl rfl (f_fieldAddr fd73_0 rfl rfl) ?_
    refine EvK.pure (v := .int .i64 r2) (w_none rfl) rfl rfl (f_move rfl rfl) ?_
    refine EvK.call (w_none rfl) rfl rfl (enterH Try.func29 rfl rfl rfl rfl (net_buffer_take.sound hF)) ?_
    rintro _ h3 ⟨r3, rfl, hF⟩
    refine EvK.nil ?_
    refine WP.seq ?_
    refine WP.region ?_
    refine EvK.pure (v := .pointer a0) (w_none rfl) rfl rfl (f_move rfl rfl) ?_
    obtain ⟨q5, hq5, hF⟩ := hF
    refine EvK.pure (v := .pointer (some q5)) (w_none rfl) rfl rfl (f_nilCheck rfl (congrArg Value.pointer hq5)) ?_
    refine EvK.pure (v := .pointer (some (q5.add 67))) (w_none rfl) rfl rfl (f_fieldAddr fd67_3 rfl rfl) ?_
    refine EvK.pure (v := .int .i64 r2) (w_none rfl) rfl rfl (f_move rfl rfl) ?_
    refine EvK.call (w_none rfl) rfl rfl (enterH Try.func30 rfl rfl rfl rfl (sync_atomic_Int64_Add.sound hF)) ?_
    rintro _ h4 ⟨r4, rfl, hF⟩
    refine EvK.nil ?_
    refine WP.seq ?_
    refine WP.region ?_
    refine EvK.pure (v := .int .i64 r2) (w_none rfl) rfl rfl (f_move rfl rfl) ?_
    refine EvK.pure (v := .int .i64 r2) (w_none rfl) rfl rfl (f_assign rfl rfl) ?_
    refine EvK.pure (v := .int .i64 0) (w_none rfl) rfl rfl (f_assign rfl rfl) ?_
    refine EvK.nil ?_
    refine WP.ret ?_
    exact Ret.mk (vs := [.int .i64 r2, .int .i64 0]) (r2, 0) ⟨rfl, rfl, trivial⟩ rfl hF
end Go.Proofs.Ytbdopnhfbjdegaa
