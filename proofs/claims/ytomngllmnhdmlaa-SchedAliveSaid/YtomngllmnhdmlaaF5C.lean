/- spate/spatelaw12.SchedAlive, as a predicate over the heap, and that the code comes to it. Printed by gen.py. -/
import Derived.Test.YtomngllmnhdmlaaB0
import Derived.Test.YtomngllmnhdmlaaB3
import Derived.Test.YtomngllmnhdmlaaB2
import Derived.Test.YtomngllmnhdmlaaF20C
namespace Go.Proofs.Ytomngllmnhdmlaa
open Go Go.Tr
set_option linter.unusedVariables false
set_option maxRecDepth 100000
set_option maxHeartbeats 400000
def spatelaw12_SchedAlive.b1 (p0 : Sl) (p1 : Int) (p5 : Option Addr) (p7 : Sl) (s : Int) (h : H) (K : Int ⊕ (Unit ⊕ Bool) → H → Prop) : Prop :=
  if (decide (s < (p0.len : Int))) = true then
    jn (fun (k5 : Bool → H → Prop) =>
      sched_Sched_State p5 s h fun r5 h10 =>
      if (r5 != 4) = true then
        k5 true h10
      else
        sched_Sched_Fault p5 s h10 fun r6 h11 =>
        if (!r6.isNone) = true then
          k5 true h11
        else
          rd (ixA 1 p7 s) fun q1 =>
          rd (ld kP q1 h11) fun x1 =>
          rd x1 fun q2 =>
          rd (ld (kI .i64) (q2.add 1) h11) fun x2 =>
          k5 (x2 != (IntKind.i64.wrap ((IntKind.i64.wrap (3 * p1)) + 1))) h11) fun s5 h9 =>
    if s5 = true then
      K (.inr (.inr false)) h9
    else
      K (.inl (IntKind.i64.wrap (s + 1))) h9
  else
    K (.inr (.inl ())) h
def spatelaw12_SchedAlive.b2 (p0 : Sl) (p1 : Int) (p5 : Option Addr) (p7 : Sl) (s : Int) (h : H) (K : Int ⊕ Unit → H → Prop) : Prop :=
  if (decide (s < (IntKind.i64.wrap ((IntKind.i64.wrap ((IntKind.i64.wrap ((IntKind.i64.wrap (3 * p1)) + 1)) * (IntKind.i64.wrap ((p0.len : Int) + 1)))) + 9)))) = true then
    sched_Sched_Round p5 h fun r9 h13 =>
    K (.inl (IntKind.i64.wrap (s + 1))) h13
  else
    K (.inr ()) h
def spatelaw12_SchedAlive.b4 (p0 : Sl) (p1 : Int) (p5 : Option Addr) (p7 : Sl) (p8 : Int) (s : Sl × Int) (h : H) (K : (Sl × Int) ⊕ Sl → H → Prop) : Prop :=
  if (decide (s.2 < p1)) = true then
    rd (remI (IntKind.i64.wrap (p8 + s.2)) (p0.len : Int)) fun x6 =>
    rd (ixA 1 p0 x6) fun q5 =>
    rd (ld kL q5 h) fun x7 =>
    spatelaw12_right x7 h fun r12 h21 =>
    bs 48 3 (k47.enc (S47.mk 2 r12 0 Sl.nil) ++ k47.enc (S47.mk 1 Sl.nil 0 Sl.nil) ++ k47.enc (S47.mk 3 Sl.nil 0 Sl.nil)) h21 fun x8 h22 =>
    ap k47.n 64 48 (k47.enc z47) s.1 x8 h22 fun x9 h23 =>
    K (.inl (x9, IntKind.i64.wrap (s.2 + 1))) h23
  else
    K (.inr s.1) h
def spatelaw12_SchedAlive.b3 (p0 : Sl) (p1 : Int) (p5 : Option Addr) (s : Sl × Int) (h : H) (K : (Sl × Int) ⊕ Sl → H → Prop) : Prop :=
  if (decide (s.2 < (p0.len : Int))) = true then
    jn (fun (k8 : Sl → H → Prop) =>
      jn (fun (k9 : Sl → H → Prop) =>
        loopE (spatelaw12_SchedAlive.b4 p0 p1 p5 s.1 s.2) (Sl.nil, 0) h (fun r13 hh => k9 r13 hh)) fun s9 h16 =>
      al 34 (k33.enc (S33.mk s9 0)) h16 fun q3 h17 =>
      bs 30 1 (kP.enc (some q3)) h17 fun x3 h18 =>
      ap kP.n 8 30 (kP.enc none) s.1 x3 h18 fun x4 h19 =>
      rd (ixA 1 x4 s.2) fun q4 =>
      rd (ld kP q4 h19) fun x5 =>
      sched_Sched_Add p5 (some (30, .pointer x5) : IF) h19 fun r11 h20 =>
      k8 x4 h20) fun s8 h15 =>
    K (.inl (s8, IntKind.i64.wrap (s.2 + 1))) h15
  else
    K (.inr s.1) h
/-- spate/spatelaw12.SchedAlive -/
def spatelaw12_SchedAlive (a0 : Sl) (a1 : Int) (h : H) (Q : Bool → H → Prop) : Prop :=
  spatelaw12_known  h fun r1 h1 =>
  if (!r1) = true then
    Q false h1
  else
    if (decide ((a0.len : Int) > 40)) = true then
      Q true h1
    else
      spatelaw12_count a1 h1 fun r2 h2 =>
      sched_New 16 h2 fun r3 h3 =>
      jn (fun (k1 : Bool → H → Prop) =>
        if (r3.2 != 0) = true then
          k1 true h3
        else
          k1 r3.1.isNone h3) fun s1 h4 =>
      if s1 = true then
        Q false h4
      else
        jn (fun (k2 : Sl → H → Prop) =>
          loopE (spatelaw12_SchedAlive.b3 a0 (IntKind.i64.wrap (1 + r2)) r3.1) (Sl.nil, 0) h4 (fun r14 hh => k2 r14 hh)) fun s2 h5 =>
        jn (fun (k3 : Unit → H → Prop) =>
          loopE (spatelaw12_SchedAlive.b2 a0 (IntKind.i64.wrap (1 + r2)) r3.1 s2) 0 h5 (fun r10 hh => k3 r10 hh)) fun s3 h6 =>
        jn (fun (k4 : Unit → H → Prop) =>
          loopE (spatelaw12_SchedAlive.b1 a0 (IntKind.i64.wrap (1 + r2)) r3.1 s2) 0 h6 (sumK (fun r7 hh => k4 r7 hh) (fun r8 hh => Q r8 hh))) fun s4 h7 =>
        sched_Sched_Ready r3.1 h7 fun r4 h8 =>
        Q ((r4.len : Int) == 0) h8
theorem spatelaw12_SchedAlive.sound {a0 : Sl} {a1 : Int} {h : H} {Q : Bool → H → Prop} (hF : spatelaw12_SchedAlive a0 a1 h Q) :
    CallsH Try.prog 5 (List.toArray (α := Value) [Sl.val a0, .int .i64 a1]) h fun v h' => ∃ x : Bool, v = .bool x ∧ Q x h' := by
  refine CallsH.of_body Try.func5 rfl 118 rfl rfl ?_
  refine WP.seq ?_
  refine WP.region ?_
  refine EvK.pure (v := .bool false) (w_none rfl) rfl rfl (f_assign rfl rfl) ?_
  refine EvK.nil ?_
  refine WP.seq ?_
  refine WP.seq ?_
  refine WP.region ?_
  refine EvK.call (w_none rfl) rfl rfl (enterH Try.func8 rfl rfl rfl rfl (spatelaw12_known.sound hF)) ?_
  rintro _ h1 ⟨r1, rfl, hF⟩
  refine EvK.pure (v := .bool (!r1)) (w_none rfl) rfl rfl (f_not rfl rfl) ?_
  refine EvK.nil ?_
  rcases ite_inv hF with ⟨c1, hF⟩ | ⟨c1, hF⟩
  · refine WP.cond_true _ rfl c1 ?_
    refine WP.seq ?_
    refine WP.region ?_
    refine EvK.pure (v := .bool false) (w_none rfl) rfl rfl (f_assign rfl rfl) ?_
    refine EvK.nil ?_
    refine WP.ret ?_
    exact Ret.mk (vs := [.bool false]) false ⟨rfl, trivial⟩ rfl hF
  · refine WP.cond_false _ rfl c1 ?_
    refine WP.skip ?_
    refine WP.seq ?_
    refine WP.seq ?_
    refine WP.region ?_
    refine EvK.pure (v := Sl.val a0) (w_none rfl) rfl rfl (f_move rfl rfl) ?_
    refine EvK.pure (v := .int .i64 (a0.len : Int)) (w_none rfl) rfl rfl (f_lenL (s := a0) Try.underlying55 rfl rfl) ?_
    refine EvK.pure (v := .bool (decide ((a0.len : Int) > 40))) (w_none rfl) rfl rfl (f_gtr rfl rfl rfl) ?_
    refine EvK.nil ?_
    rcases ite_inv hF with ⟨c2, hF⟩ | ⟨c2, hF⟩
    · refine WP.cond_true _ rfl c2 ?_
      refine WP.seq ?_
      refine WP.region ?_
      refine EvK.pure (v := .bool true) (w_none rfl) rfl rfl (f_assign rfl rfl) ?_
      refine EvK.nil ?_
      refine WP.ret ?_
      exact Ret.mk (vs := [.bool true]) true ⟨rfl, trivial⟩ rfl hF
    · refine WP.cond_false _ rfl c2 ?_
      refine WP.skip ?_
      refine WP.seq ?_
      refine WP.region ?_
      refine EvK.pure (v := .int .i64 a1) (w_none rfl) rfl rfl (f_move rfl rfl) ?_
      refine EvK.call (w_none rfl) rfl rfl (enterH Try.func16 rfl rfl rfl rfl (spatelaw12_count.sound hF)) ?_
      rintro _ h2 ⟨r2, rfl, hF⟩
      refine EvK.pure (v := .int .i64 (IntKind.i64.wrap (1 + r2))) (w_none rfl) rfl rfl (f_add rfl rfl rfl) ?_
      refine EvK.pure (v := .int .i64 (IntKind.i64.wrap (1 + r2))) (w_none rfl) rfl rfl (f_assign rfl rfl) ?_
      refine EvK.nil ?_
      refine WP.seq ?_
      refine WP.region ?_
      refine EvK.call (w_none rfl) rfl rfl (enterH Try.func9 rfl rfl rfl rfl (sched_New.sound hF)) ?_
      rintro _ h3 ⟨r3, rfl, hF⟩
      refine EvK.pure (v := .tuple #[.pointer r3.1, .int .i64 r3.2]) (w_none rfl) rfl rfl (f_move rfl rfl) ?_
      refine EvK.pure (v := .pointer r3.1) (w_none rfl) rfl rfl (f_extract (vs := #[.pointer r3.1, .int .i64 r3.2]) rfl rfl rfl) ?_
      refine EvK.pure (v := .int .i64 r3.2) (w_none rfl) rfl rfl (f_extract (vs := #[.pointer r3.1, .int .i64 r3.2]) rfl rfl rfl) ?_
      refine EvK.pure (v := .pointer r3.1) (w_none rfl) rfl rfl (f_assign rfl rfl) ?_
      refine EvK.pure (v := .int .i64 r3.2) (w_none rfl) rfl rfl (f_assign rfl rfl) ?_
      refine EvK.nil ?_
      refine WP.seq ?_
      refine WP.joinF (fun (s1 : Bool) => [(30, .bool s1), (0, Sl.val a0), (1, .int .i64 (IntKind.i64.wrap (1 + r2))), (5, .pointer r3.1)]) hF ?_ ?_
      · intro s1 E0 h4 hF
        rcases ite_inv hF with ⟨c3, hF⟩ | ⟨c3, hF⟩
        · refine WP.cond_true _ rfl c3 ?_
          refine WP.seq ?_
          refine WP.region ?_
          refine EvK.pure (v := .bool false) (w_none rfl) rfl rfl (f_assign rfl rfl) ?_
          refine EvK.nil ?_
          refine WP.ret ?_
          exact Ret.mk (vs := [.bool false]) false ⟨rfl, trivial⟩ rfl hF
        · refine WP.cond_false _ rfl c3 ?_
          refine WP.skip ?_
          refine WP.seq ?_
          refine WP.region ?_
          refine EvK.pure (v := Sl.val Sl.nil) (w_none rfl) rfl rfl (f_assign rfl rfl) ?_
          refine EvK.nil ?_
          refine WP.joinF (fun (s2 : Sl) => [(7, Sl.val s2), (0, Sl.val a0), (1, .int .i64 (IntKind.i64.wrap (1 + r2))), (5, .pointer r3.1)]) hF ?_ ?_
          · intro s2 E0 h5 hF
            refine WP.joinF (fun (s3 : Unit) => [(0, Sl.val a0), (1, .int .i64 (IntKind.i64.wrap (1 + r2))), (5, .pointer r3.1), (7, Sl.val s2)]) hF ?_ ?_
            · intro s3 E0 h6 hF
              refine WP.joinF (fun (s4 : Unit) => [(5, .pointer r3.1)]) hF ?_ ?_
              · intro s4 E0 h7 hF
                refine WP.seq ?_
                refine WP.region ?_
                refine EvK.pure (v := .pointer r3.1) (w_none rfl) rfl rfl (f_move rfl rfl) ?_
                refine EvK.call (w_none rfl) rfl rfl (enterH Try.func12 rfl rfl rfl rfl (sched_Sched_Ready.sound hF)) ?_
                rintro _ h8 ⟨r4, rfl, hF⟩
                refine EvK.pure (v := .int .i64 (r4.len : Int)) (w_none rfl) rfl rfl (f_lenL (s := r4) Try.underlying38 rfl rfl) ?_
                refine EvK.pure (v := .bool ((r4.len : Int) == 0)) (w_none rfl) rfl rfl (f_eql rfl rfl rfl) ?_
                refine EvK.pure (v := .bool ((r4.len : Int) == 0)) (w_none rfl) rfl rfl (f_assign rfl rfl) ?_
                refine EvK.nil ?_
                refine WP.ret ?_
                exact Ret.mk (vs := [.bool ((r4.len : Int) == 0)]) ((r4.len : Int) == 0) ⟨rfl, trivial⟩ rfl hF
              · intro k4 hF
                refine WP.seq ?_
                refine WP.region ?_
                refine EvK.pure (v := .int .i64 0) (w_none rfl) rfl rfl (f_assign rfl rfl) ?_
                refine EvK.nil ?_
                refine WP.block ?_
                refine WP.loopF (fun (s5 : Int) => [(12, .int .i64 s5), (0, Sl.val a0), (1, .int .i64 (IntKind.i64.wrap (1 + r2))), (5, .pointer r3.1), (7, Sl.val s2)]) hF ⟨rfl, rfl, rfl, rfl, rfl, trivial⟩ ?_
                intro k5 s5 E0 h9 hF
                refine WP.seq ?_
                refine WP.seq ?_
                refine WP.region ?_
                refine EvK.pure (v := .int .i64 s5) (w_none rfl) rfl rfl (f_move rfl rfl) ?_
                refine EvK.pure (v := Sl.val a0) (w_none rfl) rfl rfl (f_move rfl rfl) ?_
                refine EvK.pure (v := .int .i64 (a0.len : Int)) (w_none rfl) rfl rfl (f_lenL (s := a0) Try.underlying55 rfl rfl) ?_
                refine EvK.pure (v := .bool (decide (s5 < (a0.len : Int)))) (w_none rfl) rfl rfl (f_lss rfl rfl rfl) ?_
                refine EvK.nil ?_
                rcases ite_inv hF with ⟨c4, hF⟩ | ⟨c4, hF⟩
                · refine WP.cond_true _ rfl c4 ?_
                  refine WP.skip ?_
                  refine WP.seq ?_
                  refine WP.block ?_
                  refine WP.joinF (fun (s6 : Bool) => [(113, .bool s6), (0, Sl.val a0), (1, .int .i64 (IntKind.i64.wrap (1 + r2))), (5, .pointer r3.1), (7, Sl.val s2), (12, .int .i64 s5)]) hF ?_ ?_
                  · intro s6 E0 h10 hF
                    rcases ite_inv hF with ⟨c5, hF⟩ | ⟨c5, hF⟩
                    · refine WP.cond_true _ rfl c5 ?_
                      refine WP.seq ?_
                      refine WP.region ?_
                      refine EvK.pure (v := .bool false) (w_none rfl) rfl rfl (f_assign rfl rfl) ?_
                      refine EvK.nil ?_
                      refine WP.ret ?_
                      exact Ret.mk (vs := [.bool false]) false ⟨rfl, trivial⟩ rfl hF
                    · refine WP.cond_false _ rfl c5 ?_
                      refine WP.skip ?_
                      refine WP.region ?_
                      refine EvK.pure (v := .int .i64 s5) (w_none rfl) rfl rfl (f_move rfl rfl) ?_
                      refine EvK.pure (v := .int .i64 (IntKind.i64.wrap (s5 + 1))) (w_none rfl) rfl rfl (f_add rfl rfl rfl) ?_
                      refine EvK.pure (v := .int .i64 (IntKind.i64.wrap (s5 + 1))) (w_none rfl) rfl rfl (f_assign rfl rfl) ?_
                      refine EvK.nil ?_
                      exact KE.mk (IntKind.i64.wrap (s5 + 1)) ⟨rfl, rfl, rfl, rfl, rfl, trivial⟩ hF
                  · intro k6 hF
                    refine WP.region ?_
                    refine EvK.pure (v := .pointer r3.1) (w_none rfl) rfl rfl (f_move rfl rfl) ?_
                    refine EvK.pure (v := .int .i64 s5) (w_none rfl) rfl rfl (f_move rfl rfl) ?_
                    refine EvK.call (w_none rfl) rfl rfl (enterH Try.func13 rfl rfl rfl rfl (sched_Sched_State.sound hF)) ?_
                    rintro _ h11 ⟨r5, rfl, hF⟩
                    refine EvK.pure (v := .bool (r5 != 4)) (w_none rfl) rfl rfl (f_neq rfl rfl rfl) ?_
                    refine EvK.pure (v := .bool (r5 != 4)) (w_none rfl) rfl rfl (f_move rfl rfl) ?_
                    rcases ite_inv hF with ⟨c6, hF⟩ | ⟨c6, hF⟩
                    · refine EvK.not (w_not rfl rfl c6) rfl rfl ?_
                      refine EvK.not (w_not rfl rfl c6) rfl rfl ?_
                      refine EvK.not (w_not rfl rfl c6) rfl rfl ?_
                      refine EvK.not (w_not rfl rfl c6) rfl rfl ?_
                      refine EvK.pure (v := .bool true) (w_none rfl) rfl rfl (f_pickT rfl rfl c6 rfl) ?_
                      refine EvK.pure (v := .bool true) (w_none rfl) rfl rfl (f_move rfl rfl) ?_
                      refine EvK.not (w_not rfl rfl rfl) rfl rfl ?_
                      refine EvK.not (w_not rfl rfl rfl) rfl rfl ?_
                      refine EvK.not (w_not rfl rfl rfl) rfl rfl ?_
                      refine EvK.not (w_not rfl rfl rfl) rfl rfl ?_
                      refine EvK.not (w_not rfl rfl rfl) rfl rfl ?_
                      refine EvK.not (w_not rfl rfl rfl) rfl rfl ?_
                      refine EvK.not (w_not rfl rfl rfl) rfl rfl ?_
                      refine EvK.not (w_not rfl rfl rfl) rfl rfl ?_
                      refine EvK.not (w_not rfl rfl rfl) rfl rfl ?_
                      refine EvK.not (w_not rfl rfl rfl) rfl rfl ?_
                      refine EvK.not (w_not rfl rfl rfl) rfl rfl ?_
                      refine EvK.pure (v := .bool true) (w_none rfl) rfl rfl (f_pickT rfl rfl rfl rfl) ?_
                      refine EvK.nil ?_
                      exact KE.mk true ⟨rfl, rfl, rfl, rfl, rfl, rfl, trivial⟩ hF
                    · refine EvK.pure (v := .pointer r3.1) (w_some rfl rfl c6) rfl rfl (f_move rfl rfl) ?_
                      refine EvK.pure (v := .int .i64 s5) (w_some rfl rfl c6) rfl rfl (f_move rfl rfl) ?_
                      refine EvK.call (w_some rfl rfl c6) rfl rfl (enterH Try.func18 rfl rfl rfl rfl (sched_Sched_Fault.sound hF)) ?_
                      rintro _ h12 ⟨r6, rfl, hF⟩
                      refine EvK.pure (v := .bool (!r6.isNone)) (w_some rfl rfl c6) rfl rfl (f_ineqn (a := r6) Try.underlying51 rfl rfl) ?_
                      refine EvK.pure (v := .bool (!r6.isNone)) (w_none rfl) rfl rfl (f_pickF rfl rfl c6 rfl) ?_
                      refine EvK.pure (v := .bool (!r6.isNone)) (w_none rfl) rfl rfl (f_move rfl rfl) ?_
                      rcases ite_inv hF with ⟨c7, hF⟩ | ⟨c7, hF⟩
                      · refine EvK.not (w_not rfl rfl c7) rfl rfl ?_
                        refine EvK.not (w_not rfl rfl c7) rfl rfl ?_
                        refine EvK.not (w_not rfl rfl c7) rfl rfl ?_
                        refine EvK.not (w_not rfl rfl c7) rfl rfl ?_
                        refine EvK.not (w_not rfl rfl c7) rfl rfl ?_
                        refine EvK.not (w_not rfl rfl c7) rfl rfl ?_
                        refine EvK.not (w_not rfl rfl c7) rfl rfl ?_
                        refine EvK.not (w_not rfl rfl c7) rfl rfl ?_
                        refine EvK.not (w_not rfl rfl c7) rfl rfl ?_
                        refine EvK.not (w_not rfl rfl c7) rfl rfl ?_
                        refine EvK.not (w_not rfl rfl c7) rfl rfl ?_
                        refine EvK.pure (v := .bool true) (w_none rfl) rfl rfl (f_pickT rfl rfl c7 rfl) ?_
                        refine EvK.nil ?_
                        exact KE.mk true ⟨rfl, rfl, rfl, rfl, rfl, rfl, trivial⟩ hF
                      · refine EvK.pure (v := Sl.val s2) (w_some rfl rfl c7) rfl rfl (f_move rfl rfl) ?_
                        refine EvK.pure (v := .int .i64 s5) (w_some rfl rfl c7) rfl rfl (f_move rfl rfl) ?_
                        obtain ⟨q1, hq1, hF⟩ := hF
                        refine EvK.pure (v := .pointer (some q1)) (w_some rfl rfl c7) rfl rfl (f_indexAddr (s := s2) Try.underlying29 ty30.size rfl rfl rfl hq1) ?_
                        obtain ⟨x1, hx1, hF⟩ := hF
                        refine EvK.read (v := .pointer x1) (w_some rfl rfl c7) rfl rfl (f_load kP ty30 rfl rfl hx1 rfl) ?_
                        obtain ⟨q2, hq2, hF⟩ := hF
                        refine EvK.pure (v := .pointer (some q2)) (w_some rfl rfl c7) rfl rfl (f_nilCheck rfl (congrArg Value.pointer hq2)) ?_
                        refine EvK.pure (v := .pointer (some (q2.add 1))) (w_some rfl rfl c7) rfl rfl (f_fieldAddr fd34_1 rfl rfl) ?_
                        obtain ⟨x2, hx2, hF⟩ := hF
                        refine EvK.read (v := .int .i64 x2) (w_some rfl rfl c7) rfl rfl (f_load (kI .i64) ty3 rfl rfl hx2 rfl) ?_
                        refine EvK.pure (v := .int .i64 (IntKind.i64.wrap (1 + r2))) (w_some rfl rfl c7) rfl rfl (f_move rfl rfl) ?_
                        refine EvK.pure (v := .int .i64 (IntKind.i64.wrap (3 * (IntKind.i64.wrap (1 + r2))))) (w_some rfl rfl c7) rfl rfl (f_mul rfl rfl rfl) ?_
                        refine EvK.pure (v := .int .i64 (IntKind.i64.wrap ((IntKind.i64.wrap (3 * (IntKind.i64.wrap (1 + r2)))) + 1))) (w_some rfl rfl c7) rfl rfl (f_add rfl rfl rfl) ?_
                        refine EvK.pure (v := .bool (x2 != (IntKind.i64.wrap ((IntKind.i64.wrap (3 * (IntKind.i64.wrap (1 + r2)))) + 1)))) (w_some rfl rfl c7) rfl rfl (f_neq rfl rfl rfl) ?_
                        refine EvK.pure (v := .bool (x2 != (IntKind.i64.wrap ((IntKind.i64.wrap (3 * (IntKind.i64.wrap (1 + r2)))) + 1)))) (w_none rfl) rfl rfl (f_pickF rfl rfl c7 rfl) ?_
                        refine EvK.nil ?_
                        exact KE.mk (x2 != (IntKind.i64.wrap ((IntKind.i64.wrap (3 * (IntKind.i64.wrap (1 + r2)))) + 1))) ⟨rfl, rfl, rfl, rfl, rfl, rfl, trivial⟩ hF
                · refine WP.cond_false _ rfl c4 ?_
                  refine WP.exit ?_
                  exact KE.mk () ⟨rfl, trivial⟩ hF
            · intro k3 hF
              refine WP.seq ?_
              refine WP.region ?_
              refine EvK.pure (v := .int .i64 0) (w_none rfl) rfl rfl (f_assign rfl rfl) ?_
              refine EvK.nil ?_
              refine WP.block ?_
              refine WP.loopF (fun (s7 : Int) => [(11, .int .i64 s7), (0, Sl.val a0), (1, .int .i64 (IntKind.i64.wrap (1 + r2))), (5, .pointer r3.1), (7, Sl.val s2)]) hF ⟨rfl, rfl, rfl, rfl, rfl, trivial⟩ ?_
              intro k7 s7 E0 h13 hF
              refine WP.seq ?_
              refine WP.seq ?_
              refine WP.region ?_
              refine EvK.pure (v := .int .i64 s7) (w_none rfl) rfl rfl (f_move rfl rfl) ?_
              refine EvK.pure (v := .int .i64 (IntKind.i64.wrap (1 + r2))) (w_none rfl) rfl rfl (f_move rfl rfl) ?_
              refine EvK.pure (v := .int .i64 (IntKind.i64.wrap (3 * (IntKind.i64.wrap (1 + r2))))) (w_none rfl) rfl rfl (f_mul rfl rfl rfl) ?_
              refine EvK.pure (v := .int .i64 (IntKind.i64.wrap ((IntKind.i64.wrap (3 * (IntKind.i64.wrap (1 + r2)))) + 1))) (w_none rfl) rfl rfl (f_add rfl rfl rfl) ?_
              refine EvK.pure (v := Sl.val a0) (w_none rfl) rfl rfl (f_move rfl rfl) ?_
              refine EvK.pure (v := .int .i64 (a0.len : Int)) (w_none rfl) rfl rfl (f_lenL (s := a0) Try.underlying55 rfl rfl) ?_
              refine EvK.pure (v := .int .i64 (IntKind.i64.wrap ((a0.len : Int) + 1))) (w_none rfl) rfl rfl (f_add rfl rfl rfl) ?_
              refine EvK.pure (v := .int .i64 (IntKind.i64.wrap ((IntKind.i64.wrap ((IntKind.i64.wrap (3 * (IntKind.i64.wrap (1 + r2)))) + 1)) * (IntKind.i64.wrap ((a0.len : Int) + 1))))) (w_none rfl) rfl rfl (f_mul rfl rfl rfl) ?_
              refine EvK.pure (v := .int .i64 (IntKind.i64.wrap ((IntKind.i64.wrap ((IntKind.i64.wrap ((IntKind.i64.wrap (3 * (IntKind.i64.wrap (1 + r2)))) + 1)) * (IntKind.i64.wrap ((a0.len : Int) + 1)))) + 9))) (w_none rfl) rfl rfl (f_add rfl rfl rfl) ?_
              refine EvK.pure (v := .bool (decide (s7 < (IntKind.i64.wrap ((IntKind.i64.wrap ((IntKind.i64.wrap ((IntKind.i64.wrap (3 * (IntKind.i64.wrap (1 + r2)))) + 1)) * (IntKind.i64.wrap ((a0.len : Int) + 1)))) + 9))))) (w_none rfl) rfl rfl (f_lss rfl rfl rfl) ?_
              refine EvK.nil ?_
              rcases ite_inv hF with ⟨c8, hF⟩ | ⟨c8, hF⟩
              · refine WP.cond_true _ rfl c8 ?_
                refine WP.skip ?_
                refine WP.seq ?_
                refine WP.block ?_
                refine WP.region ?_
                refine EvK.pure (v := .pointer r3.1) (w_none rfl) rfl rfl (f_move rfl rfl) ?_
                refine EvK.call (w_none rfl) rfl rfl (enterH Try.func17 rfl rfl rfl rfl (sched_Sched_Round.sound hF)) ?_
                rintro _ h14 ⟨r9, rfl, hF⟩
                refine EvK.nil ?_
                refine WP.region ?_
                refine EvK.pure (v := .int .i64 s7) (w_none rfl) rfl rfl (f_move rfl rfl) ?_
                refine EvK.pure (v := .int .i64 (IntKind.i64.wrap (s7 + 1))) (w_none rfl) rfl rfl (f_add rfl rfl rfl) ?_
                refine EvK.pure (v := .int .i64 (IntKind.i64.wrap (s7 + 1))) (w_none rfl) rfl rfl (f_assign rfl rfl) ?_
                refine EvK.nil ?_
                exact KE.mk (IntKind.i64.wrap (s7 + 1)) ⟨rfl, rfl, rfl, rfl, rfl, trivial⟩ hF
              · refine WP.cond_false _ rfl c8 ?_
                refine WP.exit ?_
                exact KE.mk () ⟨rfl, rfl, rfl, rfl, trivial⟩ hF
          · intro k2 hF
            refine WP.seq ?_
            refine WP.region ?_
            refine EvK.pure (v := .int .i64 0) (w_none rfl) rfl rfl (f_assign rfl rfl) ?_
            refine EvK.nil ?_
            refine WP.block ?_
            refine WP.loopF (fun (s8 : Sl × Int) => [(7, Sl.val s8.1), (8, .int .i64 s8.2), (0, Sl.val a0), (1, .int .i64 (IntKind.i64.wrap (1 + r2))), (5, .pointer r3.1)]) hF ⟨rfl, rfl, rfl, rfl, rfl, trivial⟩ ?_
            intro k8 s8 E0 h15 hF
            refine WP.seq ?_
            refine WP.seq ?_
            refine WP.region ?_
            refine EvK.pure (v := .int .i64 s8.2) (w_none rfl) rfl rfl (f_move rfl rfl) ?_
            refine EvK.pure (v := Sl.val a0) (w_none rfl) rfl rfl (f_move rfl rfl) ?_
            refine EvK.pure (v := .int .i64 (a0.len : Int)) (w_none rfl) rfl rfl (f_lenL (s := a0) Try.underlying55 rfl rfl) ?_
            refine EvK.pure (v := .bool (decide (s8.2 < (a0.len : Int)))) (w_none rfl) rfl rfl (f_lss rfl rfl rfl) ?_
            refine EvK.nil ?_
            rcases ite_inv hF with ⟨c9, hF⟩ | ⟨c9, hF⟩
            · refine WP.cond_true _ rfl c9 ?_
              refine WP.skip ?_
              refine WP.joinF (fun (s9 : Sl) => [(7, Sl.val s9), (0, Sl.val a0), (1, .int .i64 (IntKind.i64.wrap (1 + r2))), (5, .pointer r3.1), (8, .int .i64 s8.2)]) hF ?_ ?_
              · intro s9 E0 h16 hF
                refine WP.region ?_
                refine EvK.pure (v := .int .i64 s8.2) (w_none rfl) rfl rfl (f_move rfl rfl) ?_
                refine EvK.pure (v := .int .i64 (IntKind.i64.wrap (s8.2 + 1))) (w_none rfl) rfl rfl (f_add rfl rfl rfl) ?_
                refine EvK.pure (v := .int .i64 (IntKind.i64.wrap (s8.2 + 1))) (w_none rfl) rfl rfl (f_assign rfl rfl) ?_
                refine EvK.nil ?_
                exact KE.mk (s9, IntKind.i64.wrap (s8.2 + 1)) ⟨rfl, rfl, rfl, rfl, rfl, trivial⟩ hF
              · intro k9 hF
                refine WP.block ?_
                refine WP.seq ?_
                refine WP.region ?_
                refine EvK.pure (v := Sl.val Sl.nil) (w_none rfl) rfl rfl (f_assign rfl rfl) ?_
                refine EvK.nil ?_
                refine WP.joinF (fun (s10 : Sl) => [(9, Sl.val s10), (0, Sl.val a0), (1, .int .i64 (IntKind.i64.wrap (1 + r2))), (5, .pointer r3.1), (7, Sl.val s8.1), (8, .int .i64 s8.2)]) hF ?_ ?_
                · intro s10 E0 h17 hF
                  refine WP.seq ?_
                  refine WP.region ?_
                  refine EvK.pure (v := Sl.val s8.1) (w_none rfl) rfl rfl (f_move rfl rfl) ?_
                  refine EvK.pure (v := Sl.val s10) (w_none rfl) rfl rfl (f_move rfl rfl) ?_
                  refine EvK.pure (v := k33.val (S33.mk s10 0)) (w_none rfl) rfl rfl (f_build (cells := k33.enc (S33.mk s10 0)) st34 rfl rfl rfl) ?_
                  refine EvK.alloc (w_none rfl) rfl rfl (f_boxF (v := k33.val (S33.mk s10 0)) rfl rfl rfl hF) ?_
                  rintro _ h18 ⟨q3, rfl, hF⟩
                  refine EvK.alloc (w_none rfl) rfl rfl (f_buildSliceF Try.underlying29 el30 (by decide) rfl rfl rfl hF) ?_
                  rintro _ h19 ⟨x3, rfl, hF⟩
                  refine EvK.run (w_none rfl) rfl rfl (f_appendE (s := s8.1) (x := x3) Try.underlying29 el30 rfl rfl rfl hF) ?_
                  rintro _ h20 ⟨x4, rfl, hF⟩
                  refine EvK.pure (v := Sl.val x4) (w_none rfl) rfl rfl (f_assign rfl rfl) ?_
                  refine EvK.nil ?_
                  refine WP.region ?_
                  refine EvK.pure (v := .pointer r3.1) (w_none rfl) rfl rfl (f_move rfl rfl) ?_
                  refine EvK.pure (v := Sl.val x4) (w_none rfl) rfl rfl (f_move rfl rfl) ?_
                  refine EvK.pure (v := .int .i64 s8.2) (w_none rfl) rfl rfl (f_move rfl rfl) ?_
                  obtain ⟨q4, hq3, hF⟩ := hF
                  refine EvK.pure (v := .pointer (some q4)) (w_none rfl) rfl rfl (f_indexAddr (s := x4) Try.underlying29 ty30.size rfl rfl rfl hq3) ?_
                  obtain ⟨x5, hx3, hF⟩ := hF
                  refine EvK.read (v := .pointer x5) (w_none rfl) rfl rfl (f_load kP ty30 rfl rfl hx3 rfl) ?_
                  refine EvK.pure (v := IF.val (some (30, .pointer x5) : IF)) (w_none rfl) rfl rfl (f_makeIf Try.underlying30 rfl rfl rfl) ?_
                  refine EvK.call (w_none rfl) rfl rfl (enterH (vs := [.pointer r3.1, IF.val (some (30, .pointer x5) : IF)]) Try.func11 rfl rfl rfl rfl (sched_Sched_Add.sound hF)) ?_
                  rintro _ h21 ⟨r11, rfl, hF⟩
                  refine EvK.nil ?_
                  exact KE.mk x4 ⟨rfl, rfl, rfl, rfl, rfl, trivial⟩ hF
                · intro k10 hF
                  refine WP.seq ?_
                  refine WP.region ?_
                  refine EvK.pure (v := .int .i64 0) (w_none rfl) rfl rfl (f_assign rfl rfl) ?_
                  refine EvK.nil ?_
                  refine WP.block ?_
                  refine WP.loopF (fun (s11 : Sl × Int) => [(9, Sl.val s11.1), (10, .int .i64 s11.2), (0, Sl.val a0), (1, .int .i64 (IntKind.i64.wrap (1 + r2))), (5, .pointer r3.1), (7, Sl.val s8.1), (8, .int .i64 s8.2)]) hF ⟨rfl, rfl, rfl, rfl, rfl, rfl, rfl, trivial⟩ ?_
                  intro k11 s11 E0 h22 hF
                  refine WP.seq ?_
                  refine WP.seq ?_
                  refine WP.region ?_
                  refine EvK.pure (v := .int .i64 s11.2) (w_none rfl) rfl rfl (f_move rfl rfl) ?_
                  refine EvK.pure (v := .int .i64 (IntKind.i64.wrap (1 + r2))) (w_none rfl) rfl rfl (f_move rfl rfl) ?_
                  refine EvK.pure (v := .bool (decide (s11.2 < (IntKind.i64.wrap (1 + r2))))) (w_none rfl) rfl rfl (f_lss rfl rfl rfl) ?_
                  refine EvK.nil ?_
                  rcases ite_inv hF with ⟨c10, hF⟩ | ⟨c10, hF⟩
                  · refine WP.cond_true _ rfl c10 ?_
                    refine WP.skip ?_
                    refine WP.seq ?_
                    refine WP.block ?_
                    refine WP.region ?_
                    refine EvK.pure (v := Sl.val s11.1) (w_none rfl) rfl rfl (f_move rfl rfl) ?_
                    refine EvK.pure (v := Sl.val a0) (w_none rfl) rfl rfl (f_move rfl rfl) ?_
                    refine EvK.pure (v := .int .i64 s8.2) (w_none rfl) rfl rfl (f_move rfl rfl) ?_
                    refine EvK.pure (v := .int .i64 s11.2) (w_none rfl) rfl rfl (f_move rfl rfl) ?_
                    refine EvK.pure (v := .int .i64 (IntKind.i64.wrap (s8.2 + s11.2))) (w_none rfl) rfl rfl (f_add rfl rfl rfl) ?_
                    refine EvK.pure (v := Sl.val a0) (w_none rfl) rfl rfl (f_move rfl rfl) ?_
                    refine EvK.pure (v := .int .i64 (a0.len : Int)) (w_none rfl) rfl rfl (f_lenL (s := a0) Try.underlying55 rfl rfl) ?_
                    obtain ⟨x6, hx4, hF⟩ := hF
                    refine EvK.pure (v := .int .i64 x6) (w_none rfl) rfl rfl (f_rem rfl rfl rfl hx4) ?_
                    obtain ⟨q5, hq4, hF⟩ := hF
                    refine EvK.pure (v := .pointer (some q5)) (w_none rfl) rfl rfl (f_indexAddr (s := a0) Try.underlying55 ty46.size rfl rfl rfl hq4) ?_
                    obtain ⟨x7, hx5, hF⟩ := hF
                    refine EvK.read (v := Sl.val x7) (w_none rfl) rfl rfl (f_load kL ty46 rfl rfl hx5 rfl) ?_
                    refine EvK.call (w_none rfl) rfl rfl (enterH Try.func20 rfl rfl rfl rfl (spatelaw12_right.sound hF)) ?_
                    rintro _ h23 ⟨r12, rfl, hF⟩
                    refine EvK.pure (v := k47.val (S47.mk 2 r12 0 Sl.nil)) (w_none rfl) rfl rfl (f_build (cells := k47.enc (S47.mk 2 r12 0 Sl.nil)) st48 rfl rfl rfl) ?_
                    refine EvK.pure (v := k47.val (S47.mk 1 Sl.nil 0 Sl.nil)) (w_none rfl) rfl rfl (f_build (cells := k47.enc (S47.mk 1 Sl.nil 0 Sl.nil)) st48 rfl rfl rfl) ?_
                    refine EvK.pure (v := k47.val (S47.mk 3 Sl.nil 0 Sl.nil)) (w_none rfl) rfl rfl (f_build (cells := k47.enc (S47.mk 3 Sl.nil 0 Sl.nil)) st48 rfl rfl rfl) ?_
                    refine EvK.alloc (w_none rfl) rfl rfl (f_buildSliceF Try.underlying31 el48 (by decide) rfl rfl rfl hF) ?_
                    rintro _ h24 ⟨x8, rfl, hF⟩
                    refine EvK.run (w_none rfl) rfl rfl (f_appendE (s := s11.1) (x := x8) Try.underlying31 el48 rfl rfl rfl hF) ?_
                    rintro _ h25 ⟨x9, rfl, hF⟩
                    refine EvK.pure (v := Sl.val x9) (w_none rfl) rfl rfl (f_assign rfl rfl) ?_
                    refine EvK.nil ?_
                    refine WP.region ?_
                    refine EvK.pure (v := .int .i64 s11.2) (w_none rfl) rfl rfl (f_move rfl rfl) ?_
                    refine EvK.pure (v := .int .i64 (IntKind.i64.wrap (s11.2 + 1))) (w_none rfl) rfl rfl (f_add rfl rfl rfl) ?_
                    refine EvK.pure (v := .int .i64 (IntKind.i64.wrap (s11.2 + 1))) (w_none rfl) rfl rfl (f_assign rfl rfl) ?_
                    refine EvK.nil ?_
                    exact KE.mk (x9, IntKind.i64.wrap (s11.2 + 1)) ⟨rfl, rfl, rfl, rfl, rfl, rfl, rfl, trivial⟩ hF
                  · refine WP.cond_false _ rfl c10 ?_
                    refine WP.exit ?_
                    exact KE.mk s11.1 ⟨rfl, rfl, rfl, rfl, rfl, rfl, trivial⟩ hF
            · refine WP.cond_false _ rfl c9 ?_
              refine WP.exit ?_
              exact KE.mk s8.1 ⟨rfl, rfl, rfl, rfl, trivial⟩ hF
      · intro k1 hF
        refine WP.region ?_
        refine EvK.pure (v := .int .i64 r3.2) (w_none rfl) rfl rfl (f_move rfl rfl) ?_
        refine EvK.pure (v := .bool (r3.2 != 0)) (w_none rfl) rfl rfl (f_neq rfl rfl rfl) ?_
        refine EvK.pure (v := .bool (r3.2 != 0)) (w_none rfl) rfl rfl (f_move rfl rfl) ?_
        rcases ite_inv hF with ⟨c11, hF⟩ | ⟨c11, hF⟩
        · refine EvK.not (w_not rfl rfl c11) rfl rfl ?_
          refine EvK.not (w_not rfl rfl c11) rfl rfl ?_
          refine EvK.pure (v := .bool true) (w_none rfl) rfl rfl (f_pickT rfl rfl c11 rfl) ?_
          refine EvK.nil ?_
          exact KE.mk true ⟨rfl, rfl, rfl, rfl, trivial⟩ hF
        · refine EvK.pure (v := .pointer r3.1) (w_some rfl rfl c11) rfl rfl (f_move rfl rfl) ?_
          refine EvK.pure (v := .bool r3.1.isNone) (w_some rfl rfl c11) rfl rfl (f_peqln Try.underlying25 rfl rfl rfl) ?_
          refine EvK.pure (v := .bool r3.1.isNone) (w_none rfl) rfl rfl (f_pickF rfl rfl c11 rfl) ?_
          refine EvK.nil ?_
          exact KE.mk r3.1.isNone ⟨rfl, rfl, rfl, rfl, trivial⟩ hF
end Go.Proofs.Ytomngllmnhdmlaa
