/- spate/spatelaw12.SchedOwn, as a predicate over the heap, and that the code comes to it. Printed by gen.py. -/
import Derived.Test.YtomngllmnhdmlaaB0
import Derived.Test.YtomngllmnhdmlaaB3
import Derived.Test.YtomngllmnhdmlaaB2
import Derived.Test.YtomngllmnhdmlaaF23C
namespace Go.Proofs.Ytomngllmnhdmlaa
open Go Go.Tr
set_option linter.unusedVariables false
set_option maxRecDepth 100000
set_option maxHeartbeats 400000
def spatelaw12_SchedOwn.b1 (p5 : Option Addr) (p7 : Option Addr) (p9 : Sl) (s : Int) (h : H) (K : Int ⊕ (Unit ⊕ Bool) → H → Prop) : Prop :=
  if (decide (s < (p9.len : Int))) = true then
    sched_Sched_State p5 s h fun r4 h9 =>
    sched_Sched_State p7 s h9 fun r5 h10 =>
    if (r4 != r5) = true then
      K (.inr (.inr false)) h10
    else
      K (.inl (IntKind.i64.wrap (s + 1))) h10
  else
    K (.inr (.inl ())) h
def spatelaw12_SchedOwn.b3 (p1 : Sl) (p5 : Option Addr) (p7 : Option Addr) (p9 : Sl) (p11 : Int) (s : Int) (h : H) (K : Int ⊕ Unit → H → Prop) : Prop :=
  if (decide (s < (p9.len : Int))) = true then
    rd (ixA 1 p9 s) fun q3 =>
    rd (ld kP q3 h) fun x5 =>
    spatelaw12_spoilt x5 h fun r13 h22 =>
    K (.inl (IntKind.i64.wrap (s + 1))) h22
  else
    K (.inr ()) h
def spatelaw12_SchedOwn.b4 (p1 : Sl) (p5 : Option Addr) (p7 : Option Addr) (p9 : Sl) (p11 : Int) (p12 : Sl) (p13 : Sl) (p14 : Sl) (s : Int) (h : H) (K : Int ⊕ Unit → H → Prop) : Prop :=
  if (decide (s < (p12.len : Int))) = true then
    rd (ixA 1 p12 s) fun q5 =>
    rd (st (kI .i64) q5 (-5) h) fun h27 =>
    K (.inl (IntKind.i64.wrap (s + 1))) h27
  else
    K (.inr ()) h
def spatelaw12_SchedOwn.b2 (p1 : Sl) (p5 : Option Addr) (p7 : Option Addr) (p9 : Sl) (s : Int) (h : H) (K : Int ⊕ (Unit ⊕ Bool) → H → Prop) : Prop :=
  if (decide (s < (p1.len : Int))) = true then
    jn (fun (k7 : Unit → H → Prop) =>
      rd (ixA 2 p1 s) fun q1 =>
      rd (ld k36 q1 h) fun x1 =>
      spatelaw12_do p5 x1 h fun r8 h13 =>
      rd (ixA 2 p1 s) fun q2 =>
      rd (ld k36 q2 h13) fun x2 =>
      spatelaw12_do p7 x2 h13 fun r9 h14 =>
      sched_Sched_Ready p5 h14 fun r10 h15 =>
      sched_Sched_Ready p5 h15 fun r11 h16 =>
      sched_Sched_Ready p7 h16 fun r12 h17 =>
      jn (fun (k8 : Unit → H → Prop) =>
        loopE (spatelaw12_SchedOwn.b4 p1 p5 p7 p9 s r10 r11 r12) 0 h17 (fun r18 hh => k8 r18 hh)) fun s8 h18 =>
      bs 3 1 ((kI .i64).enc 8) h18 fun x3 h19 =>
      ap (kI .i64).n 8 3 ((kI .i64).enc 0) r10 x3 h19 fun x4 h20 =>
      jn (fun (k9 : Bool → H → Prop) =>
        spatelaw12_ints r11 r12 h20 fun r15 h24 =>
        if (!r15) = true then
          k9 true h24
        else
          sched_Sched_Ready p5 h24 fun r16 h25 =>
          spatelaw12_ints r16 r12 h25 fun r17 h26 =>
          if (!r17) = true then
            k9 true h26
          else
            if ((x4.len : Int) != (IntKind.i64.wrap ((r12.len : Int) + 1))) = true then
              k9 true h26
            else
              rd (ixA 1 x4 (r12.len : Int)) fun q4 =>
              rd (ld (kI .i64) q4 h26) fun x6 =>
              k9 (x6 != 8) h26) fun s9 h21 =>
      if s9 = true then
        K (.inr (.inr false)) h21
      else
        loopE (spatelaw12_SchedOwn.b3 p1 p5 p7 p9 s) 0 h21 (fun r14 hh => k7 r14 hh)) fun s7 h12 =>
    K (.inl (IntKind.i64.wrap (s + 1))) h12
  else
    K (.inr (.inl ())) h
def spatelaw12_SchedOwn.b5 (p0 : Sl) (p1 : Sl) (p5 : Option Addr) (p7 : Option Addr) (s : Sl × Int) (h : H) (K : (Sl × Int) ⊕ Sl → H → Prop) : Prop :=
  if (decide (s.2 < (p0.len : Int))) = true then
    rd (ixA 1 p0 s.2) fun q6 =>
    rd (ld kL q6 h) fun x7 =>
    spatelaw12_twin x7 h fun r21 h30 =>
    al 34 (k33.enc (S33.mk r21 0)) h30 fun q7 h31 =>
    bs 30 1 (kP.enc (some q7)) h31 fun x8 h32 =>
    ap kP.n 8 30 (kP.enc none) s.1 x8 h32 fun x9 h33 =>
    rd (ixA 1 x9 s.2) fun q8 =>
    rd (ld kP q8 h33) fun x10 =>
    sched_Sched_Add p5 (some (30, .pointer x10) : IF) h33 fun r22 h34 =>
    rd (ixA 1 p0 s.2) fun q9 =>
    rd (ld kL q9 h34) fun x11 =>
    spatelaw12_twin x11 h34 fun r23 h35 =>
    al 34 (k33.enc (S33.mk r23 0)) h35 fun q10 h36 =>
    sched_Sched_Add p7 (some (30, .pointer (some q10)) : IF) h36 fun r24 h37 =>
    K (.inl (x9, IntKind.i64.wrap (s.2 + 1))) h37
  else
    K (.inr s.1) h
/-- spate/spatelaw12.SchedOwn -/
def spatelaw12_SchedOwn (a0 : Sl) (a1 : Sl) (h : H) (Q : Bool → H → Prop) : Prop :=
  spatelaw12_known  h fun r1 h1 =>
  if (!r1) = true then
    Q false h1
  else
    jn (fun (k1 : Bool → H → Prop) =>
      if (decide ((a1.len : Int) > 300)) = true then
        k1 true h1
      else
        k1 (decide ((a0.len : Int) > 40)) h1) fun s1 h2 =>
    if s1 = true then
      Q true h2
    else
      sched_New 8 h2 fun r2 h3 =>
      sched_New 8 h3 fun r3 h4 =>
      jn (fun (k2 : Bool → H → Prop) =>
        if (r2.2 != 0) = true then
          k2 true h4
        else
          if (r3.2 != 0) = true then
            k2 true h4
          else
            if r2.1.isNone = true then
              k2 true h4
            else
              k2 r3.1.isNone h4) fun s2 h5 =>
      if s2 = true then
        Q false h5
      else
        jn (fun (k3 : Sl → H → Prop) =>
          loopE (spatelaw12_SchedOwn.b5 a0 a1 r2.1 r3.1) (Sl.nil, 0) h5 (fun r25 hh => k3 r25 hh)) fun s3 h6 =>
        jn (fun (k4 : Unit → H → Prop) =>
          loopE (spatelaw12_SchedOwn.b2 a1 r2.1 r3.1 s3) 0 h6 (sumK (fun r19 hh => k4 r19 hh) (fun r20 hh => Q r20 hh))) fun s4 h7 =>
        jn (fun (k5 : Unit → H → Prop) =>
          loopE (spatelaw12_SchedOwn.b1 r2.1 r3.1 s3) 0 h7 (sumK (fun r6 hh => k5 r6 hh) (fun r7 hh => Q r7 hh))) fun s5 h8 =>
        Q true h8
theorem spatelaw12_SchedOwn.sound {a0 : Sl} {a1 : Sl} {h : H} {Q : Bool → H → Prop} (hF : spatelaw12_SchedOwn a0 a1 h Q) :
    CallsH Try.prog 7 (List.toArray (α := Value) [Sl.val a0, Sl.val a1]) h fun v h' => ∃ x : Bool, v = .bool x ∧ Q x h' := by
  refine CallsH.of_body Try.func7 rfl 170 rfl rfl ?_
  refine WP.seq ?_
  refine WP.region ?_
  refine EvK.pure (v := .bool false) (w_none rfl) rfl rfl (f_assign rfl rfl) ?_
  refine EvK.nil ?_
  refine WP.seq ?_
  refine WP.seq ?_
  refine WP.region ?_
  refine EvK.call (w_none rfl) rfl rfl (enterH Try.func8 rfl rfl rfl rfl (spatelaw12_known.sound hF)) ?_
  rintro _ h1 ⟨r1, rfl, hF⟩
  refine EvK.pure (v := .bool (!r1)) (w_none rfl) rfl rfl (f_not rfl rfl) ?_
  refine EvK.nil ?_
  rcases ite_inv hF with ⟨c1, hF⟩ | ⟨c1, hF⟩
  · refine WP.cond_true _ rfl c1 ?_
    refine WP.seq ?_
    refine WP.region ?_
    refine EvK.pure (v := .bool false) (w_none rfl) rfl rfl (f_assign rfl rfl) ?_
    refine EvK.nil ?_
    refine WP.ret ?_
    exact Ret.mk (vs := [.bool false]) false ⟨rfl, trivial⟩ rfl hF
  · refine WP.cond_false _ rfl c1 ?_
    refine WP.skip ?_
    refine WP.seq ?_
    refine WP.joinF (fun (s1 : Bool) => [(27, .bool s1), (0, Sl.val a0), (1, Sl.val a1)]) hF ?_ ?_
    · intro s1 E0 h2 hF
      rcases ite_inv hF with ⟨c2, hF⟩ | ⟨c2, hF⟩
      · refine WP.cond_true _ rfl c2 ?_
        refine WP.seq ?_
        refine WP.region ?_
        refine EvK.pure (v := .bool true) (w_none rfl) rfl rfl (f_assign rfl rfl) ?_
        refine EvK.nil ?_
        refine WP.ret ?_
        exact Ret.mk (vs := [.bool true]) true ⟨rfl, trivial⟩ rfl hF
      · refine WP.cond_false _ rfl c2 ?_
        refine WP.skip ?_
        refine WP.seq ?_
        refine WP.region ?_
        refine EvK.call (w_none rfl) rfl rfl (enterH Try.func9 rfl rfl rfl rfl (sched_New.sound hF)) ?_
        rintro _ h3 ⟨r2, rfl, hF⟩
        refine EvK.pure (v := .tuple #[.pointer r2.1, .int .i64 r2.2]) (w_none rfl) rfl rfl (f_move rfl rfl) ?_
        refine EvK.pure (v := .pointer r2.1) (w_none rfl) rfl rfl (f_extract (vs := #[.pointer r2.1, .int .i64 r2.2]) rfl rfl rfl) ?_
        refine EvK.pure (v := .int .i64 r2.2) (w_none rfl) rfl rfl (f_extract (vs := #[.pointer r2.1, .int .i64 r2.2]) rfl rfl rfl) ?_
        refine EvK.pure (v := .pointer r2.1) (w_none rfl) rfl rfl (f_assign rfl rfl) ?_
        refine EvK.pure (v := .int .i64 r2.2) (w_none rfl) rfl rfl (f_assign rfl rfl) ?_
        refine EvK.nil ?_
        refine WP.seq ?_
        refine WP.region ?_
        refine EvK.call (w_none rfl) rfl rfl (enterH Try.func9 rfl rfl rfl rfl (sched_New.sound hF)) ?_
        rintro _ h4 ⟨r3, rfl, hF⟩
        refine EvK.pure (v := .tuple #[.pointer r3.1, .int .i64 r3.2]) (w_none rfl) rfl rfl (f_move rfl rfl) ?_
        refine EvK.pure (v := .pointer r3.1) (w_none rfl) rfl rfl (f_extract (vs := #[.pointer r3.1, .int .i64 r3.2]) rfl rfl rfl) ?_
        refine EvK.pure (v := .int .i64 r3.2) (w_none rfl) rfl rfl (f_extract (vs := #[.pointer r3.1, .int .i64 r3.2]) rfl rfl rfl) ?_
        refine EvK.pure (v := .pointer r3.1) (w_none rfl) rfl rfl (f_assign rfl rfl) ?_
        refine EvK.pure (v := .int .i64 r3.2) (w_none rfl) rfl rfl (f_assign rfl rfl) ?_
        refine EvK.nil ?_
        refine WP.seq ?_
        refine WP.joinF (fun (s2 : Bool) => [(49, .bool s2), (0, Sl.val a0), (1, Sl.val a1), (5, .pointer r2.1), (7, .pointer r3.1)]) hF ?_ ?_
        · intro s2 E0 h5 hF
          rcases ite_inv hF with ⟨c3, hF⟩ | ⟨c3, hF⟩
          · refine WP.cond_true _ rfl c3 ?_
            refine WP.seq ?_
            refine WP.region ?_
            refine EvK.pure (v := .bool false) (w_none rfl) rfl rfl (f_assign rfl rfl) ?_
            refine EvK.nil ?_
            refine WP.ret ?_
            exact Ret.mk (vs := [.bool false]) false ⟨rfl, trivial⟩ rfl hF
          · refine WP.cond_false _ rfl c3 ?_
            refine WP.skip ?_
            refine WP.seq ?_
            refine WP.region ?_
            refine EvK.pure (v := Sl.val Sl.nil) (w_none rfl) rfl rfl (f_assign rfl rfl) ?_
            refine EvK.nil ?_
            refine WP.joinF (fun (s3 : Sl) => [(9, Sl.val s3), (1, Sl.val a1), (5, .pointer r2.1), (7, .pointer r3.1)]) hF ?_ ?_
            · intro s3 E0 h6 hF
              refine WP.joinF (fun (s4 : Unit) => [(5, .pointer r2.1), (7, .pointer r3.1), (9, Sl.val s3)]) hF ?_ ?_
              · intro s4 E0 h7 hF
                refine WP.joinF (fun (s5 : Unit) => []) hF ?_ ?_
                · intro s5 E0 h8 hF
                  refine WP.seq ?_
                  refine WP.region ?_
                  refine EvK.pure (v := .bool true) (w_none rfl) rfl rfl (f_assign rfl rfl) ?_
                  refine EvK.nil ?_
                  refine WP.ret ?_
                  exact Ret.mk (vs := [.bool true]) true ⟨rfl, trivial⟩ rfl hF
                · intro k5 hF
                  refine WP.seq ?_
                  refine WP.region ?_
                  refine EvK.pure (v := .int .i64 0) (w_none rfl) rfl rfl (f_assign rfl rfl) ?_
                  refine EvK.nil ?_
                  refine WP.block ?_
                  refine WP.loopF (fun (s6 : Int) => [(17, .int .i64 s6), (5, .pointer r2.1), (7, .pointer r3.1), (9, Sl.val s3)]) hF ⟨rfl, rfl, rfl, rfl, trivial⟩ ?_
                  intro k6 s6 E0 h9 hF
                  refine WP.seq ?_
                  refine WP.seq ?_
                  refine WP.region ?_
                  refine EvK.pure (v := .int .i64 s6) (w_none rfl) rfl rfl (f_move rfl rfl) ?_
                  refine EvK.pure (v := Sl.val s3) (w_none rfl) rfl rfl (f_move rfl rfl) ?_
                  refine EvK.pure (v := .int .i64 (s3.len : Int)) (w_none rfl) rfl rfl (f_lenL (s := s3) Try.underlying29 rfl rfl) ?_
                  refine EvK.pure (v := .bool (decide (s6 < (s3.len : Int)))) (w_none rfl) rfl rfl (f_lss rfl rfl rfl) ?_
                  refine EvK.nil ?_
                  rcases ite_inv hF with ⟨c4, hF⟩ | ⟨c4, hF⟩
                  · refine WP.cond_true _ rfl c4 ?_
                    refine WP.skip ?_
                    refine WP.seq ?_
                    refine WP.block ?_
                    refine WP.seq ?_
                    refine WP.region ?_
                    refine EvK.pure (v := .pointer r2.1) (w_none rfl) rfl rfl (f_move rfl rfl) ?_
                    refine EvK.pure (v := .int .i64 s6) (w_none rfl) rfl rfl (f_move rfl rfl) ?_
                    refine EvK.call (w_none rfl) rfl rfl (enterH Try.func13 rfl rfl rfl rfl (sched_Sched_State.sound hF)) ?_
                    rintro _ h10 ⟨r4, rfl, hF⟩
                    refine EvK.pure (v := .pointer r3.1) (w_none rfl) rfl rfl (f_move rfl rfl) ?_
                    refine EvK.pure (v := .int .i64 s6) (w_none rfl) rfl rfl (f_move rfl rfl) ?_
                    refine EvK.call (w_none rfl) rfl rfl (enterH Try.func13 rfl rfl rfl rfl (sched_Sched_State.sound hF)) ?_
                    rintro _ h11 ⟨r5, rfl, hF⟩
                    refine EvK.pure (v := .bool (r4 != r5)) (w_none rfl) rfl rfl (f_neq rfl rfl rfl) ?_
                    refine EvK.nil ?_
                    rcases ite_inv hF with ⟨c5, hF⟩ | ⟨c5, hF⟩
                    · refine WP.cond_true _ rfl c5 ?_
                      refine WP.seq ?_
                      refine WP.region ?_
                      refine EvK.pure (v := .bool false) (w_none rfl) rfl rfl (f_assign rfl rfl) ?_
                      refine EvK.nil ?_
                      refine WP.ret ?_
                      exact Ret.mk (vs := [.bool false]) false ⟨rfl, trivial⟩ rfl hF
                    · refine WP.cond_false _ rfl c5 ?_
                      refine WP.skip ?_
                      refine WP.region ?_
                      refine EvK.pure (v := .int .i64 s6) (w_none rfl) rfl rfl (f_move rfl rfl) ?_
                      refine EvK.pure (v := .int .i64 (IntKind.i64.wrap (s6 + 1))) (w_none rfl) rfl rfl (f_add rfl rfl rfl) ?_
                      refine EvK.pure (v := .int .i64 (IntKind.i64.wrap (s6 + 1))) (w_none rfl) rfl rfl (f_assign rfl rfl) ?_
                      refine EvK.nil ?_
                      exact KE.mk (IntKind.i64.wrap (s6 + 1)) ⟨rfl, rfl, rfl, rfl, trivial⟩ hF
                  · refine WP.cond_false _ rfl c4 ?_
                    refine WP.exit ?_
                    exact KE.mk () trivial hF
              · intro k4 hF
                refine WP.seq ?_
                refine WP.region ?_
                refine EvK.pure (v := .int .i64 0) (w_none rfl) rfl rfl (f_assign rfl rfl) ?_
                refine EvK.nil ?_
                refine WP.block ?_
                refine WP.loopF (fun (s7 : Int) => [(11, .int .i64 s7), (1, Sl.val a1), (5, .pointer r2.1), (7, .pointer r3.1), (9, Sl.val s3)]) hF ⟨rfl, rfl, rfl, rfl, rfl, trivial⟩ ?_
                intro k7 s7 E0 h12 hF
                refine WP.seq ?_
                refine WP.seq ?_
                refine WP.region ?_
                refine EvK.pure (v := .int .i64 s7) (w_none rfl) rfl rfl (f_move rfl rfl) ?_
                refine EvK.pure (v := Sl.val a1) (w_none rfl) rfl rfl (f_move rfl rfl) ?_
                refine EvK.pure (v := .int .i64 (a1.len : Int)) (w_none rfl) rfl rfl (f_lenL (s := a1) Try.underlying23 rfl rfl) ?_
                refine EvK.pure (v := .bool (decide (s7 < (a1.len : Int)))) (w_none rfl) rfl rfl (f_lss rfl rfl rfl) ?_
                refine EvK.nil ?_
                rcases ite_inv hF with ⟨c6, hF⟩ | ⟨c6, hF⟩
                · refine WP.cond_true _ rfl c6 ?_
                  refine WP.skip ?_
                  refine WP.joinF (fun (s8 : Unit) => [(1, Sl.val a1), (5, .pointer r2.1), (7, .pointer r3.1), (9, Sl.val s3), (11, .int .i64 s7)]) hF ?_ ?_
                  · intro s8 E0 h13 hF
                    refine WP.region ?_
                    refine EvK.pure (v := .int .i64 s7) (w_none rfl) rfl rfl (f_move rfl rfl) ?_
                    refine EvK.pure (v := .int .i64 (IntKind.i64.wrap (s7 + 1))) (w_none rfl) rfl rfl (f_add rfl rfl rfl) ?_
                    refine EvK.pure (v := .int .i64 (IntKind.i64.wrap (s7 + 1))) (w_none rfl) rfl rfl (f_assign rfl rfl) ?_
                    refine EvK.nil ?_
                    exact KE.mk (IntKind.i64.wrap (s7 + 1)) ⟨rfl, rfl, rfl, rfl, rfl, trivial⟩ hF
                  · intro k8 hF
                    refine WP.block ?_
                    refine WP.seq ?_
                    refine WP.region ?_
                    refine EvK.pure (v := .pointer r2.1) (w_none rfl) rfl rfl (f_move rfl rfl) ?_
                    refine EvK.pure (v := Sl.val a1) (w_none rfl) rfl rfl (f_move rfl rfl) ?_
                    refine EvK.pure (v := .int .i64 s7) (w_none rfl) rfl rfl (f_move rfl rfl) ?_
                    obtain ⟨q1, hq1, hF⟩ := hF
                    refine EvK.pure (v := .pointer (some q1)) (w_none rfl) rfl rfl (f_indexAddr (s := a1) Try.underlying23 ty37.size rfl rfl rfl hq1) ?_
                    obtain ⟨x1, hx1, hF⟩ := hF
                    refine EvK.read (v := k36.val x1) (w_none rfl) rfl rfl (f_load k36 ty37 rfl rfl hx1 rfl) ?_
                    refine EvK.call (w_none rfl) rfl rfl (enterH Try.func21 rfl rfl rfl rfl (spatelaw12_do.sound hF)) ?_
                    rintro _ h14 ⟨r8, rfl, hF⟩
                    refine EvK.nil ?_
                    refine WP.seq ?_
                    refine WP.region ?_
                    refine EvK.pure (v := .pointer r3.1) (w_none rfl) rfl rfl (f_move rfl rfl) ?_
                    refine EvK.pure (v := Sl.val a1) (w_none rfl) rfl rfl (f_move rfl rfl) ?_
                    refine EvK.pure (v := .int .i64 s7) (w_none rfl) rfl rfl (f_move rfl rfl) ?_
                    obtain ⟨q2, hq2, hF⟩ := hF
                    refine EvK.pure (v := .pointer (some q2)) (w_none rfl) rfl rfl (f_indexAddr (s := a1) Try.underlying23 ty37.size rfl rfl rfl hq2) ?_
                    obtain ⟨x2, hx2, hF⟩ := hF
                    refine EvK.read (v := k36.val x2) (w_none rfl) rfl rfl (f_load k36 ty37 rfl rfl hx2 rfl) ?_
                    refine EvK.call (w_none rfl) rfl rfl (enterH Try.func21 rfl rfl rfl rfl (spatelaw12_do.sound hF)) ?_
                    rintro _ h15 ⟨r9, rfl, hF⟩
                    refine EvK.nil ?_
                    refine WP.seq ?_
                    refine WP.region ?_
                    refine EvK.pure (v := .pointer r2.1) (w_none rfl) rfl rfl (f_move rfl rfl) ?_
                    refine EvK.call (w_none rfl) rfl rfl (enterH Try.func12 rfl rfl rfl rfl (sched_Sched_Ready.sound hF)) ?_
                    rintro _ h16 ⟨r10, rfl, hF⟩
                    refine EvK.pure (v := Sl.val r10) (w_none rfl) rfl rfl (f_assign rfl rfl) ?_
                    refine EvK.nil ?_
                    refine WP.seq ?_
                    refine WP.region ?_
                    refine EvK.pure (v := .pointer r2.1) (w_none rfl) rfl rfl (f_move rfl rfl) ?_
                    refine EvK.call (w_none rfl) rfl rfl (enterH Try.func12 rfl rfl rfl rfl (sched_Sched_Ready.sound hF)) ?_
                    rintro _ h17 ⟨r11, rfl, hF⟩
                    refine EvK.pure (v := Sl.val r11) (w_none rfl) rfl rfl (f_assign rfl rfl) ?_
                    refine EvK.nil ?_
                    refine WP.seq ?_
                    refine WP.region ?_
                    refine EvK.pure (v := .pointer r3.1) (w_none rfl) rfl rfl (f_move rfl rfl) ?_
                    refine EvK.call (w_none rfl) rfl rfl (enterH Try.func12 rfl rfl rfl rfl (sched_Sched_Ready.sound hF)) ?_
                    rintro _ h18 ⟨r12, rfl, hF⟩
                    refine EvK.pure (v := Sl.val r12) (w_none rfl) rfl rfl (f_assign rfl rfl) ?_
                    refine EvK.nil ?_
                    refine WP.joinF (fun (s9 : Unit) => [(1, Sl.val a1), (5, .pointer r2.1), (7, .pointer r3.1), (9, Sl.val s3), (11, .int .i64 s7), (12, Sl.val r10), (13, Sl.val r11), (14, Sl.val r12)]) hF ?_ ?_
                    · intro s9 E0 h19 hF
                      refine WP.seq ?_
                      refine WP.region ?_
                      refine EvK.pure (v := Sl.val r10) (w_none rfl) rfl rfl (f_move rfl rfl) ?_
                      refine EvK.alloc (w_none rfl) rfl rfl (f_buildSliceF Try.underlying38 el3 (by decide) rfl rfl rfl hF) ?_
                      rintro _ h20 ⟨x3, rfl, hF⟩
                      refine EvK.run (w_none rfl) rfl rfl (f_appendE (s := r10) (x := x3) Try.underlying38 el3 rfl rfl rfl hF) ?_
                      rintro _ h21 ⟨x4, rfl, hF⟩
                      refine EvK.pure (v := Sl.val x4) (w_none rfl) rfl rfl (f_assign rfl rfl) ?_
                      refine EvK.nil ?_
                      refine WP.seq ?_
                      refine WP.joinF (fun (s10 : Bool) => [(145, .bool s10), (1, Sl.val a1), (5, .pointer r2.1), (7, .pointer r3.1), (9, Sl.val s3), (11, .int .i64 s7)]) hF ?_ ?_
                      · intro s10 E0 h22 hF
                        rcases ite_inv hF with ⟨c7, hF⟩ | ⟨c7, hF⟩
                        · refine WP.cond_true _ rfl c7 ?_
                          refine WP.seq ?_
                          refine WP.region ?_
                          refine EvK.pure (v := .bool false) (w_none rfl) rfl rfl (f_assign rfl rfl) ?_
                          refine EvK.nil ?_
                          refine WP.ret ?_
                          exact Ret.mk (vs := [.bool false]) false ⟨rfl, trivial⟩ rfl hF
                        · refine WP.cond_false _ rfl c7 ?_
                          refine WP.skip ?_
                          refine WP.seq ?_
                          refine WP.region ?_
                          refine EvK.pure (v := .int .i64 0) (w_none rfl) rfl rfl (f_assign rfl rfl) ?_
                          refine EvK.nil ?_
                          refine WP.block ?_
                          refine WP.loopF (fun (s11 : Int) => [(16, .int .i64 s11), (1, Sl.val a1), (5, .pointer r2.1), (7, .pointer r3.1), (9, Sl.val s3), (11, .int .i64 s7)]) hF ⟨rfl, rfl, rfl, rfl, rfl, rfl, trivial⟩ ?_
                          intro k11 s11 E0 h23 hF
                          refine WP.seq ?_
                          refine WP.seq ?_
                          refine WP.region ?_
                          refine EvK.pure (v := .int .i64 s11) (w_none rfl) rfl rfl (f_move rfl rfl) ?_
                          refine EvK.pure (v := Sl.val s3) (w_none rfl) rfl rfl (f_move rfl rfl) ?_
                          refine EvK.pure (v := .int .i64 (s3.len : Int)) (w_none rfl) rfl rfl (f_lenL (s := s3) Try.underlying29 rfl rfl) ?_
                          refine EvK.pure (v := .bool (decide (s11 < (s3.len : Int)))) (w_none rfl) rfl rfl (f_lss rfl rfl rfl) ?_
                          refine EvK.nil ?_
                          rcases ite_inv hF with ⟨c8, hF⟩ | ⟨c8, hF⟩
                          · refine WP.cond_true _ rfl c8 ?_
                            refine WP.skip ?_
                            refine WP.seq ?_
                            refine WP.block ?_
                            refine WP.region ?_
                            refine EvK.pure (v := Sl.val s3) (w_none rfl) rfl rfl (f_move rfl rfl) ?_
                            refine EvK.pure (v := .int .i64 s11) (w_none rfl) rfl rfl (f_move rfl rfl) ?_
                            obtain ⟨q3, hq3, hF⟩ := hF
                            refine EvK.pure (v := .pointer (some q3)) (w_none rfl) rfl rfl (f_indexAddr (s := s3) Try.underlying29 ty30.size rfl rfl rfl hq3) ?_
                            obtain ⟨x5, hx3, hF⟩ := hF
                            refine EvK.read (v := .pointer x5) (w_none rfl) rfl rfl (f_load kP ty30 rfl rfl hx3 rfl) ?_
                            refine EvK.call (w_none rfl) rfl rfl (enterH Try.func23 rfl rfl rfl rfl (spatelaw12_spoilt.sound hF)) ?_
                            rintro _ h24 ⟨r13, rfl, hF⟩
                            refine EvK.nil ?_
                            refine WP.region ?_
                            refine EvK.pure (v := .int .i64 s11) (w_none rfl) rfl rfl (f_move rfl rfl) ?_
                            refine EvK.pure (v := .int .i64 (IntKind.i64.wrap (s11 + 1))) (w_none rfl) rfl rfl (f_add rfl rfl rfl) ?_
                            refine EvK.pure (v := .int .i64 (IntKind.i64.wrap (s11 + 1))) (w_none rfl) rfl rfl (f_assign rfl rfl) ?_
                            refine EvK.nil ?_
                            exact KE.mk (IntKind.i64.wrap (s11 + 1)) ⟨rfl, rfl, rfl, rfl, rfl, rfl, trivial⟩ hF
                          · refine WP.cond_false _ rfl c8 ?_
                            refine WP.exit ?_
                            exact KE.mk () ⟨rfl, rfl, rfl, rfl, rfl, trivial⟩ hF
                      · intro k10 hF
                        refine WP.region ?_
                        refine EvK.pure (v := Sl.val r11) (w_none rfl) rfl rfl (f_move rfl rfl) ?_
                        refine EvK.pure (v := Sl.val r12) (w_none rfl) rfl rfl (f_move rfl rfl) ?_
                        refine EvK.call (w_none rfl) rfl rfl (enterH Try.func22 rfl rfl rfl rfl (spatelaw12_ints.sound hF)) ?_
                        rintro _ h25 ⟨r15, rfl, hF⟩
                        refine EvK.pure (v := .bool (!r15)) (w_none rfl) rfl rfl (f_not rfl rfl) ?_
                        refine EvK.pure (v := .bool (!r15)) (w_none rfl) rfl rfl (f_move rfl rfl) ?_
                        rcases ite_inv hF with ⟨c9, hF⟩ | ⟨c9, hF⟩
                        · refine EvK.not (w_not rfl rfl c9) rfl rfl ?_
                          refine EvK.not (w_not rfl rfl c9) rfl rfl ?_
                          refine EvK.not (w_not rfl rfl c9) rfl rfl ?_
                          refine EvK.not (w_not rfl rfl c9) rfl rfl ?_
                          refine EvK.not (w_not rfl rfl c9) rfl rfl ?_
                          refine EvK.pure (v := .bool true) (w_none rfl) rfl rfl (f_pickT rfl rfl c9 rfl) ?_
                          refine EvK.pure (v := .bool true) (w_none rfl) rfl rfl (f_move rfl rfl) ?_
                          refine EvK.not (w_not rfl rfl rfl) rfl rfl ?_
                          refine EvK.not (w_not rfl rfl rfl) rfl rfl ?_
                          refine EvK.not (w_not rfl rfl rfl) rfl rfl ?_
                          refine EvK.not (w_not rfl rfl rfl) rfl rfl ?_
                          refine EvK.not (w_not rfl rfl rfl) rfl rfl ?_
                          refine EvK.not (w_not rfl rfl rfl) rfl rfl ?_
                          refine EvK.pure (v := .bool true) (w_none rfl) rfl rfl (f_pickT rfl rfl rfl rfl) ?_
                          refine EvK.pure (v := .bool true) (w_none rfl) rfl rfl (f_move rfl rfl) ?_
                          refine EvK.not (w_not rfl rfl rfl) rfl rfl ?_
                          refine EvK.not (w_not rfl rfl rfl) rfl rfl ?_
                          refine EvK.not (w_not rfl rfl rfl) rfl rfl ?_
                          refine EvK.not (w_not rfl rfl rfl) rfl rfl ?_
                          refine EvK.not (w_not rfl rfl rfl) rfl rfl ?_
                          refine EvK.not (w_not rfl rfl rfl) rfl rfl ?_
                          refine EvK.pure (v := .bool true) (w_none rfl) rfl rfl (f_pickT rfl rfl rfl rfl) ?_
                          refine EvK.nil ?_
                          exact KE.mk true ⟨rfl, rfl, rfl, rfl, rfl, rfl, trivial⟩ hF
                        · refine EvK.pure (v := .pointer r2.1) (w_some rfl rfl c9) rfl rfl (f_move rfl rfl) ?_
                          refine EvK.call (w_some rfl rfl c9) rfl rfl (enterH Try.func12 rfl rfl rfl rfl (sched_Sched_Ready.sound hF)) ?_
                          rintro _ h26 ⟨r16, rfl, hF⟩
                          refine EvK.pure (v := Sl.val r12) (w_some rfl rfl c9) rfl rfl (f_move rfl rfl) ?_
                          refine EvK.call (w_some rfl rfl c9) rfl rfl (enterH Try.func22 rfl rfl rfl rfl (spatelaw12_ints.sound hF)) ?_
                          rintro _ h27 ⟨r17, rfl, hF⟩
                          refine EvK.pure (v := .bool (!r17)) (w_some rfl rfl c9) rfl rfl (f_not rfl rfl) ?_
                          refine EvK.pure (v := .bool (!r17)) (w_none rfl) rfl rfl (f_pickF rfl rfl c9 rfl) ?_
                          refine EvK.pure (v := .bool (!r17)) (w_none rfl) rfl rfl (f_move rfl rfl) ?_
                          rcases ite_inv hF with ⟨c10, hF⟩ | ⟨c10, hF⟩
                          · refine EvK.not (w_not rfl rfl c10) rfl rfl ?_
                            refine EvK.not (w_not rfl rfl c10) rfl rfl ?_
                            refine EvK.not (w_not rfl rfl c10) rfl rfl ?_
                            refine EvK.not (w_not rfl rfl c10) rfl rfl ?_
                            refine EvK.not (w_not rfl rfl c10) rfl rfl ?_
                            refine EvK.not (w_not rfl rfl c10) rfl rfl ?_
                            refine EvK.pure (v := .bool true) (w_none rfl) rfl rfl (f_pickT rfl rfl c10 rfl) ?_
                            refine EvK.pure (v := .bool true) (w_none rfl) rfl rfl (f_move rfl rfl) ?_
                            refine EvK.not (w_not rfl rfl rfl) rfl rfl ?_
                            refine EvK.not (w_not rfl rfl rfl) rfl rfl ?_
                            refine EvK.not (w_not rfl rfl rfl) rfl rfl ?_
                            refine EvK.not (w_not rfl rfl rfl) rfl rfl ?_
                            refine EvK.not (w_not rfl rfl rfl) rfl rfl ?_
                            refine EvK.not (w_not rfl rfl rfl) rfl rfl ?_
                            refine EvK.pure (v := .bool true) (w_none rfl) rfl rfl (f_pickT rfl rfl rfl rfl) ?_
                            refine EvK.nil ?_
                            exact KE.mk true ⟨rfl, rfl, rfl, rfl, rfl, rfl, trivial⟩ hF
                          · refine EvK.pure (v := Sl.val x4) (w_some rfl rfl c10) rfl rfl (f_move rfl rfl) ?_
                            refine EvK.pure (v := .int .i64 (x4.len : Int)) (w_some rfl rfl c10) rfl rfl (f_lenL (s := x4) Try.underlying38 rfl rfl) ?_
                            refine EvK.pure (v := Sl.val r12) (w_some rfl rfl c10) rfl rfl (f_move rfl rfl) ?_
                            refine EvK.pure (v := .int .i64 (r12.len : Int)) (w_some rfl rfl c10) rfl rfl (f_lenL (s := r12) Try.underlying38 rfl rfl) ?_
                            refine EvK.pure (v := .int .i64 (IntKind.i64.wrap ((r12.len : Int) + 1))) (w_some rfl rfl c10) rfl rfl (f_add rfl rfl rfl) ?_
                            refine EvK.pure (v := .bool ((x4.len : Int) != (IntKind.i64.wrap ((r12.len : Int) + 1)))) (w_some rfl rfl c10) rfl rfl (f_neq rfl rfl rfl) ?_
                            refine EvK.pure (v := .bool ((x4.len : Int) != (IntKind.i64.wrap ((r12.len : Int) + 1)))) (w_none rfl) rfl rfl (f_pickF rfl rfl c10 rfl) ?_
                            refine EvK.pure (v := .bool ((x4.len : Int) != (IntKind.i64.wrap ((r12.len : Int) + 1)))) (w_none rfl) rfl rfl (f_move rfl rfl) ?_
                            rcases ite_inv hF with ⟨c11, hF⟩ | ⟨c11, hF⟩
                            · refine EvK.not (w_not rfl rfl c11) rfl rfl ?_
                              refine EvK.not (w_not rfl rfl c11) rfl rfl ?_
                              refine EvK.not (w_not rfl rfl c11) rfl rfl ?_
                              refine EvK.not (w_not rfl rfl c11) rfl rfl ?_
                              refine EvK.not (w_not rfl rfl c11) rfl rfl ?_
                              refine EvK.not (w_not rfl rfl c11) rfl rfl ?_
                              refine EvK.pure (v := .bool true) (w_none rfl) rfl rfl (f_pickT rfl rfl c11 rfl) ?_
                              refine EvK.nil ?_
                              exact KE.mk true ⟨rfl, rfl, rfl, rfl, rfl, rfl, trivial⟩ hF
                            · refine EvK.pure (v := Sl.val x4) (w_some rfl rfl c11) rfl rfl (f_move rfl rfl) ?_
                              refine EvK.pure (v := Sl.val r12) (w_some rfl rfl c11) rfl rfl (f_move rfl rfl) ?_
                              refine EvK.pure (v := .int .i64 (r12.len : Int)) (w_some rfl rfl c11) rfl rfl (f_lenL (s := r12) Try.underlying38 rfl rfl) ?_
                              obtain ⟨q4, hq4, hF⟩ := hF
                              refine EvK.pure (v := .pointer (some q4)) (w_some rfl rfl c11) rfl rfl (f_indexAddr (s := x4) Try.underlying38 ty3.size rfl rfl rfl hq4) ?_
                              obtain ⟨x6, hx4, hF⟩ := hF
                              refine EvK.read (v := .int .i64 x6) (w_some rfl rfl c11) rfl rfl (f_load (kI .i64) ty3 rfl rfl hx4 rfl) ?_
                              refine EvK.pure (v := .bool (x6 != 8)) (w_some rfl rfl c11) rfl rfl (f_neq rfl rfl rfl) ?_
                              refine EvK.pure (v := .bool (x6 != 8)) (w_none rfl) rfl rfl (f_pickF rfl rfl c11 rfl) ?_
                              refine EvK.nil ?_
                              exact KE.mk (x6 != 8) ⟨rfl, rfl, rfl, rfl, rfl, rfl, trivial⟩ hF
                    · intro k9 hF
                      refine WP.seq ?_
                      refine WP.region ?_
                      refine EvK.pure (v := .int .i64 0) (w_none rfl) rfl rfl (f_assign rfl rfl) ?_
                      refine EvK.nil ?_
                      refine WP.block ?_
                      refine WP.loopF (fun (s12 : Int) => [(15, .int .i64 s12), (1, Sl.val a1), (5, .pointer r2.1), (7, .pointer r3.1), (9, Sl.val s3), (11, .int .i64 s7), (12, Sl.val r10), (13, Sl.val r11), (14, Sl.val r12)]) hF ⟨rfl, rfl, rfl, rfl, rfl, rfl, rfl, rfl, rfl, trivial⟩ ?_
                      intro k12 s12 E0 h28 hF
                      refine WP.seq ?_
                      refine WP.seq ?_
                      refine WP.region ?_
                      refine EvK.pure (v := .int .i64 s12) (w_none rfl) rfl rfl (f_move rfl rfl) ?_
                      refine EvK.pure (v := Sl.val r10) (w_none rfl) rfl rfl (f_move rfl rfl) ?_
                      refine EvK.pure (v := .int .i64 (r10.len : Int)) (w_none rfl) rfl rfl (f_lenL (s := r10) Try.underlying38 rfl rfl) ?_
                      refine EvK.pure (v := .bool (decide (s12 < (r10.len : Int)))) (w_none rfl) rfl rfl (f_lss rfl rfl rfl) ?_
                      refine EvK.nil ?_
                      rcases ite_inv hF with ⟨c12, hF⟩ | ⟨c12, hF⟩
                      · refine WP.cond_true _ rfl c12 ?_
                        refine WP.skip ?_
                        refine WP.seq ?_
                        refine WP.block ?_
                        refine WP.region ?_
                        refine EvK.pure (v := Sl.val r10) (w_none rfl) rfl rfl (f_move rfl rfl) ?_
                        refine EvK.pure (v := .int .i64 s12) (w_none rfl) rfl rfl (f_move rfl rfl) ?_
                        obtain ⟨q5, hq5, hF⟩ := hF
                        refine EvK.pure (v := .pointer (some q5)) (w_none rfl) rfl rfl (f_indexAddr (s := r10) Try.underlying38 ty3.size rfl rfl rfl hq5) ?_
                        obtain ⟨h29, hs1, hF⟩ := hF
                        refine EvK.runN (w_none rfl) rfl (f_store (kI .i64) ty3.size (z := (-5)) rfl rfl rfl hs1) ?_
                        rintro _ _ ⟨rfl, rfl⟩
                        refine EvK.nil ?_
                        refine WP.region ?_
                        refine EvK.pure (v := .int .i64 s12) (w_none rfl) rfl rfl (f_move rfl rfl) ?_
                        refine EvK.pure (v := .int .i64 (IntKind.i64.wrap (s12 + 1))) (w_none rfl) rfl rfl (f_add rfl rfl rfl) ?_
                        refine EvK.pure (v := .int .i64 (IntKind.i64.wrap (s12 + 1))) (w_none rfl) rfl rfl (f_assign rfl rfl) ?_
                        refine EvK.nil ?_
                        exact KE.mk (IntKind.i64.wrap (s12 + 1)) ⟨rfl, rfl, rfl, rfl, rfl, rfl, rfl, rfl, rfl, trivial⟩ hF
                      · refine WP.cond_false _ rfl c12 ?_
                        refine WP.exit ?_
                        exact KE.mk () ⟨rfl, rfl, rfl, rfl, rfl, rfl, rfl, rfl, trivial⟩ hF
                · refine WP.cond_false _ rfl c6 ?_
                  refine WP.exit ?_
                  exact KE.mk () ⟨rfl, rfl, rfl, trivial⟩ hF
            · intro k3 hF
              refine WP.seq ?_
              refine WP.region ?_
              refine EvK.pure (v := .int .i64 0) (w_none rfl) rfl rfl (f_assign rfl rfl) ?_
              refine EvK.nil ?_
              refine WP.block ?_
              refine WP.loopF (fun (s13 : Sl × Int) => [(9, Sl.val s13.1), (10, .int .i64 s13.2), (0, Sl.val a0), (1, Sl.val a1), (5, .pointer r2.1), (7, .pointer r3.1)]) hF ⟨rfl, rfl, rfl, rfl, rfl, rfl, trivial⟩ ?_
              intro k13 s13 E0 h30 hF
              refine WP.seq ?_
              refine WP.seq ?_
              refine WP.region ?_
              refine EvK.pure (v := .int .i64 s13.2) (w_none rfl) rfl rfl (f_move rfl rfl) ?_
              refine EvK.pure (v := Sl.val a0) (w_none rfl) rfl rfl (f_move rfl rfl) ?_
              refine EvK.pure (v := .int .i64 (a0.len : Int)) (w_none rfl) rfl rfl (f_lenL (s := a0) Try.underlying22 rfl rfl) ?_
              refine EvK.pure (v := .bool (decide (s13.2 < (a0.len : Int)))) (w_none rfl) rfl rfl (f_lss rfl rfl rfl) ?_
              refine EvK.nil ?_
              rcases ite_inv hF with ⟨c13, hF⟩ | ⟨c13, hF⟩
              · refine WP.cond_true _ rfl c13 ?_
                refine WP.skip ?_
                refine WP.seq ?_
                refine WP.block ?_
                refine WP.seq ?_
                refine WP.region ?_
                refine EvK.pure (v := Sl.val s13.1) (w_none rfl) rfl rfl (f_move rfl rfl) ?_
                refine EvK.pure (v := Sl.val a0) (w_none rfl) rfl rfl (f_move rfl rfl) ?_
                refine EvK.pure (v := .int .i64 s13.2) (w_none rfl) rfl rfl (f_move rfl rfl) ?_
                obtain ⟨q6, hq6, hF⟩ := hF
                refine EvK.pure (v := .pointer (some q6)) (w_none rfl) rfl rfl (f_indexAddr (s := a0) Try.underlying22 ty31.size rfl rfl rfl hq6) ?_
                obtain ⟨x7, hx5, hF⟩ := hF
                refine EvK.read (v := Sl.val x7) (w_none rfl) rfl rfl (f_load kL ty31 rfl rfl hx5 rfl) ?_
                refine EvK.call (w_none rfl) rfl rfl (enterH Try.func10 rfl rfl rfl rfl (spatelaw12_twin.sound hF)) ?_
                rintro _ h31 ⟨r21, rfl, hF⟩
                refine EvK.pure (v := k33.val (S33.mk r21 0)) (w_none rfl) rfl rfl (f_build (cells := k33.enc (S33.mk r21 0)) st34 rfl rfl rfl) ?_
                refine EvK.alloc (w_none rfl) rfl rfl (f_boxF (v := k33.val (S33.mk r21 0)) rfl rfl rfl hF) ?_
                rintro _ h32 ⟨q7, rfl, hF⟩
                refine EvK.alloc (w_none rfl) rfl rfl (f_buildSliceF Try.underlying29 el30 (by decide) rfl rfl rfl hF) ?_
                rintro _ h33 ⟨x8, rfl, hF⟩
                refine EvK.run (w_none rfl) rfl rfl (f_appendE (s := s13.1) (x := x8) Try.underlying29 el30 rfl rfl rfl hF) ?_
                rintro _ h34 ⟨x9, rfl, hF⟩
                refine EvK.pure (v := Sl.val x9) (w_none rfl) rfl rfl (f_assign rfl rfl) ?_
                refine EvK.nil ?_
                refine WP.seq ?_
                refine WP.region ?_
                refine EvK.pure (v := .pointer r2.1) (w_none rfl) rfl rfl (f_move rfl rfl) ?_
                refine EvK.pure (v := Sl.val x9) (w_none rfl) rfl rfl (f_move rfl rfl) ?_
                refine EvK.pure (v := .int .i64 s13.2) (w_none rfl) rfl rfl (f_move rfl rfl) ?_
                obtain ⟨q8, hq7, hF⟩ := hF
                refine EvK.pure (v := .pointer (some q8)) (w_none rfl) rfl rfl (f_indexAddr (s := x9) Try.underlying29 ty30.size rfl rfl rfl hq7) ?_
                obtain ⟨x10, hx6, hF⟩ := hF
                refine EvK.read (v := .pointer x10) (w_none rfl) rfl rfl (f_load kP ty30 rfl rfl hx6 rfl) ?_
                refine EvK.pure (v := IF.val (some (30, .pointer x10) : IF)) (w_none rfl) rfl rfl (f_makeIf Try.underlying30 rfl rfl rfl) ?_
                refine EvK.call (w_none rfl) rfl rfl (enterH (vs := [.pointer r2.1, IF.val (some (30, .pointer x10) : IF)]) Try.func11 rfl rfl rfl rfl (sched_Sched_Add.sound hF)) ?_
                rintro _ h35 ⟨r22, rfl, hF⟩
                refine EvK.nil ?_
                refine WP.region ?_
                refine EvK.pure (v := .pointer r3.1) (w_none rfl) rfl rfl (f_move rfl rfl) ?_
                refine EvK.pure (v := Sl.val a0) (w_none rfl) rfl rfl (f_move rfl rfl) ?_
                refine EvK.pure (v := .int .i64 s13.2) (w_none rfl) rfl rfl (f_move rfl rfl) ?_
                obtain ⟨q9, hq8, hF⟩ := hF
                refine EvK.pure (v := .pointer (some q9)) (w_none rfl) rfl rfl (f_indexAddr (s := a0) Try.underlying22 ty31.size rfl rfl rfl hq8) ?_
                obtain ⟨x11, hx7, hF⟩ := hF
                refine EvK.read (v := Sl.val x11) (w_none rfl) rfl rfl (f_load kL ty31 rfl rfl hx7 rfl) ?_
                refine EvK.call (w_none rfl) rfl rfl (enterH Try.func10 rfl rfl rfl rfl (spatelaw12_twin.sound hF)) ?_
                rintro _ h36 ⟨r23, rfl, hF⟩
                refine EvK.pure (v := k33.val (S33.mk r23 0)) (w_none rfl) rfl rfl (f_build (cells := k33.enc (S33.mk r23 0)) st34 rfl rfl rfl) ?_
                refine EvK.alloc (w_none rfl) rfl rfl (f_boxF (v := k33.val (S33.mk r23 0)) rfl rfl rfl hF) ?_
                rintro _ h37 ⟨q10, rfl, hF⟩
                refine EvK.pure (v := IF.val (some (30, .pointer (some q10)) : IF)) (w_none rfl) rfl rfl (f_makeIf Try.underlying30 rfl rfl rfl) ?_
                refine EvK.call (w_none rfl) rfl rfl (enterH (vs := [.pointer r3.1, IF.val (some (30, .pointer (some q10)) : IF)]) Try.func11 rfl rfl rfl rfl (sched_Sched_Add.sound hF)) ?_
                rintro _ h38 ⟨r24, rfl, hF⟩
                refine EvK.nil ?_
                refine WP.region ?_
                refine EvK.pure (v := .int .i64 s13.2) (w_none rfl) rfl rfl (f_move rfl rfl) ?_
                refine EvK.pure (v := .int .i64 (IntKind.i64.wrap (s13.2 + 1))) (w_none rfl) rfl rfl (f_add rfl rfl rfl) ?_
                refine EvK.pure (v := .int .i64 (IntKind.i64.wrap (s13.2 + 1))) (w_none rfl) rfl rfl (f_assign rfl rfl) ?_
                refine EvK.nil ?_
                exact KE.mk (x9, IntKind.i64.wrap (s13.2 + 1)) ⟨rfl, rfl, rfl, rfl, rfl, rfl, trivial⟩ hF
              · refine WP.cond_false _ rfl c13 ?_
                refine WP.exit ?_
                exact KE.mk s13.1 ⟨rfl, rfl, rfl, rfl, trivial⟩ hF
        · intro k2 hF
          refine WP.region ?_
          refine EvK.pure (v := .int .i64 r2.2) (w_none rfl) rfl rfl (f_move rfl rfl) ?_
          refine EvK.pure (v := .bool (r2.2 != 0)) (w_none rfl) rfl rfl (f_neq rfl rfl rfl) ?_
          refine EvK.pure (v := .bool (r2.2 != 0)) (w_none rfl) rfl rfl (f_move rfl rfl) ?_
          rcases ite_inv hF with ⟨c14, hF⟩ | ⟨c14, hF⟩
          · refine EvK.not (w_not rfl rfl c14) rfl rfl ?_
            refine EvK.not (w_not rfl rfl c14) rfl rfl ?_
            refine EvK.pure (v := .bool true) (w_none rfl) rfl rfl (f_pickT rfl rfl c14 rfl) ?_
            refine EvK.pure (v := .bool true) (w_none rfl) rfl rfl (f_move rfl rfl) ?_
            refine EvK.not (w_not rfl rfl rfl) rfl rfl ?_
            refine EvK.not (w_not rfl rfl rfl) rfl rfl ?_
            refine EvK.pure (v := .bool true) (w_none rfl) rfl rfl (f_pickT rfl rfl rfl rfl) ?_
            refine EvK.pure (v := .bool true) (w_none rfl) rfl rfl (f_move rfl rfl) ?_
            refine EvK.not (w_not rfl rfl rfl) rfl rfl ?_
            refine EvK.not (w_not rfl rfl rfl) rfl rfl ?_
            refine EvK.pure (v := .bool true) (w_none rfl) rfl rfl (f_pickT rfl rfl rfl rfl) ?_
            refine EvK.nil ?_
            exact KE.mk true ⟨rfl, rfl, rfl, rfl, rfl, trivial⟩ hF
          · refine EvK.pure (v := .int .i64 r3.2) (w_some rfl rfl c14) rfl rfl (f_move rfl rfl) ?_
            refine EvK.pure (v := .bool (r3.2 != 0)) (w_some rfl rfl c14) rfl rfl (f_neq rfl rfl rfl) ?_
            refine EvK.pure (v := .bool (r3.2 != 0)) (w_none rfl) rfl rfl (f_pickF rfl rfl c14 rfl) ?_
            refine EvK.pure (v := .bool (r3.2 != 0)) (w_none rfl) rfl rfl (f_move rfl rfl) ?_
            rcases ite_inv hF with ⟨c15, hF⟩ | ⟨c15, hF⟩
            · refine EvK.not (w_not rfl rfl c15) rfl rfl ?_
              refine EvK.not (w_not rfl rfl c15) rfl rfl ?_
              refine EvK.pure (v := .bool true) (w_none rfl) rfl rfl (f_pickT rfl rfl c15 rfl) ?_
              refine EvK.pure (v := .bool true) (w_none rfl) rfl rfl (f_move rfl rfl) ?_
              refine EvK.not (w_not rfl rfl rfl) rfl rfl ?_
              refine EvK.not (w_not rfl rfl rfl) rfl rfl ?_
              refine EvK.pure (v := .bool true) (w_none rfl) rfl rfl (f_pickT rfl rfl rfl rfl) ?_
              refine EvK.nil ?_
              exact KE.mk true ⟨rfl, rfl, rfl, rfl, rfl, trivial⟩ hF
            · refine EvK.pure (v := .pointer r2.1) (w_some rfl rfl c15) rfl rfl (f_move rfl rfl) ?_
              refine EvK.pure (v := .bool r2.1.isNone) (w_some rfl rfl c15) rfl rfl (f_peqln Try.underlying25 rfl rfl rfl) ?_
              refine EvK.pure (v := .bool r2.1.isNone) (w_none rfl) rfl rfl (f_pickF rfl rfl c15 rfl) ?_
              refine EvK.pure (v := .bool r2.1.isNone) (w_none rfl) rfl rfl (f_move rfl rfl) ?_
              rcases ite_inv hF with ⟨c16, hF⟩ | ⟨c16, hF⟩
              · refine EvK.not (w_not rfl rfl c16) rfl rfl ?_
                refine EvK.not (w_not rfl rfl c16) rfl rfl ?_
                refine EvK.pure (v := .bool true) (w_none rfl) rfl rfl (f_pickT rfl rfl c16 rfl) ?_
                refine EvK.nil ?_
                exact KE.mk true ⟨rfl, rfl, rfl, rfl, rfl, trivial⟩ hF
              · refine EvK.pure (v := .pointer r3.1) (w_some rfl rfl c16) rfl rfl (f_move rfl rfl) ?_
                refine EvK.pure (v := .bool r3.1.isNone) (w_some rfl rfl c16) rfl rfl (f_peqln Try.underlying25 rfl rfl rfl) ?_
                refine EvK.pure (v := .bool r3.1.isNone) (w_none rfl) rfl rfl (f_pickF rfl rfl c16 rfl) ?_
                refine EvK.nil ?_
                exact KE.mk r3.1.isNone ⟨rfl, rfl, rfl, rfl, rfl, trivial⟩ hF
    · intro k1 hF
      refine WP.region ?_
      refine EvK.pure (v := Sl.val a1) (w_none rfl) rfl rfl (f_move rfl rfl) ?_
      refine EvK.pure (v := .int .i64 (a1.len : Int)) (w_none rfl) rfl rfl (f_lenL (s := a1) Try.underlying23 rfl rfl) ?_
      refine EvK.pure (v := .bool (decide ((a1.len : Int) > 300))) (w_none rfl) rfl rfl (f_gtr rfl rfl rfl) ?_
      refine EvK.pure (v := .bool (decide ((a1.len : Int) > 300))) (w_none rfl) rfl rfl (f_move rfl rfl) ?_
      rcases ite_inv hF with ⟨c17, hF⟩ | ⟨c17, hF⟩
      · refine EvK.not (w_not rfl rfl c17) rfl rfl ?_
        refine EvK.not (w_not rfl rfl c17) rfl rfl ?_
        refine EvK.not (w_not rfl rfl c17) rfl rfl ?_
        refine EvK.pure (v := .bool true) (w_none rfl) rfl rfl (f_pickT rfl rfl c17 rfl) ?_
        refine EvK.nil ?_
        exact KE.mk true ⟨rfl, rfl, rfl, trivial⟩ hF
      · refine EvK.pure (v := Sl.val a0) (w_some rfl rfl c17) rfl rfl (f_move rfl rfl) ?_
        refine EvK.pure (v := .int .i64 (a0.len : Int)) (w_some rfl rfl c17) rfl rfl (f_lenL (s := a0) Try.underlying22 rfl rfl) ?_
        refine EvK.pure (v := .bool (decide ((a0.len : Int) > 40))) (w_some rfl rfl c17) rfl rfl (f_gtr rfl rfl rfl) ?_
        refine EvK.pure (v := .bool (decide ((a0.len : Int) > 40))) (w_none rfl) rfl rfl (f_pickF rfl rfl c17 rfl) ?_
        refine EvK.nil ?_
        exact KE.mk (decide ((a0.len : Int) > 40)) ⟨rfl, rfl, rfl, trivial⟩ hF
end Go.Proofs.Ytomngllmnhdmlaa
