/- spate/spatelaw12.SchedSteps, as a predicate over the heap, and that the code comes to it. Printed by gen.py. -/
import Derived.Test.YtomngllmnhdmlaaB0
import Derived.Test.YtomngllmnhdmlaaB3
import Derived.Test.YtomngllmnhdmlaaB2
namespace Go.Proofs.Ytomngllmnhdmlaa
open Go Go.Tr
set_option linter.unusedVariables false
set_option maxRecDepth 100000
set_option maxHeartbeats 400000
def spatelaw12_SchedSteps.b2 (p1 : Sl) (p5 : Option Addr) (p7 : Sl) (p9 : Int) (p10 : Addr) (p11 : Sl) (p12 : Sl) (p13 : Sl) (p15 : Int) (s : Int) (h : H) (K : Int ⊕ (Unit ⊕ Bool) → H → Prop) : Prop :=
  if (decide (s < (p7.len : Int))) = true then
    jn (fun (k10 : Unit → H → Prop) =>
      sched_Sched_State p5 s h fun r4 h18 =>
      if (s == p15) = true then
        jn (fun (k11 : Bool → H → Prop) =>
          rd (ixA 1 p12 s) fun q4 =>
          rd (ld (kI .i64) q4 h18) fun x7 =>
          if (x7 != 1) = true then
            k11 true h18
          else
            rd (ixA 1 p7 s) fun q5 =>
            rd (ld kP q5 h18) fun x8 =>
            rd x8 fun q6 =>
            rd (ld (kI .i64) (q6.add 1) h18) fun x9 =>
            rd (ixA 1 p13 s) fun q7 =>
            rd (ld (kI .i64) q7 h18) fun x10 =>
            k11 (x9 != (IntKind.i64.wrap (x10 + 1))) h18) fun s11 h19 =>
        if s11 = true then
          K (.inr (.inr false)) h19
        else
          k10 () h19
      else
        rd (ixA 1 p7 s) fun q8 =>
        rd (ld kP q8 h18) fun x11 =>
        rd x11 fun q9 =>
        rd (ld (kI .i64) (q9.add 1) h18) fun x12 =>
        rd (ixA 1 p13 s) fun q10 =>
        rd (ld (kI .i64) q10 h18) fun x13 =>
        if (x12 != x13) = true then
          K (.inr (.inr false)) h18
        else
          jn (fun (k12 : Bool → H → Prop) =>
            rd (ixA 1 p12 s) fun q11 =>
            rd (ld (kI .i64) q11 h18) fun x14 =>
            if (r4 != x14) = true then
              if (r4 != 1) = true then
                k12 true h18
              else
                rd (ixA 1 p12 s) fun q12 =>
                rd (ld (kI .i64) q12 h18) fun x15 =>
                if (x15 != 2) = true then
                  rd (ixA 1 p12 s) fun q13 =>
                  rd (ld (kI .i64) q13 h18) fun x16 =>
                  k12 (x16 != 3) h18
                else
                  k12 false h18
            else
              k12 false h18) fun s12 h20 =>
          if s12 = true then
            K (.inr (.inr false)) h20
          else
            k10 () h20) fun s10 h17 =>
    K (.inl (IntKind.i64.wrap (s + 1))) h17
  else
    K (.inr (.inl ())) h
def spatelaw12_SchedSteps.b3 (p1 : Sl) (p5 : Option Addr) (p7 : Sl) (p9 : Int) (p10 : Addr) (p11 : Sl) (p12 : Sl) (p13 : Sl) (s : Int) (h : H) (K : Int ⊕ Unit → H → Prop) : Prop :=
  if (decide (s < (p7.len : Int))) = true then
    sched_Sched_State p5 s h fun r9 h25 =>
    rd (ixA 1 p12 s) fun q14 =>
    rd (st (kI .i64) q14 r9 h25) fun h26 =>
    rd (ixA 1 p7 s) fun q15 =>
    rd (ld kP q15 h26) fun x21 =>
    rd x21 fun q16 =>
    rd (ld (kI .i64) (q16.add 1) h26) fun x22 =>
    rd (ixA 1 p13 s) fun q17 =>
    rd (st (kI .i64) q17 x22 h26) fun h27 =>
    K (.inl (IntKind.i64.wrap (s + 1))) h27
  else
    K (.inr ()) h
def spatelaw12_SchedSteps.b1 (p1 : Sl) (p5 : Option Addr) (p7 : Sl) (s : Int) (h : H) (K : Int ⊕ (Unit ⊕ Bool) → H → Prop) : Prop :=
  if (decide (s < (p1.len : Int))) = true then
    jn (fun (k5 : Unit → H → Prop) =>
      rd (ixA 2 p1 s) fun q1 =>
      rd (ld k36 q1 h) fun x1 =>
      al 37 (k36.enc z36) h fun q2 h8 =>
      rd (st k36 q2 x1 h8) fun h9 =>
      sched_Sched_Ready p5 h9 fun r3 h10 =>
      mk (kI .i64).n 8 3 ((kI .i64).enc 0) (p7.len : Int) (p7.len : Int) h10 fun x2 h11 =>
      mk (kI .i64).n 8 3 ((kI .i64).enc 0) (p7.len : Int) (p7.len : Int) h11 fun x3 h12 =>
      jn (fun (k6 : Unit → H → Prop) =>
        loopE (spatelaw12_SchedSteps.b3 p1 p5 p7 s q2 r3 x2 x3) 0 h12 (fun r10 hh => k6 r10 hh)) fun s6 h13 =>
      jn (fun (k7 : Int → H → Prop) =>
        rd (ld (kI .i64) (q2.add 0) h13) fun x17 =>
        if (x17 == 1) = true then
          rd (ld (kI .i64) (q2.add 1) h13) fun x18 =>
          sched_Sched_Pick p5 x18 h13 fun r7 h22 =>
          jn (fun (k14 : Bool → H → Prop) =>
            if (!(r7.2 == (decide ((r3.len : Int) > 0)))) = true then
              k14 true h22
            else
              if (!r7.2) = true then
                k14 (r7.1 != 0) h22
              else
                k14 false h22) fun s14 h23 =>
          if s14 = true then
            K (.inr (.inr false)) h23
          else
            if r7.2 = true then
              k7 r7.1 h23
            else
              k7 (-1) h23
        else
          rd (ld (kI .i64) (q2.add 0) h13) fun x19 =>
          if (x19 == 3) = true then
            rd (ld (kI .i64) (q2.add 1) h13) fun x20 =>
            sched_Sched_Wake p5 x20 h13 fun r8 h24 =>
            k7 (-1) h24
          else
            k7 (-1) h13) fun s7 h14 =>
      jn (fun (k8 : Unit → H → Prop) =>
        loopE (spatelaw12_SchedSteps.b2 p1 p5 p7 s q2 r3 x2 x3 s7) 0 h14 (sumK (fun r5 hh => k8 r5 hh) (fun r6 hh => K (.inr (.inr r6)) hh))) fun s8 h15 =>
      if (decide (s7 ≥ 0)) = true then
        rd (ld (kI .i64) (q2.add 1) h15) fun x4 =>
        rd (remI x4 (r3.len : Int)) fun x5 =>
        jn (fun (k9 : Int → H → Prop) =>
          if (decide (x5 < 0)) = true then
            k9 (IntKind.i64.wrap (x5 + (r3.len : Int))) h15
          else
            k9 x5 h15) fun s9 h16 =>
        rd (ixA 1 r3 s9) fun q3 =>
        rd (ld (kI .i64) q3 h16) fun x6 =>
        if (x6 != s7) = true then
          K (.inr (.inr false)) h16
        else
          k5 () h16
      else
        k5 () h15) fun s5 h7 =>
    K (.inl (IntKind.i64.wrap (s + 1))) h7
  else
    K (.inr (.inl ())) h
def spatelaw12_SchedSteps.b4 (p0 : Sl) (p1 : Sl) (p5 : Option Addr) (s : Sl × Int) (h : H) (K : (Sl × Int) ⊕ Sl → H → Prop) : Prop :=
  if (decide (s.2 < (p0.len : Int))) = true then
    rd (ixA 1 p0 s.2) fun q18 =>
    rd (ld kL q18 h) fun x23 =>
    spatelaw12_twin x23 h fun r13 h30 =>
    al 34 (k33.enc (S33.mk r13 0)) h30 fun q19 h31 =>
    bs 30 1 (kP.enc (some q19)) h31 fun x24 h32 =>
    ap kP.n 8 30 (kP.enc none) s.1 x24 h32 fun x25 h33 =>
    rd (ixA 1 x25 s.2) fun q20 =>
    rd (ld kP q20 h33) fun x26 =>
    sched_Sched_Add p5 (some (30, .pointer x26) : IF) h33 fun r14 h34 =>
    K (.inl (x25, IntKind.i64.wrap (s.2 + 1))) h34
  else
    K (.inr s.1) h
/-- spate/spatelaw12.SchedSteps -/
def spatelaw12_SchedSteps (a0 : Sl) (a1 : Sl) (h : H) (Q : Bool → H → Prop) : Prop :=
  spatelaw12_known  h fun r1 h1 =>
  if (!r1) = true then
    Q false h1
  else
    jn (fun (k1 : Bool → H → Prop) =>
      if (decide ((a1.len : Int) > 4000)) = true then
        k1 true h1
      else
        k1 (decide ((a0.len : Int) > 100)) h1) fun s1 h2 =>
    if s1 = true then
      Q true h2
    else
      sched_New 8 h2 fun r2 h3 =>
      jn (fun (k2 : Bool → H → Prop) =>
        if (r2.2 != 0) = true then
          k2 true h3
        else
          k2 r2.1.isNone h3) fun s2 h4 =>
      if s2 = true then
        Q false h4
      else
        jn (fun (k3 : Sl → H → Prop) =>
          loopE (spatelaw12_SchedSteps.b4 a0 a1 r2.1) (Sl.nil, 0) h4 (fun r15 hh => k3 r15 hh)) fun s3 h5 =>
        jn (fun (k4 : Unit → H → Prop) =>
          loopE (spatelaw12_SchedSteps.b1 a1 r2.1 s3) 0 h5 (sumK (fun r11 hh => k4 r11 hh) (fun r12 hh => Q r12 hh))) fun s4 h6 =>
        Q true h6
theorem spatelaw12_SchedSteps.sound {a0 : Sl} {a1 : Sl} {h : H} {Q : Bool → H → Prop} (hF : spatelaw12_SchedSteps a0 a1 h Q) :
    CallsH Try.prog 3 (List.toArray (α := Value) [Sl.val a0, Sl.val a1]) h fun v h' => ∃ x : Bool, v = .bool x ∧ Q x h' := by
  refine CallsH.of_body Try.func3 rfl 224 rfl rfl ?_
  refine WP.seq ?_
  refine WP.region ?_
  refine EvK.pure (v := .bool false) (w_none rfl) rfl rfl (f_assign rfl rfl) ?_
  refine EvK.nil ?_
  refine WP.seq ?_
  refine WP.seq ?_
  refine WP.region ?_
  refine EvK.call (w_none rfl) rfl rfl (enterH Try.func8 rfl rfl rfl rfl (spatelaw12_known.sound hF)) ?_
  rintro _ h1 ⟨r1, rfl, hF⟩
  refine EvK.pure (v := .bool (!r1)) (w_none rfl) rfl rfl (f_not rfl rfl) ?_
  refine EvK.nil ?_
  rcases ite_inv hF with ⟨c1, hF⟩ | ⟨c1, hF⟩
  · refine WP.cond_true _ rfl c1 ?_
    refine WP.seq ?_
    refine WP.region ?_
    refine EvK.pure (v := .bool false) (w_none rfl) rfl rfl (f_assign rfl rfl) ?_
    refine EvK.nil ?_
    refine WP.ret ?_
    exact Ret.mk (vs := [.bool false]) false ⟨rfl, trivial⟩ rfl hF
  · refine WP.cond_false _ rfl c1 ?_
    refine WP.skip ?_
    refine WP.seq ?_
    refine WP.joinF (fun (s1 : Bool) => [(31, .bool s1), (0, Sl.val a0), (1, Sl.val a1)]) hF ?_ ?_
    · intro s1 E0 h2 hF
      rcases ite_inv hF with ⟨c2, hF⟩ | ⟨c2, hF⟩
      · refine WP.cond_true _ rfl c2 ?_
        refine WP.seq ?_
        refine WP.region ?_
        refine EvK.pure (v := .bool true) (w_none rfl) rfl rfl (f_assign rfl rfl) ?_
        refine EvK.nil ?_
        refine WP.ret ?_
        exact Ret.mk (vs := [.bool true]) true ⟨rfl, trivial⟩ rfl hF
      · refine WP.cond_false _ rfl c2 ?_
        refine WP.skip ?_
        refine WP.seq ?_
        refine WP.region ?_
        refine EvK.call (w_none rfl) rfl rfl (enterH Try.func9 rfl rfl rfl rfl (sched_New.sound hF)) ?_
        rintro _ h3 ⟨r2, rfl, hF⟩
        refine EvK.pure (v := .tuple #[.pointer r2.1, .int .i64 r2.2]) (w_none rfl) rfl rfl (f_move rfl rfl) ?_
        refine EvK.pure (v := .pointer r2.1) (w_none rfl) rfl rfl (f_extract (vs := #[.pointer r2.1, .int .i64 r2.2]) rfl rfl rfl) ?_
        refine EvK.pure (v := .int .i64 r2.2) (w_none rfl) rfl rfl (f_extract (vs := #[.pointer r2.1, .int .i64 r2.2]) rfl rfl rfl) ?_
        refine EvK.pure (v := .pointer r2.1) (w_none rfl) rfl rfl (f_assign rfl rfl) ?_
        refine EvK.pure (v := .int .i64 r2.2) (w_none rfl) rfl rfl (f_assign rfl rfl) ?_
        refine EvK.nil ?_
        refine WP.seq ?_
        refine WP.joinF (fun (s2 : Bool) => [(41, .bool s2), (0, Sl.val a0), (1, Sl.val a1), (5, .pointer r2.1)]) hF ?_ ?_
        · intro s2 E0 h4 hF
          rcases ite_inv hF with ⟨c3, hF⟩ | ⟨c3, hF⟩
          · refine WP.cond_true _ rfl c3 ?_
            refine WP.seq ?_
            refine WP.region ?_
            refine EvK.pure (v := .bool false) (w_none rfl) rfl rfl (f_assign rfl rfl) ?_
            refine EvK.nil ?_
            refine WP.ret ?_
            exact Ret.mk (vs := [.bool false]) false ⟨rfl, trivial⟩ rfl hF
          · refine WP.cond_false _ rfl c3 ?_
            refine WP.skip ?_
            refine WP.seq ?_
            refine WP.region ?_
            refine EvK.pure (v := Sl.val Sl.nil) (w_none rfl) rfl rfl (f_assign rfl rfl) ?_
            refine EvK.nil ?_
            refine WP.joinF (fun (s3 : Sl) => [(7, Sl.val s3), (1, Sl.val a1), (5, .pointer r2.1)]) hF ?_ ?_
            · intro s3 E0 h5 hF
              refine WP.joinF (fun (s4 : Unit) => []) hF ?_ ?_
              · intro s4 E0 h6 hF
                refine WP.seq ?_
                refine WP.region ?_
                refine EvK.pure (v := .bool true) (w_none rfl) rfl rfl (f_assign rfl rfl) ?_
                refine EvK.nil ?_
                refine WP.ret ?_
                exact Ret.mk (vs := [.bool true]) true ⟨rfl, trivial⟩ rfl hF
              · intro k4 hF
                refine WP.seq ?_
                refine WP.region ?_
                refine EvK.pure (v := .int .i64 0) (w_none rfl) rfl rfl (f_assign rfl rfl) ?_
                refine EvK.nil ?_
                refine WP.block ?_
                refine WP.loopF (fun (s5 : Int) => [(9, .int .i64 s5), (1, Sl.val a1), (5, .pointer r2.1), (7, Sl.val s3)]) hF ⟨rfl, rfl, rfl, rfl, trivial⟩ ?_
                intro k5 s5 E0 h7 hF
                refine WP.seq ?_
                refine WP.seq ?_
                refine WP.region ?_
                refine EvK.pure (v := .int .i64 s5) (w_none rfl) rfl rfl (f_move rfl rfl) ?_
                refine EvK.pure (v := Sl.val a1) (w_none rfl) rfl rfl (f_move rfl rfl) ?_
                refine EvK.pure (v := .int .i64 (a1.len : Int)) (w_none rfl) rfl rfl (f_lenL (s := a1) Try.underlying23 rfl rfl) ?_
                refine EvK.pure (v := .bool (decide (s5 < (a1.len : Int)))) (w_none rfl) rfl rfl (f_lss rfl rfl rfl) ?_
                refine EvK.nil ?_
                rcases ite_inv hF with ⟨c4, hF⟩ | ⟨c4, hF⟩
                · refine WP.cond_true _ rfl c4 ?_
                  refine WP.skip ?_
                  refine WP.joinF (fun (s6 : Unit) => [(1, Sl.val a1), (5, .pointer r2.1), (7, Sl.val s3), (9, .int .i64 s5)]) hF ?_ ?_
                  · intro s6 E0 h8 hF
                    refine WP.region ?_
                    refine EvK.pure (v := .int .i64 s5) (w_none rfl) rfl rfl (f_move rfl rfl) ?_
                    refine EvK.pure (v := .int .i64 (IntKind.i64.wrap (s5 + 1))) (w_none rfl) rfl rfl (f_add rfl rfl rfl) ?_
                    refine EvK.pure (v := .int .i64 (IntKind.i64.wrap (s5 + 1))) (w_none rfl) rfl rfl (f_assign rfl rfl) ?_
                    refine EvK.nil ?_
                    exact KE.mk (IntKind.i64.wrap (s5 + 1)) ⟨rfl, rfl, rfl, rfl, trivial⟩ hF
                  · intro k6 hF
                    refine WP.block ?_
                    refine WP.seq ?_
                    refine WP.region ?_
                    refine EvK.pure (v := Sl.val a1) (w_none rfl) rfl rfl (f_move rfl rfl) ?_
                    refine EvK.pure (v := .int .i64 s5) (w_none rfl) rfl rfl (f_move rfl rfl) ?_
                    obtain ⟨q1, hq1, hF⟩ := hF
                    refine EvK.pure (v := .pointer (some q1)) (w_none rfl) rfl rfl (f_indexAddr (s := a1) Try.underlying23 ty37.size rfl rfl rfl hq1) ?_
                    obtain ⟨x1, hx1, hF⟩ := hF
                    refine EvK.read (v := k36.val x1) (w_none rfl) rfl rfl (f_load k36 ty37 rfl rfl hx1 rfl) ?_
                    refine EvK.alloc (w_none rfl) rfl rfl (f_allocF zero37 rfl rfl hF) ?_
                    rintro _ h9 ⟨q2, rfl, hF⟩
                    obtain ⟨h10, hs1, hF⟩ := hF
                    refine EvK.runN (w_none rfl) rfl (f_store k36 ty37.size (z := x1) rfl rfl rfl hs1) ?_
                    rintro _ _ ⟨rfl, rfl⟩
                    refine EvK.nil ?_
                    refine WP.seq ?_
                    refine WP.region ?_
                    refine EvK.pure (v := .pointer r2.1) (w_none rfl) rfl rfl (f_move rfl rfl) ?_
                    refine EvK.call (w_none rfl) rfl rfl (enterH Try.func12 rfl rfl rfl rfl (sched_Sched_Ready.sound hF)) ?_
                    rintro _ h11 ⟨r3, rfl, hF⟩
                    refine EvK.pure (v := Sl.val r3) (w_none rfl) rfl rfl (f_assign rfl rfl) ?_
                    refine EvK.nil ?_
                    refine WP.seq ?_
                    refine WP.region ?_
                    refine EvK.pure (v := Sl.val s3) (w_none rfl) rfl rfl (f_move rfl rfl) ?_
                    refine EvK.pure (v := .int .i64 (s3.len : Int)) (w_none rfl) rfl rfl (f_lenL (s := s3) Try.underlying29 rfl rfl) ?_
                    refine EvK.alloc (w_none rfl) rfl rfl (f_makeSlice Try.underlying38 el3 rfl rfl rfl hF) ?_
                    rintro _ h12 ⟨x2, rfl, hF⟩
                    refine EvK.pure (v := Sl.val x2) (w_none rfl) rfl rfl (f_assign rfl rfl) ?_
                    refine EvK.nil ?_
                    refine WP.seq ?_
                    refine WP.region ?_
                    refine EvK.pure (v := Sl.val s3) (w_none rfl) rfl rfl (f_move rfl rfl) ?_
                    refine EvK.pure (v := .int .i64 (s3.len : Int)) (w_none rfl) rfl rfl (f_lenL (s := s3) Try.underlying29 rfl rfl) ?_
                    refine EvK.alloc (w_none rfl) rfl rfl (f_makeSlice Try.underlying38 el3 rfl rfl rfl hF) ?_
                    rintro _ h13 ⟨x3, rfl, hF⟩
                    refine EvK.pure (v := Sl.val x3) (w_none rfl) rfl rfl (f_assign rfl rfl) ?_
                    refine EvK.nil ?_
                    refine WP.joinF (fun (s7 : Unit) => [(1, Sl.val a1), (5, .pointer r2.1), (7, Sl.val s3), (9, .int .i64 s5), (10, .pointer (some q2)), (11, Sl.val r3), (12, Sl.val x2), (13, Sl.val x3)]) hF ?_ ?_
                    · intro s7 E0 h14 hF
                      refine WP.seq ?_
                      refine WP.region ?_
                      refine EvK.pure (v := .int .i64 (-1)) (w_none rfl) rfl rfl (f_assign rfl rfl) ?_
                      refine EvK.nil ?_
                      refine WP.joinF (fun (s8 : Int) => [(15, .int .i64 s8), (1, Sl.val a1), (5, .pointer r2.1), (7, Sl.val s3), (9, .int .i64 s5), (10, .pointer (some q2)), (11, Sl.val r3), (12, Sl.val x2), (13, Sl.val x3)]) hF ?_ ?_
                      · intro s8 E0 h15 hF
                        refine WP.joinF (fun (s9 : Unit) => [(1, Sl.val a1), (5, .pointer r2.1), (7, Sl.val s3), (9, .int .i64 s5), (10, .pointer (some q2)), (11, Sl.val r3), (15, .int .i64 s8)]) hF ?_ ?_
                        · intro s9 E0 h16 hF
                          refine WP.seq ?_
                          refine WP.region ?_
                          refine EvK.pure (v := .int .i64 s8) (w_none rfl) rfl rfl (f_move rfl rfl) ?_
                          refine EvK.pure (v := .bool (decide (s8 ≥ 0))) (w_none rfl) rfl rfl (f_geq rfl rfl rfl) ?_
                          refine EvK.nil ?_
                          rcases ite_inv hF with ⟨c5, hF⟩ | ⟨c5, hF⟩
                          · refine WP.cond_true _ rfl c5 ?_
                            refine WP.seq ?_
                            refine WP.region ?_
                            refine EvK.pure (v := Sl.val r3) (w_none rfl) rfl rfl (f_move rfl rfl) ?_
                            refine EvK.pure (v := .int .i64 (r3.len : Int)) (w_none rfl) rfl rfl (f_lenL (s := r3) Try.underlying38 rfl rfl) ?_
                            refine EvK.pure (v := .int .i64 (r3.len : Int)) (w_none rfl) rfl rfl (f_assign rfl rfl) ?_
                            refine EvK.nil ?_
                            refine WP.seq ?_
                            refine WP.region ?_
                            refine EvK.pure (v := .pointer (some (q2.add 1))) (w_none rfl) rfl rfl (f_fieldAddr fd37_1 rfl rfl) ?_
                            obtain ⟨x4, hx2, hF⟩ := hF
                            refine EvK.read (v := .int .i64 x4) (w_none rfl) rfl rfl (f_load (kI .i64) ty3 rfl rfl hx2 rfl) ?_
                            refine EvK.pure (v := .int .i64 (r3.len : Int)) (w_none rfl) rfl rfl (f_move rfl rfl) ?_
                            obtain ⟨x5, hx3, hF⟩ := hF
                            refine EvK.pure (v := .int .i64 x5) (w_none rfl) rfl rfl (f_rem rfl rfl rfl hx3) ?_
                            refine EvK.pure (v := .int .i64 x5) (w_none rfl) rfl rfl (f_assign rfl rfl) ?_
                            refine EvK.nil ?_
                            refine WP.joinF (fun (s10 : Int) => [(21, .int .i64 s10), (1, Sl.val a1), (5, .pointer r2.1), (7, Sl.val s3), (9, .int .i64 s5), (11, Sl.val r3), (15, .int .i64 s8)]) hF ?_ ?_
                            · intro s10 E0 h17 hF
                              refine WP.seq ?_
                              refine WP.region ?_
                              refine EvK.pure (v := Sl.val r3) (w_none rfl) rfl rfl (f_move rfl rfl) ?_
                              refine EvK.pure (v := .int .i64 s10) (w_none rfl) rfl rfl (f_move rfl rfl) ?_
                              obtain ⟨q3, hq2, hF⟩ := hF
                              refine EvK.pure (v := .pointer (some q3)) (w_none rfl) rfl rfl (f_indexAddr (s := r3) Try.underlying38 ty3.size rfl rfl rfl hq2) ?_
                              obtain ⟨x6, hx4, hF⟩ := hF
                              refine EvK.read (v := .int .i64 x6) (w_none rfl) rfl rfl (f_load (kI .i64) ty3 rfl rfl hx4 rfl) ?_
                              refine EvK.pure (v := .int .i64 s8) (w_none rfl) rfl rfl (f_move rfl rfl) ?_
                              refine EvK.pure (v := .bool (x6 != s8)) (w_none rfl) rfl rfl (f_neq rfl rfl rfl) ?_
                              refine EvK.nil ?_
                              rcases ite_inv hF with ⟨c6, hF⟩ | ⟨c6, hF⟩
                              · refine WP.cond_true _ rfl c6 ?_
                                refine WP.seq ?_
                                refine WP.region ?_
                                refine EvK.pure (v := .bool false) (w_none rfl) rfl rfl (f_assign rfl rfl) ?_
                                refine EvK.nil ?_
                                refine WP.ret ?_
                                exact Ret.mk (vs := [.bool false]) false ⟨rfl, trivial⟩ rfl hF
                              · refine WP.cond_false _ rfl c6 ?_
                                refine WP.skip ?_
                                exact KE.mk () ⟨rfl, rfl, rfl, rfl, trivial⟩ hF
                            · intro k10 hF
                              refine WP.seq ?_
                              refine WP.region ?_
                              refine EvK.pure (v := .int .i64 x5) (w_none rfl) rfl rfl (f_move rfl rfl) ?_
                              refine EvK.pure (v := .bool (decide (x5 < 0))) (w_none rfl) rfl rfl (f_lss rfl rfl rfl) ?_
                              refine EvK.nil ?_
                              rcases ite_inv hF with ⟨c7, hF⟩ | ⟨c7, hF⟩
                              · refine WP.cond_true _ rfl c7 ?_
                                refine WP.region ?_
                                refine EvK.pure (v := .int .i64 x5) (w_none rfl) rfl rfl (f_move rfl rfl) ?_
                                refine EvK.pure (v := .int .i64 (r3.len : Int)) (w_none rfl) rfl rfl (f_move rfl rfl) ?_
                                refine EvK.pure (v := .int .i64 (IntKind.i64.wrap (x5 + (r3.len : Int)))) (w_none rfl) rfl rfl (f_add rfl rfl rfl) ?_
                                refine EvK.pure (v := .int .i64 (IntKind.i64.wrap (x5 + (r3.len : Int)))) (w_none rfl) rfl rfl (f_assign rfl rfl) ?_
                                refine EvK.nil ?_
                                exact KE.mk (IntKind.i64.wrap (x5 + (r3.len : Int))) ⟨rfl, rfl, rfl, rfl, rfl, rfl, rfl, trivial⟩ hF
                              · refine WP.cond_false _ rfl c7 ?_
                                refine WP.skip ?_
                                exact KE.mk x5 ⟨rfl, rfl, rfl, rfl, rfl, rfl, rfl, trivial⟩ hF
                          · refine WP.cond_false _ rfl c5 ?_
                            refine WP.skip ?_
                            exact KE.mk () ⟨rfl, rfl, rfl, rfl, trivial⟩ hF
                        · intro k9 hF
                          refine WP.seq ?_
                          refine WP.region ?_
                          refine EvK.pure (v := .int .i64 0) (w_none rfl) rfl rfl (f_assign rfl rfl) ?_
                          refine EvK.nil ?_
                          refine WP.block ?_
                          refine WP.loopF (fun (s11 : Int) => [(18, .int .i64 s11), (1, Sl.val a1), (5, .pointer r2.1), (7, Sl.val s3), (9, .int .i64 s5), (10, .pointer (some q2)), (11, Sl.val r3), (12, Sl.val x2), (13, Sl.val x3), (15, .int .i64 s8)]) hF ⟨rfl, rfl, rfl, rfl, rfl, rfl, rfl, rfl, rfl, rfl, trivial⟩ ?_
                          intro k11 s11 E0 h18 hF
                          refine WP.seq ?_
                          refine WP.seq ?_
                          refine WP.region ?_
                          refine EvK.pure (v := .int .i64 s11) (w_none rfl) rfl rfl (f_move rfl rfl) ?_
                          refine EvK.pure (v := Sl.val s3) (w_none rfl) rfl rfl (f_move rfl rfl) ?_
                          refine EvK.pure (v := .int .i64 (s3.len : Int)) (w_none rfl) rfl rfl (f_lenL (s := s3) Try.underlying29 rfl rfl) ?_
                          refine EvK.pure (v := .bool (decide (s11 < (s3.len : Int)))) (w_none rfl) rfl rfl (f_lss rfl rfl rfl) ?_
                          refine EvK.nil ?_
                          rcases ite_inv hF with ⟨c8, hF⟩ | ⟨c8, hF⟩
                          · refine WP.cond_true _ rfl c8 ?_
                            refine WP.skip ?_
                            refine WP.joinF (fun (s12 : Unit) => [(1, Sl.val a1), (5, .pointer r2.1), (7, Sl.val s3), (9, .int .i64 s5), (10, .pointer (some q2)), (11, Sl.val r3), (12, Sl.val x2), (13, Sl.val x3), (15, .int .i64 s8), (18, .int .i64 s11)]) hF ?_ ?_
                            · intro s12 E0 h19 hF
                              refine WP.region ?_
                              refine EvK.pure (v := .int .i64 s11) (w_none rfl) rfl rfl (f_move rfl rfl) ?_
                              refine EvK.pure (v := .int .i64 (IntKind.i64.wrap (s11 + 1))) (w_none rfl) rfl rfl (f_add rfl rfl rfl) ?_
                              refine EvK.pure (v := .int .i64 (IntKind.i64.wrap (s11 + 1))) (w_none rfl) rfl rfl (f_assign rfl rfl) ?_
                              refine EvK.nil ?_
                              exact KE.mk (IntKind.i64.wrap (s11 + 1)) ⟨rfl, rfl, rfl, rfl, rfl, rfl, rfl, rfl, rfl, rfl, trivial⟩ hF
                            · intro k12 hF
                              refine WP.block ?_
                              refine WP.seq ?_
                              refine WP.region ?_
                              refine EvK.pure (v := .pointer r2.1) (w_none rfl) rfl rfl (f_move rfl rfl) ?_
                              refine EvK.pure (v := .int .i64 s11) (w_none rfl) rfl rfl (f_move rfl rfl) ?_
                              refine EvK.call (w_none rfl) rfl rfl (enterH Try.func13 rfl rfl rfl rfl (sched_Sched_State.sound hF)) ?_
                              rintro _ h20 ⟨r4, rfl, hF⟩
                              refine EvK.pure (v := .int .i64 r4) (w_none rfl) rfl rfl (f_assign rfl rfl) ?_
                              refine EvK.nil ?_
                              refine WP.seq ?_
                              refine WP.seq ?_
                              refine WP.region ?_
                              refine EvK.pure (v := .int .i64 s11) (w_none rfl) rfl rfl (f_move rfl rfl) ?_
                              refine EvK.pure (v := .int .i64 s8) (w_none rfl) rfl rfl (f_move rfl rfl) ?_
                              refine EvK.pure (v := .bool (s11 == s8)) (w_none rfl) rfl rfl (f_eql rfl rfl rfl) ?_
                              refine EvK.nil ?_
                              rcases ite_inv hF with ⟨c9, hF⟩ | ⟨c9, hF⟩
                              · refine WP.cond_true _ rfl c9 ?_
                                refine WP.seq ?_
                                refine WP.joinF (fun (s13 : Bool) => [(168, .bool s13), (1, Sl.val a1), (5, .pointer r2.1), (7, Sl.val s3), (9, .int .i64 s5), (10, .pointer (some q2)), (11, Sl.val r3), (12, Sl.val x2), (13, Sl.val x3), (15, .int .i64 s8), (18, .int .i64 s11)]) hF ?_ ?_
                                · intro s13 E0 h21 hF
                                  rcases ite_inv hF with ⟨c10, hF⟩ | ⟨c10, hF⟩
                                  · refine WP.cond_true _ rfl c10 ?_
                                    refine WP.seq ?_
                                    refine WP.region ?_
                                    refine EvK.pure (v := .bool false) (w_none rfl) rfl rfl (f_assign rfl rfl) ?_
                                    refine EvK.nil ?_
                                    refine WP.ret ?_
                                    exact Ret.mk (vs := [.bool false]) false ⟨rfl, trivial⟩ rfl hF
                                  · refine WP.cond_false _ rfl c10 ?_
                                    refine WP.skip ?_
                                    refine WP.exit ?_
                                    exact KE.mk () ⟨rfl, rfl, rfl, rfl, rfl, rfl, rfl, rfl, rfl, rfl, trivial⟩ hF
                                · intro k13 hF
                                  refine WP.draw mixed [.pure, .pure, .pure, .read, .pure, .pure, .pure, .pure, .pure, .read, .pure, .pure, .read, .pure, .pure, .pure, .read, .pure, .pure, .pure] [[], [], [0, 1], [0, 1, 2], [0, 1, 2, 3], [0, 1, 2, 3, 4], [0, 1, 2, 3, 4, 5], [0, 1, 2, 3, 4, 5], [0, 1, 2, 3, 4, 5, 6, 7], [0, 1, 2, 3, 4, 5, 6, 7, 8], [0, 1, 2, 3, 4, 5, 6, 7, 8, 9], [0, 1, 2, 3, 4, 5, 6, 7, 8, 9, 10], [0, 1, 2, 3, 4, 5, 6, 7, 8, 9, 10, 11], [0, 1, 2, 3, 4, 5], [0, 1, 2, 3, 4, 5], [0, 1, 2, 3, 4, 5, 13, 14], [0, 1, 2, 3, 4, 5, 13, 14, 15], [0, 1, 2, 3, 4, 5, 13, 14, 15, 16], [0, 1, 2, 3, 4, 5, 6, 7, 8, 9, 10, 11, 12, 13, 14, 15, 16, 17], [0, 1, 2, 3, 4, 5, 6, 7, 8, 9, 10, 11, 12, 13, 14, 15, 16, 17, 18]] [0, 1, 2, 3, 4, 5, 6, 7, 8, 9, 10, 11, 12, 13, 14, 15, 16, 17, 18, 19] (by kernel_rfl) (by kernel_rfl) ?_
                                  refine EvI.pure (v := Sl.val x2) rfl rfl (w_none rfl) rfl (f_move rfl rfl) ?_
                                  refine EvI.pure (v := .int .i64 s11) rfl rfl (w_none rfl) rfl (f_move rfl rfl) ?_
                                  obtain ⟨q4, hq3, hF⟩ := hF
                                  refine EvI.pure (v := .pointer (some q4)) rfl rfl (w_none rfl) rfl (f_indexAddr (s := x2) Try.underlying38 ty3.size rfl rfl rfl hq3) ?_
                                  obtain ⟨x7, hx5, hF⟩ := hF
                                  refine EvI.read (v := .int .i64 x7) rfl rfl (w_none rfl) rfl (f_load (kI .i64) ty3 rfl rfl hx5 rfl) ?_
                                  refine EvI.pure (v := .bool (x7 != 1)) rfl rfl (w_none rfl) rfl (f_neq rfl rfl rfl) ?_
                                  refine EvI.pure (v := .bool (x7 != 1)) rfl rfl (w_none rfl) rfl (f_move rfl rfl) ?_
                                  rcases ite_inv hF with ⟨c11, hF⟩ | ⟨c11, hF⟩
                                  · refine EvI.not rfl (w_not rfl rfl c11) rfl ?_
                                    refine EvI.not rfl (w_not rfl rfl c11) rfl ?_
                                    refine EvI.not rfl (w_not rfl rfl c11) rfl ?_
                                    refine EvI.not rfl (w_not rfl rfl c11) rfl ?_
                                    refine EvI.not rfl (w_not rfl rfl c11) rfl ?_
                                    refine EvI.not rfl (w_not rfl rfl c11) rfl ?_
                                    refine EvI.not rfl (w_not rfl rfl c11) rfl ?_
                                    refine EvI.not rfl (w_not rfl rfl c11) rfl ?_
                                    refine EvI.not rfl (w_not rfl rfl c11) rfl ?_
                                    refine EvI.not rfl (w_not rfl rfl c11) rfl ?_
                                    refine EvI.not rfl (w_not rfl rfl c11) rfl ?_
                                    refine EvI.not rfl (w_not rfl rfl c11) rfl ?_
                                    refine EvI.not rfl (w_not rfl rfl c11) rfl ?_
                                    refine EvI.pure (v := .bool true) rfl rfl (w_none rfl) rfl (f_pickT rfl rfl c11 rfl) ?_
                                    refine EvI.nil ?_
                                    exact KE.mk true ⟨rfl, rfl, rfl, rfl, rfl, rfl, rfl, rfl, rfl, rfl, rfl, trivial⟩ hF
                                  · refine EvI.pure (v := Sl.val s3) rfl rfl (w_some rfl rfl c11) rfl (f_move rfl rfl) ?_
                                    refine EvI.pure (v := .int .i64 s11) rfl rfl (w_some rfl rfl c11) rfl (f_move rfl rfl) ?_
                                    obtain ⟨q5, hq4, hF⟩ := hF
                                    refine EvI.pure (v := .pointer (some q5)) rfl rfl (w_some rfl rfl c11) rfl (f_indexAddr (s := s3) Try.underlying29 ty30.size rfl rfl rfl hq4) ?_
                                    obtain ⟨x8, hx6, hF⟩ := hF
                                    refine EvI.read (v := .pointer x8) rfl rfl (w_some rfl rfl c11) rfl (f_load kP ty30 rfl rfl hx6 rfl) ?_
                                    obtain ⟨q6, hq5, hF⟩ := hF
                                    refine EvI.pure (v := .pointer (some q6)) rfl rfl (w_some rfl rfl c11) rfl (f_nilCheck rfl (congrArg Value.pointer hq5)) ?_
                                    refine EvI.pure (v := .pointer (some (q6.add 1))) rfl rfl (w_some rfl rfl c11) rfl (f_fieldAddr fd34_1 rfl rfl) ?_
                                    obtain ⟨x9, hx7, hF⟩ := hF
                                    refine EvI.read (v := .int .i64 x9) rfl rfl (w_some rfl rfl c11) rfl (f_load (kI .i64) ty3 rfl rfl hx7 rfl) ?_
                                    refine EvI.pure (v := Sl.val x3) rfl rfl (w_some rfl rfl c11) rfl (f_move rfl rfl) ?_
                                    refine EvI.pure (v := .int .i64 s11) rfl rfl (w_some rfl rfl c11) rfl (f_move rfl rfl) ?_
                                    obtain ⟨q7, hq6, hF⟩ := hF
                                    refine EvI.pure (v := .pointer (some q7)) rfl rfl (w_some rfl rfl c11) rfl (f_indexAddr (s := x3) Try.underlying38 ty3.size rfl rfl rfl hq6) ?_
                                    obtain ⟨x10, hx8, hF⟩ := hF
                                    refine EvI.read (v := .int .i64 x10) rfl rfl (w_some rfl rfl c11) rfl (f_load (kI .i64) ty3 rfl rfl hx8 rfl) ?_
                                    refine EvI.pure (v := .int .i64 (IntKind.i64.wrap (x10 + 1))) rfl rfl (w_some rfl rfl c11) rfl (f_add rfl rfl rfl) ?_
                                    refine EvI.pure (v := .bool (x9 != (IntKind.i64.wrap (x10 + 1)))) rfl rfl (w_some rfl rfl c11) rfl (f_neq rfl rfl rfl) ?_
                                    refine EvI.pure (v := .bool (x9 != (IntKind.i64.wrap (x10 + 1)))) rfl rfl (w_none rfl) rfl (f_pickF rfl rfl c11 rfl) ?_
                                    refine EvI.nil ?_
                                    exact KE.mk (x9 != (IntKind.i64.wrap (x10 + 1))) ⟨rfl, rfl, rfl, rfl, rfl, rfl, rfl, rfl, rfl, rfl, rfl, trivial⟩ hF
                              · refine WP.cond_false _ rfl c9 ?_
                                refine WP.skip ?_
                                refine WP.seq ?_
                                refine WP.seq ?_
                                refine WP.draw mixed [.pure, .pure, .pure, .read, .pure, .pure, .read, .pure, .pure, .pure, .read, .pure] [[], [], [0, 1], [0, 1, 2], [0, 1, 2, 3], [0, 1, 2, 3, 4], [0, 1, 2, 3, 4, 5], [], [], [7, 8], [7, 8, 9], [0, 1, 2, 3, 4, 5, 6, 7, 8, 9, 10]] [0, 1, 2, 3, 4, 5, 6, 7, 8, 9, 10, 11] (by kernel_rfl) (by kernel_rfl) ?_
                                refine EvI.pure (v := Sl.val s3) rfl rfl (w_none rfl) rfl (f_move rfl rfl) ?_
                                refine EvI.pure (v := .int .i64 s11) rfl rfl (w_none rfl) rfl (f_move rfl rfl) ?_
                                obtain ⟨q8, hq7, hF⟩ := hF
                                refine EvI.pure (v := .pointer (some q8)) rfl rfl (w_none rfl) rfl (f_indexAddr (s := s3) Try.underlying29 ty30.size rfl rfl rfl hq7) ?_
                                obtain ⟨x11, hx9, hF⟩ := hF
                                refine EvI.read (v := .pointer x11) rfl rfl (w_none rfl) rfl (f_load kP ty30 rfl rfl hx9 rfl) ?_
                                obtain ⟨q9, hq8, hF⟩ := hF
                                refine EvI.pure (v := .pointer (some q9)) rfl rfl (w_none rfl) rfl (f_nilCheck rfl (congrArg Value.pointer hq8)) ?_
                                refine EvI.pure (v := .pointer (some (q9.add 1))) rfl rfl (w_none rfl) rfl (f_fieldAddr fd34_1 rfl rfl) ?_
                                obtain ⟨x12, hx10, hF⟩ := hF
                                refine EvI.read (v := .int .i64 x12) rfl rfl (w_none rfl) rfl (f_load (kI .i64) ty3 rfl rfl hx10 rfl) ?_
                                refine EvI.pure (v := Sl.val x3) rfl rfl (w_none rfl) rfl (f_move rfl rfl) ?_
                                refine EvI.pure (v := .int .i64 s11) rfl rfl (w_none rfl) rfl (f_move rfl rfl) ?_
                                obtain ⟨q10, hq9, hF⟩ := hF
                                refine EvI.pure (v := .pointer (some q10)) rfl rfl (w_none rfl) rfl (f_indexAddr (s := x3) Try.underlying38 ty3.size rfl rfl rfl hq9) ?_
                                obtain ⟨x13, hx11, hF⟩ := hF
                                refine EvI.read (v := .int .i64 x13) rfl rfl (w_none rfl) rfl (f_load (kI .i64) ty3 rfl rfl hx11 rfl) ?_
                                refine EvI.pure (v := .bool (x12 != x13)) rfl rfl (w_none rfl) rfl (f_neq rfl rfl rfl) ?_
                                refine EvI.nil ?_
                                rcases ite_inv hF with ⟨c12, hF⟩ | ⟨c12, hF⟩
                                · refine WP.cond_true _ rfl c12 ?_
                                  refine WP.seq ?_
                                  refine WP.region ?_
                                  refine EvK.pure (v := .bool false) (w_none rfl) rfl rfl (f_assign rfl rfl) ?_
                                  refine EvK.nil ?_
                                  refine WP.ret ?_
                                  exact Ret.mk (vs := [.bool false]) false ⟨rfl, trivial⟩ rfl hF
                                · refine WP.cond_false _ rfl c12 ?_
                                  refine WP.skip ?_
                                  refine WP.joinF (fun (s14 : Bool) => [(204, .bool s14), (1, Sl.val a1), (5, .pointer r2.1), (7, Sl.val s3), (9, .int .i64 s5), (10, .pointer (some q2)), (11, Sl.val r3), (12, Sl.val x2), (13, Sl.val x3), (15, .int .i64 s8), (18, .int .i64 s11)]) hF ?_ ?_
                                  · intro s14 E0 h22 hF
                                    rcases ite_inv hF with ⟨c13, hF⟩ | ⟨c13, hF⟩
                                    · refine WP.cond_true _ rfl c13 ?_
                                      refine WP.seq ?_
                                      refine WP.region ?_
                                      refine EvK.pure (v := .bool false) (w_none rfl) rfl rfl (f_assign rfl rfl) ?_
                                      refine EvK.nil ?_
                                      refine WP.ret ?_
                                      exact Ret.mk (vs := [.bool false]) false ⟨rfl, trivial⟩ rfl hF
                                    · refine WP.cond_false _ rfl c13 ?_
                                      refine WP.skip ?_
                                      exact KE.mk () ⟨rfl, rfl, rfl, rfl, rfl, rfl, rfl, rfl, rfl, rfl, trivial⟩ hF
                                  · intro k14 hF
                                    refine WP.region ?_
                                    refine EvK.pure (v := .int .i64 r4) (w_none rfl) rfl rfl (f_move rfl rfl) ?_
                                    refine EvK.pure (v := Sl.val x2) (w_none rfl) rfl rfl (f_move rfl rfl) ?_
                                    refine EvK.pure (v := .int .i64 s11) (w_none rfl) rfl rfl (f_move rfl rfl) ?_
                                    obtain ⟨q11, hq10, hF⟩ := hF
                                    refine EvK.pure (v := .pointer (some q11)) (w_none rfl) rfl rfl (f_indexAddr (s := x2) Try.underlying38 ty3.size rfl rfl rfl hq10) ?_
                                    obtain ⟨x14, hx12, hF⟩ := hF
                                    refine EvK.read (v := .int .i64 x14) (w_none rfl) rfl rfl (f_load (kI .i64) ty3 rfl rfl hx12 rfl) ?_
                                    refine EvK.pure (v := .bool (r4 != x14)) (w_none rfl) rfl rfl (f_neq rfl rfl rfl) ?_
                                    refine EvK.pure (v := .bool (r4 != x14)) (w_none rfl) rfl rfl (f_move rfl rfl) ?_
                                    rcases ite_inv hF with ⟨c14, hF⟩ | ⟨c14, hF⟩
                                    · refine EvK.pure (v := .int .i64 r4) (w_some rfl rfl c14) rfl rfl (f_move rfl rfl) ?_
                                      refine EvK.pure (v := .bool (r4 != 1)) (w_some rfl rfl c14) rfl rfl (f_neq rfl rfl rfl) ?_
                                      refine EvK.pure (v := .bool (r4 != 1)) (w_some rfl rfl c14) rfl rfl (f_move rfl rfl) ?_
                                      rcases ite_inv hF with ⟨c15, hF⟩ | ⟨c15, hF⟩
                                      · refine EvK.not (w_not rfl rfl c15) rfl rfl ?_
                                        refine EvK.not (w_not rfl rfl c15) rfl rfl ?_
                                        refine EvK.not (w_not rfl rfl c15) rfl rfl ?_
                                        refine EvK.not (w_not rfl rfl c15) rfl rfl ?_
                                        refine EvK.not (w_not rfl rfl c15) rfl rfl ?_
                                        refine EvK.not (w_not rfl rfl c15) rfl rfl ?_
                                        refine EvK.not (w_undef rfl rfl) rfl rfl ?_
                                        refine EvK.not (w_undef rfl rfl) rfl rfl ?_
                                        refine EvK.not (w_undef rfl rfl) rfl rfl ?_
                                        refine EvK.not (w_undef rfl rfl) rfl rfl ?_
                                        refine EvK.not (w_undef rfl rfl) rfl rfl ?_
                                        refine EvK.not (w_not rfl rfl c15) rfl rfl ?_
                                        refine EvK.pure (v := .bool true) (w_some rfl rfl c14) rfl rfl (f_pickT rfl rfl c15 rfl) ?_
                                        refine EvK.pure (v := .bool true) (w_none rfl) rfl rfl (f_pickT rfl rfl c14 rfl) ?_
                                        refine EvK.nil ?_
                                        exact KE.mk true ⟨rfl, rfl, rfl, rfl, rfl, rfl, rfl, rfl, rfl, rfl, rfl, trivial⟩ hF
                                      · refine EvK.pure (v := Sl.val x2) (w_some rfl rfl c15) rfl rfl (f_move rfl rfl) ?_
                                        refine EvK.pure (v := .int .i64 s11) (w_some rfl rfl c15) rfl rfl (f_move rfl rfl) ?_
                                        obtain ⟨q12, hq11, hF⟩ := hF
                                        refine EvK.pure (v := .pointer (some q12)) (w_some rfl rfl c15) rfl rfl (f_indexAddr (s := x2) Try.underlying38 ty3.size rfl rfl rfl hq11) ?_
                                        obtain ⟨x15, hx13, hF⟩ := hF
                                        refine EvK.read (v := .int .i64 x15) (w_some rfl rfl c15) rfl rfl (f_load (kI .i64) ty3 rfl rfl hx13 rfl) ?_
                                        refine EvK.pure (v := .bool (x15 != 2)) (w_some rfl rfl c15) rfl rfl (f_neq rfl rfl rfl) ?_
                                        refine EvK.pure (v := .bool (x15 != 2)) (w_some rfl rfl c15) rfl rfl (f_move rfl rfl) ?_
                                        rcases ite_inv hF with ⟨c16, hF⟩ | ⟨c16, hF⟩
                                        · refine EvK.pure (v := Sl.val x2) (w_some rfl rfl c16) rfl rfl (f_move rfl rfl) ?_
                                          refine EvK.pure (v := .int .i64 s11) (w_some rfl rfl c16) rfl rfl (f_move rfl rfl) ?_
                                          obtain ⟨q13, hq12, hF⟩ := hF
                                          refine EvK.pure (v := .pointer (some q13)) (w_some rfl rfl c16) rfl rfl (f_indexAddr (s := x2) Try.underlying38 ty3.size rfl rfl rfl hq12) ?_
                                          obtain ⟨x16, hx14, hF⟩ := hF
                                          refine EvK.read (v := .int .i64 x16) (w_some rfl rfl c16) rfl rfl (f_load (kI .i64) ty3 rfl rfl hx14 rfl) ?_
                                          refine EvK.pure (v := .bool (x16 != 3)) (w_some rfl rfl c16) rfl rfl (f_neq rfl rfl rfl) ?_
                                          refine EvK.pure (v := .bool (x16 != 3)) (w_some rfl rfl c15) rfl rfl (f_pickT rfl rfl c16 rfl) ?_
                                          refine EvK.pure (v := .bool (x16 != 3)) (w_some rfl rfl c14) rfl rfl (f_pickF rfl rfl c15 rfl) ?_
                                          refine EvK.pure (v := .bool (x16 != 3)) (w_none rfl) rfl rfl (f_pickT rfl rfl c14 rfl) ?_
                                          refine EvK.nil ?_
                                          exact KE.mk (x16 != 3) ⟨rfl, rfl, rfl, rfl, rfl, rfl, rfl, rfl, rfl, rfl, rfl, trivial⟩ hF
                                        · refine EvK.not (w_not rfl rfl c16) rfl rfl ?_
                                          refine EvK.not (w_not rfl rfl c16) rfl rfl ?_
                                          refine EvK.not (w_not rfl rfl c16) rfl rfl ?_
                                          refine EvK.not (w_not rfl rfl c16) rfl rfl ?_
                                          refine EvK.not (w_not rfl rfl c16) rfl rfl ?_
                                          refine EvK.pure (v := .bool false) (w_some rfl rfl c15) rfl rfl (f_pickF rfl rfl c16 rfl) ?_
                                          refine EvK.pure (v := .bool false) (w_some rfl rfl c14) rfl rfl (f_pickF rfl rfl c15 rfl) ?_
                                          refine EvK.pure (v := .bool false) (w_none rfl) rfl rfl (f_pickT rfl rfl c14 rfl) ?_
                                          refine EvK.nil ?_
                                          exact KE.mk false ⟨rfl, rfl, rfl, rfl, rfl, rfl, rfl, rfl, rfl, rfl, rfl, trivial⟩ hF
                                    · refine EvK.not (w_not rfl rfl c14) rfl rfl ?_
                                      refine EvK.not (w_not rfl rfl c14) rfl rfl ?_
                                      refine EvK.not (w_not rfl rfl c14) rfl rfl ?_
                                      refine EvK.not (w_undef rfl rfl) rfl rfl ?_
                                      refine EvK.not (w_undef rfl rfl) rfl rfl ?_
                                      refine EvK.not (w_undef rfl rfl) rfl rfl ?_
                                      refine EvK.not (w_undef rfl rfl) rfl rfl ?_
                                      refine EvK.not (w_undef rfl rfl) rfl rfl ?_
                                      refine EvK.not (w_undef rfl rfl) rfl rfl ?_
                                      refine EvK.not (w_undef rfl rfl) rfl rfl ?_
                                      refine EvK.not (w_undef rfl rfl) rfl rfl ?_
                                      refine EvK.not (w_undef rfl rfl) rfl rfl ?_
                                      refine EvK.not (w_undef rfl rfl) rfl rfl ?_
                                      refine EvK.not (w_undef rfl rfl) rfl rfl ?_
                                      refine EvK.not (w_undef rfl rfl) rfl rfl ?_
                                      refine EvK.not (w_not rfl rfl c14) rfl rfl ?_
                                      refine EvK.pure (v := .bool false) (w_none rfl) rfl rfl (f_pickF rfl rfl c14 rfl) ?_
                                      refine EvK.nil ?_
                                      exact KE.mk false ⟨rfl, rfl, rfl, rfl, rfl, rfl, rfl, rfl, rfl, rfl, rfl, trivial⟩ hF
                          · refine WP.cond_false _ rfl c8 ?_
                            refine WP.exit ?_
                            exact KE.mk () ⟨rfl, rfl, rfl, rfl, rfl, rfl, rfl, trivial⟩ hF
                      · intro k8 hF
                        refine WP.seq ?_
                        refine WP.region ?_
                        refine EvK.pure (v := .pointer (some (q2.add 0))) (w_none rfl) rfl rfl (f_fieldAddr fd37_0 rfl rfl) ?_
                        obtain ⟨x17, hx15, hF⟩ := hF
                        refine EvK.read (v := .int .i64 x17) (w_none rfl) rfl rfl (f_load (kI .i64) ty3 rfl rfl hx15 rfl) ?_
                        refine EvK.pure (v := .bool (x17 == 1)) (w_none rfl) rfl rfl (f_eql rfl rfl rfl) ?_
                        refine EvK.nil ?_
                        rcases ite_inv hF with ⟨c17, hF⟩ | ⟨c17, hF⟩
                        · refine WP.cond_true _ rfl c17 ?_
                          refine WP.seq ?_
                          refine WP.region ?_
                          refine EvK.pure (v := .pointer r2.1) (w_none rfl) rfl rfl (f_move rfl rfl) ?_
                          refine EvK.pure (v := .pointer (some (q2.add 1))) (w_none rfl) rfl rfl (f_fieldAddr fd37_1 rfl rfl) ?_
                          obtain ⟨x18, hx16, hF⟩ := hF
                          refine EvK.read (v := .int .i64 x18) (w_none rfl) rfl rfl (f_load (kI .i64) ty3 rfl rfl hx16 rfl) ?_
                          refine EvK.call (w_none rfl) rfl rfl (enterH Try.func14 rfl rfl rfl rfl (sched_Sched_Pick.sound hF)) ?_
                          rintro _ h23 ⟨r7, rfl, hF⟩
                          refine EvK.pure (v := .tuple #[.int .i64 r7.1, .bool r7.2]) (w_none rfl) rfl rfl (f_move rfl rfl) ?_
                          refine EvK.pure (v := .int .i64 r7.1) (w_none rfl) rfl rfl (f_extract (vs := #[.int .i64 r7.1, .bool r7.2]) rfl rfl rfl) ?_
                          refine EvK.pure (v := .bool r7.2) (w_none rfl) rfl rfl (f_extract (vs := #[.int .i64 r7.1, .bool r7.2]) rfl rfl rfl) ?_
                          refine EvK.pure (v := .int .i64 r7.1) (w_none rfl) rfl rfl (f_assign rfl rfl) ?_
                          refine EvK.pure (v := .bool r7.2) (w_none rfl) rfl rfl (f_assign rfl rfl) ?_
                          refine EvK.nil ?_
                          refine WP.seq ?_
                          refine WP.joinF (fun (s15 : Bool) => [(127, .bool s15), (1, Sl.val a1), (5, .pointer r2.1), (7, Sl.val s3), (9, .int .i64 s5), (10, .pointer (some q2)), (11, Sl.val r3), (12, Sl.val x2), (13, Sl.val x3), (15, .int .i64 (-1)), (16, .int .i64 r7.1), (17, .bool r7.2)]) hF ?_ ?_
                          · intro s15 E0 h24 hF
                            rcases ite_inv hF with ⟨c18, hF⟩ | ⟨c18, hF⟩
                            · refine WP.cond_true _ rfl c18 ?_
                              refine WP.seq ?_
                              refine WP.region ?_
                              refine EvK.pure (v := .bool false) (w_none rfl) rfl rfl (f_assign rfl rfl) ?_
                              refine EvK.nil ?_
                              refine WP.ret ?_
                              exact Ret.mk (vs := [.bool false]) false ⟨rfl, trivial⟩ rfl hF
                            · refine WP.cond_false _ rfl c18 ?_
                              refine WP.skip ?_
                              refine WP.seq ?_
                              refine WP.region ?_
                              refine EvK.pure (v := .bool r7.2) (w_none rfl) rfl rfl (f_move rfl rfl) ?_
                              refine EvK.nil ?_
                              rcases ite_inv hF with ⟨c19, hF⟩ | ⟨c19, hF⟩
                              · refine WP.cond_true _ rfl c19 ?_
                                refine WP.region ?_
                                refine EvK.pure (v := .int .i64 r7.1) (w_none rfl) rfl rfl (f_move rfl rfl) ?_
                                refine EvK.pure (v := .int .i64 r7.1) (w_none rfl) rfl rfl (f_assign rfl rfl) ?_
                                refine EvK.nil ?_
                                exact KE.mk r7.1 ⟨rfl, rfl, rfl, rfl, rfl, rfl, rfl, rfl, rfl, trivial⟩ hF
                              · refine WP.cond_false _ rfl c19 ?_
                                refine WP.skip ?_
                                exact KE.mk (-1) ⟨rfl, rfl, rfl, rfl, rfl, rfl, rfl, rfl, rfl, trivial⟩ hF
                          · intro k15 hF
                            refine WP.region ?_
                            refine EvK.pure (v := .bool r7.2) (w_none rfl) rfl rfl (f_move rfl rfl) ?_
                            refine EvK.pure (v := Sl.val r3) (w_none rfl) rfl rfl (f_move rfl rfl) ?_
                            refine EvK.pure (v := .int .i64 (r3.len : Int)) (w_none rfl) rfl rfl (f_lenL (s := r3) Try.underlying38 rfl rfl) ?_
                            refine EvK.pure (v := .bool (decide ((r3.len : Int) > 0))) (w_none rfl) rfl rfl (f_gtr rfl rfl rfl) ?_
                            refine EvK.pure (v := .bool (!(r7.2 == (decide ((r3.len : Int) > 0))))) (w_none rfl) rfl rfl (f_bneq Try.underlying4 rfl rfl rfl) ?_
                            refine EvK.pure (v := .bool (!(r7.2 == (decide ((r3.len : Int) > 0))))) (w_none rfl) rfl rfl (f_move rfl rfl) ?_
                            rcases ite_inv hF with ⟨c20, hF⟩ | ⟨c20, hF⟩
                            · refine EvK.not (w_not rfl rfl c20) rfl rfl ?_
                              refine EvK.not (w_not rfl rfl c20) rfl rfl ?_
                              refine EvK.not (w_not rfl rfl c20) rfl rfl ?_
                              refine EvK.not (w_undef rfl rfl) rfl rfl ?_
                              refine EvK.not (w_undef rfl rfl) rfl rfl ?_
                              refine EvK.not (w_not rfl rfl c20) rfl rfl ?_
                              refine EvK.pure (v := .bool true) (w_none rfl) rfl rfl (f_pickT rfl rfl c20 rfl) ?_
                              refine EvK.nil ?_
                              exact KE.mk true ⟨rfl, rfl, rfl, rfl, rfl, rfl, rfl, rfl, rfl, rfl, rfl, rfl, trivial⟩ hF
                            · refine EvK.pure (v := .bool r7.2) (w_some rfl rfl c20) rfl rfl (f_move rfl rfl) ?_
                              refine EvK.pure (v := .bool (!r7.2)) (w_some rfl rfl c20) rfl rfl (f_not rfl rfl) ?_
                              refine EvK.pure (v := .bool (!r7.2)) (w_some rfl rfl c20) rfl rfl (f_move rfl rfl) ?_
                              rcases ite_inv hF with ⟨c21, hF⟩ | ⟨c21, hF⟩
                              · refine EvK.pure (v := .int .i64 r7.1) (w_some rfl rfl c21) rfl rfl (f_move rfl rfl) ?_
                                refine EvK.pure (v := .bool (r7.1 != 0)) (w_some rfl rfl c21) rfl rfl (f_neq rfl rfl rfl) ?_
                                refine EvK.pure (v := .bool (r7.1 != 0)) (w_some rfl rfl c20) rfl rfl (f_pickT rfl rfl c21 rfl) ?_
                                refine EvK.pure (v := .bool (r7.1 != 0)) (w_none rfl) rfl rfl (f_pickF rfl rfl c20 rfl) ?_
                                refine EvK.nil ?_
                                exact KE.mk (r7.1 != 0) ⟨rfl, rfl, rfl, rfl, rfl, rfl, rfl, rfl, rfl, rfl, rfl, rfl, trivial⟩ hF
                              · refine EvK.not (w_not rfl rfl c21) rfl rfl ?_
                                refine EvK.not (w_not rfl rfl c21) rfl rfl ?_
                                refine EvK.pure (v := .bool false) (w_some rfl rfl c20) rfl rfl (f_pickF rfl rfl c21 rfl) ?_
                                refine EvK.pure (v := .bool false) (w_none rfl) rfl rfl (f_pickF rfl rfl c20 rfl) ?_
                                refine EvK.nil ?_
                                exact KE.mk false ⟨rfl, rfl, rfl, rfl, rfl, rfl, rfl, rfl, rfl, rfl, rfl, rfl, trivial⟩ hF
                        · refine WP.cond_false _ rfl c17 ?_
                          refine WP.seq ?_
                          refine WP.region ?_
                          refine EvK.pure (v := .pointer (some (q2.add 0))) (w_none rfl) rfl rfl (f_fieldAddr fd37_0 rfl rfl) ?_
                          obtain ⟨x19, hx17, hF⟩ := hF
                          refine EvK.read (v := .int .i64 x19) (w_none rfl) rfl rfl (f_load (kI .i64) ty3 rfl rfl hx17 rfl) ?_
                          refine EvK.pure (v := .bool (x19 == 3)) (w_none rfl) rfl rfl (f_eql rfl rfl rfl) ?_
                          refine EvK.nil ?_
                          rcases ite_inv hF with ⟨c22, hF⟩ | ⟨c22, hF⟩
                          · refine WP.cond_true _ rfl c22 ?_
                            refine WP.region ?_
                            refine EvK.pure (v := .pointer r2.1) (w_none rfl) rfl rfl (f_move rfl rfl) ?_
                            refine EvK.pure (v := .pointer (some (q2.add 1))) (w_none rfl) rfl rfl (f_fieldAddr fd37_1 rfl rfl) ?_
                            obtain ⟨x20, hx18, hF⟩ := hF
                            refine EvK.read (v := .int .i64 x20) (w_none rfl) rfl rfl (f_load (kI .i64) ty3 rfl rfl hx18 rfl) ?_
                            refine EvK.call (w_none rfl) rfl rfl (enterH Try.func15 rfl rfl rfl rfl (sched_Sched_Wake.sound hF)) ?_
                            rintro _ h25 ⟨r8, rfl, hF⟩
                            refine EvK.nil ?_
                            exact KE.mk (-1) ⟨rfl, rfl, rfl, rfl, rfl, rfl, rfl, rfl, rfl, trivial⟩ hF
                          · refine WP.cond_false _ rfl c22 ?_
                            refine WP.skip ?_
                            exact KE.mk (-1) ⟨rfl, rfl, rfl, rfl, rfl, rfl, rfl, rfl, rfl, trivial⟩ hF
                    · intro k7 hF
                      refine WP.seq ?_
                      refine WP.region ?_
                      refine EvK.pure (v := .int .i64 0) (w_none rfl) rfl rfl (f_assign rfl rfl) ?_
                      refine EvK.nil ?_
                      refine WP.block ?_
                      refine WP.loopF (fun (s16 : Int) => [(14, .int .i64 s16), (1, Sl.val a1), (5, .pointer r2.1), (7, Sl.val s3), (9, .int .i64 s5), (10, .pointer (some q2)), (11, Sl.val r3), (12, Sl.val x2), (13, Sl.val x3)]) hF ⟨rfl, rfl, rfl, rfl, rfl, rfl, rfl, rfl, rfl, trivial⟩ ?_
                      intro k16 s16 E0 h26 hF
                      refine WP.seq ?_
                      refine WP.seq ?_
                      refine WP.region ?_
                      refine EvK.pure (v := .int .i64 s16) (w_none rfl) rfl rfl (f_move rfl rfl) ?_
                      refine EvK.pure (v := Sl.val s3) (w_none rfl) rfl rfl (f_move rfl rfl) ?_
                      refine EvK.pure (v := .int .i64 (s3.len : Int)) (w_none rfl) rfl rfl (f_lenL (s := s3) Try.underlying29 rfl rfl) ?_
                      refine EvK.pure (v := .bool (decide (s16 < (s3.len : Int)))) (w_none rfl) rfl rfl (f_lss rfl rfl rfl) ?_
                      refine EvK.nil ?_
                      rcases ite_inv hF with ⟨c23, hF⟩ | ⟨c23, hF⟩
                      · refine WP.cond_true _ rfl c23 ?_
                        refine WP.skip ?_
                        refine WP.seq ?_
                        refine WP.block ?_
                        refine WP.seq ?_
                        refine WP.region ?_
                        refine EvK.pure (v := Sl.val x2) (w_none rfl) rfl rfl (f_move rfl rfl) ?_
                        refine EvK.pure (v := .int .i64 s16) (w_none rfl) rfl rfl (f_move rfl rfl) ?_
                        refine EvK.pure (v := .pointer r2.1) (w_none rfl) rfl rfl (f_move rfl rfl) ?_
                        refine EvK.pure (v := .int .i64 s16) (w_none rfl) rfl rfl (f_move rfl rfl) ?_
                        refine EvK.call (w_none rfl) rfl rfl (enterH Try.func13 rfl rfl rfl rfl (sched_Sched_State.sound hF)) ?_
                        rintro _ h27 ⟨r9, rfl, hF⟩
                        obtain ⟨q14, hq13, hF⟩ := hF
                        refine EvK.pure (v := .pointer (some q14)) (w_none rfl) rfl rfl (f_indexAddr (s := x2) Try.underlying38 ty3.size rfl rfl rfl hq13) ?_
                        obtain ⟨h28, hs2, hF⟩ := hF
                        refine EvK.runN (w_none rfl) rfl (f_store (kI .i64) ty3.size (z := r9) rfl rfl rfl hs2) ?_
                        rintro _ _ ⟨rfl, rfl⟩
                        refine EvK.nil ?_
                        refine WP.region ?_
                        refine EvK.pure (v := Sl.val x3) (w_none rfl) rfl rfl (f_move rfl rfl) ?_
                        refine EvK.pure (v := .int .i64 s16) (w_none rfl) rfl rfl (f_move rfl rfl) ?_
                        refine EvK.pure (v := Sl.val s3) (w_none rfl) rfl rfl (f_move rfl rfl) ?_
                        refine EvK.pure (v := .int .i64 s16) (w_none rfl) rfl rfl (f_move rfl rfl) ?_
                        obtain ⟨q15, hq14, hF⟩ := hF
                        refine EvK.pure (v := .pointer (some q15)) (w_none rfl) rfl rfl (f_indexAddr (s := s3) Try.underlying29 ty30.size rfl rfl rfl hq14) ?_
                        obtain ⟨x21, hx19, hF⟩ := hF
                        refine EvK.read (v := .pointer x21) (w_none rfl) rfl rfl (f_load kP ty30 rfl rfl hx19 rfl) ?_
                        obtain ⟨q16, hq15, hF⟩ := hF
                        refine EvK.pure (v := .pointer (some q16)) (w_none rfl) rfl rfl (f_nilCheck rfl (congrArg Value.pointer hq15)) ?_
                        refine EvK.pure (v := .pointer (some (q16.add 1))) (w_none rfl) rfl rfl (f_fieldAddr fd34_1 rfl rfl) ?_
                        obtain ⟨x22, hx20, hF⟩ := hF
                        refine EvK.read (v := .int .i64 x22) (w_none rfl) rfl rfl (f_load (kI .i64) ty3 rfl rfl hx20 rfl) ?_
                        obtain ⟨q17, hq16, hF⟩ := hF
                        refine EvK.pure (v := .pointer (some q17)) (w_none rfl) rfl rfl (f_indexAddr (s := x3) Try.underlying38 ty3.size rfl rfl rfl hq16) ?_
                        obtain ⟨h29, hs3, hF⟩ := hF
                        refine EvK.runN (w_none rfl) rfl (f_store (kI .i64) ty3.size (z := x22) rfl rfl rfl hs3) ?_
                        rintro _ _ ⟨rfl, rfl⟩
                        refine EvK.nil ?_
                        refine WP.region ?_
                        refine EvK.pure (v := .int .i64 s16) (w_none rfl) rfl rfl (f_move rfl rfl) ?_
                        refine EvK.pure (v := .int .i64 (IntKind.i64.wrap (s16 + 1))) (w_none rfl) rfl rfl (f_add rfl rfl rfl) ?_
                        refine EvK.pure (v := .int .i64 (IntKind.i64.wrap (s16 + 1))) (w_none rfl) rfl rfl (f_assign rfl rfl) ?_
                        refine EvK.nil ?_
                        exact KE.mk (IntKind.i64.wrap (s16 + 1)) ⟨rfl, rfl, rfl, rfl, rfl, rfl, rfl, rfl, rfl, trivial⟩ hF
                      · refine WP.cond_false _ rfl c23 ?_
                        refine WP.exit ?_
                        exact KE.mk () ⟨rfl, rfl, rfl, rfl, rfl, rfl, rfl, rfl, trivial⟩ hF
                · refine WP.cond_false _ rfl c4 ?_
                  refine WP.exit ?_
                  exact KE.mk () trivial hF
            · intro k3 hF
              refine WP.seq ?_
              refine WP.region ?_
              refine EvK.pure (v := .int .i64 0) (w_none rfl) rfl rfl (f_assign rfl rfl) ?_
              refine EvK.nil ?_
              refine WP.block ?_
              refine WP.loopF (fun (s17 : Sl × Int) => [(7, Sl.val s17.1), (8, .int .i64 s17.2), (0, Sl.val a0), (1, Sl.val a1), (5, .pointer r2.1)]) hF ⟨rfl, rfl, rfl, rfl, rfl, trivial⟩ ?_
              intro k17 s17 E0 h30 hF
              refine WP.seq ?_
              refine WP.seq ?_
              refine WP.region ?_
              refine EvK.pure (v := .int .i64 s17.2) (w_none rfl) rfl rfl (f_move rfl rfl) ?_
              refine EvK.pure (v := Sl.val a0) (w_none rfl) rfl rfl (f_move rfl rfl) ?_
              refine EvK.pure (v := .int .i64 (a0.len : Int)) (w_none rfl) rfl rfl (f_lenL (s := a0) Try.underlying22 rfl rfl) ?_
              refine EvK.pure (v := .bool (decide (s17.2 < (a0.len : Int)))) (w_none rfl) rfl rfl (f_lss rfl rfl rfl) ?_
              refine EvK.nil ?_
              rcases ite_inv hF with ⟨c24, hF⟩ | ⟨c24, hF⟩
              · refine WP.cond_true _ rfl c24 ?_
                refine WP.skip ?_
                refine WP.seq ?_
                refine WP.block ?_
                refine WP.seq ?_
                refine WP.region ?_
                refine EvK.pure (v := Sl.val s17.1) (w_none rfl) rfl rfl (f_move rfl rfl) ?_
                refine EvK.pure (v := Sl.val a0) (w_none rfl) rfl rfl (f_move rfl rfl) ?_
                refine EvK.pure (v := .int .i64 s17.2) (w_none rfl) rfl rfl (f_move rfl rfl) ?_
                obtain ⟨q18, hq17, hF⟩ := hF
                refine EvK.pure (v := .pointer (some q18)) (w_none rfl) rfl rfl (f_indexAddr (s := a0) Try.underlying22 ty31.size rfl rfl rfl hq17) ?_
                obtain ⟨x23, hx21, hF⟩ := hF
                refine EvK.read (v := Sl.val x23) (w_none rfl) rfl rfl (f_load kL ty31 rfl rfl hx21 rfl) ?_
                refine EvK.call (w_none rfl) rfl rfl (enterH Try.func10 rfl rfl rfl rfl (spatelaw12_twin.sound hF)) ?_
                rintro _ h31 ⟨r13, rfl, hF⟩
                refine EvK.pure (v := k33.val (S33.mk r13 0)) (w_none rfl) rfl rfl (f_build (cells := k33.enc (S33.mk r13 0)) st34 rfl rfl rfl) ?_
                refine EvK.alloc (w_none rfl) rfl rfl (f_boxF (v := k33.val (S33.mk r13 0)) rfl rfl rfl hF) ?_
                rintro _ h32 ⟨q19, rfl, hF⟩
                refine EvK.alloc (w_none rfl) rfl rfl (f_buildSliceF Try.underlying29 el30 (by decide) rfl rfl rfl hF) ?_
                rintro _ h33 ⟨x24, rfl, hF⟩
                refine EvK.run (w_none rfl) rfl rfl (f_appendE (s := s17.1) (x := x24) Try.underlying29 el30 rfl rfl rfl hF) ?_
                rintro _ h34 ⟨x25, rfl, hF⟩
                refine EvK.pure (v := Sl.val x25) (w_none rfl) rfl rfl (f_assign rfl rfl) ?_
                refine EvK.nil ?_
                refine WP.region ?_
                refine EvK.pure (v := .pointer r2.1) (w_none rfl) rfl rfl (f_move rfl rfl) ?_
                refine EvK.pure (v := Sl.val x25) (w_none rfl) rfl rfl (f_move rfl rfl) ?_
                refine EvK.pure (v := .int .i64 s17.2) (w_none rfl) rfl rfl (f_move rfl rfl) ?_
                obtain ⟨q20, hq18, hF⟩ := hF
                refine EvK.pure (v := .pointer (some q20)) (w_none rfl) rfl rfl (f_indexAddr (s := x25) Try.underlying29 ty30.size rfl rfl rfl hq18) ?_
                obtain ⟨x26, hx22, hF⟩ := hF
                refine EvK.read (v := .pointer x26) (w_none rfl) rfl rfl (f_load kP ty30 rfl rfl hx22 rfl) ?_
                refine EvK.pure (v := IF.val (some (30, .pointer x26) : IF)) (w_none rfl) rfl rfl (f_makeIf Try.underlying30 rfl rfl rfl) ?_
                refine EvK.call (w_none rfl) rfl rfl (enterH (vs := [.pointer r2.1, IF.val (some (30, .pointer x26) : IF)]) Try.func11 rfl rfl rfl rfl (sched_Sched_Add.sound hF)) ?_
                rintro _ h35 ⟨r14, rfl, hF⟩
                refine EvK.nil ?_
                refine WP.region ?_
                refine EvK.pure (v := .int .i64 s17.2) (w_none rfl) rfl rfl (f_move rfl rfl) ?_
                refine EvK.pure (v := .int .i64 (IntKind.i64.wrap (s17.2 + 1))) (w_none rfl) rfl rfl (f_add rfl rfl rfl) ?_
                refine EvK.pure (v := .int .i64 (IntKind.i64.wrap (s17.2 + 1))) (w_none rfl) rfl rfl (f_assign rfl rfl) ?_
                refine EvK.nil ?_
                exact KE.mk (x25, IntKind.i64.wrap (s17.2 + 1)) ⟨rfl, rfl, rfl, rfl, rfl, trivial⟩ hF
              · refine WP.cond_false _ rfl c24 ?_
                refine WP.exit ?_
                exact KE.mk s17.1 ⟨rfl, rfl, rfl, trivial⟩ hF
        · intro k2 hF
          refine WP.region ?_
          refine EvK.pure (v := .int .i64 r2.2) (w_none rfl) rfl rfl (f_move rfl rfl) ?_
          refine EvK.pure (v := .bool (r2.2 != 0)) (w_none rfl) rfl rfl (f_neq rfl rfl rfl) ?_
          refine EvK.pure (v := .bool (r2.2 != 0)) (w_none rfl) rfl rfl (f_move rfl rfl) ?_
          rcases ite_inv hF with ⟨c25, hF⟩ | ⟨c25, hF⟩
          · refine EvK.not (w_not rfl rfl c25) rfl rfl ?_
            refine EvK.not (w_not rfl rfl c25) rfl rfl ?_
            refine EvK.pure (v := .bool true) (w_none rfl) rfl rfl (f_pickT rfl rfl c25 rfl) ?_
            refine EvK.nil ?_
            exact KE.mk true ⟨rfl, rfl, rfl, rfl, trivial⟩ hF
          · refine EvK.pure (v := .pointer r2.1) (w_some rfl rfl c25) rfl rfl (f_move rfl rfl) ?_
            refine EvK.pure (v := .bool r2.1.isNone) (w_some rfl rfl c25) rfl rfl (f_peqln Try.underlying25 rfl rfl rfl) ?_
            refine EvK.pure (v := .bool r2.1.isNone) (w_none rfl) rfl rfl (f_pickF rfl rfl c25 rfl) ?_
            refine EvK.nil ?_
            exact KE.mk r2.1.isNone ⟨rfl, rfl, rfl, rfl, trivial⟩ hF
    · intro k1 hF
      refine WP.region ?_
      refine EvK.pure (v := Sl.val a1) (w_none rfl) rfl rfl (f_move rfl rfl) ?_
      refine EvK.pure (v := .int .i64 (a1.len : Int)) (w_none rfl) rfl rfl (f_lenL (s := a1) Try.underlying23 rfl rfl) ?_
      refine EvK.pure (v := .bool (decide ((a1.len : Int) > 4000))) (w_none rfl) rfl rfl (f_gtr rfl rfl rfl) ?_
      refine EvK.pure (v := .bool (decide ((a1.len : Int) > 4000))) (w_none rfl) rfl rfl (f_move rfl rfl) ?_
      rcases ite_inv hF with ⟨c26, hF⟩ | ⟨c26, hF⟩
      · refine EvK.not (w_not rfl rfl c26) rfl rfl ?_
        refine EvK.not (w_not rfl rfl c26) rfl rfl ?_
        refine EvK.not (w_not rfl rfl c26) rfl rfl ?_
        refine EvK.pure (v := .bool true) (w_none rfl) rfl rfl (f_pickT rfl rfl c26 rfl) ?_
        refine EvK.nil ?_
        exact KE.mk true ⟨rfl, rfl, rfl, trivial⟩ hF
      · refine EvK.pure (v := Sl.val a0) (w_some rfl rfl c26) rfl rfl (f_move rfl rfl) ?_
        refine EvK.pure (v := .int .i64 (a0.len : Int)) (w_some rfl rfl c26) rfl rfl (f_lenL (s := a0) Try.underlying22 rfl rfl) ?_
        refine EvK.pure (v := .bool (decide ((a0.len : Int) > 100))) (w_some rfl rfl c26) rfl rfl (f_gtr rfl rfl rfl) ?_
        refine EvK.pure (v := .bool (decide ((a0.len : Int) > 100))) (w_none rfl) rfl rfl (f_pickF rfl rfl c26 rfl) ?_
        refine EvK.nil ?_
        exact KE.mk (decide ((a0.len : Int) > 100)) ⟨rfl, rfl, rfl, trivial⟩ hF
end Go.Proofs.Ytomngllmnhdmlaa
