/- spate/spatelaw12.SchedRounds, as a predicate over the heap, and that the code comes to it. Printed by gen.py. -/
import Derived.Test.YtomngllmnhdmlaaB0
import Derived.Test.YtomngllmnhdmlaaB3
import Derived.Test.YtomngllmnhdmlaaB2
namespace Go.Proofs.Ytomngllmnhdmlaa
open Go Go.Tr
set_option linter.unusedVariables false
set_option maxRecDepth 100000
set_option maxHeartbeats 400000
def spatelaw12_SchedRounds.b2 (p0 : Sl) (p1 : Sl) (p5 : Option Addr) (p7 : Option Addr) (p10 : Int) (s : Int) (h : H) (K : Int ⊕ (Unit ⊕ Bool) → H → Prop) : Prop :=
  if (decide (s < (p0.len : Int))) = true then
    sched_Sched_State p5 s h fun r10 h16 =>
    sched_Sched_State p7 s h16 fun r11 h17 =>
    if (r10 != r11) = true then
      K (.inr (.inr false)) h17
    else
      K (.inl (IntKind.i64.wrap (s + 1))) h17
  else
    K (.inr (.inl ())) h
def spatelaw12_SchedRounds.b4 (p0 : Sl) (p1 : Sl) (p5 : Option Addr) (p7 : Option Addr) (p10 : Int) (p11 : Sl) (p12 : Int) (p13 : Sl) (s : Int) (h : H) (K : Int ⊕ Int → H → Prop) : Prop :=
  jn (fun (k10 : Bool → H → Prop) =>
    if (decide (s < (p13.len : Int))) = true then
      rd (ixA 1 p13 s) fun q5 =>
      rd (ld (kI .i64) q5 h) fun x5 =>
      rd (ixA 1 p11 p12) fun q6 =>
      rd (ld (kI .i64) q6 h) fun x6 =>
      k10 (x5 != x6) h
    else
      k10 false h) fun s10 h24 =>
  if s10 = true then
    K (.inl (IntKind.i64.wrap (s + 1))) h24
  else
    K (.inr s) h24
def spatelaw12_SchedRounds.b3 (p0 : Sl) (p1 : Sl) (p5 : Option Addr) (p7 : Option Addr) (p10 : Int) (p11 : Sl) (s : Int) (h : H) (K : Int ⊕ Unit → H → Prop) : Prop :=
  if (decide (s < (p11.len : Int))) = true then
    jn (fun (k8 : Unit → H → Prop) =>
      rd (ixA 1 p11 s) fun q4 =>
      rd (ld (kI .i64) q4 h) fun x4 =>
      sched_Sched_State p7 x4 h fun r14 h20 =>
      if (r14 != 1) = true then
        k8 () h20
      else
        sched_Sched_Ready p7 h20 fun r15 h21 =>
        jn (fun (k9 : Int → H → Prop) =>
          loopE (spatelaw12_SchedRounds.b4 p0 p1 p5 p7 p10 p11 s r15) 0 h21 (fun r17 hh => k9 r17 hh)) fun s9 h22 =>
        sched_Sched_Pick p7 s9 h22 fun r16 h23 =>
        k8 () h23) fun s8 h19 =>
    K (.inl (IntKind.i64.wrap (s + 1))) h19
  else
    K (.inr ()) h
def spatelaw12_SchedRounds.b1 (p0 : Sl) (p1 : Sl) (p5 : Option Addr) (p7 : Option Addr) (s : Int) (h : H) (K : Int ⊕ (Unit ⊕ Bool) → H → Prop) : Prop :=
  if (decide (s < (p1.len : Int))) = true then
    jn (fun (k5 : Unit → H → Prop) =>
      rd (ixA 2 p1 s) fun q1 =>
      rd (ld k36 q1 h) fun x1 =>
      spatelaw12_do p5 x1 h fun r4 h9 =>
      rd (ixA 2 p1 s) fun q2 =>
      rd (ld (kI .i64) (q2.add 0) h9) fun x2 =>
      if (x2 != 2) = true then
        rd (ixA 2 p1 s) fun q3 =>
        rd (ld k36 q3 h9) fun x3 =>
        spatelaw12_do p7 x3 h9 fun r5 h10 =>
        k5 () h10
      else
        sched_Sched_Ready p7 h9 fun r6 h11 =>
        jn (fun (k6 : Unit → H → Prop) =>
          loopE (spatelaw12_SchedRounds.b3 p0 p1 p5 p7 s r6) 0 h11 (fun r18 hh => k6 r18 hh)) fun s6 h12 =>
        sched_Sched_Ready p5 h12 fun r7 h13 =>
        sched_Sched_Ready p7 h13 fun r8 h14 =>
        spatelaw12_ints r7 r8 h14 fun r9 h15 =>
        if (!r9) = true then
          K (.inr (.inr false)) h15
        else
          loopE (spatelaw12_SchedRounds.b2 p0 p1 p5 p7 s) 0 h15 (sumK (fun r12 hh => k5 r12 hh) (fun r13 hh => K (.inr (.inr r13)) hh))) fun s5 h8 =>
    K (.inl (IntKind.i64.wrap (s + 1))) h8
  else
    K (.inr (.inl ())) h
def spatelaw12_SchedRounds.b5 (p0 : Sl) (p1 : Sl) (p5 : Option Addr) (p7 : Option Addr) (s : Int) (h : H) (K : Int ⊕ Unit → H → Prop) : Prop :=
  if (decide (s < (p0.len : Int))) = true then
    rd (ixA 1 p0 s) fun q7 =>
    rd (ld kL q7 h) fun x7 =>
    spatelaw12_twin x7 h fun r21 h28 =>
    al 34 (k33.enc (S33.mk r21 0)) h28 fun q8 h29 =>
    sched_Sched_Add p5 (some (30, .pointer (some q8)) : IF) h29 fun r22 h30 =>
    rd (ixA 1 p0 s) fun q9 =>
    rd (ld kL q9 h30) fun x8 =>
    spatelaw12_twin x8 h30 fun r23 h31 =>
    al 34 (k33.enc (S33.mk r23 0)) h31 fun q10 h32 =>
    sched_Sched_Add p7 (some (30, .pointer (some q10)) : IF) h32 fun r24 h33 =>
    K (.inl (IntKind.i64.wrap (s + 1))) h33
  else
    K (.inr ()) h
/-- spate/spatelaw12.SchedRounds -/
def spatelaw12_SchedRounds (a0 : Sl) (a1 : Sl) (h : H) (Q : Bool → H → Prop) : Prop :=
  spatelaw12_known  h fun r1 h1 =>
  if (!r1) = true then
    Q false h1
  else
    jn (fun (k1 : Bool → H → Prop) =>
      if (decide ((a1.len : Int) > 800)) = true then
        k1 true h1
      else
        k1 (decide ((a0.len : Int) > 60)) h1) fun s1 h2 =>
    if s1 = true then
      Q true h2
    else
      sched_New 8 h2 fun r2 h3 =>
      sched_New 8 h3 fun r3 h4 =>
      jn (fun (k2 : Bool → H → Prop) =>
        if (r2.2 != 0) = true then
          k2 true h4
        else
          if (r3.2 != 0) = true then
            k2 true h4
          else
            if r2.1.isNone = true then
              k2 true h4
            else
              k2 r3.1.isNone h4) fun s2 h5 =>
      if s2 = true then
        Q false h5
      else
        jn (fun (k3 : Unit → H → Prop) =>
          loopE (spatelaw12_SchedRounds.b5 a0 a1 r2.1 r3.1) 0 h5 (fun r25 hh => k3 r25 hh)) fun s3 h6 =>
        jn (fun (k4 : Unit → H → Prop) =>
          loopE (spatelaw12_SchedRounds.b1 a0 a1 r2.1 r3.1) 0 h6 (sumK (fun r19 hh => k4 r19 hh) (fun r20 hh => Q r20 hh))) fun s4 h7 =>
        Q true h7
theorem spatelaw12_SchedRounds.sound {a0 : Sl} {a1 : Sl} {h : H} {Q : Bool → H → Prop} (hF : spatelaw12_SchedRounds a0 a1 h Q) :
    CallsH Try.prog 6 (List.toArray (α := Value) [Sl.val a0, Sl.val a1]) h fun v h' => ∃ x : Bool, v = .bool x ∧ Q x h' := by
  refine CallsH.of_body Try.func6 rfl 154 rfl rfl ?_
  refine WP.seq ?_
  refine WP.region ?_
  refine EvK.pure (v := .bool false) (w_none rfl) rfl rfl (f_assign rfl rfl) ?_
  refine EvK.nil ?_
  refine WP.seq ?_
  refine WP.seq ?_
  refine WP.region ?_
  refine EvK.call (w_none rfl) rfl rfl (enterH Try.func8 rfl rfl rfl rfl (spatelaw12_known.sound hF)) ?_
  rintro _ h1 ⟨r1, rfl, hF⟩
  refine EvK.pure (v := .bool (!r1)) (w_none rfl) rfl rfl (f_not rfl rfl) ?_
  refine EvK.nil ?_
  rcases ite_inv hF with ⟨c1, hF⟩ | ⟨c1, hF⟩
  · refine WP.cond_true _ rfl c1 ?_
    refine WP.seq ?_
    refine WP.region ?_
    refine EvK.pure (v := .bool false) (w_none rfl) rfl rfl (f_assign rfl rfl) ?_
    refine EvK.nil ?_
    refine WP.ret ?_
    exact Ret.mk (vs := [.bool false]) false ⟨rfl, trivial⟩ rfl hF
  · refine WP.cond_false _ rfl c1 ?_
    refine WP.skip ?_
    refine WP.seq ?_
    refine WP.joinF (fun (s1 : Bool) => [(25, .bool s1), (0, Sl.val a0), (1, Sl.val a1)]) hF ?_ ?_
    · intro s1 E0 h2 hF
      rcases ite_inv hF with ⟨c2, hF⟩ | ⟨c2, hF⟩
      · refine WP.cond_true _ rfl c2 ?_
        refine WP.seq ?_
        refine WP.region ?_
        refine EvK.pure (v := .bool true) (w_none rfl) rfl rfl (f_assign rfl rfl) ?_
        refine EvK.nil ?_
        refine WP.ret ?_
        exact Ret.mk (vs := [.bool true]) true ⟨rfl, trivial⟩ rfl hF
      · refine WP.cond_false _ rfl c2 ?_
        refine WP.skip ?_
        refine WP.seq ?_
        refine WP.region ?_
        refine EvK.call (w_none rfl) rfl rfl (enterH Try.func9 rfl rfl rfl rfl (sched_New.sound hF)) ?_
        rintro _ h3 ⟨r2, rfl, hF⟩
        refine EvK.pure (v := .tuple #[.pointer r2.1, .int .i64 r2.2]) (w_none rfl) rfl rfl (f_move rfl rfl) ?_
        refine EvK.pure (v := .pointer r2.1) (w_none rfl) rfl rfl (f_extract (vs := #[.pointer r2.1, .int .i64 r2.2]) rfl rfl rfl) ?_
        refine EvK.pure (v := .int .i64 r2.2) (w_none rfl) rfl rfl (f_extract (vs := #[.pointer r2.1, .int .i64 r2.2]) rfl rfl rfl) ?_
        refine EvK.pure (v := .pointer r2.1) (w_none rfl) rfl rfl (f_assign rfl rfl) ?_
        refine EvK.pure (v := .int .i64 r2.2) (w_none rfl) rfl rfl (f_assign rfl rfl) ?_
        refine EvK.nil ?_
        refine WP.seq ?_
        refine WP.region ?_
        refine EvK.call (w_none rfl) rfl rfl (enterH Try.func9 rfl rfl rfl rfl (sched_New.sound hF)) ?_
        rintro _ h4 ⟨r3, rfl, hF⟩
        refine EvK.pure (v := .tuple #[.pointer r3.1, .int .i64 r3.2]) (w_none rfl) rfl rfl (f_move rfl rfl) ?_
        refine EvK.pure (v := .pointer r3.1) (w_none rfl) rfl rfl (f_extract (vs := #[.pointer r3.1, .int .i64 r3.2]) rfl rfl rfl) ?_
        refine EvK.pure (v := .int .i64 r3.2) (w_none rfl) rfl rfl (f_extract (vs := #[.pointer r3.1, .int .i64 r3.2]) rfl rfl rfl) ?_
        refine EvK.pure (v := .pointer r3.1) (w_none rfl) rfl rfl (f_assign rfl rfl) ?_
        refine EvK.pure (v := .int .i64 r3.2) (w_none rfl) rfl rfl (f_assign rfl rfl) ?_
        refine EvK.nil ?_
        refine WP.seq ?_
        refine WP.joinF (fun (s2 : Bool) => [(47, .bool s2), (0, Sl.val a0), (1, Sl.val a1), (5, .pointer r2.1), (7, .pointer r3.1)]) hF ?_ ?_
        · intro s2 E0 h5 hF
          rcases ite_inv hF with ⟨c3, hF⟩ | ⟨c3, hF⟩
          · refine WP.cond_true _ rfl c3 ?_
            refine WP.seq ?_
            refine WP.region ?_
            refine EvK.pure (v := .bool false) (w_none rfl) rfl rfl (f_assign rfl rfl) ?_
            refine EvK.nil ?_
            refine WP.ret ?_
            exact Ret.mk (vs := [.bool false]) false ⟨rfl, trivial⟩ rfl hF
          · refine WP.cond_false _ rfl c3 ?_
            refine WP.skip ?_
            refine WP.joinF (fun (s3 : Unit) => [(0, Sl.val a0), (1, Sl.val a1), (5, .pointer r2.1), (7, .pointer r3.1)]) hF ?_ ?_
            · intro s3 E0 h6 hF
              refine WP.joinF (fun (s4 : Unit) => []) hF ?_ ?_
              · intro s4 E0 h7 hF
                refine WP.seq ?_
                refine WP.region ?_
                refine EvK.pure (v := .bool true) (w_none rfl) rfl rfl (f_assign rfl rfl) ?_
                refine EvK.nil ?_
                refine WP.ret ?_
                exact Ret.mk (vs := [.bool true]) true ⟨rfl, trivial⟩ rfl hF
              · intro k4 hF
                refine WP.seq ?_
                refine WP.region ?_
                refine EvK.pure (v := .int .i64 0) (w_none rfl) rfl rfl (f_assign rfl rfl) ?_
                refine EvK.nil ?_
                refine WP.block ?_
                refine WP.loopF (fun (s5 : Int) => [(10, .int .i64 s5), (0, Sl.val a0), (1, Sl.val a1), (5, .pointer r2.1), (7, .pointer r3.1)]) hF ⟨rfl, rfl, rfl, rfl, rfl, trivial⟩ ?_
                intro k5 s5 E0 h8 hF
                refine WP.seq ?_
                refine WP.seq ?_
                refine WP.region ?_
                refine EvK.pure (v := .int .i64 s5) (w_none rfl) rfl rfl (f_move rfl rfl) ?_
                refine EvK.pure (v := Sl.val a1) (w_none rfl) rfl rfl (f_move rfl rfl) ?_
                refine EvK.pure (v := .int .i64 (a1.len : Int)) (w_none rfl) rfl rfl (f_lenL (s := a1) Try.underlying23 rfl rfl) ?_
                refine EvK.pure (v := .bool (decide (s5 < (a1.len : Int)))) (w_none rfl) rfl rfl (f_lss rfl rfl rfl) ?_
                refine EvK.nil ?_
                rcases ite_inv hF with ⟨c4, hF⟩ | ⟨c4, hF⟩
                · refine WP.cond_true _ rfl c4 ?_
                  refine WP.skip ?_
                  refine WP.joinF (fun (s6 : Unit) => [(0, Sl.val a0), (1, Sl.val a1), (5, .pointer r2.1), (7, .pointer r3.1), (10, .int .i64 s5)]) hF ?_ ?_
                  · intro s6 E0 h9 hF
                    refine WP.region ?_
                    refine EvK.pure (v := .int .i64 s5) (w_none rfl) rfl rfl (f_move rfl rfl) ?_
                    refine EvK.pure (v := .int .i64 (IntKind.i64.wrap (s5 + 1))) (w_none rfl) rfl rfl (f_add rfl rfl rfl) ?_
                    refine EvK.pure (v := .int .i64 (IntKind.i64.wrap (s5 + 1))) (w_none rfl) rfl rfl (f_assign rfl rfl) ?_
                    refine EvK.nil ?_
                    exact KE.mk (IntKind.i64.wrap (s5 + 1)) ⟨rfl, rfl, rfl, rfl, rfl, trivial⟩ hF
                  · intro k6 hF
                    refine WP.block ?_
                    refine WP.seq ?_
                    refine WP.region ?_
                    refine EvK.pure (v := .pointer r2.1) (w_none rfl) rfl rfl (f_move rfl rfl) ?_
                    refine EvK.pure (v := Sl.val a1) (w_none rfl) rfl rfl (f_move rfl rfl) ?_
                    refine EvK.pure (v := .int .i64 s5) (w_none rfl) rfl rfl (f_move rfl rfl) ?_
                    obtain ⟨q1, hq1, hF⟩ := hF
                    refine EvK.pure (v := .pointer (some q1)) (w_none rfl) rfl rfl (f_indexAddr (s := a1) Try.underlying23 ty37.size rfl rfl rfl hq1) ?_
                    obtain ⟨x1, hx1, hF⟩ := hF
                    refine EvK.read (v := k36.val x1) (w_none rfl) rfl rfl (f_load k36 ty37 rfl rfl hx1 rfl) ?_
                    refine EvK.call (w_none rfl) rfl rfl (enterH Try.func21 rfl rfl rfl rfl (spatelaw12_do.sound hF)) ?_
                    rintro _ h10 ⟨r4, rfl, hF⟩
                    refine EvK.nil ?_
                    refine WP.seq ?_
                    refine WP.seq ?_
                    refine WP.region ?_
                    refine EvK.pure (v := Sl.val a1) (w_none rfl) rfl rfl (f_move rfl rfl) ?_
                    refine EvK.pure (v := .int .i64 s5) (w_none rfl) rfl rfl (f_move rfl rfl) ?_
                    obtain ⟨q2, hq2, hF⟩ := hF
                    refine EvK.pure (v := .pointer (some q2)) (w_none rfl) rfl rfl (f_indexAddr (s := a1) Try.underlying23 ty37.size rfl rfl rfl hq2) ?_
                    refine EvK.pure (v := .pointer (some (q2.add 0))) (w_none rfl) rfl rfl (f_fieldAddr fd37_0 rfl rfl) ?_
                    obtain ⟨x2, hx2, hF⟩ := hF
                    refine EvK.read (v := .int .i64 x2) (w_none rfl) rfl rfl (f_load (kI .i64) ty3 rfl rfl hx2 rfl) ?_
                    refine EvK.pure (v := .bool (x2 != 2)) (w_none rfl) rfl rfl (f_neq rfl rfl rfl) ?_
                    refine EvK.nil ?_
                    rcases ite_inv hF with ⟨c5, hF⟩ | ⟨c5, hF⟩
                    · refine WP.cond_true _ rfl c5 ?_
                      refine WP.seq ?_
                      refine WP.region ?_
                      refine EvK.pure (v := .pointer r3.1) (w_none rfl) rfl rfl (f_move rfl rfl) ?_
                      refine EvK.pure (v := Sl.val a1) (w_none rfl) rfl rfl (f_move rfl rfl) ?_
                      refine EvK.pure (v := .int .i64 s5) (w_none rfl) rfl rfl (f_move rfl rfl) ?_
                      obtain ⟨q3, hq3, hF⟩ := hF
                      refine EvK.pure (v := .pointer (some q3)) (w_none rfl) rfl rfl (f_indexAddr (s := a1) Try.underlying23 ty37.size rfl rfl rfl hq3) ?_
                      obtain ⟨x3, hx3, hF⟩ := hF
                      refine EvK.read (v := k36.val x3) (w_none rfl) rfl rfl (f_load k36 ty37 rfl rfl hx3 rfl) ?_
                      refine EvK.call (w_none rfl) rfl rfl (enterH Try.func21 rfl rfl rfl rfl (spatelaw12_do.sound hF)) ?_
                      rintro _ h11 ⟨r5, rfl, hF⟩
                      refine EvK.nil ?_
                      refine WP.exit ?_
                      exact KE.mk () ⟨rfl, rfl, rfl, rfl, rfl, trivial⟩ hF
                    · refine WP.cond_false _ rfl c5 ?_
                      refine WP.skip ?_
                      refine WP.seq ?_
                      refine WP.region ?_
                      refine EvK.pure (v := .pointer r3.1) (w_none rfl) rfl rfl (f_move rfl rfl) ?_
                      refine EvK.call (w_none rfl) rfl rfl (enterH Try.func12 rfl rfl rfl rfl (sched_Sched_Ready.sound hF)) ?_
                      rintro _ h12 ⟨r6, rfl, hF⟩
                      refine EvK.pure (v := Sl.val r6) (w_none rfl) rfl rfl (f_assign rfl rfl) ?_
                      refine EvK.nil ?_
                      refine WP.joinF (fun (s7 : Unit) => [(0, Sl.val a0), (1, Sl.val a1), (5, .pointer r2.1), (7, .pointer r3.1), (10, .int .i64 s5)]) hF ?_ ?_
                      · intro s7 E0 h13 hF
                        refine WP.seq ?_
                        refine WP.seq ?_
                        refine WP.region ?_
                        refine EvK.pure (v := .pointer r2.1) (w_none rfl) rfl rfl (f_move rfl rfl) ?_
                        refine EvK.call (w_none rfl) rfl rfl (enterH Try.func12 rfl rfl rfl rfl (sched_Sched_Ready.sound hF)) ?_
                        rintro _ h14 ⟨r7, rfl, hF⟩
                        refine EvK.pure (v := .pointer r3.1) (w_none rfl) rfl rfl (f_move rfl rfl) ?_
                        refine EvK.call (w_none rfl) rfl rfl (enterH Try.func12 rfl rfl rfl rfl (sched_Sched_Ready.sound hF)) ?_
                        rintro _ h15 ⟨r8, rfl, hF⟩
                        refine EvK.call (w_none rfl) rfl rfl (enterH Try.func22 rfl rfl rfl rfl (spatelaw12_ints.sound hF)) ?_
                        rintro _ h16 ⟨r9, rfl, hF⟩
                        refine EvK.pure (v := .bool (!r9)) (w_none rfl) rfl rfl (f_not rfl rfl) ?_
                        refine EvK.nil ?_
                        rcases ite_inv hF with ⟨c6, hF⟩ | ⟨c6, hF⟩
                        · refine WP.cond_true _ rfl c6 ?_
                          refine WP.seq ?_
                          refine WP.region ?_
                          refine EvK.pure (v := .bool false) (w_none rfl) rfl rfl (f_assign rfl rfl) ?_
                          refine EvK.nil ?_
                          refine WP.ret ?_
                          exact Ret.mk (vs := [.bool false]) false ⟨rfl, trivial⟩ rfl hF
                        · refine WP.cond_false _ rfl c6 ?_
                          refine WP.skip ?_
                          refine WP.seq ?_
                          refine WP.region ?_
                          refine EvK.pure (v := .int .i64 0) (w_none rfl) rfl rfl (f_assign rfl rfl) ?_
                          refine EvK.nil ?_
                          refine WP.block ?_
                          refine WP.loopF (fun (s8 : Int) => [(15, .int .i64 s8), (0, Sl.val a0), (1, Sl.val a1), (5, .pointer r2.1), (7, .pointer r3.1), (10, .int .i64 s5)]) hF ⟨rfl, rfl, rfl, rfl, rfl, rfl, trivial⟩ ?_
                          intro k8 s8 E0 h17 hF
                          refine WP.seq ?_
                          refine WP.seq ?_
                          refine WP.region ?_
                          refine EvK.pure (v := .int .i64 s8) (w_none rfl) rfl rfl (f_move rfl rfl) ?_
                          refine EvK.pure (v := Sl.val a0) (w_none rfl) rfl rfl (f_move rfl rfl) ?_
                          refine EvK.pure (v := .int .i64 (a0.len : Int)) (w_none rfl) rfl rfl (f_lenL (s := a0) Try.underlying22 rfl rfl) ?_
                          refine EvK.pure (v := .bool (decide (s8 < (a0.len : Int)))) (w_none rfl) rfl rfl (f_lss rfl rfl rfl) ?_
                          refine EvK.nil ?_
                          rcases ite_inv hF with ⟨c7, hF⟩ | ⟨c7, hF⟩
                          · refine WP.cond_true _ rfl c7 ?_
                            refine WP.skip ?_
                            refine WP.seq ?_
                            refine WP.block ?_
                            refine WP.seq ?_
                            refine WP.region ?_
                            refine EvK.pure (v := .pointer r2.1) (w_none rfl) rfl rfl (f_move rfl rfl) ?_
                            refine EvK.pure (v := .int .i64 s8) (w_none rfl) rfl rfl (f_move rfl rfl) ?_
                            refine EvK.call (w_none rfl) rfl rfl (enterH Try.func13 rfl rfl rfl rfl (sched_Sched_State.sound hF)) ?_
                            rintro _ h18 ⟨r10, rfl, hF⟩
                            refine EvK.pure (v := .pointer r3.1) (w_none rfl) rfl rfl (f_move rfl rfl) ?_
                            refine EvK.pure (v := .int .i64 s8) (w_none rfl) rfl rfl (f_move rfl rfl) ?_
                            refine EvK.call (w_none rfl) rfl rfl (enterH Try.func13 rfl rfl rfl rfl (sched_Sched_State.sound hF)) ?_
                            rintro _ h19 ⟨r11, rfl, hF⟩
                            refine EvK.pure (v := .bool (r10 != r11)) (w_none rfl) rfl rfl (f_neq rfl rfl rfl) ?_
                            refine EvK.nil ?_
                            rcases ite_inv hF with ⟨c8, hF⟩ | ⟨c8, hF⟩
                            · refine WP.cond_true _ rfl c8 ?_
                              refine WP.seq ?_
                              refine WP.region ?_
                              refine EvK.pure (v := .bool false) (w_none rfl) rfl rfl (f_assign rfl rfl) ?_
                              refine EvK.nil ?_
                              refine WP.ret ?_
                              exact Ret.mk (vs := [.bool false]) false ⟨rfl, trivial⟩ rfl hF
                            · refine WP.cond_false _ rfl c8 ?_
                              refine WP.skip ?_
                              refine WP.region ?_
                              refine EvK.pure (v := .int .i64 s8) (w_none rfl) rfl rfl (f_move rfl rfl) ?_
                              refine EvK.pure (v := .int .i64 (IntKind.i64.wrap (s8 + 1))) (w_none rfl) rfl rfl (f_add rfl rfl rfl) ?_
                              refine EvK.pure (v := .int .i64 (IntKind.i64.wrap (s8 + 1))) (w_none rfl) rfl rfl (f_assign rfl rfl) ?_
                              refine EvK.nil ?_
                              exact KE.mk (IntKind.i64.wrap (s8 + 1)) ⟨rfl, rfl, rfl, rfl, rfl, rfl, trivial⟩ hF
                          · refine WP.cond_false _ rfl c7 ?_
                            refine WP.exit ?_
                            exact KE.mk () ⟨rfl, rfl, rfl, rfl, rfl, trivial⟩ hF
                      · intro k7 hF
                        refine WP.seq ?_
                        refine WP.region ?_
                        refine EvK.pure (v := .int .i64 0) (w_none rfl) rfl rfl (f_assign rfl rfl) ?_
                        refine EvK.nil ?_
                        refine WP.block ?_
                        refine WP.loopF (fun (s9 : Int) => [(12, .int .i64 s9), (0, Sl.val a0), (1, Sl.val a1), (5, .pointer r2.1), (7, .pointer r3.1), (10, .int .i64 s5), (11, Sl.val r6)]) hF ⟨rfl, rfl, rfl, rfl, rfl, rfl, rfl, trivial⟩ ?_
                        intro k9 s9 E0 h20 hF
                        refine WP.seq ?_
                        refine WP.seq ?_
                        refine WP.region ?_
                        refine EvK.pure (v := .int .i64 s9) (w_none rfl) rfl rfl (f_move rfl rfl) ?_
                        refine EvK.pure (v := Sl.val r6) (w_none rfl) rfl rfl (f_move rfl rfl) ?_
                        refine EvK.pure (v := .int .i64 (r6.len : Int)) (w_none rfl) rfl rfl (f_lenL (s := r6) Try.underlying38 rfl rfl) ?_
                        refine EvK.pure (v := .bool (decide (s9 < (r6.len : Int)))) (w_none rfl) rfl rfl (f_lss rfl rfl rfl) ?_
                        refine EvK.nil ?_
                        rcases ite_inv hF with ⟨c9, hF⟩ | ⟨c9, hF⟩
                        · refine WP.cond_true _ rfl c9 ?_
                          refine WP.skip ?_
                          refine WP.joinF (fun (s10 : Unit) => [(0, Sl.val a0), (1, Sl.val a1), (5, .pointer r2.1), (7, .pointer r3.1), (10, .int .i64 s5), (11, Sl.val r6), (12, .int .i64 s9)]) hF ?_ ?_
                          · intro s10 E0 h21 hF
                            refine WP.region ?_
                            refine EvK.pure (v := .int .i64 s9) (w_none rfl) rfl rfl (f_move rfl rfl) ?_
                            refine EvK.pure (v := .int .i64 (IntKind.i64.wrap (s9 + 1))) (w_none rfl) rfl rfl (f_add rfl rfl rfl) ?_
                            refine EvK.pure (v := .int .i64 (IntKind.i64.wrap (s9 + 1))) (w_none rfl) rfl rfl (f_assign rfl rfl) ?_
                            refine EvK.nil ?_
                            exact KE.mk (IntKind.i64.wrap (s9 + 1)) ⟨rfl, rfl, rfl, rfl, rfl, rfl, rfl, trivial⟩ hF
                          · intro k10 hF
                            refine WP.block ?_
                            refine WP.seq ?_
                            refine WP.seq ?_
                            refine WP.region ?_
                            refine EvK.pure (v := .pointer r3.1) (w_none rfl) rfl rfl (f_move rfl rfl) ?_
                            refine EvK.pure (v := Sl.val r6) (w_none rfl) rfl rfl (f_move rfl rfl) ?_
                            refine EvK.pure (v := .int .i64 s9) (w_none rfl) rfl rfl (f_move rfl rfl) ?_
                            obtain ⟨q4, hq4, hF⟩ := hF
                            refine EvK.pure (v := .pointer (some q4)) (w_none rfl) rfl rfl (f_indexAddr (s := r6) Try.underlying38 ty3.size rfl rfl rfl hq4) ?_
                            obtain ⟨x4, hx4, hF⟩ := hF
                            refine EvK.read (v := .int .i64 x4) (w_none rfl) rfl rfl (f_load (kI .i64) ty3 rfl rfl hx4 rfl) ?_
                            refine EvK.call (w_none rfl) rfl rfl (enterH Try.func13 rfl rfl rfl rfl (sched_Sched_State.sound hF)) ?_
                            rintro _ h22 ⟨r14, rfl, hF⟩
                            refine EvK.pure (v := .bool (r14 != 1)) (w_none rfl) rfl rfl (f_neq rfl rfl rfl) ?_
                            refine EvK.nil ?_
                            rcases ite_inv hF with ⟨c10, hF⟩ | ⟨c10, hF⟩
                            · refine WP.cond_true _ rfl c10 ?_
                              refine WP.exit ?_
                              exact KE.mk () ⟨rfl, rfl, rfl, rfl, rfl, rfl, rfl, trivial⟩ hF
                            · refine WP.cond_false _ rfl c10 ?_
                              refine WP.skip ?_
                              refine WP.seq ?_
                              refine WP.region ?_
                              refine EvK.pure (v := .pointer r3.1) (w_none rfl) rfl rfl (f_move rfl rfl) ?_
                              refine EvK.call (w_none rfl) rfl rfl (enterH Try.func12 rfl rfl rfl rfl (sched_Sched_Ready.sound hF)) ?_
                              rintro _ h23 ⟨r15, rfl, hF⟩
                              refine EvK.pure (v := Sl.val r15) (w_none rfl) rfl rfl (f_assign rfl rfl) ?_
                              refine EvK.nil ?_
                              refine WP.seq ?_
                              refine WP.region ?_
                              refine EvK.pure (v := .int .i64 0) (w_none rfl) rfl rfl (f_assign rfl rfl) ?_
                              refine EvK.nil ?_
                              refine WP.joinF (fun (s11 : Int) => [(14, .int .i64 s11), (0, Sl.val a0), (1, Sl.val a1), (5, .pointer r2.1), (7, .pointer r3.1), (10, .int .i64 s5), (11, Sl.val r6), (12, .int .i64 s9)]) hF ?_ ?_
                              · intro s11 E0 h24 hF
                                refine WP.region ?_
                                refine EvK.pure (v := .pointer r3.1) (w_none rfl) rfl rfl (f_move rfl rfl) ?_
                                refine EvK.pure (v := .int .i64 s11) (w_none rfl) rfl rfl (f_move rfl rfl) ?_
                                refine EvK.call (w_none rfl) rfl rfl (enterH Try.func14 rfl rfl rfl rfl (sched_Sched_Pick.sound hF)) ?_
                                rintro _ h25 ⟨r16, rfl, hF⟩
                                refine EvK.nil ?_
                                exact KE.mk () ⟨rfl, rfl, rfl, rfl, rfl, rfl, rfl, trivial⟩ hF
                              · intro k11 hF
                                refine WP.block ?_
                                refine WP.loopF (fun (s12 : Int) => [(14, .int .i64 s12), (0, Sl.val a0), (1, Sl.val a1), (5, .pointer r2.1), (7, .pointer r3.1), (10, .int .i64 s5), (11, Sl.val r6), (12, .int .i64 s9), (13, Sl.val r15)]) hF ⟨rfl, rfl, rfl, rfl, rfl, rfl, rfl, rfl, rfl, trivial⟩ ?_
                                intro k12 s12 E0 h26 hF
                                refine WP.seq ?_
                                refine WP.joinF (fun (s13 : Bool) => [(129, .bool s13), (0, Sl.val a0), (1, Sl.val a1), (5, .pointer r2.1), (7, .pointer r3.1), (10, .int .i64 s5), (11, Sl.val r6), (12, .int .i64 s9), (13, Sl.val r15), (14, .int .i64 s12)]) hF ?_ ?_
                                · intro s13 E0 h27 hF
                                  rcases ite_inv hF with ⟨c11, hF⟩ | ⟨c11, hF⟩
                                  · refine WP.cond_true _ rfl c11 ?_
                                    refine WP.skip ?_
                                    refine WP.block ?_
                                    refine WP.region ?_
                                    refine EvK.pure (v := .int .i64 s12) (w_none rfl) rfl rfl (f_move rfl rfl) ?_
                                    refine EvK.pure (v := .int .i64 (IntKind.i64.wrap (s12 + 1))) (w_none rfl) rfl rfl (f_add rfl rfl rfl) ?_
                                    refine EvK.pure (v := .int .i64 (IntKind.i64.wrap (s12 + 1))) (w_none rfl) rfl rfl (f_assign rfl rfl) ?_
                                    refine EvK.nil ?_
                                    exact KE.mk (IntKind.i64.wrap (s12 + 1)) ⟨rfl, rfl, rfl, rfl, rfl, rfl, rfl, rfl, rfl, trivial⟩ hF
                                  · refine WP.cond_false _ rfl c11 ?_
                                    refine WP.exit ?_
                                    exact KE.mk s12 ⟨rfl, rfl, rfl, rfl, rfl, rfl, rfl, rfl, trivial⟩ hF
                                · intro k13 hF
                                  refine WP.draw mixed [.pure, .pure, .pure, .pure, .pure, .pure, .pure, .pure, .read, .pure, .pure, .pure, .read, .pure, .pure] [[], [], [1], [0, 1, 2], [0, 1, 2, 3], [0, 1, 2, 3, 4], [0, 1, 2, 3, 4], [0, 1, 2, 3, 4, 5, 6], [0, 1, 2, 3, 4, 5, 6, 7], [0, 1, 2, 3, 4], [0, 1, 2, 3, 4], [0, 1, 2, 3, 4, 9, 10], [0, 1, 2, 3, 4, 9, 10, 11], [0, 1, 2, 3, 4, 5, 6, 7, 8, 9, 10, 11, 12], [0, 1, 2, 3, 4, 5, 6, 7, 8, 9, 10, 11, 12, 13]] [0, 1, 2, 3, 4, 5, 6, 7, 8, 9, 10, 11, 12, 13, 14] (by kernel_rfl) (by kernel_rfl) ?_
                                  refine EvI.pure (v := .int .i64 s12) rfl rfl (w_none rfl) rfl (f_move rfl rfl) ?_
                                  refine EvI.pure (v := Sl.val r15) rfl rfl (w_none rfl) rfl (f_move rfl rfl) ?_
                                  refine EvI.pure (v := .int .i64 (r15.len : Int)) rfl rfl (w_none rfl) rfl (f_lenL (s := r15) Try.underlying38 rfl rfl) ?_
                                  refine EvI.pure (v := .bool (decide (s12 < (r15.len : Int)))) rfl rfl (w_none rfl) rfl (f_lss rfl rfl rfl) ?_
                                  refine EvI.pure (v := .bool (decide (s12 < (r15.len : Int)))) rfl rfl (w_none rfl) rfl (f_move rfl rfl) ?_
                                  rcases ite_inv hF with ⟨c12, hF⟩ | ⟨c12, hF⟩
                                  · refine EvI.pure (v := Sl.val r15) rfl rfl (w_some rfl rfl c12) rfl (f_move rfl rfl) ?_
                                    refine EvI.pure (v := .int .i64 s12) rfl rfl (w_some rfl rfl c12) rfl (f_move rfl rfl) ?_
                                    obtain ⟨q5, hq5, hF⟩ := hF
                                    refine EvI.pure (v := .pointer (some q5)) rfl rfl (w_some rfl rfl c12) rfl (f_indexAddr (s := r15) Try.underlying38 ty3.size rfl rfl rfl hq5) ?_
                                    obtain ⟨x5, hx5, hF⟩ := hF
                                    refine EvI.read (v := .int .i64 x5) rfl rfl (w_some rfl rfl c12) rfl (f_load (kI .i64) ty3 rfl rfl hx5 rfl) ?_
                                    refine EvI.pure (v := Sl.val r6) rfl rfl (w_some rfl rfl c12) rfl (f_move rfl rfl) ?_
                                    refine EvI.pure (v := .int .i64 s9) rfl rfl (w_some rfl rfl c12) rfl (f_move rfl rfl) ?_
                                    obtain ⟨q6, hq6, hF⟩ := hF
                                    refine EvI.pure (v := .pointer (some q6)) rfl rfl (w_some rfl rfl c12) rfl (f_indexAddr (s := r6) Try.underlying38 ty3.size rfl rfl rfl hq6) ?_
                                    obtain ⟨x6, hx6, hF⟩ := hF
                                    refine EvI.read (v := .int .i64 x6) rfl rfl (w_some rfl rfl c12) rfl (f_load (kI .i64) ty3 rfl rfl hx6 rfl) ?_
                                    refine EvI.pure (v := .bool (x5 != x6)) rfl rfl (w_some rfl rfl c12) rfl (f_neq rfl rfl rfl) ?_
                                    refine EvI.pure (v := .bool (x5 != x6)) rfl rfl (w_none rfl) rfl (f_pickT rfl rfl c12 rfl) ?_
                                    refine EvI.nil ?_
                                    exact KE.mk (x5 != x6) ⟨rfl, rfl, rfl, rfl, rfl, rfl, rfl, rfl, rfl, rfl, trivial⟩ hF
                                  · refine EvI.not rfl (w_not rfl rfl c12) rfl ?_
                                    refine EvI.not rfl (w_not rfl rfl c12) rfl ?_
                                    refine EvI.not rfl (w_not rfl rfl c12) rfl ?_
                                    refine EvI.not rfl (w_not rfl rfl c12) rfl ?_
                                    refine EvI.not rfl (w_not rfl rfl c12) rfl ?_
                                    refine EvI.not rfl (w_not rfl rfl c12) rfl ?_
                                    refine EvI.not rfl (w_not rfl rfl c12) rfl ?_
                                    refine EvI.not rfl (w_not rfl rfl c12) rfl ?_
                                    refine EvI.not rfl (w_not rfl rfl c12) rfl ?_
                                    refine EvI.pure (v := .bool false) rfl rfl (w_none rfl) rfl (f_pickF rfl rfl c12 rfl) ?_
                                    refine EvI.nil ?_
                                    exact KE.mk false ⟨rfl, rfl, rfl, rfl, rfl, rfl, rfl, rfl, rfl, rfl, trivial⟩ hF
                        · refine WP.cond_false _ rfl c9 ?_
                          refine WP.exit ?_
                          exact KE.mk () ⟨rfl, rfl, rfl, rfl, rfl, trivial⟩ hF
                · refine WP.cond_false _ rfl c4 ?_
                  refine WP.exit ?_
                  exact KE.mk () trivial hF
            · intro k3 hF
              refine WP.seq ?_
              refine WP.region ?_
              refine EvK.pure (v := .int .i64 0) (w_none rfl) rfl rfl (f_assign rfl rfl) ?_
              refine EvK.nil ?_
              refine WP.block ?_
              refine WP.loopF (fun (s14 : Int) => [(9, .int .i64 s14), (0, Sl.val a0), (1, Sl.val a1), (5, .pointer r2.1), (7, .pointer r3.1)]) hF ⟨rfl, rfl, rfl, rfl, rfl, trivial⟩ ?_
              intro k14 s14 E0 h28 hF
              refine WP.seq ?_
              refine WP.seq ?_
              refine WP.region ?_
              refine EvK.pure (v := .int .i64 s14) (w_none rfl) rfl rfl (f_move rfl rfl) ?_
              refine EvK.pure (v := Sl.val a0) (w_none rfl) rfl rfl (f_move rfl rfl) ?_
              refine EvK.pure (v := .int .i64 (a0.len : Int)) (w_none rfl) rfl rfl (f_lenL (s := a0) Try.underlying22 rfl rfl) ?_
              refine EvK.pure (v := .bool (decide (s14 < (a0.len : Int)))) (w_none rfl) rfl rfl (f_lss rfl rfl rfl) ?_
              refine EvK.nil ?_
              rcases ite_inv hF with ⟨c13, hF⟩ | ⟨c13, hF⟩
              · refine WP.cond_true _ rfl c13 ?_
                refine WP.skip ?_
                refine WP.seq ?_
                refine WP.block ?_
                refine WP.seq ?_
                refine WP.region ?_
                refine EvK.pure (v := .pointer r2.1) (w_none rfl) rfl rfl (f_move rfl rfl) ?_
                refine EvK.pure (v := Sl.val a0) (w_none rfl) rfl rfl (f_move rfl rfl) ?_
                refine EvK.pure (v := .int .i64 s14) (w_none rfl) rfl rfl (f_move rfl rfl) ?_
                obtain ⟨q7, hq7, hF⟩ := hF
                refine EvK.pure (v := .pointer (some q7)) (w_none rfl) rfl rfl (f_indexAddr (s := a0) Try.underlying22 ty31.size rfl rfl rfl hq7) ?_
                obtain ⟨x7, hx7, hF⟩ := hF
                refine EvK.read (v := Sl.val x7) (w_none rfl) rfl rfl (f_load kL ty31 rfl rfl hx7 rfl) ?_
                refine EvK.call (w_none rfl) rfl rfl (enterH Try.func10 rfl rfl rfl rfl (spatelaw12_twin.sound hF)) ?_
                rintro _ h29 ⟨r21, rfl, hF⟩
                refine EvK.pure (v := k33.val (S33.mk r21 0)) (w_none rfl) rfl rfl (f_build (cells := k33.enc (S33.mk r21 0)) st34 rfl rfl rfl) ?_
                refine EvK.alloc (w_none rfl) rfl rfl (f_boxF (v := k33.val (S33.mk r21 0)) rfl rfl rfl hF) ?_
                rintro _ h30 ⟨q8, rfl, hF⟩
                refine EvK.pure (v := IF.val (some (30, .pointer (some q8)) : IF)) (w_none rfl) rfl rfl (f_makeIf Try.underlying30 rfl rfl rfl) ?_
                refine EvK.call (w_none rfl) rfl rfl (enterH (vs := [.pointer r2.1, IF.val (some (30, .pointer (some q8)) : IF)]) Try.func11 rfl rfl rfl rfl (sched_Sched_Add.sound hF)) ?_
                rintro _ h31 ⟨r22, rfl, hF⟩
                refine EvK.nil ?_
                refine WP.region ?_
                refine EvK.pure (v := .pointer r3.1) (w_none rfl) rfl rfl (f_move rfl rfl) ?_
                refine EvK.pure (v := Sl.val a0) (w_none rfl) rfl rfl (f_move rfl rfl) ?_
                refine EvK.pure (v := .int .i64 s14) (w_none rfl) rfl rfl (f_move rfl rfl) ?_
                obtain ⟨q9, hq8, hF⟩ := hF
                refine EvK.pure (v := .pointer (some q9)) (w_none rfl) rfl rfl (f_indexAddr (s := a0) Try.underlying22 ty31.size rfl rfl rfl hq8) ?_
                obtain ⟨x8, hx8, hF⟩ := hF
                refine EvK.read (v := Sl.val x8) (w_none rfl) rfl rfl (f_load kL ty31 rfl rfl hx8 rfl) ?_
                refine EvK.call (w_none rfl) rfl rfl (enterH Try.func10 rfl rfl rfl rfl (spatelaw12_twin.sound hF)) ?_
                rintro _ h32 ⟨r23, rfl, hF⟩
                refine EvK.pure (v := k33.val (S33.mk r23 0)) (w_none rfl) rfl rfl (f_build (cells := k33.enc (S33.mk r23 0)) st34 rfl rfl rfl) ?_
                refine EvK.alloc (w_none rfl) rfl rfl (f_boxF (v := k33.val (S33.mk r23 0)) rfl rfl rfl hF) ?_
                rintro _ h33 ⟨q10, rfl, hF⟩
                refine EvK.pure (v := IF.val (some (30, .pointer (some q10)) : IF)) (w_none rfl) rfl rfl (f_makeIf Try.underlying30 rfl rfl rfl) ?_
                refine EvK.call (w_none rfl) rfl rfl (enterH (vs := [.pointer r3.1, IF.val (some (30, .pointer (some q10)) : IF)]) Try.func11 rfl rfl rfl rfl (sched_Sched_Add.sound hF)) ?_
                rintro _ h34 ⟨r24, rfl, hF⟩
                refine EvK.nil ?_
                refine WP.region ?_
                refine EvK.pure (v := .int .i64 s14) (w_none rfl) rfl rfl (f_move rfl rfl) ?_
                refine EvK.pure (v := .int .i64 (IntKind.i64.wrap (s14 + 1))) (w_none rfl) rfl rfl (f_add rfl rfl rfl) ?_
                refine EvK.pure (v := .int .i64 (IntKind.i64.wrap (s14 + 1))) (w_none rfl) rfl rfl (f_assign rfl rfl) ?_
                refine EvK.nil ?_
                exact KE.mk (IntKind.i64.wrap (s14 + 1)) ⟨rfl, rfl, rfl, rfl, rfl, trivial⟩ hF
              · refine WP.cond_false _ rfl c13 ?_
                refine WP.exit ?_
                exact KE.mk () ⟨rfl, rfl, rfl, rfl, trivial⟩ hF
        · intro k2 hF
          refine WP.region ?_
          refine EvK.pure (v := .int .i64 r2.2) (w_none rfl) rfl rfl (f_move rfl rfl) ?_
          refine EvK.pure (v := .bool (r2.2 != 0)) (w_none rfl) rfl rfl (f_neq rfl rfl rfl) ?_
          refine EvK.pure (v := .bool (r2.2 != 0)) (w_none rfl) rfl rfl (f_move rfl rfl) ?_
          rcases ite_inv hF with ⟨c14, hF⟩ | ⟨c14, hF⟩
          · refine EvK.not (w_not rfl rfl c14) rfl rfl ?_
            refine EvK.not (w_not rfl rfl c14) rfl rfl ?_
            refine EvK.pure (v := .bool true) (w_none rfl) rfl rfl (f_pickT rfl rfl c14 rfl) ?_
            refine EvK.pure (v := .bool true) (w_none rfl) rfl rfl (f_move rfl rfl) ?_
            refine EvK.not (w_not rfl rfl rfl) rfl rfl ?_
            refine EvK.not (w_not rfl rfl rfl) rfl rfl ?_
            refine EvK.pure (v := .bool true) (w_none rfl) rfl rfl (f_pickT rfl rfl rfl rfl) ?_
            refine EvK.pure (v := .bool true) (w_none rfl) rfl rfl (f_move rfl rfl) ?_
            refine EvK.not (w_not rfl rfl rfl) rfl rfl ?_
            refine EvK.not (w_not rfl rfl rfl) rfl rfl ?_
            refine EvK.pure (v := .bool true) (w_none rfl) rfl rfl (f_pickT rfl rfl rfl rfl) ?_
            refine EvK.nil ?_
            exact KE.mk true ⟨rfl, rfl, rfl, rfl, rfl, trivial⟩ hF
          · refine EvK.pure (v := .int .i64 r3.2) (w_some rfl rfl c14) rfl rfl (f_move rfl rfl) ?_
            refine EvK.pure (v := .bool (r3.2 != 0)) (w_some rfl rfl c14) rfl rfl (f_neq rfl rfl rfl) ?_
            refine EvK.pure (v := .bool (r3.2 != 0)) (w_none rfl) rfl rfl (f_pickF rfl rfl c14 rfl) ?_
            refine EvK.pure (v := .bool (r3.2 != 0)) (w_none rfl) rfl rfl (f_move rfl rfl) ?_
            rcases ite_inv hF with ⟨c15, hF⟩ | ⟨c15, hF⟩
            · refine EvK.not (w_not rfl rfl c15) rfl rfl ?_
              refine EvK.not (w_not rfl rfl c15) rfl rfl ?_
              refine EvK.pure (v := .bool true) (w_none rfl) rfl rfl (f_pickT rfl rfl c15 rfl) ?_
              refine EvK.pure (v := .bool true) (w_none rfl) rfl rfl (f_move rfl rfl) ?_
              refine EvK.not (w_not rfl rfl rfl) rfl rfl ?_
              refine EvK.not (w_not rfl rfl rfl) rfl rfl ?_
              refine EvK.pure (v := .bool true) (w_none rfl) rfl rfl (f_pickT rfl rfl rfl rfl) ?_
              refine EvK.nil ?_
              exact KE.mk true ⟨rfl, rfl, rfl, rfl, rfl, trivial⟩ hF
            · refine EvK.pure (v := .pointer r2.1) (w_some rfl rfl c15) rfl rfl (f_move rfl rfl) ?_
              refine EvK.pure (v := .bool r2.1.isNone) (w_some rfl rfl c15) rfl rfl (f_peqln Try.underlying25 rfl rfl rfl) ?_
              refine EvK.pure (v := .bool r2.1.isNone) (w_none rfl) rfl rfl (f_pickF rfl rfl c15 rfl) ?_
              refine EvK.pure (v := .bool r2.1.isNone) (w_none rfl) rfl rfl (f_move rfl rfl) ?_
              rcases ite_inv hF with ⟨c16, hF⟩ | ⟨c16, hF⟩
              · refine EvK.not (w_not rfl rfl c16) rfl rfl ?_
                refine EvK.not (w_not rfl rfl c16) rfl rfl ?_
                refine EvK.pure (v := .bool true) (w_none rfl) rfl rfl (f_pickT rfl rfl c16 rfl) ?_
                refine EvK.nil ?_
                exact KE.mk true ⟨rfl, rfl, rfl, rfl, rfl, trivial⟩ hF
              · refine EvK.pure (v := .pointer r3.1) (w_some rfl rfl c16) rfl rfl (f_move rfl rfl) ?_
                refine EvK.pure (v := .bool r3.1.isNone) (w_some rfl rfl c16) rfl rfl (f_peqln Try.underlying25 rfl rfl rfl) ?_
                refine EvK.pure (v := .bool r3.1.isNone) (w_none rfl) rfl rfl (f_pickF rfl rfl c16 rfl) ?_
                refine EvK.nil ?_
                exact KE.mk r3.1.isNone ⟨rfl, rfl, rfl, rfl, rfl, trivial⟩ hF
    · intro k1 hF
      refine WP.region ?_
      refine EvK.pure (v := Sl.val a1) (w_none rfl) rfl rfl (f_move rfl rfl) ?_
      refine EvK.pure (v := .int .i64 (a1.len : Int)) (w_none rfl) rfl rfl (f_lenL (s := a1) Try.underlying23 rfl rfl) ?_
      refine EvK.pure (v := .bool (decide ((a1.len : Int) > 800))) (w_none rfl) rfl rfl (f_gtr rfl rfl rfl) ?_
      refine EvK.pure (v := .bool (decide ((a1.len : Int) > 800))) (w_none rfl) rfl rfl (f_move rfl rfl) ?_
      rcases ite_inv hF with ⟨c17, hF⟩ | ⟨c17, hF⟩
      · refine EvK.not (w_not rfl rfl c17) rfl rfl ?_
        refine EvK.not (w_not rfl rfl c17) rfl rfl ?_
        refine EvK.not (w_not rfl rfl c17) rfl rfl ?_
        refine EvK.pure (v := .bool true) (w_none rfl) rfl rfl (f_pickT rfl rfl c17 rfl) ?_
        refine EvK.nil ?_
        exact KE.mk true ⟨rfl, rfl, rfl, trivial⟩ hF
      · refine EvK.pure (v := Sl.val a0) (w_some rfl rfl c17) rfl rfl (f_move rfl rfl) ?_
        refine EvK.pure (v := .int .i64 (a0.len : Int)) (w_some rfl rfl c17) rfl rfl (f_lenL (s := a0) Try.underlying22 rfl rfl) ?_
        refine EvK.pure (v := .bool (decide ((a0.len : Int) > 60))) (w_some rfl rfl c17) rfl rfl (f_gtr rfl rfl rfl) ?_
        refine EvK.pure (v := .bool (decide ((a0.len : Int) > 60))) (w_none rfl) rfl rfl (f_pickF rfl rfl c17 rfl) ?_
        refine EvK.nil ?_
        exact KE.mk (decide ((a0.len : Int) > 60)) ⟨rfl, rfl, rfl, trivial⟩ hF
end Go.Proofs.Ytomngllmnhdmlaa
