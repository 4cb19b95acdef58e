/- Merged by merge.py: texts of this seat, one behind the other, in an order that builds. -/
import Derived.Test.YtomngllmnhdmlaaGreatB0
import Derived.Test.YtomngllmnhdmlaaGreatB3
import Derived.Test.YtomngllmnhdmlaaGreatB4
import Derived.Test.YtomngllmnhdmlaaGreatB2
/- spate/spatelaw12.SchedPlays, as a predicate over the heap, and that the code comes to it. Printed by gen.py. -/
namespace Go.Proofs.YtomngllmnhdmlaaGreat
open Go Go.Tr
set_option linter.unusedVariables false
set_option maxRecDepth 100000
set_option maxHeartbeats 400000
def spatelaw12_SchedPlays.b1 (p1 : Sl) (p2 : Sl) (p7 : Option Addr) (p9 : Option Addr) (s : Sl × Int) (h : H) (K : (Sl × Int) ⊕ (Unit ⊕ Bool) → H → Prop) : Prop :=
  if (decide (s.2 < (p2.len : Int))) = true then
    jn (fun (k5 : Sl → H → Prop) =>
      rd (ixA 2 p2 s.2) fun q1 =>
      rd (ld k40 q1 h) fun x1 =>
      al 41 (k40.enc z40) h fun q2 h9 =>
      rd (st k40 q2 x1 h9) fun h10 =>
      jn (fun (k6 : Sl → H → Prop) =>
        rd (ld (kI .i64) (q2.add 0) h10) fun x2 =>
        if (x2 == 1) = true then
          rd (ld (kI .i64) (q2.add 1) h10) fun x3 =>
          sched_Sched_Pick p7 x3 h10 fun r5 h13 =>
          rd (ld (kI .i64) (q2.add 1) h13) fun x4 =>
          spateref12_Sched_Pick p9 x4 h13 fun r6 h14 =>
          jn (fun (k7 : Bool → H → Prop) =>
            if (r5.1 != r6.1) = true then
              k7 true h14
            else
              k7 (!(r5.2 == r6.2)) h14) fun s7 h15 =>
          if s7 = true then
            K (.inr (.inr false)) h15
          else
            k6 s.1 h15
        else
          if (x2 == 2) = true then
            sched_Sched_Round p7 h10 fun r7 h16 =>
            spateref12_Sched_Round p9 h16 fun r8 h17 =>
            if (r7 != r8) = true then
              K (.inr (.inr false)) h17
            else
              k6 s.1 h17
          else
            if (x2 == 3) = true then
              rd (ld (kI .i64) (q2.add 1) h10) fun x5 =>
              rd (ld (kI .i64) (q2.add 1) h10) fun x6 =>
              sched_Sched_Wake p7 x5 h10 fun r9 h18 =>
              ld (kI .i64) (q2.add 1) h18 = some x6 ∧
              spateref12_Sched_Wake p9 x6 h18 fun r10 h19 =>
              if (r9 != r10) = true then
                K (.inr (.inr false)) h19
              else
                k6 s.1 h19
            else
              if (x2 == 4) = true then
                jn (fun (k8 : Bool → H → Prop) =>
                  if ((p1.len : Int) == 0) = true then
                    k8 true h10
                  else
                    k8 (decide ((s.1.len : Int) > 300)) h10) fun s8 h20 =>
                if s8 = true then
                  k5 s.1 h20
                else
                  rd (ld (kI .i64) (q2.add 1) h20) fun x7 =>
                  rd (remI x7 (p1.len : Int)) fun x8 =>
                  jn (fun (k9 : Int → H → Prop) =>
                    if (decide (x8 < 0)) = true then
                      k9 (IntKind.i64.wrap (x8 + (p1.len : Int))) h20
                    else
                      k9 x8 h20) fun s9 h21 =>
                  rd (ixA 1 p1 s9) fun q3 =>
                  rd (ld kL q3 h21) fun x9 =>
                  spatelaw12_twin x9 h21 fun r11 h22 =>
                  al 37 (k36.enc (S36.mk r11 0)) h22 fun q4 h23 =>
                  bs 33 1 (kP.enc (some q4)) h23 fun x10 h24 =>
                  ap kP.n 8 33 (kP.enc none) s.1 x10 h24 fun x11 h25 =>
                  rd (ixA 1 p1 s9) fun q5 =>
                  rd (ld kL q5 h25) fun x12 =>
                  sched_Sched_Add p7 (some (33, .pointer (some q4)) : IF) h25 fun r12 h26 =>
                  ld kL q5 h26 = some x12 ∧
                  spatelaw12_twin x12 h26 fun r13 h27 =>
                  spateref12_Sched_Add p9 r13 h27 fun r14 h28 =>
                  if (r12 != r14) = true then
                    K (.inr (.inr false)) h28
                  else
                    k6 x11 h28
              else
                k6 s.1 h10) fun s6 h11 =>
      spatelaw12_like p7 p9 s6 h11 fun r4 h12 =>
      if (!r4) = true then
        K (.inr (.inr false)) h12
      else
        k5 s6 h12) fun s5 h8 =>
    K (.inl (s5, IntKind.i64.wrap (s.2 + 1))) h8
  else
    K (.inr (.inl ())) h
def spatelaw12_SchedPlays.b2 (p1 : Sl) (p2 : Sl) (p7 : Option Addr) (p9 : Option Addr) (s : Sl × Int) (h : H) (K : (Sl × Int) ⊕ (Sl ⊕ Bool) → H → Prop) : Prop :=
  if (decide (s.2 < (p1.len : Int))) = true then
    rd (ixA 1 p1 s.2) fun q6 =>
    rd (ld kL q6 h) fun x13 =>
    spatelaw12_twin x13 h fun r17 h30 =>
    al 37 (k36.enc (S36.mk r17 0)) h30 fun q7 h31 =>
    bs 33 1 (kP.enc (some q7)) h31 fun x14 h32 =>
    ap kP.n 8 33 (kP.enc none) s.1 x14 h32 fun x15 h33 =>
    rd (ixA 1 p1 s.2) fun q8 =>
    rd (ld kL q8 h33) fun x16 =>
    sched_Sched_Add p7 (some (33, .pointer (some q7)) : IF) h33 fun r18 h34 =>
    ld kL q8 h34 = some x16 ∧
    spatelaw12_twin x16 h34 fun r19 h35 =>
    spateref12_Sched_Add p9 r19 h35 fun r20 h36 =>
    if (r18 != r20) = true then
      K (.inr (.inr false)) h36
    else
      K (.inl (x15, IntKind.i64.wrap (s.2 + 1))) h36
  else
    K (.inr (.inl s.1)) h
/-- spate/spatelaw12.SchedPlays -/
def spatelaw12_SchedPlays (a0 : Int) (a1 : Sl) (a2 : Sl) (h : H) (Q : Bool → H → Prop) : Prop :=
  spatelaw12_known  h fun r1 h1 =>
  if (!r1) = true then
    Q false h1
  else
    jn (fun (k1 : Bool → H → Prop) =>
      if (decide ((a2.len : Int) > 4000)) = true then
        k1 true h1
      else
        k1 (decide ((a1.len : Int) > 200)) h1) fun s1 h2 =>
    if s1 = true then
      Q true h2
    else
      sched_New a0 h2 fun r2 h3 =>
      spateref12_New a0 h3 fun r3 h4 =>
      jn (fun (k2 : Bool → H → Prop) =>
        if (r2.2 != r3.2) = true then
          k2 true h4
        else
          k2 (!(r2.1.isNone == r3.1.isNone)) h4) fun s2 h5 =>
      if s2 = true then
        Q false h5
      else
        if r2.1.isNone = true then
          Q true h5
        else
          jn (fun (k3 : Sl → H → Prop) =>
            loopE (spatelaw12_SchedPlays.b2 a1 a2 r2.1 r3.1) (Sl.nil, 0) h5 (sumK (fun r21 hh => k3 r21 hh) (fun r22 hh => Q r22 hh))) fun s3 h6 =>
          jn (fun (k4 : Unit → H → Prop) =>
            loopE (spatelaw12_SchedPlays.b1 a1 a2 r2.1 r3.1) (s3, 0) h6 (sumK (fun r15 hh => k4 r15 hh) (fun r16 hh => Q r16 hh))) fun s4 h7 =>
          Q true h7
theorem spatelaw12_SchedPlays.sound {a0 : Int} {a1 : Sl} {a2 : Sl} {h : H} {Q : Bool → H → Prop} (hF : spatelaw12_SchedPlays a0 a1 a2 h Q) :
    CallsH Tryz.prog 3 (List.toArray (α := Value) [.int .i64 a0, Sl.val a1, Sl.val a2]) h fun v h' => ∃ x : Bool, v = .bool x ∧ Q x h' := by
  refine CallsH.of_body Tryz.func3 rfl 186 rfl rfl ?_
  refine WP.seq ?_
  refine WP.region ?_
  refine EvK.pure (v := .bool false) (w_none rfl) rfl rfl (f_assign rfl rfl) ?_
  refine EvK.nil ?_
  refine WP.seq ?_
  refine WP.seq ?_
  refine WP.region ?_
  refine EvK.call (w_none rfl) rfl rfl (enterH Tryz.func4 rfl rfl rfl rfl (spatelaw12_known.sound hF)) ?_
  rintro _ h1 ⟨r1, rfl, hF⟩
  refine EvK.pure (v := .bool (!r1)) (w_none rfl) rfl rfl (f_not rfl rfl) ?_
  refine EvK.nil ?_
  rcases ite_inv hF with ⟨c1, hF⟩ | ⟨c1, hF⟩
  · refine WP.cond_true _ rfl c1 ?_
    refine WP.seq ?_
    refine WP.region ?_
    refine EvK.pure (v := .bool false) (w_none rfl) rfl rfl (f_assign rfl rfl) ?_
    refine EvK.nil ?_
    refine WP.ret ?_
    exact Ret.mk (vs := [.bool false]) false ⟨rfl, trivial⟩ rfl hF
  · refine WP.cond_false _ rfl c1 ?_
    refine WP.skip ?_
    refine WP.seq ?_
    refine WP.joinF (fun (s1 : Bool) => [(31, .bool s1), (0, .int .i64 a0), (1, Sl.val a1), (2, Sl.val a2)]) hF ?_ ?_
    · intro s1 E0 h2 hF
      rcases ite_inv hF with ⟨c2, hF⟩ | ⟨c2, hF⟩
      · refine WP.cond_true _ rfl c2 ?_
        refine WP.seq ?_
        refine WP.region ?_
        refine EvK.pure (v := .bool true) (w_none rfl) rfl rfl (f_assign rfl rfl) ?_
        refine EvK.nil ?_
        refine WP.ret ?_
        exact Ret.mk (vs := [.bool true]) true ⟨rfl, trivial⟩ rfl hF
      · refine WP.cond_false _ rfl c2 ?_
        refine WP.skip ?_
        refine WP.seq ?_
        refine WP.region ?_
        refine EvK.pure (v := .int .i64 a0) (w_none rfl) rfl rfl (f_move rfl rfl) ?_
        refine EvK.call (w_none rfl) rfl rfl (enterH Tryz.func5 rfl rfl rfl rfl (sched_New.sound hF)) ?_
        rintro _ h3 ⟨r2, rfl, hF⟩
        refine EvK.pure (v := .tuple #[.pointer r2.1, .int .i64 r2.2]) (w_none rfl) rfl rfl (f_move rfl rfl) ?_
        refine EvK.pure (v := .pointer r2.1) (w_none rfl) rfl rfl (f_extract (vs := #[.pointer r2.1, .int .i64 r2.2]) rfl rfl rfl) ?_
        refine EvK.pure (v := .int .i64 r2.2) (w_none rfl) rfl rfl (f_extract (vs := #[.pointer r2.1, .int .i64 r2.2]) rfl rfl rfl) ?_
        refine EvK.pure (v := .pointer r2.1) (w_none rfl) rfl rfl (f_assign rfl rfl) ?_
        refine EvK.pure (v := .int .i64 r2.2) (w_none rfl) rfl rfl (f_assign rfl rfl) ?_
        refine EvK.nil ?_
        refine WP.seq ?_
        refine WP.region ?_
        refine EvK.pure (v := .int .i64 a0) (w_none rfl) rfl rfl (f_move rfl rfl) ?_
        refine EvK.call (w_none rfl) rfl rfl (enterH Tryz.func6 rfl rfl rfl rfl (spateref12_New.sound hF)) ?_
        rintro _ h4 ⟨r3, rfl, hF⟩
        refine EvK.pure (v := .tuple #[.pointer r3.1, .int .i64 r3.2]) (w_none rfl) rfl rfl (f_move rfl rfl) ?_
        refine EvK.pure (v := .pointer r3.1) (w_none rfl) rfl rfl (f_extract (vs := #[.pointer r3.1, .int .i64 r3.2]) rfl rfl rfl) ?_
        refine EvK.pure (v := .int .i64 r3.2) (w_none rfl) rfl rfl (f_extract (vs := #[.pointer r3.1, .int .i64 r3.2]) rfl rfl rfl) ?_
        refine EvK.pure (v := .pointer r3.1) (w_none rfl) rfl rfl (f_assign rfl rfl) ?_
        refine EvK.pure (v := .int .i64 r3.2) (w_none rfl) rfl rfl (f_assign rfl rfl) ?_
        refine EvK.nil ?_
        refine WP.seq ?_
        refine WP.joinF (fun (s2 : Bool) => [(51, .bool s2), (1, Sl.val a1), (2, Sl.val a2), (7, .pointer r2.1), (9, .pointer r3.1)]) hF ?_ ?_
        · intro s2 E0 h5 hF
          rcases ite_inv hF with ⟨c3, hF⟩ | ⟨c3, hF⟩
          · refine WP.cond_true _ rfl c3 ?_
            refine WP.seq ?_
            refine WP.region ?_
            refine EvK.pure (v := .bool false) (w_none rfl) rfl rfl (f_assign rfl rfl) ?_
            refine EvK.nil ?_
            refine WP.ret ?_
            exact Ret.mk (vs := [.bool false]) false ⟨rfl, trivial⟩ rfl hF
          · refine WP.cond_false _ rfl c3 ?_
            refine WP.skip ?_
            refine WP.seq ?_
            refine WP.seq ?_
            refine WP.region ?_
            refine EvK.pure (v := .pointer r2.1) (w_none rfl) rfl rfl (f_move rfl rfl) ?_
            refine EvK.pure (v := .bool r2.1.isNone) (w_none rfl) rfl rfl (f_peqln Tryz.underlying25 rfl rfl rfl) ?_
            refine EvK.nil ?_
            rcases ite_inv hF with ⟨c4, hF⟩ | ⟨c4, hF⟩
            · refine WP.cond_true _ rfl c4 ?_
              refine WP.seq ?_
              refine WP.region ?_
              refine EvK.pure (v := .bool true) (w_none rfl) rfl rfl (f_assign rfl rfl) ?_
              refine EvK.nil ?_
              refine WP.ret ?_
              exact Ret.mk (vs := [.bool true]) true ⟨rfl, trivial⟩ rfl hF
            · refine WP.cond_false _ rfl c4 ?_
              refine WP.skip ?_
              refine WP.seq ?_
              refine WP.region ?_
              refine EvK.pure (v := Sl.val Sl.nil) (w_none rfl) rfl rfl (f_assign rfl rfl) ?_
              refine EvK.nil ?_
              refine WP.joinF (fun (s3 : Sl) => [(11, Sl.val s3), (1, Sl.val a1), (2, Sl.val a2), (7, .pointer r2.1), (9, .pointer r3.1)]) hF ?_ ?_
              · intro s3 E0 h6 hF
                refine WP.joinF (fun (s4 : Unit) => []) hF ?_ ?_
                · intro s4 E0 h7 hF
                  refine WP.seq ?_
                  refine WP.region ?_
                  refine EvK.pure (v := .bool true) (w_none rfl) rfl rfl (f_assign rfl rfl) ?_
                  refine EvK.nil ?_
                  refine WP.ret ?_
                  exact Ret.mk (vs := [.bool true]) true ⟨rfl, trivial⟩ rfl hF
                · intro k4 hF
                  refine WP.seq ?_
                  refine WP.region ?_
                  refine EvK.pure (v := .int .i64 0) (w_none rfl) rfl rfl (f_assign rfl rfl) ?_
                  refine EvK.nil ?_
                  refine WP.block ?_
                  refine WP.loopF (fun (s5 : Sl × Int) => [(11, Sl.val s5.1), (14, .int .i64 s5.2), (1, Sl.val a1), (2, Sl.val a2), (7, .pointer r2.1), (9, .pointer r3.1)]) hF ⟨rfl, rfl, rfl, rfl, rfl, rfl, trivial⟩ ?_
                  intro k5 s5 E0 h8 hF
                  refine WP.seq ?_
                  refine WP.seq ?_
                  refine WP.region ?_
                  refine EvK.pure (v := .int .i64 s5.2) (w_none rfl) rfl rfl (f_move rfl rfl) ?_
                  refine EvK.pure (v := Sl.val a2) (w_none rfl) rfl rfl (f_move rfl rfl) ?_
                  refine EvK.pure (v := .int .i64 (a2.len : Int)) (w_none rfl) rfl rfl (f_lenL (s := a2) Tryz.underlying23 rfl rfl) ?_
                  refine EvK.pure (v := .bool (decide (s5.2 < (a2.len : Int)))) (w_none rfl) rfl rfl (f_lss rfl rfl rfl) ?_
                  refine EvK.nil ?_
                  rcases ite_inv hF with ⟨c5, hF⟩ | ⟨c5, hF⟩
                  · refine WP.cond_true _ rfl c5 ?_
                    refine WP.skip ?_
                    refine WP.joinF (fun (s6 : Sl) => [(11, Sl.val s6), (1, Sl.val a1), (2, Sl.val a2), (7, .pointer r2.1), (9, .pointer r3.1), (14, .int .i64 s5.2)]) hF ?_ ?_
                    · intro s6 E0 h9 hF
                      refine WP.region ?_
                      refine EvK.pure (v := .int .i64 s5.2) (w_none rfl) rfl rfl (f_move rfl rfl) ?_
                      refine EvK.pure (v := .int .i64 (IntKind.i64.wrap (s5.2 + 1))) (w_none rfl) rfl rfl (f_add rfl rfl rfl) ?_
                      refine EvK.pure (v := .int .i64 (IntKind.i64.wrap (s5.2 + 1))) (w_none rfl) rfl rfl (f_assign rfl rfl) ?_
                      refine EvK.nil ?_
                      exact KE.mk (s6, IntKind.i64.wrap (s5.2 + 1)) ⟨rfl, rfl, rfl, rfl, rfl, rfl, trivial⟩ hF
                    · intro k6 hF
                      refine WP.block ?_
                      refine WP.seq ?_
                      refine WP.region ?_
                      refine EvK.pure (v := Sl.val a2) (w_none rfl) rfl rfl (f_move rfl rfl) ?_
                      refine EvK.pure (v := .int .i64 s5.2) (w_none rfl) rfl rfl (f_move rfl rfl) ?_
                      obtain ⟨q1, hq1, hF⟩ := hF
                      refine EvK.pure (v := .pointer (some q1)) (w_none rfl) rfl rfl (f_indexAddr (s := a2) Tryz.underlying23 ty41.size rfl rfl rfl hq1) ?_
                      obtain ⟨x1, hx1, hF⟩ := hF
                      refine EvK.read (v := k40.val x1) (w_none rfl) rfl rfl (f_load k40 ty41 rfl rfl hx1 rfl) ?_
                      refine EvK.alloc (w_none rfl) rfl rfl (f_allocF zero41 rfl rfl hF) ?_
                      rintro _ h10 ⟨q2, rfl, hF⟩
                      obtain ⟨h11, hs1, hF⟩ := hF
                      refine EvK.runN (w_none rfl) rfl (f_store k40 ty41.size (z := x1) rfl rfl rfl hs1) ?_
                      rintro _ _ ⟨rfl, rfl⟩
                      refine EvK.nil ?_
                      refine WP.joinF (fun (s7 : Sl) => [(11, Sl.val s7), (1, Sl.val a1), (2, Sl.val a2), (7, .pointer r2.1), (9, .pointer r3.1), (14, .int .i64 s5.2)]) hF ?_ ?_
                      · intro s7 E0 h12 hF
                        refine WP.seq ?_
                        refine WP.region ?_
                        refine EvK.pure (v := .pointer r2.1) (w_none rfl) rfl rfl (f_move rfl rfl) ?_
                        refine EvK.pure (v := .pointer r3.1) (w_none rfl) rfl rfl (f_move rfl rfl) ?_
                        refine EvK.pure (v := Sl.val s7) (w_none rfl) rfl rfl (f_move rfl rfl) ?_
                        refine EvK.call (w_none rfl) rfl rfl (enterH Tryz.func16 rfl rfl rfl rfl (spatelaw12_like.sound hF)) ?_
                        rintro _ h13 ⟨r4, rfl, hF⟩
                        refine EvK.pure (v := .bool (!r4)) (w_none rfl) rfl rfl (f_not rfl rfl) ?_
                        refine EvK.nil ?_
                        rcases ite_inv hF with ⟨c6, hF⟩ | ⟨c6, hF⟩
                        · refine WP.cond_true _ rfl c6 ?_
                          refine WP.seq ?_
                          refine WP.region ?_
                          refine EvK.pure (v := .bool false) (w_none rfl) rfl rfl (f_assign rfl rfl) ?_
                          refine EvK.nil ?_
                          refine WP.ret ?_
                          exact Ret.mk (vs := [.bool false]) false ⟨rfl, trivial⟩ rfl hF
                        · refine WP.cond_false _ rfl c6 ?_
                          refine WP.skip ?_
                          exact KE.mk s7 ⟨rfl, rfl, rfl, rfl, rfl, rfl, trivial⟩ hF
                      · intro k7 hF
                        refine WP.seq ?_
                        refine WP.region ?_
                        refine EvK.pure (v := .pointer (some (q2.add 0))) (w_none rfl) rfl rfl (f_fieldAddr fd41_0 rfl rfl) ?_
                        obtain ⟨x2, hx2, hF⟩ := hF
                        refine EvK.read (v := .int .i64 x2) (w_none rfl) rfl rfl (f_load (kI .i64) ty3 rfl rfl hx2 rfl) ?_
                        refine EvK.nil ?_
                        refine WP.block ?_
                        refine WP.seq ?_
                        refine WP.region ?_
                        refine EvK.pure (v := .bool (x2 == 1)) (w_none rfl) rfl rfl (f_eql rfl rfl rfl) ?_
                        refine EvK.pure (v := .bool (x2 == 1)) (w_none rfl) rfl rfl (f_assign rfl rfl) ?_
                        refine EvK.nil ?_
                        rcases ite_inv hF with ⟨c7, hF⟩ | ⟨c7, hF⟩
                        · refine WP.cond_true _ rfl c7 ?_
                          refine WP.seq ?_
                          refine WP.region ?_
                          refine EvK.pure (v := .pointer r2.1) (w_none rfl) rfl rfl (f_move rfl rfl) ?_
                          refine EvK.pure (v := .pointer (some (q2.add 1))) (w_none rfl) rfl rfl (f_fieldAddr fd41_1 rfl rfl) ?_
                          obtain ⟨x3, hx3, hF⟩ := hF
                          refine EvK.read (v := .int .i64 x3) (w_none rfl) rfl rfl (f_load (kI .i64) ty3 rfl rfl hx3 rfl) ?_
                          refine EvK.call (w_none rfl) rfl rfl (enterH Tryz.func10 rfl rfl rfl rfl (sched_Sched_Pick.sound hF)) ?_
                          rintro _ h14 ⟨r5, rfl, hF⟩
                          refine EvK.pure (v := .tuple #[.int .i64 r5.1, .bool r5.2]) (w_none rfl) rfl rfl (f_move rfl rfl) ?_
                          refine EvK.pure (v := .int .i64 r5.1) (w_none rfl) rfl rfl (f_extract (vs := #[.int .i64 r5.1, .bool r5.2]) rfl rfl rfl) ?_
                          refine EvK.pure (v := .bool r5.2) (w_none rfl) rfl rfl (f_extract (vs := #[.int .i64 r5.1, .bool r5.2]) rfl rfl rfl) ?_
                          refine EvK.pure (v := .int .i64 r5.1) (w_none rfl) rfl rfl (f_assign rfl rfl) ?_
                          refine EvK.pure (v := .bool r5.2) (w_none rfl) rfl rfl (f_assign rfl rfl) ?_
                          refine EvK.nil ?_
                          refine WP.seq ?_
                          refine WP.region ?_
                          refine EvK.pure (v := .pointer r3.1) (w_none rfl) rfl rfl (f_move rfl rfl) ?_
                          refine EvK.pure (v := .pointer (some (q2.add 1))) (w_none rfl) rfl rfl (f_fieldAddr fd41_1 rfl rfl) ?_
                          obtain ⟨x4, hx4, hF⟩ := hF
                          refine EvK.read (v := .int .i64 x4) (w_none rfl) rfl rfl (f_load (kI .i64) ty3 rfl rfl hx4 rfl) ?_
                          refine EvK.call (w_none rfl) rfl rfl (enterH Tryz.func11 rfl rfl rfl rfl (spateref12_Sched_Pick.sound hF)) ?_
                          rintro _ h15 ⟨r6, rfl, hF⟩
                          refine EvK.pure (v := .tuple #[.int .i64 r6.1, .bool r6.2]) (w_none rfl) rfl rfl (f_move rfl rfl) ?_
                          refine EvK.pure (v := .int .i64 r6.1) (w_none rfl) rfl rfl (f_extract (vs := #[.int .i64 r6.1, .bool r6.2]) rfl rfl rfl) ?_
                          refine EvK.pure (v := .bool r6.2) (w_none rfl) rfl rfl (f_extract (vs := #[.int .i64 r6.1, .bool r6.2]) rfl rfl rfl) ?_
                          refine EvK.pure (v := .int .i64 r6.1) (w_none rfl) rfl rfl (f_assign rfl rfl) ?_
                          refine EvK.pure (v := .bool r6.2) (w_none rfl) rfl rfl (f_assign rfl rfl) ?_
                          refine EvK.nil ?_
                          refine WP.joinF (fun (s8 : Bool) => [(118, .bool s8), (1, Sl.val a1), (2, Sl.val a2), (7, .pointer r2.1), (9, .pointer r3.1), (11, Sl.val s5.1), (14, .int .i64 s5.2)]) hF ?_ ?_
                          · intro s8 E0 h16 hF
                            rcases ite_inv hF with ⟨c8, hF⟩ | ⟨c8, hF⟩
                            · refine WP.cond_true _ rfl c8 ?_
                              refine WP.seq ?_
                              refine WP.region ?_
                              refine EvK.pure (v := .bool false) (w_none rfl) rfl rfl (f_assign rfl rfl) ?_
                              refine EvK.nil ?_
                              refine WP.ret ?_
                              exact Ret.mk (vs := [.bool false]) false ⟨rfl, trivial⟩ rfl hF
                            · refine WP.cond_false _ rfl c8 ?_
                              refine WP.skip ?_
                              exact KE.mk s5.1 ⟨rfl, rfl, rfl, rfl, rfl, rfl, trivial⟩ hF
                          · intro k8 hF
                            refine WP.region ?_
                            refine EvK.pure (v := .int .i64 r5.1) (w_none rfl) rfl rfl (f_move rfl rfl) ?_
                            refine EvK.pure (v := .int .i64 r6.1) (w_none rfl) rfl rfl (f_move rfl rfl) ?_
                            refine EvK.pure (v := .bool (r5.1 != r6.1)) (w_none rfl) rfl rfl (f_neq rfl rfl rfl) ?_
                            refine EvK.pure (v := .bool (r5.1 != r6.1)) (w_none rfl) rfl rfl (f_move rfl rfl) ?_
                            rcases ite_inv hF with ⟨c9, hF⟩ | ⟨c9, hF⟩
                            · refine EvK.not (w_not rfl rfl c9) rfl rfl ?_
                              refine EvK.not (w_not rfl rfl c9) rfl rfl ?_
                              refine EvK.not (w_not rfl rfl c9) rfl rfl ?_
                              refine EvK.pure (v := .bool true) (w_none rfl) rfl rfl (f_pickT rfl rfl c9 rfl) ?_
                              refine EvK.nil ?_
                              exact KE.mk true ⟨rfl, rfl, rfl, rfl, rfl, rfl, rfl, trivial⟩ hF
                            · refine EvK.pure (v := .bool r5.2) (w_some rfl rfl c9) rfl rfl (f_move rfl rfl) ?_
                              refine EvK.pure (v := .bool r6.2) (w_some rfl rfl c9) rfl rfl (f_move rfl rfl) ?_
                              refine EvK.pure (v := .bool (!(r5.2 == r6.2))) (w_some rfl rfl c9) rfl rfl (f_bneq Tryz.underlying4 rfl rfl rfl) ?_
                              refine EvK.pure (v := .bool (!(r5.2 == r6.2))) (w_none rfl) rfl rfl (f_pickF rfl rfl c9 rfl) ?_
                              refine EvK.nil ?_
                              exact KE.mk (!(r5.2 == r6.2)) ⟨rfl, rfl, rfl, rfl, rfl, rfl, rfl, trivial⟩ hF
                        · refine WP.cond_false _ rfl c7 ?_
                          refine WP.seq ?_
                          refine WP.region ?_
                          refine EvK.pure (v := .bool (x2 == 2)) (w_none rfl) rfl rfl (f_eql rfl rfl rfl) ?_
                          refine EvK.pure (v := .bool (x2 == 2)) (w_none rfl) rfl rfl (f_assign rfl rfl) ?_
                          refine EvK.nil ?_
                          rcases ite_inv hF with ⟨c10, hF⟩ | ⟨c10, hF⟩
                          · refine WP.cond_true _ rfl c10 ?_
                            refine WP.seq ?_
                            refine WP.region ?_
                            refine EvK.pure (v := .pointer r2.1) (w_none rfl) rfl rfl (f_move rfl rfl) ?_
                            refine EvK.call (w_none rfl) rfl rfl (enterH Tryz.func12 rfl rfl rfl rfl (sched_Sched_Round.sound hF)) ?_
                            rintro _ h17 ⟨r7, rfl, hF⟩
                            refine EvK.pure (v := .pointer r3.1) (w_none rfl) rfl rfl (f_move rfl rfl) ?_
                            refine EvK.call (w_none rfl) rfl rfl (enterH Tryz.func13 rfl rfl rfl rfl (spateref12_Sched_Round.sound hF)) ?_
                            rintro _ h18 ⟨r8, rfl, hF⟩
                            refine EvK.pure (v := .bool (r7 != r8)) (w_none rfl) rfl rfl (f_neq rfl rfl rfl) ?_
                            refine EvK.nil ?_
                            rcases ite_inv hF with ⟨c11, hF⟩ | ⟨c11, hF⟩
                            · refine WP.cond_true _ rfl c11 ?_
                              refine WP.seq ?_
                              refine WP.region ?_
                              refine EvK.pure (v := .bool false) (w_none rfl) rfl rfl (f_assign rfl rfl) ?_
                              refine EvK.nil ?_
                              refine WP.ret ?_
                              exact Ret.mk (vs := [.bool false]) false ⟨rfl, trivial⟩ rfl hF
                            · refine WP.cond_false _ rfl c11 ?_
                              refine WP.skip ?_
                              exact KE.mk s5.1 ⟨rfl, rfl, rfl, rfl, rfl, rfl, trivial⟩ hF
                          · refine WP.cond_false _ rfl c10 ?_
                            refine WP.seq ?_
                            refine WP.region ?_
                            refine EvK.pure (v := .bool (x2 == 3)) (w_none rfl) rfl rfl (f_eql rfl rfl rfl) ?_
                            refine EvK.pure (v := .bool (x2 == 3)) (w_none rfl) rfl rfl (f_assign rfl rfl) ?_
                            refine EvK.nil ?_
                            rcases ite_inv hF with ⟨c12, hF⟩ | ⟨c12, hF⟩
                            · refine WP.cond_true _ rfl c12 ?_
                              refine WP.seq ?_
                              refine WP.draw mixed [.pure, .pure, .read, .eff [6], .pure, .pure, .read, .eff [], .pure] [[], [], [1], [0, 1, 2], [], [], [5], [0, 1, 2, 3, 4, 5, 6], [0, 1, 2, 3, 4, 5, 6, 7]] [0, 1, 2, 4, 5, 6, 3, 7, 8] (by kernel_rfl) (by kernel_rfl) ?_
                              refine EvI.pure (v := .pointer r2.1) rfl rfl (w_none rfl) rfl (f_move rfl rfl) ?_
                              refine EvI.pure (v := .pointer (some (q2.add 1))) rfl rfl (w_none rfl) rfl (f_fieldAddr fd41_1 rfl rfl) ?_
                              obtain ⟨x5, hx5, hF⟩ := hF
                              refine EvI.read (v := .int .i64 x5) rfl rfl (w_none rfl) rfl (f_load (kI .i64) ty3 rfl rfl hx5 rfl) ?_
                              refine EvI.pure (v := .pointer r3.1) rfl rfl (w_none rfl) rfl (f_move rfl rfl) ?_
                              refine EvI.pure (v := .pointer (some (q2.add 1))) rfl rfl (w_none rfl) rfl (f_fieldAddr fd41_1 rfl rfl) ?_
                              obtain ⟨x6, hx6, hF⟩ := hF
                              refine EvI.read (v := .int .i64 x6) rfl rfl (w_none rfl) rfl (f_load (kI .i64) ty3 rfl rfl hx6 rfl) ?_
                              refine EvI.call rfl rfl (w_none rfl) rfl (enterH Tryz.func14 rfl rfl rfl rfl (sched_Sched_Wake.sound hF)) ?_
                              rintro _ h19 ⟨r9, rfl, hF⟩
                              obtain ⟨hy1, hF⟩ := hF
                              refine ⟨⟨chk_yes rfl (f_load (kI .i64) ty3 rfl rfl hy1 rfl), chk_no rfl, trivial⟩, ?_⟩
                              refine EvI.call rfl rfl (w_none rfl) rfl (enterH Tryz.func15 rfl rfl rfl rfl (spateref12_Sched_Wake.sound hF)) ?_
                              rintro _ h20 ⟨r10, rfl, hF⟩
                              refine ⟨⟨chk_no rfl, chk_no rfl, trivial⟩, ?_⟩
                              refine EvI.pure (v := .bool (r9 != r10)) rfl rfl (w_none rfl) rfl (f_neq rfl rfl rfl) ?_
                              refine EvI.nil ?_
                              rcases ite_inv hF with ⟨c13, hF⟩ | ⟨c13, hF⟩
                              · refine WP.cond_true _ rfl c13 ?_
                                refine WP.seq ?_
                                refine WP.region ?_
                                refine EvK.pure (v := .bool false) (w_none rfl) rfl rfl (f_assign rfl rfl) ?_
                                refine EvK.nil ?_
                                refine WP.ret ?_
                                exact Ret.mk (vs := [.bool false]) false ⟨rfl, trivial⟩ rfl hF
                              · refine WP.cond_false _ rfl c13 ?_
                                refine WP.skip ?_
                                exact KE.mk s5.1 ⟨rfl, rfl, rfl, rfl, rfl, rfl, trivial⟩ hF
                            · refine WP.cond_false _ rfl c12 ?_
                              refine WP.seq ?_
                              refine WP.region ?_
                              refine EvK.pure (v := .bool (x2 == 4)) (w_none rfl) rfl rfl (f_eql rfl rfl rfl) ?_
                              refine EvK.pure (v := .bool (x2 == 4)) (w_none rfl) rfl rfl (f_assign rfl rfl) ?_
                              refine EvK.nil ?_
                              rcases ite_inv hF with ⟨c14, hF⟩ | ⟨c14, hF⟩
                              · refine WP.cond_true _ rfl c14 ?_
                                refine WP.seq ?_
                                refine WP.joinF (fun (s9 : Bool) => [(146, .bool s9), (1, Sl.val a1), (2, Sl.val a2), (7, .pointer r2.1), (9, .pointer r3.1), (11, Sl.val s5.1), (14, .int .i64 s5.2), (15, .pointer (some q2))]) hF ?_ ?_
                                · intro s9 E0 h21 hF
                                  rcases ite_inv hF with ⟨c15, hF⟩ | ⟨c15, hF⟩
                                  · refine WP.cond_true _ rfl c15 ?_
                                    refine WP.exit ?_
                                    exact KE.mk s5.1 ⟨rfl, rfl, rfl, rfl, rfl, rfl, trivial⟩ hF
                                  · refine WP.cond_false _ rfl c15 ?_
                                    refine WP.skip ?_
                                    refine WP.seq ?_
                                    refine WP.region ?_
                                    refine EvK.pure (v := .pointer (some (q2.add 1))) (w_none rfl) rfl rfl (f_fieldAddr fd41_1 rfl rfl) ?_
                                    obtain ⟨x7, hx7, hF⟩ := hF
                                    refine EvK.read (v := .int .i64 x7) (w_none rfl) rfl rfl (f_load (kI .i64) ty3 rfl rfl hx7 rfl) ?_
                                    refine EvK.pure (v := Sl.val a1) (w_none rfl) rfl rfl (f_move rfl rfl) ?_
                                    refine EvK.pure (v := .int .i64 (a1.len : Int)) (w_none rfl) rfl rfl (f_lenL (s := a1) Tryz.underlying22 rfl rfl) ?_
                                    obtain ⟨x8, hx8, hF⟩ := hF
                                    refine EvK.pure (v := .int .i64 x8) (w_none rfl) rfl rfl (f_rem rfl rfl rfl hx8) ?_
                                    refine EvK.pure (v := .int .i64 x8) (w_none rfl) rfl rfl (f_assign rfl rfl) ?_
                                    refine EvK.nil ?_
                                    refine WP.joinF (fun (s10 : Int) => [(20, .int .i64 s10), (1, Sl.val a1), (2, Sl.val a2), (7, .pointer r2.1), (9, .pointer r3.1), (11, Sl.val s5.1), (14, .int .i64 s5.2)]) hF ?_ ?_
                                    · intro s10 E0 h22 hF
                                      refine WP.seq ?_
                                      refine WP.region ?_
                                      refine EvK.pure (v := Sl.val a1) (w_none rfl) rfl rfl (f_move rfl rfl) ?_
                                      refine EvK.pure (v := .int .i64 s10) (w_none rfl) rfl rfl (f_move rfl rfl) ?_
                                      obtain ⟨q3, hq2, hF⟩ := hF
                                      refine EvK.pure (v := .pointer (some q3)) (w_none rfl) rfl rfl (f_indexAddr (s := a1) Tryz.underlying22 ty34.size rfl rfl rfl hq2) ?_
                                      obtain ⟨x9, hx9, hF⟩ := hF
                                      refine EvK.read (v := Sl.val x9) (w_none rfl) rfl rfl (f_load kL ty34 rfl rfl hx9 rfl) ?_
                                      refine EvK.call (w_none rfl) rfl rfl (enterH Tryz.func7 rfl rfl rfl rfl (spatelaw12_twin.sound hF)) ?_
                                      rintro _ h23 ⟨r11, rfl, hF⟩
                                      refine EvK.pure (v := k36.val (S36.mk r11 0)) (w_none rfl) rfl rfl (f_build (cells := k36.enc (S36.mk r11 0)) st37 rfl rfl rfl) ?_
                                      refine EvK.alloc (w_none rfl) rfl rfl (f_boxF (v := k36.val (S36.mk r11 0)) rfl rfl rfl hF) ?_
                                      rintro _ h24 ⟨q4, rfl, hF⟩
                                      refine EvK.pure (v := .pointer (some q4)) (w_none rfl) rfl rfl (f_assign rfl rfl) ?_
                                      refine EvK.nil ?_
                                      refine WP.seq ?_
                                      refine WP.region ?_
                                      refine EvK.pure (v := Sl.val s5.1) (w_none rfl) rfl rfl (f_move rfl rfl) ?_
                                      refine EvK.pure (v := .pointer (some q4)) (w_none rfl) rfl rfl (f_move rfl rfl) ?_
                                      refine EvK.alloc (w_none rfl) rfl rfl (f_buildSliceF Tryz.underlying32 el33 (by decide) rfl rfl rfl hF) ?_
                                      rintro _ h25 ⟨x10, rfl, hF⟩
                                      refine EvK.run (w_none rfl) rfl rfl (f_appendE (s := s5.1) (x := x10) Tryz.underlying32 el33 rfl rfl rfl hF) ?_
                                      rintro _ h26 ⟨x11, rfl, hF⟩
                                      refine EvK.pure (v := Sl.val x11) (w_none rfl) rfl rfl (f_assign rfl rfl) ?_
                                      refine EvK.nil ?_
                                      refine WP.seq ?_
                                      refine WP.draw mixed [.pure, .pure, .pure, .eff [8], .pure, .pure, .pure, .pure, .read, .eff [], .eff [], .pure] [[], [], [1], [0, 1, 2], [], [], [], [5, 6], [5, 6, 7], [0, 1, 2, 3, 5, 6, 7, 8], [0, 1, 2, 3, 4, 5, 6, 7, 8, 9], [0, 1, 2, 3, 4, 5, 6, 7, 8, 9, 10]] [0, 1, 2, 4, 5, 6, 7, 8, 3, 9, 10, 11] (by kernel_rfl) (by kernel_rfl) ?_
                                      refine EvI.pure (v := .pointer r2.1) rfl rfl (w_none rfl) rfl (f_move rfl rfl) ?_
                                      refine EvI.pure (v := .pointer (some q4)) rfl rfl (w_none rfl) rfl (f_move rfl rfl) ?_
                                      refine EvI.pure (v := IF.val (some (33, .pointer (some q4)) : IF)) rfl rfl (w_none rfl) rfl (f_makeIf Tryz.underlying33 rfl rfl rfl) ?_
                                      refine EvI.pure (v := .pointer r3.1) rfl rfl (w_none rfl) rfl (f_move rfl rfl) ?_
                                      refine EvI.pure (v := Sl.val a1) rfl rfl (w_none rfl) rfl (f_move rfl rfl) ?_
                                      refine EvI.pure (v := .int .i64 s10) rfl rfl (w_none rfl) rfl (f_move rfl rfl) ?_
                                      obtain ⟨q5, hq3, hF⟩ := hF
                                      refine EvI.pure (v := .pointer (some q5)) rfl rfl (w_none rfl) rfl (f_indexAddr (s := a1) Tryz.underlying22 ty34.size rfl rfl rfl hq3) ?_
                                      obtain ⟨x12, hx10, hF⟩ := hF
                                      refine EvI.read (v := Sl.val x12) rfl rfl (w_none rfl) rfl (f_load kL ty34 rfl rfl hx10 rfl) ?_
                                      refine EvI.call rfl rfl (w_none rfl) rfl (enterH (vs := [.pointer r2.1, IF.val (some (33, .pointer (some q4)) : IF)]) Tryz.func8 rfl rfl rfl rfl (sched_Sched_Add.sound hF)) ?_
                                      rintro _ h27 ⟨r12, rfl, hF⟩
                                      obtain ⟨hy2, hF⟩ := hF
                                      refine ⟨⟨chk_yes rfl (f_load kL ty34 rfl rfl hy2 rfl), trivial⟩, ?_⟩
                                      refine EvI.call rfl rfl (w_none rfl) rfl (enterH Tryz.func7 rfl rfl rfl rfl (spatelaw12_twin.sound hF)) ?_
                                      rintro _ h28 ⟨r13, rfl, hF⟩
                                      refine ⟨⟨chk_no rfl, trivial⟩, ?_⟩
                                      refine EvI.call rfl rfl (w_none rfl) rfl (enterH Tryz.func9 rfl rfl rfl rfl (spateref12_Sched_Add.sound hF)) ?_
                                      rintro _ h29 ⟨r14, rfl, hF⟩
                                      refine ⟨⟨chk_no rfl, trivial⟩, ?_⟩
                                      refine EvI.pure (v := .bool (r12 != r14)) rfl rfl (w_none rfl) rfl (f_neq rfl rfl rfl) ?_
                                      refine EvI.nil ?_
                                      rcases ite_inv hF with ⟨c16, hF⟩ | ⟨c16, hF⟩
                                      · refine WP.cond_true _ rfl c16 ?_
                                        refine WP.seq ?_
                                        refine WP.region ?_
                                        refine EvK.pure (v := .bool false) (w_none rfl) rfl rfl (f_assign rfl rfl) ?_
                                        refine EvK.nil ?_
                                        refine WP.ret ?_
                                        exact Ret.mk (vs := [.bool false]) false ⟨rfl, trivial⟩ rfl hF
                                      · refine WP.cond_false _ rfl c16 ?_
                                        refine WP.skip ?_
                                        exact KE.mk x11 ⟨rfl, rfl, rfl, rfl, rfl, rfl, trivial⟩ hF
                                    · intro k10 hF
                                      refine WP.seq ?_
                                      refine WP.region ?_
                                      refine EvK.pure (v := .int .i64 x8) (w_none rfl) rfl rfl (f_move rfl rfl) ?_
                                      refine EvK.pure (v := .bool (decide (x8 < 0))) (w_none rfl) rfl rfl (f_lss rfl rfl rfl) ?_
                                      refine EvK.nil ?_
                                      rcases ite_inv hF with ⟨c17, hF⟩ | ⟨c17, hF⟩
                                      · refine WP.cond_true _ rfl c17 ?_
                                        refine WP.region ?_
                                        refine EvK.pure (v := .int .i64 x8) (w_none rfl) rfl rfl (f_move rfl rfl) ?_
                                        refine EvK.pure (v := Sl.val a1) (w_none rfl) rfl rfl (f_move rfl rfl) ?_
                                        refine EvK.pure (v := .int .i64 (a1.len : Int)) (w_none rfl) rfl rfl (f_lenL (s := a1) Tryz.underlying22 rfl rfl) ?_
                                        refine EvK.pure (v := .int .i64 (IntKind.i64.wrap (x8 + (a1.len : Int)))) (w_none rfl) rfl rfl (f_add rfl rfl rfl) ?_
                                        refine EvK.pure (v := .int .i64 (IntKind.i64.wrap (x8 + (a1.len : Int)))) (w_none rfl) rfl rfl (f_assign rfl rfl) ?_
                                        refine EvK.nil ?_
                                        exact KE.mk (IntKind.i64.wrap (x8 + (a1.len : Int))) ⟨rfl, rfl, rfl, rfl, rfl, rfl, rfl, trivial⟩ hF
                                      · refine WP.cond_false _ rfl c17 ?_
                                        refine WP.skip ?_
                                        exact KE.mk x8 ⟨rfl, rfl, rfl, rfl, rfl, rfl, rfl, trivial⟩ hF
                                · intro k9 hF
                                  refine WP.region ?_
                                  refine EvK.pure (v := Sl.val a1) (w_none rfl) rfl rfl (f_move rfl rfl) ?_
                                  refine EvK.pure (v := .int .i64 (a1.len : Int)) (w_none rfl) rfl rfl (f_lenL (s := a1) Tryz.underlying22 rfl rfl) ?_
                                  refine EvK.pure (v := .bool ((a1.len : Int) == 0)) (w_none rfl) rfl rfl (f_eql rfl rfl rfl) ?_
                                  refine EvK.pure (v := .bool ((a1.len : Int) == 0)) (w_none rfl) rfl rfl (f_move rfl rfl) ?_
                                  rcases ite_inv hF with ⟨c18, hF⟩ | ⟨c18, hF⟩
                                  · refine EvK.not (w_not rfl rfl c18) rfl rfl ?_
                                    refine EvK.not (w_not rfl rfl c18) rfl rfl ?_
                                    refine EvK.not (w_not rfl rfl c18) rfl rfl ?_
                                    refine EvK.pure (v := .bool true) (w_none rfl) rfl rfl (f_pickT rfl rfl c18 rfl) ?_
                                    refine EvK.nil ?_
                                    exact KE.mk true ⟨rfl, rfl, rfl, rfl, rfl, rfl, rfl, rfl, trivial⟩ hF
                                  · refine EvK.pure (v := Sl.val s5.1) (w_some rfl rfl c18) rfl rfl (f_move rfl rfl) ?_
                                    refine EvK.pure (v := .int .i64 (s5.1.len : Int)) (w_some rfl rfl c18) rfl rfl (f_lenL (s := s5.1) Tryz.underlying32 rfl rfl) ?_
                                    refine EvK.pure (v := .bool (decide ((s5.1.len : Int) > 300))) (w_some rfl rfl c18) rfl rfl (f_gtr rfl rfl rfl) ?_
                                    refine EvK.pure (v := .bool (decide ((s5.1.len : Int) > 300))) (w_none rfl) rfl rfl (f_pickF rfl rfl c18 rfl) ?_
                                    refine EvK.nil ?_
                                    exact KE.mk (decide ((s5.1.len : Int) > 300)) ⟨rfl, rfl, rfl, rfl, rfl, rfl, rfl, rfl, trivial⟩ hF
                              · refine WP.cond_false _ rfl c14 ?_
                                refine WP.skip ?_
                                exact KE.mk s5.1 ⟨rfl, rfl, rfl, rfl, rfl, rfl, trivial⟩ hF
                  · refine WP.cond_false _ rfl c5 ?_
                    refine WP.exit ?_
                    exact KE.mk () trivial hF
              · intro k3 hF
                refine WP.seq ?_
                refine WP.region ?_
                refine EvK.pure (v := .int .i64 0) (w_none rfl) rfl rfl (f_assign rfl rfl) ?_
                refine EvK.nil ?_
                refine WP.block ?_
                refine WP.loopF (fun (s11 : Sl × Int) => [(11, Sl.val s11.1), (12, .int .i64 s11.2), (1, Sl.val a1), (2, Sl.val a2), (7, .pointer r2.1), (9, .pointer r3.1)]) hF ⟨rfl, rfl, rfl, rfl, rfl, rfl, trivial⟩ ?_
                intro k11 s11 E0 h30 hF
                refine WP.seq ?_
                refine WP.seq ?_
                refine WP.region ?_
                refine EvK.pure (v := .int .i64 s11.2) (w_none rfl) rfl rfl (f_move rfl rfl) ?_
                refine EvK.pure (v := Sl.val a1) (w_none rfl) rfl rfl (f_move rfl rfl) ?_
                refine EvK.pure (v := .int .i64 (a1.len : Int)) (w_none rfl) rfl rfl (f_lenL (s := a1) Tryz.underlying22 rfl rfl) ?_
                refine EvK.pure (v := .bool (decide (s11.2 < (a1.len : Int)))) (w_none rfl) rfl rfl (f_lss rfl rfl rfl) ?_
                refine EvK.nil ?_
                rcases ite_inv hF with ⟨c19, hF⟩ | ⟨c19, hF⟩
                · refine WP.cond_true _ rfl c19 ?_
                  refine WP.skip ?_
                  refine WP.seq ?_
                  refine WP.block ?_
                  refine WP.seq ?_
                  refine WP.region ?_
                  refine EvK.pure (v := Sl.val a1) (w_none rfl) rfl rfl (f_move rfl rfl) ?_
                  refine EvK.pure (v := .int .i64 s11.2) (w_none rfl) rfl rfl (f_move rfl rfl) ?_
                  obtain ⟨q6, hq4, hF⟩ := hF
                  refine EvK.pure (v := .pointer (some q6)) (w_none rfl) rfl rfl (f_indexAddr (s := a1) Tryz.underlying22 ty34.size rfl rfl rfl hq4) ?_
                  obtain ⟨x13, hx11, hF⟩ := hF
                  refine EvK.read (v := Sl.val x13) (w_none rfl) rfl rfl (f_load kL ty34 rfl rfl hx11 rfl) ?_
                  refine EvK.call (w_none rfl) rfl rfl (enterH Tryz.func7 rfl rfl rfl rfl (spatelaw12_twin.sound hF)) ?_
                  rintro _ h31 ⟨r17, rfl, hF⟩
                  refine EvK.pure (v := k36.val (S36.mk r17 0)) (w_none rfl) rfl rfl (f_build (cells := k36.enc (S36.mk r17 0)) st37 rfl rfl rfl) ?_
                  refine EvK.alloc (w_none rfl) rfl rfl (f_boxF (v := k36.val (S36.mk r17 0)) rfl rfl rfl hF) ?_
                  rintro _ h32 ⟨q7, rfl, hF⟩
                  refine EvK.pure (v := .pointer (some q7)) (w_none rfl) rfl rfl (f_assign rfl rfl) ?_
                  refine EvK.nil ?_
                  refine WP.seq ?_
                  refine WP.region ?_
                  refine EvK.pure (v := Sl.val s11.1) (w_none rfl) rfl rfl (f_move rfl rfl) ?_
                  refine EvK.pure (v := .pointer (some q7)) (w_none rfl) rfl rfl (f_move rfl rfl) ?_
                  refine EvK.alloc (w_none rfl) rfl rfl (f_buildSliceF Tryz.underlying32 el33 (by decide) rfl rfl rfl hF) ?_
                  rintro _ h33 ⟨x14, rfl, hF⟩
                  refine EvK.run (w_none rfl) rfl rfl (f_appendE (s := s11.1) (x := x14) Tryz.underlying32 el33 rfl rfl rfl hF) ?_
                  rintro _ h34 ⟨x15, rfl, hF⟩
                  refine EvK.pure (v := Sl.val x15) (w_none rfl) rfl rfl (f_assign rfl rfl) ?_
                  refine EvK.nil ?_
                  refine WP.seq ?_
                  refine WP.draw mixed [.pure, .pure, .pure, .eff [8], .pure, .pure, .pure, .pure, .read, .eff [], .eff [], .pure] [[], [], [1], [0, 1, 2], [], [], [], [5, 6], [5, 6, 7], [0, 1, 2, 3, 5, 6, 7, 8], [0, 1, 2, 3, 4, 5, 6, 7, 8, 9], [0, 1, 2, 3, 4, 5, 6, 7, 8, 9, 10]] [0, 1, 2, 4, 5, 6, 7, 8, 3, 9, 10, 11] (by kernel_rfl) (by kernel_rfl) ?_
                  refine EvI.pure (v := .pointer r2.1) rfl rfl (w_none rfl) rfl (f_move rfl rfl) ?_
                  refine EvI.pure (v := .pointer (some q7)) rfl rfl (w_none rfl) rfl (f_move rfl rfl) ?_
                  refine EvI.pure (v := IF.val (some (33, .pointer (some q7)) : IF)) rfl rfl (w_none rfl) rfl (f_makeIf Tryz.underlying33 rfl rfl rfl) ?_
                  refine EvI.pure (v := .pointer r3.1) rfl rfl (w_none rfl) rfl (f_move rfl rfl) ?_
                  refine EvI.pure (v := Sl.val a1) rfl rfl (w_none rfl) rfl (f_move rfl rfl) ?_
                  refine EvI.pure (v := .int .i64 s11.2) rfl rfl (w_none rfl) rfl (f_move rfl rfl) ?_
                  obtain ⟨q8, hq5, hF⟩ := hF
                  refine EvI.pure (v := .pointer (some q8)) rfl rfl (w_none rfl) rfl (f_indexAddr (s := a1) Tryz.underlying22 ty34.size rfl rfl rfl hq5) ?_
                  obtain ⟨x16, hx12, hF⟩ := hF
                  refine EvI.read (v := Sl.val x16) rfl rfl (w_none rfl) rfl (f_load kL ty34 rfl rfl hx12 rfl) ?_
                  refine EvI.call rfl rfl (w_none rfl) rfl (enterH (vs := [.pointer r2.1, IF.val (some (33, .pointer (some q7)) : IF)]) Tryz.func8 rfl rfl rfl rfl (sched_Sched_Add.sound hF)) ?_
                  rintro _ h35 ⟨r18, rfl, hF⟩
                  obtain ⟨hy3, hF⟩ := hF
                  refine ⟨⟨chk_yes rfl (f_load kL ty34 rfl rfl hy3 rfl), trivial⟩, ?_⟩
                  refine EvI.call rfl rfl (w_none rfl) rfl (enterH Tryz.func7 rfl rfl rfl rfl (spatelaw12_twin.sound hF)) ?_
                  rintro _ h36 ⟨r19, rfl, hF⟩
                  refine ⟨⟨chk_no rfl, trivial⟩, ?_⟩
                  refine EvI.call rfl rfl (w_none rfl) rfl (enterH Tryz.func9 rfl rfl rfl rfl (spateref12_Sched_Add.sound hF)) ?_
                  rintro _ h37 ⟨r20, rfl, hF⟩
                  refine ⟨⟨chk_no rfl, trivial⟩, ?_⟩
                  refine EvI.pure (v := .bool (r18 != r20)) rfl rfl (w_none rfl) rfl (f_neq rfl rfl rfl) ?_
                  refine EvI.nil ?_
                  rcases ite_inv hF with ⟨c20, hF⟩ | ⟨c20, hF⟩
                  · refine WP.cond_true _ rfl c20 ?_
                    refine WP.seq ?_
                    refine WP.region ?_
                    refine EvK.pure (v := .bool false) (w_none rfl) rfl rfl (f_assign rfl rfl) ?_
                    refine EvK.nil ?_
                    refine WP.ret ?_
                    exact Ret.mk (vs := [.bool false]) false ⟨rfl, trivial⟩ rfl hF
                  · refine WP.cond_false _ rfl c20 ?_
                    refine WP.skip ?_
                    refine WP.region ?_
                    refine EvK.pure (v := .int .i64 s11.2) (w_none rfl) rfl rfl (f_move rfl rfl) ?_
                    refine EvK.pure (v := .int .i64 (IntKind.i64.wrap (s11.2 + 1))) (w_none rfl) rfl rfl (f_add rfl rfl rfl) ?_
                    refine EvK.pure (v := .int .i64 (IntKind.i64.wrap (s11.2 + 1))) (w_none rfl) rfl rfl (f_assign rfl rfl) ?_
                    refine EvK.nil ?_
                    exact KE.mk (x15, IntKind.i64.wrap (s11.2 + 1)) ⟨rfl, rfl, rfl, rfl, rfl, rfl, trivial⟩ hF
                · refine WP.cond_false _ rfl c19 ?_
                  refine WP.exit ?_
                  exact KE.mk s11.1 ⟨rfl, rfl, rfl, rfl, rfl, trivial⟩ hF
        · intro k2 hF
          refine WP.region ?_
          refine EvK.pure (v := .int .i64 r2.2) (w_none rfl) rfl rfl (f_move rfl rfl) ?_
          refine EvK.pure (v := .int .i64 r3.2) (w_none rfl) rfl rfl (f_move rfl rfl) ?_
          refine EvK.pure (v := .bool (r2.2 != r3.2)) (w_none rfl) rfl rfl (f_neq rfl rfl rfl) ?_
          refine EvK.pure (v := .bool (r2.2 != r3.2)) (w_none rfl) rfl rfl (f_move rfl rfl) ?_
          rcases ite_inv hF with ⟨c21, hF⟩ | ⟨c21, hF⟩
          · refine EvK.not (w_not rfl rfl c21) rfl rfl ?_
            refine EvK.not (w_not rfl rfl c21) rfl rfl ?_
            refine EvK.not (w_not rfl rfl c21) rfl rfl ?_
            refine EvK.not (w_not rfl rfl c21) rfl rfl ?_
            refine EvK.not (w_not rfl rfl c21) rfl rfl ?_
            refine EvK.pure (v := .bool true) (w_none rfl) rfl rfl (f_pickT rfl rfl c21 rfl) ?_
            refine EvK.nil ?_
            exact KE.mk true ⟨rfl, rfl, rfl, rfl, rfl, trivial⟩ hF
          · refine EvK.pure (v := .pointer r2.1) (w_some rfl rfl c21) rfl rfl (f_move rfl rfl) ?_
            refine EvK.pure (v := .bool r2.1.isNone) (w_some rfl rfl c21) rfl rfl (f_peqln Tryz.underlying25 rfl rfl rfl) ?_
            refine EvK.pure (v := .pointer r3.1) (w_some rfl rfl c21) rfl rfl (f_move rfl rfl) ?_
            refine EvK.pure (v := .bool r3.1.isNone) (w_some rfl rfl c21) rfl rfl (f_peqln Tryz.underlying29 rfl rfl rfl) ?_
            refine EvK.pure (v := .bool (!(r2.1.isNone == r3.1.isNone))) (w_some rfl rfl c21) rfl rfl (f_bneq Tryz.underlying4 rfl rfl rfl) ?_
            refine EvK.pure (v := .bool (!(r2.1.isNone == r3.1.isNone))) (w_none rfl) rfl rfl (f_pickF rfl rfl c21 rfl) ?_
            refine EvK.nil ?_
            exact KE.mk (!(r2.1.isNone == r3.1.isNone)) ⟨rfl, rfl, rfl, rfl, rfl, trivial⟩ hF
    · intro k1 hF
      refine WP.region ?_
      refine EvK.pure (v := Sl.val a2) (w_none rfl) rfl rfl (f_move rfl rfl) ?_
      refine EvK.pure (v := .int .i64 (a2.len : Int)) (w_none rfl) rfl rfl (f_lenL (s := a2) Tryz.underlying23 rfl rfl) ?_
      refine EvK.pure (v := .bool (decide ((a2.len : Int) > 4000))) (w_none rfl) rfl rfl (f_gtr rfl rfl rfl) ?_
      refine EvK.pure (v := .bool (decide ((a2.len : Int) > 4000))) (w_none rfl) rfl rfl (f_move rfl rfl) ?_
      rcases ite_inv hF with ⟨c22, hF⟩ | ⟨c22, hF⟩
      · refine EvK.not (w_not rfl rfl c22) rfl rfl ?_
        refine EvK.not (w_not rfl rfl c22) rfl rfl ?_
        refine EvK.not (w_not rfl rfl c22) rfl rfl ?_
        refine EvK.pure (v := .bool true) (w_none rfl) rfl rfl (f_pickT rfl rfl c22 rfl) ?_
        refine EvK.nil ?_
        exact KE.mk true ⟨rfl, rfl, rfl, rfl, trivial⟩ hF
      · refine EvK.pure (v := Sl.val a1) (w_some rfl rfl c22) rfl rfl (f_move rfl rfl) ?_
        refine EvK.pure (v := .int .i64 (a1.len : Int)) (w_some rfl rfl c22) rfl rfl (f_lenL (s := a1) Tryz.underlying22 rfl rfl) ?_
        refine EvK.pure (v := .bool (decide ((a1.len : Int) > 200))) (w_some rfl rfl c22) rfl rfl (f_gtr rfl rfl rfl) ?_
        refine EvK.pure (v := .bool (decide ((a1.len : Int) > 200))) (w_none rfl) rfl rfl (f_pickF rfl rfl c22 rfl) ?_
        refine EvK.nil ?_
        exact KE.mk (decide ((a1.len : Int) > 200)) ⟨rfl, rfl, rfl, rfl, trivial⟩ hF
end Go.Proofs.YtomngllmnhdmlaaGreat
/- SchedPlays, over the heap. -/
namespace Go.Proofs.YtomngllmnhdmlaaGreat
open Go Go.Tr
set_option linter.unusedVariables false
theorem rowsZ_of {rows rows0 : List MR} (e : rows.map MR.mv = rows0.map MR.mv) {h : H} {s : Sl} (T : TRd h s rows0) : rowsZ rows := by
  refine ⟨rows_ok e T, fun r hr => ?_⟩
  have hl : rows.length = rows0.length := by have := congrArg List.length e; simpa using this
  obtain ⟨i, hi, rfl⟩ := List.getElem_of_mem hr
  have hi' : i < rows0.length := by omega
  have h1 : (rows.map MR.mv)[i]? = (rows0.map MR.mv)[i]? := by rw [e]
  rw [List.getElem?_map, List.getElem?_map, List.getElem?_eq_getElem hi, List.getElem?_eq_getElem hi'] at h1
  have h2 : rows[i].mv = rows0[i].mv := by simpa using h1
  have h3 := T.b _ (List.getElem_mem hi')
  have h4 : rows[i].l = rows0[i].l := congrArg MV.l h2
  rw [h4]; omega
theorem fault_like {v : IF} {n : Int} {h : H} {Q : Bool → H → Prop} (hv : (n = 0 ∧ v = none) ∨ (n ≠ 0 ∧ v.isNone = false ∧ ErrIs v h n)) (k : Q true h) : spatelaw12_fault v n h Q := by
  unfold spatelaw12_fault
  rcases hv with ⟨rfl, rfl⟩ | ⟨h1, h2, h3⟩
  · exact ite_t rfl k
  · refine ite_f (by rw [beq_eq_false_iff_ne]; exact h1) (jn_c' true h (fun K hK => ite_t (by rw [h2]; rfl) ⟨_, _, h3, rfl, ?_⟩) k)
    rw [beq_self_eq_true]; exact hK
section
variable {F0 : Nat → Prop} {h0 h : H} {q u : Nat} {V W : WS} {B N : Nat} {Rs Ps : List HP}
theorem rf_len (S : SG F0 h0 h (rfP u W :: Rs)) {T : Sl → Prop} (t : ∀ ts : Sl, ts.len = W.1.ts.length → T ts) : rd (some (⟨u, 0, none⟩ : Addr)) fun q1 => rd (ld kL (q1.add 0) h) T := by
  obtain ⟨mb, ts, es, e1, e2, r, S⟩ := rf_open S
  exact rts S (t ts (by rw [rlen S, es_len e1]))
theorem rf_sp (o : W.Ok B N) (S : SG F0 h0 h (rfP u W :: Rs)) {n : Nat} (hn : n < W.2.length) {T : Int → Prop} (t : T (nxA W.2 n)) : rd (some (⟨u, 0, none⟩ : Addr)) fun q4 => rd (ld kL (q4.add 0) h) fun x4 => rd (ixA 6 x4 (n : Int)) fun q5 => rd (ld (kI .i64) (q5.add 5) h) T := by
  obtain ⟨mb, ts, es, e1, e2, r, S⟩ := rf_open S
  have hes := es_len e1
  have hne : n < es.length := by rw [hes, o.l]; exact hn
  refine rts S (rget ft_sp S (at_tr hne) ?_)
  have hp : es[n].2 = W.2[n] := by
    have h1 : (es.map Prod.snd)[n]? = W.2[n]? := by rw [e2]
    rw [List.getElem?_map, List.getElem?_eq_getElem hne, List.getElem?_eq_getElem hn] at h1
    simpa using h1
  have e : (trow es[n]).f5 = nxA W.2 n := by rw [nxA_at hn, ← hp]; rfl
  rw [e]; exact t
theorem nx_at' {Ps : List HP} (S : SG F0 h0 h Ps) (i : Nat) (hi : Ps[i]? = some (runP q W)) {t : Nat} (ht : t < W.2.length) : ld (kI .i64) ((⟨W.2[t].b, 0, none⟩ : Addr).add 1) h = some (nxA W.2 t) := by
  rw [add_mk, nxA_at ht]; exact run_nx S i hi ht
theorem ptrs_foldR : ∀ (l : List Int) (w : WS × Nat), ptrs (l.foldl rstep w).1.2 = ptrs w.1.2
  | [], w => rfl
  | t :: l, w => by
    rw [List.foldl_cons, ptrs_foldR l]
    unfold rstep
    split
    · exact ptrs_bump _ _
    · rfl
theorem Same.nx {V W : WS} (s : Same V W) (n : Nat) : nxA V.2 n = nxA W.2 n := by
  have h : (V.2.map PLY.ab)[n]? = (W.2.map PLY.ab)[n]? := by rw [s.2]
  rw [List.getElem?_map, List.getElem?_map] at h
  unfold nxA
  cases hv : V.2[n]? with
  | none => rw [hv] at h; cases hw : W.2[n]? with
    | none => rfl
    | some y => rw [hw] at h; cases h
  | some x => rw [hv] at h; cases hw : W.2[n]? with
    | none => rw [hw] at h; cases h
    | some y =>
      rw [hw] at h
      have h : x.ab = y.ab := by simpa using h
      have : x.nx = y.nx := congrArg Prod.fst h
      show (x.nx : Int) = y.nx
      rw [this]
theorem like_spec (oV : V.Ok B N) (oW : W.Ok B N) (sm : Same V W) {s : Sl} (S : SG F0 h0 h [ownP kP s (ptrs V.2), runP q V, rfP u W]) {Q : Bool → H → Prop} (k : ∀ h', SG F0 h0 h' [ownP kP s (ptrs V.2), runP q V, rfP u W] → Q true h') : spatelaw12_like (some ⟨q, 0, none⟩) (some ⟨u, 0, none⟩) s h Q := by
  unfold spatelaw12_like
  have hn : W.1.ts.length ≤ 400 := oW.a.n
  have hrl : (readyT V.1.ts).length ≤ V.1.ts.length := readyTo_len _ _
  have hVW : V.1.ts.length = W.1.ts.length := by rw [sm.1]
  have hVl : V.2.length = W.1.ts.length := by rw [← oV.l, hVW]
  refine jn_q (fun (b : Bool) h' => b = false ∧ SG F0 h0 h' [rfP u W, runP q V, ownP kP s (ptrs V.2)]) (fun K hK => ?_) ?_
  · refine run_ready oV (S.front 1 rfl) fun r10 h1 S1 => ?_
    have S1 : SG F0 h0 h1 [ownP (kI .i64) r10 (readyT V.1.ts), runP q V, ownP kP s (ptrs V.2), rfP u W] := S1
    refine rf_ready oW (S1.front 3 rfl) fun r11 h2 S2 => ?_
    have S2 : SG F0 h0 h2 [ownP (kI .i64) r11 (readyT W.1.ts), rfP u W, ownP (kI .i64) r10 (readyT V.1.ts), runP q V, ownP kP s (ptrs V.2)] := S2
    refine ints_spec (ownP.rds (K := kI .i64) S2 2 rfl) (by rw [sm.1]; exact ownP.rds (K := kI .i64) S2 0 rfl) (by omega) (ite_f rfl ?_)
    have S3 : SG F0 h0 h2 [rfP u W, runP q V, ownP kP s (ptrs V.2)] := ((S2.tail.front 1 rfl).tail)
    obtain ⟨mb, ts, es, e1, e2, r, S4⟩ := rf_open S3
    have S4 : SG F0 h0 h2 (rfX u mb W.1.m ts (es.map trow) ++ [mvsP (lm W.2), runP q V, ownP kP s (ptrs V.2)]) := S4
    have hlen := rlen S4
    have hes := es_len e1
    refine rd_some rfl (rd_some (by rw [add_mk]; exact varP.ld S4 fd_l 0 rfl) (run_tasks (S4.front 4 rfl) fun h3 S5 => ⟨?_, ?_⟩))
    · have S5 : SG F0 h0 h3 (runP q V :: (rfX u mb W.1.m ts (es.map trow) ++ [mvsP (lm W.2), ownP kP s (ptrs V.2)])) := S5
      rw [add_mk]
      exact varP.ld S5.tail fd_l 0 rfl
    · have S5 : SG F0 h0 h3 (runP q V :: (rfX u mb W.1.m ts (es.map trow) ++ [mvsP (lm W.2), ownP kP s (ptrs V.2)])) := S5
      have e : (((V.1.ts.length : Nat) : Int) != (ts.len : Int)) = false := by
        have : ((V.1.ts.length : Nat) : Int) = (ts.len : Int) := by omega
        rw [this]; exact bne_self_eq_false _
      rw [e]
      refine hK _ _ ⟨rfl, ?_⟩
      have S6 : SG F0 h0 h3 (rfX u mb W.1.m ts (es.map trow) ++ (mvsP (lm W.2) :: [runP q V, ownP kP s (ptrs V.2)])) := by
        refine S5.perm ?_
        show (runP q V :: ([varP kRSd u ⟨ts, some ⟨mb, 0, none⟩⟩, refP mb W.1.m, ownP kRT ts (es.map trow), mvsP (lm W.2)] ++ [ownP kP s (ptrs V.2)])).Perm ([varP kRSd u ⟨ts, some ⟨mb, 0, none⟩⟩, refP mb W.1.m, ownP kRT ts (es.map trow), mvsP (lm W.2)] ++ (runP q V :: [ownP kP s (ptrs V.2)]))
        exact List.perm_middle.symm
      exact rf_close e1 e2 r S6
  rintro _ h1 ⟨rfl, S1⟩
  refine ite_f rfl (jn_q (fun (_ : Unit) h' => SG F0 h0 h' [rfP u W, runP q V, ownP kP s (ptrs V.2)]) (fun K hK => ?_) ?_)
  · refine for0 (mk := fun (_ : Unit) i => i - 1) (s := ()) (n := W.1.ts.length + 2) (by omega) (fun j _ h' => SG F0 h0 h' [rfP u W, runP q V, ownP kP s (ptrs V.2)]) S1 (fun j _ h' K2 hj S2 next done => ?_) (fun _ h' K2 S2 done => ?_)
    · unfold spatelaw12_like.b2
      refine rf_len S2 fun ts hts => ite_t (by rw [decide_eq_true_eq]; omega) (jn_q (fun (b : Bool) h' => b = false ∧ SG F0 h0 h' [rfP u W, runP q V, ownP kP s (ptrs V.2)]) (fun K3 hK3 => ?_) ?_)
      · refine run_state oV ((j : Int) - 1) S2.swap fun h3 S3 => rf_state oW ((j : Int) - 1) S3.swap ?_
        rw [sm.1]
        refine ite_f (bne_self_eq_false _) (run_fault oV ((j : Int) - 1) S3 fun v h4 S4 hv => rf_fault oW ((j : Int) - 1) S4.swap ?_)
        rw [sm.1] at hv
        exact fault_like hv (hK3 _ _ ⟨rfl, S4.swap⟩)
      · rintro _ h3 ⟨rfl, S3⟩
        refine ite_f rfl ?_
        have := next () h3 S3
        have e : IntKind.i64.wrap ((j : Int) - 1 + 1) = IntKind.i64.wrap ((j : Int) + 1) - 1 := by rw [wrap64_id (by omega) (by omega), wrap64_id (by omega) (by omega)]; omega
        rw [e]; exact this
    · unfold spatelaw12_like.b2
      exact rf_len S2 fun ts hts => ite_f (by rw [decide_eq_false_iff_not]; omega) (done _ _ (hK _ _ S2))
  intro _ h2 S2
  refine jn_q (fun (_ : Unit) h' => SG F0 h0 h' [rfP u W, runP q V, ownP kP s (ptrs V.2)]) (fun K hK => ?_) fun _ h' S' => k h' (S'.front 2 rfl |>.front 2 rfl |>.front 1 rfl)
  refine for0 (mk := fun (_ : Unit) i => i) (s := ()) (n := W.1.ts.length) (by omega) (fun j _ h' => SG F0 h0 h' [rfP u W, runP q V, ownP kP s (ptrs V.2)]) S2 (fun j _ h' K2 hj S3 next done => ?_) (fun _ h' K2 S3 done => ?_)
  · unfold spatelaw12_like.b1
    refine rf_len S3 fun ts hts => ite_t (by rw [hts]; exact clt_t hj) (ptr_at (ownP.rds (K := kP) S3 2 rfl) (i := j) (by omega) (rd_some rfl (rd_some (nx_at' S3 1 rfl (by omega)) (rf_sp oW S3 (n := j) (by have := oW.l; omega) ?_))))
    rw [sm.nx]
    exact ite_f (bne_self_eq_false _) (next () h' S3)
  · unfold spatelaw12_like.b1
    exact rf_len S3 fun ts hts => ite_f (by rw [hts]; exact clt_f (Nat.lt_irrefl _)) (done _ _ (hK _ _ S3))
end
theorem plays_true (locks : Int) (l : Sl) (tasks : List Sl) (l2 : Sl) (script : List Act) (h : H) (hl : Rds kL h l tasks) (hw : ∀ y ∈ tasks, wTask h y) (hm : tasks.length * 24 ≤ reachBytes) (hl2 : Rds kAct h l2 script) (hw2 : ∀ y ∈ script, True) (hm2 : script.length * 16 ≤ reachBytes) :
    spatelaw12_SchedPlays locks l l2 h fun r h' => r = true ∧ Ext h h' := by
  unfold spatelaw12_SchedPlays
  have z1 := hl.len
  have z2 := hl2.len
  refine known_spec fun h1 e1 => ite_f rfl ?_
  by_cases hbig : script.length > 4000 ∨ tasks.length > 200
  · refine jn_c' true h1 (fun K hK => ite_b (fun c => hK) (fun c => ?_)) (ite_t rfl ⟨rfl, e1⟩)
    rw [decide_eq_false_iff_not] at c
    have e : decide ((l.len : Int) > 200) = true := by rw [decide_eq_true_eq]; omega
    show K (decide ((l.len : Int) > 200)) h1
    rw [e]; exact hK
  refine jn_c' false h1 (fun K hK => ite_f (by rw [decide_eq_false_iff_not]; omega) ?_) (ite_f rfl ?_)
  · have e : decide ((l.len : Int) > 200) = false := by rw [decide_eq_false_iff_not]; omega
    show K (decide ((l.len : Int) > 200)) h1
    rw [e]; exact hK
  refine run_new (SS.nil e1) (fun hb => rf_new (SS.nil e1) (fun _ => jn_c' false h1 (fun K hK => ite_f rfl hK) (ite_f rfl (ite_t rfl ⟨rfl, e1⟩))) fun a b => by omega) fun g1 g2 q h2 S2 => rf_new S2 (fun hb => by omega) fun _ _ u h3 S3 => ?_
  have S3 : SS h h3 [rfP u (AS.new locks.toNat, []), runP q (AS.new locks.toNat, [])] := S3
  have o0 : WS.Ok (AS.new locks.toNat, []) 0 0 := new_ok g1 g2
  refine jn_c' false h3 (fun K hK => ite_f rfl hK) (ite_f rfl (ite_f rfl ?_))
  -- one more task
  have one : ∀ (V W : WS) (B N k : Nat) (s : Sl) (h4 : H) (hk : k < tasks.length), V.Ok B N → W.Ok B N → Same V W → V.2.length ≤ 300 → SS h h4 [ownP kP s (ptrs V.2), runP q V, rfP u W] → ∀ {Q : Sl → Int → Int → H → Prop}, (∀ V' W' s' n h', V'.Ok B N → W'.Ok B N → Same V' W' → V'.2.length = V.2.length + 1 → SS h h' [ownP kP s' (ptrs V'.2), runP q V', rfP u W'] → Q s' n n h') →
      rd (ixA 1 l (k : Int)) fun q6 =>
      rd (ld kL q6 h4) fun x13 =>
      spatelaw12_twin x13 h4 fun r17 h30 =>
      al 37 (k36.enc (S36.mk r17 0)) h30 fun q7 h31 =>
      bs 33 1 (kP.enc (some q7)) h31 fun x14 h32 =>
      ap kP.n 8 33 (kP.enc none) s x14 h32 fun x15 h33 =>
      rd (ixA 1 l (k : Int)) fun q8 =>
      rd (ld kL q8 h33) fun x16 =>
      sched_Sched_Add (some ⟨q, 0, none⟩) (some (33, .pointer (some q7)) : IF) h33 fun r18 h34 =>
      ld kL q8 h34 = some x16 ∧
      spatelaw12_twin x16 h34 fun r19 h35 =>
      spateref12_Sched_Add (some ⟨u, 0, none⟩) r19 h35 fun r20 h36 => Q x15 r18 r20 h36 := by
    intro V W B N k s h4 hk oV oW sm hV S4 Q fin
    have hWl : W.2.length = V.2.length := by have := congrArg List.length sm.2; simpa using this.symm
    have hpl : (ptrs V.2).length = V.2.length := by unfold ptrs; simp
    obtain ⟨rows0, T⟩ := task_rows (hw _ (List.getElem_mem hk))
    obtain ⟨a, ha, hx⟩ := hl.ix hk (n := 1) rfl
    refine rd_some ha (rd_some (ld_ext (SS.e S4) hx) ?_)
    refine play_new T S4 fun s2 rows h5 er ro S5 => S5.var (K := kPl) fun b h6 S6 _ => ?_
    have S6 : SS h h6 [varP kPl b ⟨s2, 0⟩, ownP kMv s2 (rows.map (·.v)), rbagP rows, ownP kP s (ptrs V.2), runP q V, rfP u W] := S6
    refine ownP.pushW (K := kP) (by decide) S6 3 rfl (some ⟨b, 0, none⟩) (by omega) (by omega) fun s3 h7 S7 => ?_
    have S7 : SS h h7 [varP kPl b ⟨s2, 0⟩, ownP kMv s2 (rows.map (·.v)), rbagP rows, ownP kP s3 (ptrs (V.2 ++ [⟨b, s2, 0, rows⟩])), runP q V, rfP u W] := by
      have e : ptrs (V.2 ++ [⟨b, s2, 0, rows⟩]) = ptrs V.2 ++ [some ⟨b, 0, none⟩] := by unfold ptrs; rw [List.map_append]; rfl
      rw [e]; exact S7
    refine rd_some ha (rd_some (ld_ext (SS.e S7) hx) ?_)
    have S8 : SS h h7 [varP kPl b ⟨s2, 0⟩, ownP kMv s2 (rows.map (·.v)), rbagP rows, runP q V, ownP kP s3 (ptrs (V.2 ++ [⟨b, s2, 0, rows⟩])), rfP u W] :=
      S7.perm ((((List.Perm.swap _ _ _).cons _).cons _).cons _)
    refine run_add oV (by rw [oV.l]; omega) ro S8 fun h8 S9 => ⟨ld_ext (SS.e S9) hx, ?_⟩
    have S9 : SS h h8 [runP q (V.add ⟨b, s2, 0, rows⟩), ownP kP s3 (ptrs (V.2 ++ [⟨b, s2, 0, rows⟩])), rfP u W] := S9
    refine play_new T S9 fun s4 rows' h9 er' ro' S10 => ?_
    have S10 : SS h h9 [ownP kMv s4 (rows'.map (·.v)), rbagP rows', runP q (V.add ⟨b, s2, 0, rows⟩), ownP kP s3 (ptrs (V.2 ++ [⟨b, s2, 0, rows⟩])), rfP u W] := S10
    have S11 : SS h h9 [ownP kMv s4 (rows'.map (·.v)), rbagP rows', rfP u W, runP q (V.add ⟨b, s2, 0, rows⟩), ownP kP s3 (ptrs (V.2 ++ [⟨b, s2, 0, rows⟩]))] := ((S10.front 4 rfl).front 2 rfl).front 2 rfl |> fun _ => by
      have p1 : ([runP q (V.add ⟨b, s2, 0, rows⟩), ownP kP s3 (ptrs (V.2 ++ [⟨b, s2, 0, rows⟩]))] ++ [rfP u W]).Perm ([rfP u W] ++ [runP q (V.add ⟨b, s2, 0, rows⟩), ownP kP s3 (ptrs (V.2 ++ [⟨b, s2, 0, rows⟩]))]) := List.perm_append_comm
      exact S10.perm ((p1.cons _).cons _)
    refine rf_add oW (b := 0) (by rw [oW.l]; omega) (rowsZ_of er' T) S11 fun h10 S12 => ?_
    have eW : ((W.1.ts.length : Nat) : Int) = ((V.1.ts.length : Nat) : Int) := by rw [sm.1]
    rw [eW]
    refine fin (V.add ⟨b, s2, 0, rows⟩) (W.add ⟨0, s4, 0, rows'⟩) s3 _ h10 (oV.add (by rw [oV.l]; omega) (Nat.zero_le _)) (oW.add (by rw [oW.l]; omega) (Nat.zero_le _)) (sm.add ?_) (by simp [WS.add]) ?_
    · show (0, rows.map MR.mv) = (0, rows'.map MR.mv)
      rw [er, er']
    · have S12 : SS h h10 [rfP u (W.add ⟨0, s4, 0, rows'⟩), runP q (V.add ⟨b, s2, 0, rows⟩), ownP kP s3 (ptrs (V.2 ++ [⟨b, s2, 0, rows⟩]))] := S12
      exact (S12.front 1 rfl).front 2 rfl
  refine jn_q (fun (s : Sl) h' => ∃ V W : WS, V.Ok 0 0 ∧ W.Ok 0 0 ∧ Same V W ∧ V.2.length = tasks.length ∧ SS h h' [ownP kP s (ptrs V.2), runP q V, rfP u W]) (fun K hK => ?_) ?_
  · refine for0 (mk := fun (s : Sl) i => (s, i)) (s := Sl.nil) (n := tasks.length) (by omega) (fun j s h' => ∃ V W : WS, V.Ok 0 0 ∧ W.Ok 0 0 ∧ Same V W ∧ V.2.length = j ∧ SS h h' [ownP kP s (ptrs V.2), runP q V, rfP u W]) ⟨_, _, o0, o0, ⟨rfl, rfl⟩, rfl, S3.swap.made (Ext.refl h3) (Own.nil kP h3 _)⟩ (fun j s h' K2 hj hI next done => ?_) (fun s h' K2 hI done => ?_)
    · obtain ⟨V, W, oV, oW, sm, hVl, S4⟩ := hI
      unfold spatelaw12_SchedPlays.b2
      refine ite_t (by rw [z1]; exact clt_t hj) ?_
      refine one V W 0 0 j s h' hj oV oW sm (by omega) S4 (Q := fun x15 r18 r20 h36 => if (r18 != r20) = true then K2 (.inr (.inr false)) h36 else K2 (.inl (x15, IntKind.i64.wrap ((j : Int) + 1))) h36) fun V' W' s' n h5 oV' oW' sm' hl' S5 => ?_
      exact ite_f (bne_self_eq_false _) (next s' h5 ⟨V', W', oV', oW', sm', by omega, S5⟩)
    · unfold spatelaw12_SchedPlays.b2
      exact ite_f (by rw [z1]; exact clt_f (Nat.lt_irrefl _)) (done _ _ (hK _ _ hI))
  rintro s h4 ⟨V, W, oV, oW, sm, hVl, S4⟩
  refine jn_i (for0 (mk := fun (s : Sl) i => (s, i)) (s := s) (n := script.length) (by omega) (fun j s h' => ∃ V W : WS, V.Ok (400 * j) (400 * j) ∧ W.Ok (400 * j) (400 * j) ∧ Same V W ∧ V.2.length ≤ 301 ∧ SS h h' [ownP kP s (ptrs V.2), runP q V, rfP u W]) ⟨V, W, oV, oW, sm, by omega, S4⟩ (fun j s h' K hj hI next done => ?_) (fun s h' K hI done => ?_))
  · obtain ⟨V, W, oV, oW, sm, hVl, S5⟩ := hI
    have hj4 : j < 4000 := by omega
    have hWl : W.2.length = V.2.length := by have := congrArg List.length sm.2; simpa using this.symm
    unfold spatelaw12_SchedPlays.b1
    refine ite_t (by rw [z2]; exact clt_t hj) (jn_q (fun (s : Sl) h' => ∃ V W : WS, V.Ok (400 * (j + 1)) (400 * (j + 1)) ∧ W.Ok (400 * (j + 1)) (400 * (j + 1)) ∧ Same V W ∧ V.2.length ≤ 301 ∧ SS h h' [ownP kP s (ptrs V.2), runP q V, rfP u W]) (fun K5 hK5 => ?_) fun s' h' hI => next s' h' hI)
    refine (hl2.ext (SS.e S5)).elt0 hj rfl ?_
    generalize script[j] = x
    refine S5.cell (K := kAct) (x := x) fun c h5 S6 _ => ?_
    have S6 : SS h h5 [varP kAct c x, ownP kP s (ptrs V.2), runP q V, rfP u W] := S6
    have gk : ∀ {h' : H} {R : List HP}, SS h h' (varP kAct c x :: R) → ld (kI .i64) ((⟨c, 0, none⟩ : Addr).add 0) h' = some x.f0 := fun S' => by rw [add_mk]; exact varP.ld S' fa_k 0 rfl
    have gn : ∀ {h' : H} {R : List HP}, SS h h' (varP kAct c x :: R) → ld (kI .i64) ((⟨c, 0, none⟩ : Addr).add 1) h' = some x.f1 := fun S' => by rw [add_mk]; exact varP.ld S' fa_n 0 rfl
    refine jn_q (fun (s : Sl) h' => ∃ V W : WS, V.Ok (400 * (j + 1)) (400 * (j + 1)) ∧ W.Ok (400 * (j + 1)) (400 * (j + 1)) ∧ Same V W ∧ V.2.length ≤ 301 ∧ SS h h' [ownP kP s (ptrs V.2), runP q V, rfP u W]) (fun K6 hK6 => ?_) ?_
    · have oV' := oV.mono (B' := 400 * (j + 1)) (N' := 400 * (j + 1)) (by omega) (by omega)
      have oW' := oW.mono (B' := 400 * (j + 1)) (N' := 400 * (j + 1)) (by omega) (by omega)
      refine rd_some (gk S6) (ite_b (fun c1 => ?_) (fun c1 => ite_b (fun c2 => ?_) (fun c2 => ite_b (fun c3 => ?_) (fun c3 => ite_b (fun c4 => ?_) (fun c4 => ?_)))))
      · -- a pick
        refine rd_some (gn S6) (run_pick oV (by omega) (by omega) x.f1 (S6.front 2 rfl) (fun hz h6 S7 => ?_) fun t ht hr h6 S7 => ?_)
        · have S7 : SS h h6 [runP q V, varP kAct c x, ownP kP s (ptrs V.2), rfP u W] := S7
          refine rd_some (gn S7.swap) (rf_pick oW (by omega) (by omega) x.f1 (S7.front 3 rfl) (fun hz2 h7 S8 => ?_) fun t2 ht2 hr2 h7 S8 => ?_)
          · have S8 : SS h h7 [rfP u W, runP q V, varP kAct c x, ownP kP s (ptrs V.2)] := S8
            exact jn_c' false h7 (fun K7 hK7 => ite_f rfl hK7) (ite_f rfl (hK6 s h7 ⟨V, W, oV', oW', sm, by omega, ((S8.front 2 rfl).tail.front 1 rfl).front 2 rfl⟩))
          · rw [← sm.1, hz] at hr2; exact absurd hr2 (by simp)
        · have S7 : SS h h6 [runP q (V.step t), varP kAct c x, ownP kP s (ptrs V.2), rfP u W] := S7
          refine rd_some (gn S7.swap) (rf_pick oW (by omega) (by omega) x.f1 (S7.front 3 rfl) (fun hz2 h7 S8 => ?_) fun t2 ht2 hr2 h7 S8 => ?_)
          · rw [sm.1, hz2] at hr; exact absurd hr (by simp)
          · have : t2 = t := by
              rw [← sm.1, hr] at hr2
              have := Option.some.inj hr2; omega
            subst this
            have S8 : SS h h7 [rfP u (W.step t2), runP q (V.step t2), varP kAct c x, ownP kP s (ptrs V.2)] := S8
            have hp : ptrs (V.step t2).2 = ptrs V.2 := ptrs_bump _ _
            refine jn_c' false h7 (fun K7 hK7 => ite_f (bne_self_eq_false _) hK7) (ite_f rfl (hK6 s h7 ⟨V.step t2, W.step t2, (oV.step (by rw [oV.l]; exact ht)).mono (by omega) (by omega), (oW.step (by rw [oW.l]; exact ht2)).mono (by omega) (by omega), sm.step t2, by show (bump V.2 t2).length ≤ 301; rw [bump_len]; omega, ?_⟩))
            rw [hp]
            exact ((S8.front 2 rfl).tail.front 1 rfl).front 2 rfl
      · -- a round
        refine run_round oV (by omega) (by omega) (S6.front 2 rfl) fun h6 S7 => ?_
        have S7 : SS h h6 [runP q (roundW V).1, varP kAct c x, ownP kP s (ptrs V.2), rfP u W] := S7
        refine rf_round oW (by omega) (by omega) (S7.front 3 rfl) fun h7 S8 => ?_
        have S8 : SS h h7 [rfP u (roundW W).1, runP q (roundW V).1, varP kAct c x, ownP kP s (ptrs V.2)] := S8
        obtain ⟨smr, en⟩ := sm.round
        rw [en]
        have hp : ptrs (roundW V).1.2 = ptrs V.2 := ptrs_foldR _ (V, 0)
        have hrl : (roundW V).1.2.length = V.2.length := by
          have h1 := congrArg List.length hp
          unfold ptrs at h1; simpa using h1
        refine ite_f (bne_self_eq_false _) (hK6 s h7 ⟨(roundW V).1, (roundW W).1, oV.round.mono (by omega) (by omega), oW.round.mono (by omega) (by omega), smr, by omega, ?_⟩)
        rw [hp]
        exact ((S8.front 2 rfl).tail.front 1 rfl).front 2 rfl
      · -- a wake
        refine rd_some (gn S6) (rd_some (gn S6) (run_wake oV x.f1 (S6.front 2 rfl) fun h6 S7 => ?_))
        have S7 : SS h h6 [runP q (V.wake x.f1), varP kAct c x, ownP kP s (ptrs V.2), rfP u W] := S7
        refine ⟨gn S7.swap, rf_wake oW x.f1 (S7.front 3 rfl) fun h7 S8 => ?_⟩
        have S8 : SS h h7 [rfP u (W.wake x.f1), runP q (V.wake x.f1), varP kAct c x, ownP kP s (ptrs V.2)] := S8
        rw [sm.1]
        exact ite_f (bne_self_eq_false _) (hK6 s h7 ⟨V.wake x.f1, W.wake x.f1, (oV.wake _).mono (by omega) (by omega), (oW.wake _).mono (by omega) (by omega), sm.wake _, hVl, ((S8.front 2 rfl).tail.front 1 rfl).front 2 rfl⟩)
      · -- one more task
        have hsl := ownP.len (K := kP) S6 1 rfl
        have hpl : (ptrs V.2).length = V.2.length := by unfold ptrs; simp
        by_cases hskip : tasks.length = 0 ∨ V.2.length > 300
        · refine jn_c' true h5 (fun K8 hK8 => ite_b (fun d => hK8) (fun d => ?_)) (ite_t rfl (hK5 s h5 ⟨V, W, oV', oW', sm, hVl, S6.tail⟩))
          have d : ¬ tasks.length = 0 := by
            rw [beq_eq_false_iff_ne] at d; omega
          have e : decide ((s.len : Int) > 300) = true := by rw [decide_eq_true_eq]; omega
          rw [e]; exact hK8
        · refine jn_c' false h5 (fun K8 hK8 => ite_f (by rw [beq_eq_false_iff_ne]; omega) ?_) (ite_f rfl ?_)
          · have e : decide ((s.len : Int) > 300) = false := by rw [decide_eq_false_iff_not]; omega
            rw [e]; exact hK8
          have hpos : 0 < tasks.length := by omega
          obtain ⟨v, hv, hp⟩ := rem_pick (n := x.f1) hpos (by omega)
          have hpk := pickI_lt (n := x.f1) hpos
          rw [z1]
          refine rd_some (gn S6) (rd_some hv (jn_c' (pickI x.f1 tasks.length : Int) h5 (fun K9 hK9 => ite_b (fun d => ?_) (fun d => ?_)) ?_))
          · have d : v < 0 := by rw [decide_eq_true_eq] at d; exact d
            rw [if_pos d] at hp
            rw [hp]; exact hK9
          · have d : ¬ v < 0 := by rw [decide_eq_false_iff_not] at d; exact d
            rw [if_neg d] at hp
            rw [hp]; exact hK9
          refine one V W (400 * (j + 1)) (400 * (j + 1)) _ s h5 hpk oV' oW' sm (by omega) S6.tail (Q := fun x11 r12 r14 h28 => if (r12 != r14) = true then K (.inr (.inr false)) h28 else K6 x11 h28) fun V' W' s' n h6 oV2 oW2 sm' hl' S7 => ?_
          exact ite_f (bne_self_eq_false _) (hK6 s' h6 ⟨V', W', oV2, oW2, sm', by omega, S7⟩)
      · exact hK6 s h5 ⟨V, W, oV', oW', sm, hVl, S6.tail⟩
    · rintro s6 h6 ⟨V, W, oV, oW, sm, hVl, S7⟩
      exact like_spec oV oW sm S7 fun h7 S8 => ite_f rfl (hK5 s6 h7 ⟨V, W, oV, oW, sm, hVl, S8⟩)
  · obtain ⟨V, W, oV, oW, sm, hVl, S5⟩ := hI
    unfold spatelaw12_SchedPlays.b1
    exact ite_f (by rw [z2]; exact clt_f (Nat.lt_irrefl _)) (done _ _ ⟨rfl, SS.e S5⟩)
end Go.Proofs.YtomngllmnhdmlaaGreat
