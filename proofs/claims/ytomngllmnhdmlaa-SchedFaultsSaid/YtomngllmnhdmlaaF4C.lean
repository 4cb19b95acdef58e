/- spate/spatelaw12.SchedFaults, as a predicate over the heap, and that the code comes to it. Printed by gen.py. -/
import Derived.Test.YtomngllmnhdmlaaB0
import Derived.Test.YtomngllmnhdmlaaB3
import Derived.Test.YtomngllmnhdmlaaB2
import Derived.Test.YtomngllmnhdmlaaB1
namespace Go.Proofs.Ytomngllmnhdmlaa
open Go Go.Tr
set_option linter.unusedVariables false
set_option maxRecDepth 100000
set_option maxHeartbeats 400000
def spatelaw12_SchedFaults.b1 (p2 : Int) (p7 : Option Addr) (s : Int) (h : H) (K : Int ⊕ (Unit ⊕ Bool) → H → Prop) : Prop :=
  if (decide (s ≤ p2)) = true then
    jn (fun (k9 : Bool → H → Prop) =>
      sched_Sched_State p7 s h fun r9 h23 =>
      if (r9 != 1) = true then
        k9 true h23
      else
        sched_Sched_Fault p7 s h23 fun r10 h24 =>
        k9 (!r10.isNone) h24) fun s9 h22 =>
    if s9 = true then
      K (.inr (.inr false)) h22
    else
      K (.inl (IntKind.i64.wrap (s + 1))) h22
  else
    K (.inr (.inl ())) h
def spatelaw12_SchedFaults.b2 (p0 : Int) (p1 : Int) (p2 : Int) (p7 : Option Addr) (p11 : Int) (s : Int) (h : H) (K : Int ⊕ (Unit ⊕ Bool) → H → Prop) : Prop :=
  if (decide (s ≤ p1)) = true then
    jn (fun (k12 : Bool → H → Prop) =>
      sched_Sched_State p7 p11 h fun r18 h33 =>
      if (r18 != 1) = true then
        k12 true h33
      else
        sched_Sched_Fault p7 p11 h33 fun r19 h34 =>
        k12 (!r19.isNone) h34) fun s12 h31 =>
    if s12 = true then
      K (.inr (.inr false)) h31
    else
      sched_Sched_Pick p7 0 h31 fun r17 h32 =>
      K (.inl (IntKind.i64.wrap (s + 1))) h32
  else
    K (.inr (.inl ())) h
def spatelaw12_SchedFaults.b3 (p0 : Int) (p1 : Int) (p2 : Int) (p7 : Option Addr) (p11 : Int) (s : Int) (h : H) (K : Int ⊕ Unit → H → Prop) : Prop :=
  if (decide (s < p2)) = true then
    bs 45 1 (k44.enc (S44.mk 1 true)) h fun x5 h36 =>
    bs 48 1 (k47.enc (S47.mk 2 x5 0 Sl.nil)) h36 fun x6 h37 =>
    al 34 (k33.enc (S33.mk x6 0)) h37 fun q2 h38 =>
    sched_Sched_Add p7 (some (30, .pointer (some q2)) : IF) h38 fun r22 h39 =>
    K (.inl (IntKind.i64.wrap (s + 1))) h39
  else
    K (.inr ()) h
def spatelaw12_SchedFaults.b4 (p0 : Int) (p1 : Int) (p2 : Int) (p7 : Option Addr) (s : Sl × Int) (h : H) (K : (Sl × Int) ⊕ Sl → H → Prop) : Prop :=
  if (decide (s.2 < p1)) = true then
    bs 48 1 (k47.enc (S47.mk 1 Sl.nil 0 Sl.nil)) h fun x7 h41 =>
    ap k47.n 64 48 (k47.enc z47) s.1 x7 h41 fun x8 h42 =>
    K (.inl (x8, IntKind.i64.wrap (s.2 + 1))) h42
  else
    K (.inr s.1) h
/-- spate/spatelaw12.SchedFaults -/
def spatelaw12_SchedFaults (a0 : Int) (a1 : Int) (a2 : Int) (h : H) (Q : Bool → H → Prop) : Prop :=
  spatelaw12_known  h fun r1 h1 =>
  if (!r1) = true then
    Q false h1
  else
    jn (fun (k1 : Int → H → Prop) =>
      jn (fun (k16 : Bool → H → Prop) =>
        if (decide (a0 ≥ 1)) = true then
          k16 (decide (a0 ≤ 5)) h1
        else
          k16 false h1) fun s16 h44 =>
      if s16 = true then
        k1 (-99) h44
      else
        k1 a0 h44) fun s1 h2 =>
    spatelaw12_count a1 h2 fun r2 h3 =>
    spatelaw12_count a2 h3 fun r3 h4 =>
    sched_New 2 h4 fun r4 h5 =>
    jn (fun (k2 : Bool → H → Prop) =>
      if (r4.2 != 0) = true then
        k2 true h5
      else
        k2 r4.1.isNone h5) fun s2 h6 =>
    if s2 = true then
      Q false h6
    else
      bs 45 1 (k44.enc (S44.mk 1 false)) h6 fun x1 h7 =>
      bs 48 1 (k47.enc (S47.mk 2 x1 0 Sl.nil)) h7 fun x2 h8 =>
      jn (fun (k3 : Sl → H → Prop) =>
        loopE (spatelaw12_SchedFaults.b4 s1 r2 r3 r4.1) (x2, 0) h8 (fun r24 hh => k3 r24 hh)) fun s3 h9 =>
      bs 48 1 (k47.enc (S47.mk s1 Sl.nil 0 Sl.nil)) h9 fun x3 h10 =>
      ap k47.n 64 48 (k47.enc z47) s3 x3 h10 fun x4 h11 =>
      al 34 (k33.enc (S33.mk x4 0)) h11 fun q1 h12 =>
      sched_Sched_Add r4.1 (some (30, .pointer (some q1)) : IF) h12 fun r5 h13 =>
      jn (fun (k4 : Unit → H → Prop) =>
        loopE (spatelaw12_SchedFaults.b3 s1 r2 r3 r4.1 r5) 0 h13 (fun r23 hh => k4 r23 hh)) fun s4 h14 =>
      sched_Sched_Round r4.1 h14 fun r6 h15 =>
      sched_Sched_Ready r4.1 h15 fun r7 h16 =>
      if ((r7.len : Int) != 1) = true then
        Q false h16
      else
        jn (fun (k5 : Unit → H → Prop) =>
          loopE (spatelaw12_SchedFaults.b2 s1 r2 r3 r4.1 r5) 0 h16 (sumK (fun r20 hh => k5 r20 hh) (fun r21 hh => Q r21 hh))) fun s5 h17 =>
        jn (fun (k6 : IF → H → Prop) =>
          jn (fun (k11 : Bool → H → Prop) =>
            if (decide (s1 > (-99))) = true then
              k11 true h17
            else
              k11 (decide (s1 < (-103))) h17) fun s11 h30 =>
          if s11 = true then
            k6 (some (26, .int .i64 15) : IF) h30
          else
            k6 (some (26, .int .i64 42) : IF) h30) fun s6 h18 =>
        jn (fun (k7 : Bool → H → Prop) =>
          sched_Sched_State r4.1 r5 h18 fun r13 h26 =>
          if (r13 != 4) = true then
            k7 true h26
          else
            sched_Sched_Fault r4.1 r5 h26 fun r14 h27 =>
            errors_Is r14 s6 h27 fun r15 h28 =>
            if (!r15) = true then
              k7 true h28
            else
              sched_Sched_Ready r4.1 h28 fun r16 h29 =>
              k7 ((r16.len : Int) != r3) h29) fun s7 h19 =>
        if s7 = true then
          Q false h19
        else
          jn (fun (k8 : Unit → H → Prop) =>
            loopE (spatelaw12_SchedFaults.b1 r3 r4.1) 1 h19 (sumK (fun r11 hh => k8 r11 hh) (fun r12 hh => Q r12 hh))) fun s8 h20 =>
          sched_Sched_Round r4.1 h20 fun r8 h21 =>
          Q (r8 == r3) h21
theorem spatelaw12_SchedFaults.sound {a0 : Int} {a1 : Int} {a2 : Int} {h : H} {Q : Bool → H → Prop} (hF : spatelaw12_SchedFaults a0 a1 a2 h Q) :
    CallsH Try.prog 4 (List.toArray (α := Value) [.int .i64 a0, .int .i64 a1, .int .i64 a2]) h fun v h' => ∃ x : Bool, v = .bool x ∧ Q x h' := by
  refine CallsH.of_body Try.func4 rfl 145 rfl rfl ?_
  refine WP.seq ?_
  refine WP.region ?_
  refine EvK.pure (v := .bool false) (w_none rfl) rfl rfl (f_assign rfl rfl) ?_
  refine EvK.nil ?_
  refine WP.seq ?_
  refine WP.seq ?_
  refine WP.region ?_
  refine EvK.call (w_none rfl) rfl rfl (enterH Try.func8 rfl rfl rfl rfl (spatelaw12_known.sound hF)) ?_
  rintro _ h1 ⟨r1, rfl, hF⟩
  refine EvK.pure (v := .bool (!r1)) (w_none rfl) rfl rfl (f_not rfl rfl) ?_
  refine EvK.nil ?_
  rcases ite_inv hF with ⟨c1, hF⟩ | ⟨c1, hF⟩
  · refine WP.cond_true _ rfl c1 ?_
    refine WP.seq ?_
    refine WP.region ?_
    refine EvK.pure (v := .bool false) (w_none rfl) rfl rfl (f_assign rfl rfl) ?_
    refine EvK.nil ?_
    refine WP.ret ?_
    exact Ret.mk (vs := [.bool false]) false ⟨rfl, trivial⟩ rfl hF
  · refine WP.cond_false _ rfl c1 ?_
    refine WP.skip ?_
    refine WP.joinF (fun (s1 : Int) => [(0, .int .i64 s1), (1, .int .i64 a1), (2, .int .i64 a2)]) hF ?_ ?_
    · intro s1 E0 h2 hF
      refine WP.seq ?_
      refine WP.region ?_
      refine EvK.pure (v := .int .i64 a1) (w_none rfl) rfl rfl (f_move rfl rfl) ?_
      refine EvK.call (w_none rfl) rfl rfl (enterH Try.func16 rfl rfl rfl rfl (spatelaw12_count.sound hF)) ?_
      rintro _ h3 ⟨r2, rfl, hF⟩
      refine EvK.pure (v := .int .i64 r2) (w_none rfl) rfl rfl (f_assign rfl rfl) ?_
      refine EvK.nil ?_
      refine WP.seq ?_
      refine WP.region ?_
      refine EvK.pure (v := .int .i64 a2) (w_none rfl) rfl rfl (f_move rfl rfl) ?_
      refine EvK.call (w_none rfl) rfl rfl (enterH Try.func16 rfl rfl rfl rfl (spatelaw12_count.sound hF)) ?_
      rintro _ h4 ⟨r3, rfl, hF⟩
      refine EvK.pure (v := .int .i64 r3) (w_none rfl) rfl rfl (f_assign rfl rfl) ?_
      refine EvK.nil ?_
      refine WP.seq ?_
      refine WP.region ?_
      refine EvK.call (w_none rfl) rfl rfl (enterH Try.func9 rfl rfl rfl rfl (sched_New.sound hF)) ?_
      rintro _ h5 ⟨r4, rfl, hF⟩
      refine EvK.pure (v := .tuple #[.pointer r4.1, .int .i64 r4.2]) (w_none rfl) rfl rfl (f_move rfl rfl) ?_
      refine EvK.pure (v := .pointer r4.1) (w_none rfl) rfl rfl (f_extract (vs := #[.pointer r4.1, .int .i64 r4.2]) rfl rfl rfl) ?_
      refine EvK.pure (v := .int .i64 r4.2) (w_none rfl) rfl rfl (f_extract (vs := #[.pointer r4.1, .int .i64 r4.2]) rfl rfl rfl) ?_
      refine EvK.pure (v := .pointer r4.1) (w_none rfl) rfl rfl (f_assign rfl rfl) ?_
      refine EvK.pure (v := .int .i64 r4.2) (w_none rfl) rfl rfl (f_assign rfl rfl) ?_
      refine EvK.nil ?_
      refine WP.seq ?_
      refine WP.joinF (fun (s2 : Bool) => [(37, .bool s2), (0, .int .i64 s1), (1, .int .i64 r2), (2, .int .i64 r3), (7, .pointer r4.1)]) hF ?_ ?_
      · intro s2 E0 h6 hF
        rcases ite_inv hF with ⟨c2, hF⟩ | ⟨c2, hF⟩
        · refine WP.cond_true _ rfl c2 ?_
          refine WP.seq ?_
          refine WP.region ?_
          refine EvK.pure (v := .bool false) (w_none rfl) rfl rfl (f_assign rfl rfl) ?_
          refine EvK.nil ?_
          refine WP.ret ?_
          exact Ret.mk (vs := [.bool false]) false ⟨rfl, trivial⟩ rfl hF
        · refine WP.cond_false _ rfl c2 ?_
          refine WP.skip ?_
          refine WP.seq ?_
          refine WP.region ?_
          refine EvK.pure (v := k44.val (S44.mk 1 false)) (w_none rfl) rfl rfl (f_build (cells := k44.enc (S44.mk 1 false)) st45 rfl rfl rfl) ?_
          refine EvK.alloc (w_none rfl) rfl rfl (f_buildSliceF Try.underlying46 el45 (by decide) rfl rfl rfl hF) ?_
          rintro _ h7 ⟨x1, rfl, hF⟩
          refine EvK.pure (v := k47.val (S47.mk 2 x1 0 Sl.nil)) (w_none rfl) rfl rfl (f_build (cells := k47.enc (S47.mk 2 x1 0 Sl.nil)) st48 rfl rfl rfl) ?_
          refine EvK.alloc (w_none rfl) rfl rfl (f_buildSliceF Try.underlying31 el48 (by decide) rfl rfl rfl hF) ?_
          rintro _ h8 ⟨x2, rfl, hF⟩
          refine EvK.pure (v := Sl.val x2) (w_none rfl) rfl rfl (f_assign rfl rfl) ?_
          refine EvK.nil ?_
          refine WP.joinF (fun (s3 : Sl) => [(9, Sl.val s3), (0, .int .i64 s1), (1, .int .i64 r2), (2, .int .i64 r3), (7, .pointer r4.1)]) hF ?_ ?_
          · intro s3 E0 h9 hF
            refine WP.seq ?_
            refine WP.region ?_
            refine EvK.pure (v := Sl.val s3) (w_none rfl) rfl rfl (f_move rfl rfl) ?_
            refine EvK.pure (v := .int .i64 s1) (w_none rfl) rfl rfl (f_move rfl rfl) ?_
            refine EvK.pure (v := k47.val (S47.mk s1 Sl.nil 0 Sl.nil)) (w_none rfl) rfl rfl (f_build (cells := k47.enc (S47.mk s1 Sl.nil 0 Sl.nil)) st48 rfl rfl rfl) ?_
            refine EvK.alloc (w_none rfl) rfl rfl (f_buildSliceF Try.underlying31 el48 (by decide) rfl rfl rfl hF) ?_
            rintro _ h10 ⟨x3, rfl, hF⟩
            refine EvK.run (w_none rfl) rfl rfl (f_appendE (s := s3) (x := x3) Try.underlying31 el48 rfl rfl rfl hF) ?_
            rintro _ h11 ⟨x4, rfl, hF⟩
            refine EvK.pure (v := Sl.val x4) (w_none rfl) rfl rfl (f_assign rfl rfl) ?_
            refine EvK.nil ?_
            refine WP.seq ?_
            refine WP.region ?_
            refine EvK.pure (v := .pointer r4.1) (w_none rfl) rfl rfl (f_move rfl rfl) ?_
            refine EvK.pure (v := Sl.val x4) (w_none rfl) rfl rfl (f_move rfl rfl) ?_
            refine EvK.pure (v := k33.val (S33.mk x4 0)) (w_none rfl) rfl rfl (f_build (cells := k33.enc (S33.mk x4 0)) st34 rfl rfl rfl) ?_
            refine EvK.alloc (w_none rfl) rfl rfl (f_boxF (v := k33.val (S33.mk x4 0)) rfl rfl rfl hF) ?_
            rintro _ h12 ⟨q1, rfl, hF⟩
            refine EvK.pure (v := IF.val (some (30, .pointer (some q1)) : IF)) (w_none rfl) rfl rfl (f_makeIf Try.underlying30 rfl rfl rfl) ?_
            refine EvK.call (w_none rfl) rfl rfl (enterH (vs := [.pointer r4.1, IF.val (some (30, .pointer (some q1)) : IF)]) Try.func11 rfl rfl rfl rfl (sched_Sched_Add.sound hF)) ?_
            rintro _ h13 ⟨r5, rfl, hF⟩
            refine EvK.pure (v := .int .i64 r5) (w_none rfl) rfl rfl (f_assign rfl rfl) ?_
            refine EvK.nil ?_
            refine WP.joinF (fun (s4 : Unit) => [(0, .int .i64 s1), (1, .int .i64 r2), (2, .int .i64 r3), (7, .pointer r4.1), (11, .int .i64 r5)]) hF ?_ ?_
            · intro s4 E0 h14 hF
              refine WP.seq ?_
              refine WP.region ?_
              refine EvK.pure (v := .pointer r4.1) (w_none rfl) rfl rfl (f_move rfl rfl) ?_
              refine EvK.call (w_none rfl) rfl rfl (enterH Try.func17 rfl rfl rfl rfl (sched_Sched_Round.sound hF)) ?_
              rintro _ h15 ⟨r6, rfl, hF⟩
              refine EvK.nil ?_
              refine WP.seq ?_
              refine WP.seq ?_
              refine WP.region ?_
              refine EvK.pure (v := .pointer r4.1) (w_none rfl) rfl rfl (f_move rfl rfl) ?_
              refine EvK.call (w_none rfl) rfl rfl (enterH Try.func12 rfl rfl rfl rfl (sched_Sched_Ready.sound hF)) ?_
              rintro _ h16 ⟨r7, rfl, hF⟩
              refine EvK.pure (v := .int .i64 (r7.len : Int)) (w_none rfl) rfl rfl (f_lenL (s := r7) Try.underlying38 rfl rfl) ?_
              refine EvK.pure (v := .bool ((r7.len : Int) != 1)) (w_none rfl) rfl rfl (f_neq rfl rfl rfl) ?_
              refine EvK.nil ?_
              rcases ite_inv hF with ⟨c3, hF⟩ | ⟨c3, hF⟩
              · refine WP.cond_true _ rfl c3 ?_
                refine WP.seq ?_
                refine WP.region ?_
                refine EvK.pure (v := .bool false) (w_none rfl) rfl rfl (f_assign rfl rfl) ?_
                refine EvK.nil ?_
                refine WP.ret ?_
                exact Ret.mk (vs := [.bool false]) false ⟨rfl, trivial⟩ rfl hF
              · refine WP.cond_false _ rfl c3 ?_
                refine WP.skip ?_
                refine WP.joinF (fun (s5 : Unit) => [(0, .int .i64 s1), (2, .int .i64 r3), (7, .pointer r4.1), (11, .int .i64 r5)]) hF ?_ ?_
                · intro s5 E0 h17 hF
                  refine WP.seq ?_
                  refine WP.region ?_
                  refine EvK.pure (v := IF.val (some (26, .int .i64 42) : IF)) (w_none rfl) rfl rfl (f_makeIf Try.underlying26 rfl rfl rfl) ?_
                  refine EvK.pure (v := IF.val (some (26, .int .i64 42) : IF)) (w_none rfl) rfl rfl (f_assign rfl rfl) ?_
                  refine EvK.nil ?_
                  refine WP.joinF (fun (s6 : IF) => [(14, IF.val s6), (2, .int .i64 r3), (7, .pointer r4.1), (11, .int .i64 r5)]) hF ?_ ?_
                  · intro s6 E0 h18 hF
                    refine WP.seq ?_
                    refine WP.joinF (fun (s7 : Bool) => [(125, .bool s7), (2, .int .i64 r3), (7, .pointer r4.1)]) hF ?_ ?_
                    · intro s7 E0 h19 hF
                      rcases ite_inv hF with ⟨c4, hF⟩ | ⟨c4, hF⟩
                      · refine WP.cond_true _ rfl c4 ?_
                        refine WP.seq ?_
                        refine WP.region ?_
                        refine EvK.pure (v := .bool false) (w_none rfl) rfl rfl (f_assign rfl rfl) ?_
                        refine EvK.nil ?_
                        refine WP.ret ?_
                        exact Ret.mk (vs := [.bool false]) false ⟨rfl, trivial⟩ rfl hF
                      · refine WP.cond_false _ rfl c4 ?_
                        refine WP.skip ?_
                        refine WP.joinF (fun (s8 : Unit) => [(2, .int .i64 r3), (7, .pointer r4.1)]) hF ?_ ?_
                        · intro s8 E0 h20 hF
                          refine WP.seq ?_
                          refine WP.region ?_
                          refine EvK.pure (v := .pointer r4.1) (w_none rfl) rfl rfl (f_move rfl rfl) ?_
                          refine EvK.call (w_none rfl) rfl rfl (enterH Try.func17 rfl rfl rfl rfl (sched_Sched_Round.sound hF)) ?_
                          rintro _ h21 ⟨r8, rfl, hF⟩
                          refine EvK.pure (v := .int .i64 r3) (w_none rfl) rfl rfl (f_move rfl rfl) ?_
                          refine EvK.pure (v := .bool (r8 == r3)) (w_none rfl) rfl rfl (f_eql rfl rfl rfl) ?_
                          refine EvK.pure (v := .bool (r8 == r3)) (w_none rfl) rfl rfl (f_assign rfl rfl) ?_
                          refine EvK.nil ?_
                          refine WP.ret ?_
                          exact Ret.mk (vs := [.bool (r8 == r3)]) (r8 == r3) ⟨rfl, trivial⟩ rfl hF
                        · intro k8 hF
                          refine WP.seq ?_
                          refine WP.region ?_
                          refine EvK.pure (v := .int .i64 1) (w_none rfl) rfl rfl (f_assign rfl rfl) ?_
                          refine EvK.nil ?_
                          refine WP.block ?_
                          refine WP.loopF (fun (s9 : Int) => [(15, .int .i64 s9), (2, .int .i64 r3), (7, .pointer r4.1)]) hF ⟨rfl, rfl, rfl, trivial⟩ ?_
                          intro k9 s9 E0 h22 hF
                          refine WP.seq ?_
                          refine WP.seq ?_
                          refine WP.region ?_
                          refine EvK.pure (v := .int .i64 s9) (w_none rfl) rfl rfl (f_move rfl rfl) ?_
                          refine EvK.pure (v := .int .i64 r3) (w_none rfl) rfl rfl (f_move rfl rfl) ?_
                          refine EvK.pure (v := .bool (decide (s9 ≤ r3))) (w_none rfl) rfl rfl (f_leq rfl rfl rfl) ?_
                          refine EvK.nil ?_
                          rcases ite_inv hF with ⟨c5, hF⟩ | ⟨c5, hF⟩
                          · refine WP.cond_true _ rfl c5 ?_
                            refine WP.skip ?_
                            refine WP.seq ?_
                            refine WP.block ?_
                            refine WP.joinF (fun (s10 : Bool) => [(140, .bool s10), (2, .int .i64 r3), (7, .pointer r4.1), (15, .int .i64 s9)]) hF ?_ ?_
                            · intro s10 E0 h23 hF
                              rcases ite_inv hF with ⟨c6, hF⟩ | ⟨c6, hF⟩
                              · refine WP.cond_true _ rfl c6 ?_
                                refine WP.seq ?_
                                refine WP.region ?_
                                refine EvK.pure (v := .bool false) (w_none rfl) rfl rfl (f_assign rfl rfl) ?_
                                refine EvK.nil ?_
                                refine WP.ret ?_
                                exact Ret.mk (vs := [.bool false]) false ⟨rfl, trivial⟩ rfl hF
                              · refine WP.cond_false _ rfl c6 ?_
                                refine WP.skip ?_
                                refine WP.region ?_
                                refine EvK.pure (v := .int .i64 s9) (w_none rfl) rfl rfl (f_move rfl rfl) ?_
                                refine EvK.pure (v := .int .i64 (IntKind.i64.wrap (s9 + 1))) (w_none rfl) rfl rfl (f_add rfl rfl rfl) ?_
                                refine EvK.pure (v := .int .i64 (IntKind.i64.wrap (s9 + 1))) (w_none rfl) rfl rfl (f_assign rfl rfl) ?_
                                refine EvK.nil ?_
                                exact KE.mk (IntKind.i64.wrap (s9 + 1)) ⟨rfl, rfl, rfl, trivial⟩ hF
                            · intro k10 hF
                              refine WP.region ?_
                              refine EvK.pure (v := .pointer r4.1) (w_none rfl) rfl rfl (f_move rfl rfl) ?_
                              refine EvK.pure (v := .int .i64 s9) (w_none rfl) rfl rfl (f_move rfl rfl) ?_
                              refine EvK.call (w_none rfl) rfl rfl (enterH Try.func13 rfl rfl rfl rfl (sched_Sched_State.sound hF)) ?_
                              rintro _ h24 ⟨r9, rfl, hF⟩
                              refine EvK.pure (v := .bool (r9 != 1)) (w_none rfl) rfl rfl (f_neq rfl rfl rfl) ?_
                              refine EvK.pure (v := .bool (r9 != 1)) (w_none rfl) rfl rfl (f_move rfl rfl) ?_
                              rcases ite_inv hF with ⟨c7, hF⟩ | ⟨c7, hF⟩
                              · refine EvK.not (w_not rfl rfl c7) rfl rfl ?_
                                refine EvK.not (w_not rfl rfl c7) rfl rfl ?_
                                refine EvK.not (w_not rfl rfl c7) rfl rfl ?_
                                refine EvK.not (w_not rfl rfl c7) rfl rfl ?_
                                refine EvK.pure (v := .bool true) (w_none rfl) rfl rfl (f_pickT rfl rfl c7 rfl) ?_
                                refine EvK.nil ?_
                                exact KE.mk true ⟨rfl, rfl, rfl, rfl, trivial⟩ hF
                              · refine EvK.pure (v := .pointer r4.1) (w_some rfl rfl c7) rfl rfl (f_move rfl rfl) ?_
                                refine EvK.pure (v := .int .i64 s9) (w_some rfl rfl c7) rfl rfl (f_move rfl rfl) ?_
                                refine EvK.call (w_some rfl rfl c7) rfl rfl (enterH Try.func18 rfl rfl rfl rfl (sched_Sched_Fault.sound hF)) ?_
                                rintro _ h25 ⟨r10, rfl, hF⟩
                                refine EvK.pure (v := .bool (!r10.isNone)) (w_some rfl rfl c7) rfl rfl (f_ineqn (a := r10) Try.underlying51 rfl rfl) ?_
                                refine EvK.pure (v := .bool (!r10.isNone)) (w_none rfl) rfl rfl (f_pickF rfl rfl c7 rfl) ?_
                                refine EvK.nil ?_
                                exact KE.mk (!r10.isNone) ⟨rfl, rfl, rfl, rfl, trivial⟩ hF
                          · refine WP.cond_false _ rfl c5 ?_
                            refine WP.exit ?_
                            exact KE.mk () ⟨rfl, rfl, trivial⟩ hF
                    · intro k7 hF
                      refine WP.region ?_
                      refine EvK.pure (v := .pointer r4.1) (w_none rfl) rfl rfl (f_move rfl rfl) ?_
                      refine EvK.pure (v := .int .i64 r5) (w_none rfl) rfl rfl (f_move rfl rfl) ?_
                      refine EvK.call (w_none rfl) rfl rfl (enterH Try.func13 rfl rfl rfl rfl (sched_Sched_State.sound hF)) ?_
                      rintro _ h26 ⟨r13, rfl, hF⟩
                      refine EvK.pure (v := .bool (r13 != 4)) (w_none rfl) rfl rfl (f_neq rfl rfl rfl) ?_
                      refine EvK.pure (v := .bool (r13 != 4)) (w_none rfl) rfl rfl (f_move rfl rfl) ?_
                      rcases ite_inv hF with ⟨c8, hF⟩ | ⟨c8, hF⟩
                      · refine EvK.not (w_not rfl rfl c8) rfl rfl ?_
                        refine EvK.not (w_not rfl rfl c8) rfl rfl ?_
                        refine EvK.not (w_not rfl rfl c8) rfl rfl ?_
                        refine EvK.not (w_not rfl rfl c8) rfl rfl ?_
                        refine EvK.not (w_not rfl rfl c8) rfl rfl ?_
                        refine EvK.not (w_not rfl rfl c8) rfl rfl ?_
                        refine EvK.pure (v := .bool true) (w_none rfl) rfl rfl (f_pickT rfl rfl c8 rfl) ?_
                        refine EvK.pure (v := .bool true) (w_none rfl) rfl rfl (f_move rfl rfl) ?_
                        refine EvK.not (w_not rfl rfl rfl) rfl rfl ?_
                        refine EvK.not (w_not rfl rfl rfl) rfl rfl ?_
                        refine EvK.not (w_not rfl rfl rfl) rfl rfl ?_
                        refine EvK.not (w_not rfl rfl rfl) rfl rfl ?_
                        refine EvK.not (w_not rfl rfl rfl) rfl rfl ?_
                        refine EvK.pure (v := .bool true) (w_none rfl) rfl rfl (f_pickT rfl rfl rfl rfl) ?_
                        refine EvK.nil ?_
                        exact KE.mk true ⟨rfl, rfl, rfl, trivial⟩ hF
                      · refine EvK.pure (v := .pointer r4.1) (w_some rfl rfl c8) rfl rfl (f_move rfl rfl) ?_
                        refine EvK.pure (v := .int .i64 r5) (w_some rfl rfl c8) rfl rfl (f_move rfl rfl) ?_
                        refine EvK.call (w_some rfl rfl c8) rfl rfl (enterH Try.func18 rfl rfl rfl rfl (sched_Sched_Fault.sound hF)) ?_
                        rintro _ h27 ⟨r14, rfl, hF⟩
                        refine EvK.pure (v := IF.val s6) (w_some rfl rfl c8) rfl rfl (f_move rfl rfl) ?_
                        refine EvK.call (w_some rfl rfl c8) rfl rfl (enterH (vs := [IF.val r14, IF.val s6]) Try.func19 rfl rfl rfl rfl (errors_Is.sound hF)) ?_
                        rintro _ h28 ⟨r15, rfl, hF⟩
                        refine EvK.pure (v := .bool (!r15)) (w_some rfl rfl c8) rfl rfl (f_not rfl rfl) ?_
                        refine EvK.pure (v := .bool (!r15)) (w_none rfl) rfl rfl (f_pickF rfl rfl c8 rfl) ?_
                        refine EvK.pure (v := .bool (!r15)) (w_none rfl) rfl rfl (f_move rfl rfl) ?_
                        rcases ite_inv hF with ⟨c9, hF⟩ | ⟨c9, hF⟩
                        · refine EvK.not (w_not rfl rfl c9) rfl rfl ?_
                          refine EvK.not (w_not rfl rfl c9) rfl rfl ?_
                          refine EvK.not (w_not rfl rfl c9) rfl rfl ?_
                          refine EvK.not (w_not rfl rfl c9) rfl rfl ?_
                          refine EvK.not (w_not rfl rfl c9) rfl rfl ?_
                          refine EvK.pure (v := .bool true) (w_none rfl) rfl rfl (f_pickT rfl rfl c9 rfl) ?_
                          refine EvK.nil ?_
                          exact KE.mk true ⟨rfl, rfl, rfl, trivial⟩ hF
                        · refine EvK.pure (v := .pointer r4.1) (w_some rfl rfl c9) rfl rfl (f_move rfl rfl) ?_
                          refine EvK.call (w_some rfl rfl c9) rfl rfl (enterH Try.func12 rfl rfl rfl rfl (sched_Sched_Ready.sound hF)) ?_
                          rintro _ h29 ⟨r16, rfl, hF⟩
                          refine EvK.pure (v := .int .i64 (r16.len : Int)) (w_some rfl rfl c9) rfl rfl (f_lenL (s := r16) Try.underlying38 rfl rfl) ?_
                          refine EvK.pure (v := .int .i64 r3) (w_some rfl rfl c9) rfl rfl (f_move rfl rfl) ?_
                          refine EvK.pure (v := .bool ((r16.len : Int) != r3)) (w_some rfl rfl c9) rfl rfl (f_neq rfl rfl rfl) ?_
                          refine EvK.pure (v := .bool ((r16.len : Int) != r3)) (w_none rfl) rfl rfl (f_pickF rfl rfl c9 rfl) ?_
                          refine EvK.nil ?_
                          exact KE.mk ((r16.len : Int) != r3) ⟨rfl, rfl, rfl, trivial⟩ hF
                  · intro k6 hF
                    refine WP.joinF (fun (s11 : Bool) => [(105, .bool s11), (2, .int .i64 r3), (7, .pointer r4.1), (11, .int .i64 r5), (14, IF.val (some (26, .int .i64 42) : IF))]) hF ?_ ?_
                    · intro s11 E0 h30 hF
                      rcases ite_inv hF with ⟨c10, hF⟩ | ⟨c10, hF⟩
                      · refine WP.cond_true _ rfl c10 ?_
                        refine WP.region ?_
                        refine EvK.pure (v := IF.val (some (26, .int .i64 15) : IF)) (w_none rfl) rfl rfl (f_makeIf Try.underlying26 rfl rfl rfl) ?_
                        refine EvK.pure (v := IF.val (some (26, .int .i64 15) : IF)) (w_none rfl) rfl rfl (f_assign rfl rfl) ?_
                        refine EvK.nil ?_
                        exact KE.mk (some (26, .int .i64 15) : IF) ⟨rfl, rfl, rfl, rfl, trivial⟩ hF
                      · refine WP.cond_false _ rfl c10 ?_
                        refine WP.skip ?_
                        exact KE.mk (some (26, .int .i64 42) : IF) ⟨rfl, rfl, rfl, rfl, trivial⟩ hF
                    · intro k11 hF
                      refine WP.region ?_
                      refine EvK.pure (v := .int .i64 s1) (w_none rfl) rfl rfl (f_move rfl rfl) ?_
                      refine EvK.pure (v := .bool (decide (s1 > (-99)))) (w_none rfl) rfl rfl (f_gtr rfl rfl rfl) ?_
                      refine EvK.pure (v := .bool (decide (s1 > (-99)))) (w_none rfl) rfl rfl (f_move rfl rfl) ?_
                      rcases ite_inv hF with ⟨c11, hF⟩ | ⟨c11, hF⟩
                      · refine EvK.not (w_not rfl rfl c11) rfl rfl ?_
                        refine EvK.not (w_not rfl rfl c11) rfl rfl ?_
                        refine EvK.pure (v := .bool true) (w_none rfl) rfl rfl (f_pickT rfl rfl c11 rfl) ?_
                        refine EvK.nil ?_
                        exact KE.mk true ⟨rfl, rfl, rfl, rfl, rfl, trivial⟩ hF
                      · refine EvK.pure (v := .int .i64 s1) (w_some rfl rfl c11) rfl rfl (f_move rfl rfl) ?_
                        refine EvK.pure (v := .bool (decide (s1 < (-103)))) (w_some rfl rfl c11) rfl rfl (f_lss rfl rfl rfl) ?_
                        refine EvK.pure (v := .bool (decide (s1 < (-103)))) (w_none rfl) rfl rfl (f_pickF rfl rfl c11 rfl) ?_
                        refine EvK.nil ?_
                        exact KE.mk (decide (s1 < (-103))) ⟨rfl, rfl, rfl, rfl, rfl, trivial⟩ hF
                · intro k5 hF
                  refine WP.seq ?_
                  refine WP.region ?_
                  refine EvK.pure (v := .int .i64 0) (w_none rfl) rfl rfl (f_assign rfl rfl) ?_
                  refine EvK.nil ?_
                  refine WP.block ?_
                  refine WP.loopF (fun (s12 : Int) => [(13, .int .i64 s12), (0, .int .i64 s1), (1, .int .i64 r2), (2, .int .i64 r3), (7, .pointer r4.1), (11, .int .i64 r5)]) hF ⟨rfl, rfl, rfl, rfl, rfl, rfl, trivial⟩ ?_
                  intro k12 s12 E0 h31 hF
                  refine WP.seq ?_
                  refine WP.seq ?_
                  refine WP.region ?_
                  refine EvK.pure (v := .int .i64 s12) (w_none rfl) rfl rfl (f_move rfl rfl) ?_
                  refine EvK.pure (v := .int .i64 r2) (w_none rfl) rfl rfl (f_move rfl rfl) ?_
                  refine EvK.pure (v := .bool (decide (s12 ≤ r2))) (w_none rfl) rfl rfl (f_leq rfl rfl rfl) ?_
                  refine EvK.nil ?_
                  rcases ite_inv hF with ⟨c12, hF⟩ | ⟨c12, hF⟩
                  · refine WP.cond_true _ rfl c12 ?_
                    refine WP.skip ?_
                    refine WP.seq ?_
                    refine WP.block ?_
                    refine WP.seq ?_
                    refine WP.joinF (fun (s13 : Bool) => [(96, .bool s13), (0, .int .i64 s1), (1, .int .i64 r2), (2, .int .i64 r3), (7, .pointer r4.1), (11, .int .i64 r5), (13, .int .i64 s12)]) hF ?_ ?_
                    · intro s13 E0 h32 hF
                      rcases ite_inv hF with ⟨c13, hF⟩ | ⟨c13, hF⟩
                      · refine WP.cond_true _ rfl c13 ?_
                        refine WP.seq ?_
                        refine WP.region ?_
                        refine EvK.pure (v := .bool false) (w_none rfl) rfl rfl (f_assign rfl rfl) ?_
                        refine EvK.nil ?_
                        refine WP.ret ?_
                        exact Ret.mk (vs := [.bool false]) false ⟨rfl, trivial⟩ rfl hF
                      · refine WP.cond_false _ rfl c13 ?_
                        refine WP.skip ?_
                        refine WP.region ?_
                        refine EvK.pure (v := .pointer r4.1) (w_none rfl) rfl rfl (f_move rfl rfl) ?_
                        refine EvK.call (w_none rfl) rfl rfl (enterH Try.func14 rfl rfl rfl rfl (sched_Sched_Pick.sound hF)) ?_
                        rintro _ h33 ⟨r17, rfl, hF⟩
                        refine EvK.nil ?_
                        refine WP.region ?_
                        refine EvK.pure (v := .int .i64 s12) (w_none rfl) rfl rfl (f_move rfl rfl) ?_
                        refine EvK.pure (v := .int .i64 (IntKind.i64.wrap (s12 + 1))) (w_none rfl) rfl rfl (f_add rfl rfl rfl) ?_
                        refine EvK.pure (v := .int .i64 (IntKind.i64.wrap (s12 + 1))) (w_none rfl) rfl rfl (f_assign rfl rfl) ?_
                        refine EvK.nil ?_
                        exact KE.mk (IntKind.i64.wrap (s12 + 1)) ⟨rfl, rfl, rfl, rfl, rfl, rfl, trivial⟩ hF
                    · intro k13 hF
                      refine WP.region ?_
                      refine EvK.pure (v := .pointer r4.1) (w_none rfl) rfl rfl (f_move rfl rfl) ?_
                      refine EvK.pure (v := .int .i64 r5) (w_none rfl) rfl rfl (f_move rfl rfl) ?_
                      refine EvK.call (w_none rfl) rfl rfl (enterH Try.func13 rfl rfl rfl rfl (sched_Sched_State.sound hF)) ?_
                      rintro _ h34 ⟨r18, rfl, hF⟩
                      refine EvK.pure (v := .bool (r18 != 1)) (w_none rfl) rfl rfl (f_neq rfl rfl rfl) ?_
                      refine EvK.pure (v := .bool (r18 != 1)) (w_none rfl) rfl rfl (f_move rfl rfl) ?_
                      rcases ite_inv hF with ⟨c14, hF⟩ | ⟨c14, hF⟩
                      · refine EvK.not (w_not rfl rfl c14) rfl rfl ?_
                        refine EvK.not (w_not rfl rfl c14) rfl rfl ?_
                        refine EvK.not (w_not rfl rfl c14) rfl rfl ?_
                        refine EvK.not (w_not rfl rfl c14) rfl rfl ?_
                        refine EvK.pure (v := .bool true) (w_none rfl) rfl rfl (f_pickT rfl rfl c14 rfl) ?_
                        refine EvK.nil ?_
                        exact KE.mk true ⟨rfl, rfl, rfl, rfl, rfl, rfl, rfl, trivial⟩ hF
                      · refine EvK.pure (v := .pointer r4.1) (w_some rfl rfl c14) rfl rfl (f_move rfl rfl) ?_
                        refine EvK.pure (v := .int .i64 r5) (w_some rfl rfl c14) rfl rfl (f_move rfl rfl) ?_
                        refine EvK.call (w_some rfl rfl c14) rfl rfl (enterH Try.func18 rfl rfl rfl rfl (sched_Sched_Fault.sound hF)) ?_
                        rintro _ h35 ⟨r19, rfl, hF⟩
                        refine EvK.pure (v := .bool (!r19.isNone)) (w_some rfl rfl c14) rfl rfl (f_ineqn (a := r19) Try.underlying51 rfl rfl) ?_
                        refine EvK.pure (v := .bool (!r19.isNone)) (w_none rfl) rfl rfl (f_pickF rfl rfl c14 rfl) ?_
                        refine EvK.nil ?_
                        exact KE.mk (!r19.isNone) ⟨rfl, rfl, rfl, rfl, rfl, rfl, rfl, trivial⟩ hF
                  · refine WP.cond_false _ rfl c12 ?_
                    refine WP.exit ?_
                    exact KE.mk () ⟨rfl, rfl, rfl, rfl, trivial⟩ hF
            · intro k4 hF
              refine WP.seq ?_
              refine WP.region ?_
              refine EvK.pure (v := .int .i64 0) (w_none rfl) rfl rfl (f_assign rfl rfl) ?_
              refine EvK.nil ?_
              refine WP.block ?_
              refine WP.loopF (fun (s14 : Int) => [(12, .int .i64 s14), (0, .int .i64 s1), (1, .int .i64 r2), (2, .int .i64 r3), (7, .pointer r4.1), (11, .int .i64 r5)]) hF ⟨rfl, rfl, rfl, rfl, rfl, rfl, trivial⟩ ?_
              intro k14 s14 E0 h36 hF
              refine WP.seq ?_
              refine WP.seq ?_
              refine WP.region ?_
              refine EvK.pure (v := .int .i64 s14) (w_none rfl) rfl rfl (f_move rfl rfl) ?_
              refine EvK.pure (v := .int .i64 r3) (w_none rfl) rfl rfl (f_move rfl rfl) ?_
              refine EvK.pure (v := .bool (decide (s14 < r3))) (w_none rfl) rfl rfl (f_lss rfl rfl rfl) ?_
              refine EvK.nil ?_
              rcases ite_inv hF with ⟨c15, hF⟩ | ⟨c15, hF⟩
              · refine WP.cond_true _ rfl c15 ?_
                refine WP.skip ?_
                refine WP.seq ?_
                refine WP.block ?_
                refine WP.region ?_
                refine EvK.pure (v := .pointer r4.1) (w_none rfl) rfl rfl (f_move rfl rfl) ?_
                refine EvK.pure (v := k44.val (S44.mk 1 true)) (w_none rfl) rfl rfl (f_build (cells := k44.enc (S44.mk 1 true)) st45 rfl rfl rfl) ?_
                refine EvK.alloc (w_none rfl) rfl rfl (f_buildSliceF Try.underlying46 el45 (by decide) rfl rfl rfl hF) ?_
                rintro _ h37 ⟨x5, rfl, hF⟩
                refine EvK.pure (v := k47.val (S47.mk 2 x5 0 Sl.nil)) (w_none rfl) rfl rfl (f_build (cells := k47.enc (S47.mk 2 x5 0 Sl.nil)) st48 rfl rfl rfl) ?_
                refine EvK.alloc (w_none rfl) rfl rfl (f_buildSliceF Try.underlying31 el48 (by decide) rfl rfl rfl hF) ?_
                rintro _ h38 ⟨x6, rfl, hF⟩
                refine EvK.pure (v := k33.val (S33.mk x6 0)) (w_none rfl) rfl rfl (f_build (cells := k33.enc (S33.mk x6 0)) st34 rfl rfl rfl) ?_
                refine EvK.alloc (w_none rfl) rfl rfl (f_boxF (v := k33.val (S33.mk x6 0)) rfl rfl rfl hF) ?_
                rintro _ h39 ⟨q2, rfl, hF⟩
                refine EvK.pure (v := IF.val (some (30, .pointer (some q2)) : IF)) (w_none rfl) rfl rfl (f_makeIf Try.underlying30 rfl rfl rfl) ?_
                refine EvK.call (w_none rfl) rfl rfl (enterH (vs := [.pointer r4.1, IF.val (some (30, .pointer (some q2)) : IF)]) Try.func11 rfl rfl rfl rfl (sched_Sched_Add.sound hF)) ?_
                rintro _ h40 ⟨r22, rfl, hF⟩
                refine EvK.nil ?_
                refine WP.region ?_
                refine EvK.pure (v := .int .i64 s14) (w_none rfl) rfl rfl (f_move rfl rfl) ?_
                refine EvK.pure (v := .int .i64 (IntKind.i64.wrap (s14 + 1))) (w_none rfl) rfl rfl (f_add rfl rfl rfl) ?_
                refine EvK.pure (v := .int .i64 (IntKind.i64.wrap (s14 + 1))) (w_none rfl) rfl rfl (f_assign rfl rfl) ?_
                refine EvK.nil ?_
                exact KE.mk (IntKind.i64.wrap (s14 + 1)) ⟨rfl, rfl, rfl, rfl, rfl, rfl, trivial⟩ hF
              · refine WP.cond_false _ rfl c15 ?_
                refine WP.exit ?_
                exact KE.mk () ⟨rfl, rfl, rfl, rfl, rfl, trivial⟩ hF
          · intro k3 hF
            refine WP.seq ?_
            refine WP.region ?_
            refine EvK.pure (v := .int .i64 0) (w_none rfl) rfl rfl (f_assign rfl rfl) ?_
            refine EvK.nil ?_
            refine WP.block ?_
            refine WP.loopF (fun (s15 : Sl × Int) => [(9, Sl.val s15.1), (10, .int .i64 s15.2), (0, .int .i64 s1), (1, .int .i64 r2), (2, .int .i64 r3), (7, .pointer r4.1)]) hF ⟨rfl, rfl, rfl, rfl, rfl, rfl, trivial⟩ ?_
            intro k15 s15 E0 h41 hF
            refine WP.seq ?_
            refine WP.seq ?_
            refine WP.region ?_
            refine EvK.pure (v := .int .i64 s15.2) (w_none rfl) rfl rfl (f_move rfl rfl) ?_
            refine EvK.pure (v := .int .i64 r2) (w_none rfl) rfl rfl (f_move rfl rfl) ?_
            refine EvK.pure (v := .bool (decide (s15.2 < r2))) (w_none rfl) rfl rfl (f_lss rfl rfl rfl) ?_
            refine EvK.nil ?_
            rcases ite_inv hF with ⟨c16, hF⟩ | ⟨c16, hF⟩
            · refine WP.cond_true _ rfl c16 ?_
              refine WP.skip ?_
              refine WP.seq ?_
              refine WP.block ?_
              refine WP.region ?_
              refine EvK.pure (v := Sl.val s15.1) (w_none rfl) rfl rfl (f_move rfl rfl) ?_
              refine EvK.pure (v := k47.val (S47.mk 1 Sl.nil 0 Sl.nil)) (w_none rfl) rfl rfl (f_build (cells := k47.enc (S47.mk 1 Sl.nil 0 Sl.nil)) st48 rfl rfl rfl) ?_
              refine EvK.alloc (w_none rfl) rfl rfl (f_buildSliceF Try.underlying31 el48 (by decide) rfl rfl rfl hF) ?_
              rintro _ h42 ⟨x7, rfl, hF⟩
              refine EvK.run (w_none rfl) rfl rfl (f_appendE (s := s15.1) (x := x7) Try.underlying31 el48 rfl rfl rfl hF) ?_
              rintro _ h43 ⟨x8, rfl, hF⟩
              refine EvK.pure (v := Sl.val x8) (w_none rfl) rfl rfl (f_assign rfl rfl) ?_
              refine EvK.nil ?_
              refine WP.region ?_
              refine EvK.pure (v := .int .i64 s15.2) (w_none rfl) rfl rfl (f_move rfl rfl) ?_
              refine EvK.pure (v := .int .i64 (IntKind.i64.wrap (s15.2 + 1))) (w_none rfl) rfl rfl (f_add rfl rfl rfl) ?_
              refine EvK.pure (v := .int .i64 (IntKind.i64.wrap (s15.2 + 1))) (w_none rfl) rfl rfl (f_assign rfl rfl) ?_
              refine EvK.nil ?_
              exact KE.mk (x8, IntKind.i64.wrap (s15.2 + 1)) ⟨rfl, rfl, rfl, rfl, rfl, rfl, trivial⟩ hF
            · refine WP.cond_false _ rfl c16 ?_
              refine WP.exit ?_
              exact KE.mk s15.1 ⟨rfl, rfl, rfl, rfl, rfl, trivial⟩ hF
      · intro k2 hF
        refine WP.region ?_
        refine EvK.pure (v := .int .i64 r4.2) (w_none rfl) rfl rfl (f_move rfl rfl) ?_
        refine EvK.pure (v := .bool (r4.2 != 0)) (w_none rfl) rfl rfl (f_neq rfl rfl rfl) ?_
        refine EvK.pure (v := .bool (r4.2 != 0)) (w_none rfl) rfl rfl (f_move rfl rfl) ?_
        rcases ite_inv hF with ⟨c17, hF⟩ | ⟨c17, hF⟩
        · refine EvK.not (w_not rfl rfl c17) rfl rfl ?_
          refine EvK.not (w_not rfl rfl c17) rfl rfl ?_
          refine EvK.pure (v := .bool true) (w_none rfl) rfl rfl (f_pickT rfl rfl c17 rfl) ?_
          refine EvK.nil ?_
          exact KE.mk true ⟨rfl, rfl, rfl, rfl, rfl, trivial⟩ hF
        · refine EvK.pure (v := .pointer r4.1) (w_some rfl rfl c17) rfl rfl (f_move rfl rfl) ?_
          refine EvK.pure (v := .bool r4.1.isNone) (w_some rfl rfl c17) rfl rfl (f_peqln Try.underlying25 rfl rfl rfl) ?_
          refine EvK.pure (v := .bool r4.1.isNone) (w_none rfl) rfl rfl (f_pickF rfl rfl c17 rfl) ?_
          refine EvK.nil ?_
          exact KE.mk r4.1.isNone ⟨rfl, rfl, rfl, rfl, rfl, trivial⟩ hF
    · intro k1 hF
      refine WP.joinF (fun (s16 : Bool) => [(23, .bool s16), (0, .int .i64 a0), (1, .int .i64 a1), (2, .int .i64 a2)]) hF ?_ ?_
      · intro s16 E0 h44 hF
        rcases ite_inv hF with ⟨c18, hF⟩ | ⟨c18, hF⟩
        · refine WP.cond_true _ rfl c18 ?_
          refine WP.region ?_
          refine EvK.pure (v := .int .i64 (-99)) (w_none rfl) rfl rfl (f_assign rfl rfl) ?_
          refine EvK.nil ?_
          exact KE.mk (-99) ⟨rfl, rfl, rfl, trivial⟩ hF
        · refine WP.cond_false _ rfl c18 ?_
          refine WP.skip ?_
          exact KE.mk a0 ⟨rfl, rfl, rfl, trivial⟩ hF
      · intro k16 hF
        refine WP.region ?_
        refine EvK.pure (v := .int .i64 a0) (w_none rfl) rfl rfl (f_move rfl rfl) ?_
        refine EvK.pure (v := .bool (decide (a0 ≥ 1))) (w_none rfl) rfl rfl (f_geq rfl rfl rfl) ?_
        refine EvK.pure (v := .bool (decide (a0 ≥ 1))) (w_none rfl) rfl rfl (f_move rfl rfl) ?_
        rcases ite_inv hF with ⟨c19, hF⟩ | ⟨c19, hF⟩
        · refine EvK.pure (v := .int .i64 a0) (w_some rfl rfl c19) rfl rfl (f_move rfl rfl) ?_
          refine EvK.pure (v := .bool (decide (a0 ≤ 5))) (w_some rfl rfl c19) rfl rfl (f_leq rfl rfl rfl) ?_
          refine EvK.pure (v := .bool (decide (a0 ≤ 5))) (w_none rfl) rfl rfl (f_pickT rfl rfl c19 rfl) ?_
          refine EvK.nil ?_
          exact KE.mk (decide (a0 ≤ 5)) ⟨rfl, rfl, rfl, rfl, trivial⟩ hF
        · refine EvK.not (w_not rfl rfl c19) rfl rfl ?_
          refine EvK.not (w_not rfl rfl c19) rfl rfl ?_
          refine EvK.pure (v := .bool false) (w_none rfl) rfl rfl (f_pickF rfl rfl c19 rfl) ?_
          refine EvK.nil ?_
          exact KE.mk false ⟨rfl, rfl, rfl, rfl, trivial⟩ hF
end Go.Proofs.Ytomngllmnhdmlaa
