/- Functions as predicates over the heap, and that the code comes to them. Printed by gen.py, merged by group.py. -/
import Derived.Test.YtgmihbchcmjmdaaG0
import Derived.Test.YtgmihbchcmjmdaaTy
namespace Go.Proofs.Ytgmihbchcmjmdaa
open Go Go.Tr
set_option linter.unusedVariables false
set_option maxRecDepth 100000
set_option maxHeartbeats 400000
def spatelaw11_LocksWide.b3 (p9 : Option Addr) (p11 : Sl) (p20 : Int) (p22 : Sl) (p24 : Sl) (p25 : Int) (s : Bool × Int) (h : H) (K : (Bool × Int) ⊕ Bool → H → Prop) : Prop :=
  if (decide (s.2 < (p11.len : Int))) = true then
    jn (fun (k11 : Bool → H → Prop) =>
      if s.1 = true then
        k11 true h
      else
        if (p25 != s.2) = true then
          rd (ixA 3 p11 s.2) fun q7 =>
          rd (ld kB (q7.add 2) h) fun x8 =>
          if x8 = true then
            rd (ixA 3 p11 s.2) fun q8 =>
            rd (ld kL (q8.add 1) h) fun x9 =>
            rd (ixA 3 p11 p25) fun q9 =>
            rd (ld kL (q9.add 1) h) fun x10 =>
            spatelaw11_meets x9 x10 h fun r10 h24 =>
            k11 r10 h24
          else
            if (decide (s.2 < p25)) = true then
              rd (ixA 3 p11 s.2) fun q10 =>
              rd (ld kL (q10.add 1) h) fun x11 =>
              rd (ixA 3 p11 p25) fun q11 =>
              rd (ld kL (q11.add 1) h) fun x12 =>
              spatelaw11_meets x11 x12 h fun r11 h25 =>
              k11 r11 h25
            else
              k11 false h
        else
          k11 false h) fun s11 h23 =>
    K (.inl (s11, IntKind.i64.wrap (s.2 + 1))) h23
  else
    K (.inr s.1) h
def spatelaw11_LocksWide.b2 (p9 : Option Addr) (p11 : Sl) (p20 : Int) (p22 : Sl) (s : Sl × Int) (h : H) (K : (Sl × Int) ⊕ Sl → H → Prop) : Prop :=
  if (decide (s.2 < (p11.len : Int))) = true then
    jn (fun (k9 : Sl → H → Prop) =>
      rd (ixA 3 p11 s.2) fun q4 =>
      rd (ld kB (q4.add 2) h) fun x4 =>
      if x4 = true then
        k9 s.1 h
      else
        jn (fun (k10 : Bool → H → Prop) =>
          loopE (spatelaw11_LocksWide.b3 p9 p11 p20 p22 s.1 s.2) (false, 0) h (fun r12 hh => k10 r12 hh)) fun s10 h19 =>
        if (!s10) = true then
          rd (ixA 3 p11 s.2) fun q5 =>
          rd (st kB (q5.add 2) true h19) fun h20 =>
          rd (ixA 3 p11 s.2) fun q6 =>
          rd (ld (kI .i64) (q6.add 0) h20) fun x5 =>
          bs 3 1 ((kI .i64).enc x5) h20 fun x6 h21 =>
          ap (kI .i64).n 8 3 ((kI .i64).enc 0) s.1 x6 h21 fun x7 h22 =>
          k9 x7 h22
        else
          k9 s.1 h19) fun s9 h18 =>
    K (.inl (s9, IntKind.i64.wrap (s.2 + 1))) h18
  else
    K (.inr s.1) h
def spatelaw11_LocksWide.b4 (p9 : Option Addr) (p11 : Sl) (p20 : Int) (s : Int) (h : H) (K : Int ⊕ (Int ⊕ Bool) → H → Prop) : Prop :=
  rd (ixA 3 p11 s) fun q12 =>
  rd (ld kB (q12.add 2) h) fun x13 =>
  if (!x13) = true then
    if ((IntKind.i64.wrap (s + 1)) == (p11.len : Int)) = true then
      K (.inr (.inr false)) h
    else
      K (.inl (IntKind.i64.wrap (s + 1))) h
  else
    K (.inr (.inl s)) h
def spatelaw11_LocksWide.b1 (p9 : Option Addr) (s : Sl × Int) (h : H) (K : (Sl × Int) ⊕ (Sl ⊕ Bool) → H → Prop) : Prop :=
  jn (fun (k5 : Bool → H → Prop) =>
    if (decide ((s.1.len : Int) > 0)) = true then
      k5 (decide (s.2 < 50)) h
    else
      k5 false h) fun s5 h9 =>
  if s5 = true then
    jn (fun (k6 : Sl → H → Prop) =>
      jn (fun (k7 : Int → H → Prop) =>
        loopE (spatelaw11_LocksWide.b4 p9 s.1 s.2) 0 h9 (sumK (fun r14 hh => k7 r14 hh) (fun r15 hh => K (.inr (.inr r15)) hh))) fun s7 h11 =>
      rd (ixA 3 s.1 s7) fun q1 =>
      rd (ld (kI .i64) (q1.add 0) h11) fun x1 =>
      rd (ixA 3 s.1 s7) fun q2 =>
      rd (ld kL (q2.add 1) h11) fun x2 =>
      locks_Manager_Has p9 x1 h11 fun r5 h12 =>
      ld kL (q2.add 1) h12 = some x2 ∧
      spatelaw11_SameLocks r5 x2 h12 fun r6 h13 =>
      if (!r6) = true then
        K (.inr (.inr false)) h13
      else
        rd (ixA 3 s.1 s7) fun q3 =>
        rd (ld (kI .i64) (q3.add 0) h13) fun x3 =>
        locks_Manager_Free p9 x3 h13 fun r7 h14 =>
        if (!r7.2.isNone) = true then
          K (.inr (.inr false)) h14
        else
          spatelaw11_without s.1 s7 h14 fun r8 h15 =>
          jn (fun (k8 : Sl → H → Prop) =>
            loopE (spatelaw11_LocksWide.b2 p9 r8 s.2 r7.1) (Sl.nil, 0) h15 (fun r13 hh => k8 r13 hh)) fun s8 h16 =>
          spatelaw11_SameInts r7.1 s8 h16 fun r9 h17 =>
          if (!r9) = true then
            K (.inr (.inr false)) h17
          else
            k6 r8 h17) fun s6 h10 =>
    K (.inl (s6, IntKind.i64.wrap (s.2 + 1))) h10
  else
    K (.inr (.inl s.1)) h9
def spatelaw11_LocksWide.b6 (p0 : Int) (p1 : Sl) (p2 : Sl) (p3 : Sl) (p9 : Option Addr) (p11 : Sl) (p12 : Int) (p14 : Sl) (s : Bool × Int) (h : H) (K : (Bool × Int) ⊕ Bool → H → Prop) : Prop :=
  if (decide (s.2 < (p11.len : Int))) = true then
    jn (fun (k21 : Bool → H → Prop) =>
      if s.1 = true then
        k21 true h
      else
        rd (ixA 3 p11 s.2) fun q14 =>
        rd (ld kL (q14.add 1) h) fun x18 =>
        spatelaw11_meets x18 p14 h fun r20 h40 =>
        k21 r20 h40) fun s21 h39 =>
    K (.inl (s21, IntKind.i64.wrap (s.2 + 1))) h39
  else
    K (.inr s.1) h
def spatelaw11_LocksWide.b7 (p0 : Int) (p1 : Sl) (p2 : Sl) (p3 : Sl) (p9 : Option Addr) (p11 : Sl) (p12 : Int) (p13 : Int) (s : Sl × Int) (h : H) (K : (Sl × Int) ⊕ Sl → H → Prop) : Prop :=
  if (decide (s.2 < p0)) = true then
    rd (remI p12 (p3.len : Int)) fun x20 =>
    rd (ixA 1 p3 x20) fun q16 =>
    rd (ld (kI .i64) q16 h) fun x21 =>
    spatelaw11_within x21 2 h fun r23 h43 =>
    bs 32 1 (k31.enc (S31.mk s.2 (r23 == 1))) h43 fun x22 h44 =>
    ap k31.n 16 32 (k31.enc z31) s.1 x22 h44 fun x23 h45 =>
    K (.inl (x23, IntKind.i64.wrap (s.2 + p13))) h45
  else
    K (.inr s.1) h
def spatelaw11_LocksWide.b5 (p0 : Int) (p1 : Sl) (p2 : Sl) (p3 : Sl) (p9 : Option Addr) (s : Sl × Int) (h : H) (K : (Sl × Int) ⊕ (Sl ⊕ Bool) → H → Prop) : Prop :=
  jn (fun (k16 : Bool → H → Prop) =>
    if (decide (s.2 < (p1.len : Int))) = true then
      k16 (decide (s.2 < 20)) h
    else
      k16 false h) fun s16 h30 =>
  if s16 = true then
    jn (fun (k17 : Sl → H → Prop) =>
      rd (remI s.2 (p2.len : Int)) fun x14 =>
      rd (ixA 1 p2 x14) fun q13 =>
      rd (ld (kI .i64) q13 h30) fun x15 =>
      spatelaw11_within x15 40 h30 fun r18 h32 =>
      jn (fun (k18 : Sl → H → Prop) =>
        rd (ixA 1 p1 s.2) fun q15 =>
        rd (ld (kI .i64) q15 h32) fun x19 =>
        spatelaw11_within x19 p0 h32 fun r22 h42 =>
        loopE (spatelaw11_LocksWide.b7 p0 p1 p2 p3 p9 s.1 s.2 (IntKind.i64.wrap (1 + r18))) (Sl.nil, r22) h42 (fun r24 hh => k18 r24 hh)) fun s18 h33 =>
      jn (fun (k19 : Bool → H → Prop) =>
        loopE (spatelaw11_LocksWide.b6 p0 p1 p2 p3 p9 s.1 s.2 s18) (false, 0) h33 (fun r21 hh => k19 r21 hh)) fun s19 h34 =>
      locks_Manager_Ask p9 (IntKind.i64.wrap (1000 + s.2)) s18 h34 fun r19 h35 =>
      jn (fun (k20 : Bool → H → Prop) =>
        if (!r19.2.isNone) = true then
          k20 true h35
        else
          k20 (r19.1 == s19) h35) fun s20 h36 =>
      if s20 = true then
        K (.inr (.inr false)) h36
      else
        bs 35 1 (k34.enc (S34.mk (IntKind.i64.wrap (1000 + s.2)) s18 r19.1)) h36 fun x16 h37 =>
        ap k34.n 40 35 (k34.enc z34) s.1 x16 h37 fun x17 h38 =>
        k17 x17 h38) fun s17 h31 =>
    K (.inl (s17, IntKind.i64.wrap (s.2 + 1))) h31
  else
    K (.inr (.inl s.1)) h30
/-- spate/spatelaw11.LocksWide -/
def spatelaw11_LocksWide (a0 : Int) (a1 : Sl) (a2 : Sl) (a3 : Sl) (h : H) (Q : Bool → H → Prop) : Prop :=
  spatelaw11_known  h fun r1 h1 =>
  if (!r1) = true then
    Q false h1
  else
    spatelaw11_within a0 1024 h1 fun r2 h2 =>
    locks_New (IntKind.i64.wrap (1 + r2)) h2 fun r3 h3 =>
    if (r3.2 != 0) = true then
      Q false h3
    else
      jn (fun (k1 : Bool → H → Prop) =>
        if ((a1.len : Int) == 0) = true then
          k1 true h3
        else
          if ((a2.len : Int) == 0) = true then
            k1 true h3
          else
            k1 ((a3.len : Int) == 0) h3) fun s1 h4 =>
      if s1 = true then
        Q true h4
      else
        jn (fun (k2 : Sl → H → Prop) =>
          loopE (spatelaw11_LocksWide.b5 (IntKind.i64.wrap (1 + r2)) a1 a2 a3 r3.1) (Sl.nil, 0) h4 (sumK (fun r25 hh => k2 r25 hh) (fun r26 hh => Q r26 hh))) fun s2 h5 =>
        jn (fun (k3 : Sl → H → Prop) =>
          loopE (spatelaw11_LocksWide.b1 r3.1) (s2, 0) h5 (sumK (fun r16 hh => k3 r16 hh) (fun r17 hh => Q r17 hh))) fun s3 h6 =>
        jn (fun (k4 : Bool → H → Prop) =>
          if ((s3.len : Int) == 0) = true then
            locks_Manager_Queue r3.1 h6 fun r4 h8 =>
            k4 ((r4.len : Int) == 0) h8
          else
            k4 false h6) fun s4 h7 =>
        Q s4 h7
theorem spatelaw11_LocksWide.sound {a0 : Int} {a1 : Sl} {a2 : Sl} {a3 : Sl} {h : H} {Q : Bool → H → Prop} (hF : spatelaw11_LocksWide a0 a1 a2 a3 h Q) :
    CallsH Try.prog 3 (List.toArray (α := Value) [.int .i64 a0, Sl.val a1, Sl.val a2, Sl.val a3]) h fun v h' => ∃ x : Bool, v = .bool x ∧ Q x h' := by
  refine CallsH.of_body Try.func3 rfl 262 rfl rfl ?_
  refine WP.seq ?_
  refine WP.region ?_
  refine EvK.pure (v := .bool false) (w_none rfl) rfl rfl (f_assign rfl rfl) ?_
  refine EvK.nil ?_
  refine WP.seq ?_
  refine WP.seq ?_
  refine WP.region ?_
  refine EvK.call (w_none rfl) rfl rfl (enterH Try.func10 rfl rfl rfl rfl (spatelaw11_known.sound hF)) ?_
  rintro _ h1 ⟨r1, rfl, hF⟩
  refine EvK.pure (v := .bool (!r1)) (w_none rfl) rfl rfl (f_not rfl rfl) ?_
  refine EvK.nil ?_
  rcases ite_inv hF with ⟨c1, hF⟩ | ⟨c1, hF⟩
  · refine WP.cond_true _ rfl c1 ?_
    refine WP.seq ?_
    refine WP.region ?_
    refine EvK.pure (v := .bool false) (w_none rfl) rfl rfl (f_assign rfl rfl) ?_
    refine EvK.nil ?_
    refine WP.ret ?_
    exact Ret.mk (vs := [.bool false]) false ⟨rfl, trivial⟩ rfl hF
  · refine WP.cond_false _ rfl c1 ?_
    refine WP.skip ?_
    refine WP.seq ?_
    refine WP.region ?_
    refine EvK.pure (v := .int .i64 a0) (w_none rfl) rfl rfl (f_move rfl rfl) ?_
    refine EvK.call (w_none rfl) rfl rfl (enterH Try.func11 rfl rfl rfl rfl (spatelaw11_within.sound hF)) ?_
    rintro _ h2 ⟨r2, rfl, hF⟩
    refine EvK.pure (v := .int .i64 (IntKind.i64.wrap (1 + r2))) (w_none rfl) rfl rfl (f_add rfl rfl rfl) ?_
    refine EvK.pure (v := .int .i64 (IntKind.i64.wrap (1 + r2))) (w_none rfl) rfl rfl (f_assign rfl rfl) ?_
    refine EvK.nil ?_
    refine WP.seq ?_
    refine WP.region ?_
    refine EvK.pure (v := .int .i64 (IntKind.i64.wrap (1 + r2))) (w_none rfl) rfl rfl (f_move rfl rfl) ?_
    refine EvK.call (w_none rfl) rfl rfl (enterH Try.func12 rfl rfl rfl rfl (locks_New.sound hF)) ?_
    rintro _ h3 ⟨r3, rfl, hF⟩
    refine EvK.pure (v := .tuple #[.pointer r3.1, .int .i64 r3.2]) (w_none rfl) rfl rfl (f_move rfl rfl) ?_
    refine EvK.pure (v := .pointer r3.1) (w_none rfl) rfl rfl (f_extract (vs := #[.pointer r3.1, .int .i64 r3.2]) rfl rfl rfl) ?_
    refine EvK.pure (v := .int .i64 r3.2) (w_none rfl) rfl rfl (f_extract (vs := #[.pointer r3.1, .int .i64 r3.2]) rfl rfl rfl) ?_
    refine EvK.pure (v := .pointer r3.1) (w_none rfl) rfl rfl (f_assign rfl rfl) ?_
    refine EvK.pure (v := .int .i64 r3.2) (w_none rfl) rfl rfl (f_assign rfl rfl) ?_
    refine EvK.nil ?_
    refine WP.seq ?_
    refine WP.seq ?_
    refine WP.region ?_
    refine EvK.pure (v := .int .i64 r3.2) (w_none rfl) rfl rfl (f_move rfl rfl) ?_
    refine EvK.pure (v := .bool (r3.2 != 0)) (w_none rfl) rfl rfl (f_neq rfl rfl rfl) ?_
    refine EvK.nil ?_
    rcases ite_inv hF with ⟨c2, hF⟩ | ⟨c2, hF⟩
    · refine WP.cond_true _ rfl c2 ?_
      refine WP.seq ?_
      refine WP.region ?_
      refine EvK.pure (v := .bool false) (w_none rfl) rfl rfl (f_assign rfl rfl) ?_
      refine EvK.nil ?_
      refine WP.ret ?_
      exact Ret.mk (vs := [.bool false]) false ⟨rfl, trivial⟩ rfl hF
    · refine WP.cond_false _ rfl c2 ?_
      refine WP.skip ?_
      refine WP.seq ?_
      refine WP.joinF (fun (s1 : Bool) => [(52, .bool s1), (0, .int .i64 (IntKind.i64.wrap (1 + r2))), (1, Sl.val a1), (2, Sl.val a2), (3, Sl.val a3), (9, .pointer r3.1)]) hF ?_ ?_
      · intro s1 E0 h4 hF
        rcases ite_inv hF with ⟨c3, hF⟩ | ⟨c3, hF⟩
        · refine WP.cond_true _ rfl c3 ?_
          refine WP.seq ?_
          refine WP.region ?_
          refine EvK.pure (v := .bool true) (w_none rfl) rfl rfl (f_assign rfl rfl) ?_
          refine EvK.nil ?_
          refine WP.ret ?_
          exact Ret.mk (vs := [.bool true]) true ⟨rfl, trivial⟩ rfl hF
        · refine WP.cond_false _ rfl c3 ?_
          refine WP.skip ?_
          refine WP.seq ?_
          refine WP.region ?_
          refine EvK.pure (v := Sl.val Sl.nil) (w_none rfl) rfl rfl (f_assign rfl rfl) ?_
          refine EvK.nil ?_
          refine WP.joinF (fun (s2 : Sl) => [(11, Sl.val s2), (9, .pointer r3.1)]) hF ?_ ?_
          · intro s2 E0 h5 hF
            refine WP.joinF (fun (s3 : Sl) => [(11, Sl.val s3), (9, .pointer r3.1)]) hF ?_ ?_
            · intro s3 E0 h6 hF
              refine WP.joinF (fun (s4 : Bool) => [(8, .bool s4)]) hF ?_ ?_
              · intro s4 E0 h7 hF
                refine WP.ret ?_
                exact Ret.mk (vs := [.bool s4]) s4 ⟨rfl, trivial⟩ rfl hF
              · intro k4 hF
                refine WP.region ?_
                refine EvK.pure (v := Sl.val s3) (w_none rfl) rfl rfl (f_move rfl rfl) ?_
                refine EvK.pure (v := .int .i64 (s3.len : Int)) (w_none rfl) rfl rfl (f_lenL (s := s3) Try.underlying29 rfl rfl) ?_
                refine EvK.pure (v := .bool ((s3.len : Int) == 0)) (w_none rfl) rfl rfl (f_eql rfl rfl rfl) ?_
                refine EvK.pure (v := .bool ((s3.len : Int) == 0)) (w_none rfl) rfl rfl (f_move rfl rfl) ?_
                rcases ite_inv hF with ⟨c4, hF⟩ | ⟨c4, hF⟩
                · refine EvK.pure (v := .pointer r3.1) (w_some rfl rfl c4) rfl rfl (f_move rfl rfl) ?_
                  refine EvK.call (w_some rfl rfl c4) rfl rfl (enterH Try.func20 rfl rfl rfl rfl (locks_Manager_Queue.sound hF)) ?_
                  rintro _ h8 ⟨r4, rfl, hF⟩
                  refine EvK.pure (v := .int .i64 (r4.len : Int)) (w_some rfl rfl c4) rfl rfl (f_lenL (s := r4) Try.underlying22 rfl rfl) ?_
                  refine EvK.pure (v := .bool ((r4.len : Int) == 0)) (w_some rfl rfl c4) rfl rfl (f_eql rfl rfl rfl) ?_
                  refine EvK.pure (v := .bool ((r4.len : Int) == 0)) (w_none rfl) rfl rfl (f_pickT rfl rfl c4 rfl) ?_
                  refine EvK.pure (v := .bool ((r4.len : Int) == 0)) (w_none rfl) rfl rfl (f_assign rfl rfl) ?_
                  refine EvK.nil ?_
                  exact KE.mk ((r4.len : Int) == 0) ⟨rfl, trivial⟩ hF
                · refine EvK.not (w_not rfl rfl c4) rfl rfl ?_
                  refine EvK.not (w_not rfl rfl c4) rfl rfl ?_
                  refine EvK.not (w_not rfl rfl c4) rfl rfl ?_
                  refine EvK.not (w_not rfl rfl c4) rfl rfl ?_
                  refine EvK.pure (v := .bool false) (w_none rfl) rfl rfl (f_pickF rfl rfl c4 rfl) ?_
                  refine EvK.pure (v := .bool false) (w_none rfl) rfl rfl (f_assign rfl rfl) ?_
                  refine EvK.nil ?_
                  exact KE.mk false ⟨rfl, trivial⟩ hF
            · intro k3 hF
              refine WP.seq ?_
              refine WP.region ?_
              refine EvK.pure (v := .int .i64 0) (w_none rfl) rfl rfl (f_assign rfl rfl) ?_
              refine EvK.nil ?_
              refine WP.block ?_
              refine WP.loopF (fun (s5 : Sl × Int) => [(11, Sl.val s5.1), (20, .int .i64 s5.2), (9, .pointer r3.1)]) hF ⟨rfl, rfl, rfl, trivial⟩ ?_
              intro k5 s5 E0 h9 hF
              refine WP.seq ?_
              refine WP.joinF (fun (s6 : Bool) => [(143, .bool s6), (9, .pointer r3.1), (11, Sl.val s5.1), (20, .int .i64 s5.2)]) hF ?_ ?_
              · intro s6 E0 h10 hF
                rcases ite_inv hF with ⟨c5, hF⟩ | ⟨c5, hF⟩
                · refine WP.cond_true _ rfl c5 ?_
                  refine WP.skip ?_
                  refine WP.joinF (fun (s7 : Sl) => [(11, Sl.val s7), (9, .pointer r3.1), (20, .int .i64 s5.2)]) hF ?_ ?_
                  · intro s7 E0 h11 hF
                    refine WP.region ?_
                    refine EvK.pure (v := .int .i64 s5.2) (w_none rfl) rfl rfl (f_move rfl rfl) ?_
                    refine EvK.pure (v := .int .i64 (IntKind.i64.wrap (s5.2 + 1))) (w_none rfl) rfl rfl (f_add rfl rfl rfl) ?_
                    refine EvK.pure (v := .int .i64 (IntKind.i64.wrap (s5.2 + 1))) (w_none rfl) rfl rfl (f_assign rfl rfl) ?_
                    refine EvK.nil ?_
                    exact KE.mk (s7, IntKind.i64.wrap (s5.2 + 1)) ⟨rfl, rfl, rfl, trivial⟩ hF
                  · intro k7 hF
                    refine WP.block ?_
                    refine WP.seq ?_
                    refine WP.region ?_
                    refine EvK.pure (v := .int .i64 0) (w_none rfl) rfl rfl (f_assign rfl rfl) ?_
                    refine EvK.nil ?_
                    refine WP.joinF (fun (s8 : Int) => [(21, .int .i64 s8), (9, .pointer r3.1), (11, Sl.val s5.1), (20, .int .i64 s5.2)]) hF ?_ ?_
                    · intro s8 E0 h12 hF
                      refine WP.seq ?_
                      refine WP.seq ?_
                      refine WP.draw mixed [.pure, .pure, .pure, .pure, .pure, .read, .eff [11], .pure, .pure, .pure, .pure, .read, .eff [], .pure] [[], [], [], [1, 2], [1, 2, 3], [1, 2, 3, 4], [0, 1, 2, 3, 4, 5], [], [], [7, 8], [7, 8, 9], [7, 8, 9, 10], [0, 1, 2, 3, 4, 5, 6, 7, 8, 9, 10, 11], [0, 1, 2, 3, 4, 5, 6, 7, 8, 9, 10, 11, 12]] [0, 1, 2, 3, 4, 5, 7, 8, 9, 10, 11, 6, 12, 13] (by kernel_rfl) (by kernel_rfl) ?_
                      refine EvI.pure (v := .pointer r3.1) rfl rfl (w_none rfl) rfl (f_move rfl rfl) ?_
                      refine EvI.pure (v := Sl.val s5.1) rfl rfl (w_none rfl) rfl (f_move rfl rfl) ?_
                      refine EvI.pure (v := .int .i64 s8) rfl rfl (w_none rfl) rfl (f_move rfl rfl) ?_
                      obtain ⟨q1, hq1, hF⟩ := hF
                      refine EvI.pure (v := .pointer (some q1)) rfl rfl (w_none rfl) rfl (f_indexAddr (s := s5.1) Try.underlying29 ty35.size rfl rfl rfl hq1) ?_
                      refine EvI.pure (v := .pointer (some (q1.add 0))) rfl rfl (w_none rfl) rfl (f_fieldAddr fd35_0 rfl rfl) ?_
                      obtain ⟨x1, hx1, hF⟩ := hF
                      refine EvI.read (v := .int .i64 x1) rfl rfl (w_none rfl) rfl (f_load (kI .i64) ty3 rfl rfl hx1 rfl) ?_
                      refine EvI.pure (v := Sl.val s5.1) rfl rfl (w_none rfl) rfl (f_move rfl rfl) ?_
                      refine EvI.pure (v := .int .i64 s8) rfl rfl (w_none rfl) rfl (f_move rfl rfl) ?_
                      obtain ⟨q2, hq2, hF⟩ := hF
                      refine EvI.pure (v := .pointer (some q2)) rfl rfl (w_none rfl) rfl (f_indexAddr (s := s5.1) Try.underlying29 ty35.size rfl rfl rfl hq2) ?_
                      refine EvI.pure (v := .pointer (some (q2.add 1))) rfl rfl (w_none rfl) rfl (f_fieldAddr fd35_1 rfl rfl) ?_
                      obtain ⟨x2, hx2, hF⟩ := hF
                      refine EvI.read (v := Sl.val x2) rfl rfl (w_none rfl) rfl (f_load kL ty30 rfl rfl hx2 rfl) ?_
                      refine EvI.call rfl rfl (w_none rfl) rfl (enterH Try.func16 rfl rfl rfl rfl (locks_Manager_Has.sound hF)) ?_
                      rintro _ h13 ⟨r5, rfl, hF⟩
                      obtain ⟨hy1, hF⟩ := hF
                      refine ⟨⟨chk_yes rfl (f_load kL ty30 rfl rfl hy1 rfl), chk_no rfl, trivial⟩, ?_⟩
                      refine EvI.call rfl rfl (w_none rfl) rfl (enterH Try.func15 rfl rfl rfl rfl (spatelaw11_SameLocks.sound hF)) ?_
                      rintro _ h14 ⟨r6, rfl, hF⟩
                      refine ⟨⟨chk_no rfl, chk_no rfl, trivial⟩, ?_⟩
                      refine EvI.pure (v := .bool (!r6)) rfl rfl (w_none rfl) rfl (f_not rfl rfl) ?_
                      refine EvI.nil ?_
                      rcases ite_inv hF with ⟨c6, hF⟩ | ⟨c6, hF⟩
                      · refine WP.cond_true _ rfl c6 ?_
                        refine WP.seq ?_
                        refine WP.region ?_
                        refine EvK.pure (v := .bool false) (w_none rfl) rfl rfl (f_assign rfl rfl) ?_
                        refine EvK.nil ?_
                        refine WP.ret ?_
                        exact Ret.mk (vs := [.bool false]) false ⟨rfl, trivial⟩ rfl hF
                      · refine WP.cond_false _ rfl c6 ?_
                        refine WP.skip ?_
                        refine WP.seq ?_
                        refine WP.region ?_
                        refine EvK.pure (v := .pointer r3.1) (w_none rfl) rfl rfl (f_move rfl rfl) ?_
                        refine EvK.pure (v := Sl.val s5.1) (w_none rfl) rfl rfl (f_move rfl rfl) ?_
                        refine EvK.pure (v := .int .i64 s8) (w_none rfl) rfl rfl (f_move rfl rfl) ?_
                        obtain ⟨q3, hq3, hF⟩ := hF
                        refine EvK.pure (v := .pointer (some q3)) (w_none rfl) rfl rfl (f_indexAddr (s := s5.1) Try.underlying29 ty35.size rfl rfl rfl hq3) ?_
                        refine EvK.pure (v := .pointer (some (q3.add 0))) (w_none rfl) rfl rfl (f_fieldAddr fd35_0 rfl rfl) ?_
                        obtain ⟨x3, hx3, hF⟩ := hF
                        refine EvK.read (v := .int .i64 x3) (w_none rfl) rfl rfl (f_load (kI .i64) ty3 rfl rfl hx3 rfl) ?_
                        refine EvK.call (w_none rfl) rfl rfl (enterH Try.func17 rfl rfl rfl rfl (locks_Manager_Free.sound hF)) ?_
                        rintro _ h15 ⟨r7, rfl, hF⟩
                        refine EvK.pure (v := .tuple #[Sl.val r7.1, IF.val r7.2]) (w_none rfl) rfl rfl (f_move rfl rfl) ?_
                        refine EvK.pure (v := Sl.val r7.1) (w_none rfl) rfl rfl (f_extract (vs := #[Sl.val r7.1, IF.val r7.2]) rfl rfl rfl) ?_
                        refine EvK.pure (v := IF.val r7.2) (w_none rfl) rfl rfl (f_extract (vs := #[Sl.val r7.1, IF.val r7.2]) rfl rfl rfl) ?_
                        refine EvK.pure (v := Sl.val r7.1) (w_none rfl) rfl rfl (f_assign rfl rfl) ?_
                        refine EvK.pure (v := IF.val r7.2) (w_none rfl) rfl rfl (f_assign rfl rfl) ?_
                        refine EvK.nil ?_
                        refine WP.seq ?_
                        refine WP.seq ?_
                        refine WP.region ?_
                        refine EvK.pure (v := IF.val r7.2) (w_none rfl) rfl rfl (f_move rfl rfl) ?_
                        refine EvK.pure (v := .bool (!r7.2.isNone)) (w_none rfl) rfl rfl (f_ineqn (a := r7.2) Try.underlying37 rfl rfl) ?_
                        refine EvK.nil ?_
                        rcases ite_inv hF with ⟨c7, hF⟩ | ⟨c7, hF⟩
                        · refine WP.cond_true _ rfl c7 ?_
                          refine WP.seq ?_
                          refine WP.region ?_
                          refine EvK.pure (v := .bool false) (w_none rfl) rfl rfl (f_assign rfl rfl) ?_
                          refine EvK.nil ?_
                          refine WP.ret ?_
                          exact Ret.mk (vs := [.bool false]) false ⟨rfl, trivial⟩ rfl hF
                        · refine WP.cond_false _ rfl c7 ?_
                          refine WP.skip ?_
                          refine WP.seq ?_
                          refine WP.region ?_
                          refine EvK.pure (v := Sl.val s5.1) (w_none rfl) rfl rfl (f_move rfl rfl) ?_
                          refine EvK.pure (v := .int .i64 s8) (w_none rfl) rfl rfl (f_move rfl rfl) ?_
                          refine EvK.call (w_none rfl) rfl rfl (enterH Try.func18 rfl rfl rfl rfl (spatelaw11_without.sound hF)) ?_
                          rintro _ h16 ⟨r8, rfl, hF⟩
                          refine EvK.pure (v := Sl.val r8) (w_none rfl) rfl rfl (f_assign rfl rfl) ?_
                          refine EvK.nil ?_
                          refine WP.seq ?_
                          refine WP.region ?_
                          refine EvK.pure (v := Sl.val Sl.nil) (w_none rfl) rfl rfl (f_assign rfl rfl) ?_
                          refine EvK.nil ?_
                          refine WP.joinF (fun (s9 : Sl) => [(24, Sl.val s9), (9, .pointer r3.1), (11, Sl.val r8), (20, .int .i64 s5.2), (22, Sl.val r7.1)]) hF ?_ ?_
                          · intro s9 E0 h17 hF
                            refine WP.seq ?_
                            refine WP.region ?_
                            refine EvK.pure (v := Sl.val r7.1) (w_none rfl) rfl rfl (f_move rfl rfl) ?_
                            refine EvK.pure (v := Sl.val s9) (w_none rfl) rfl rfl (f_move rfl rfl) ?_
                            refine EvK.call (w_none rfl) rfl rfl (enterH Try.func19 rfl rfl rfl rfl (spatelaw11_SameInts.sound hF)) ?_
                            rintro _ h18 ⟨r9, rfl, hF⟩
                            refine EvK.pure (v := .bool (!r9)) (w_none rfl) rfl rfl (f_not rfl rfl) ?_
                            refine EvK.nil ?_
                            rcases ite_inv hF with ⟨c8, hF⟩ | ⟨c8, hF⟩
                            · refine WP.cond_true _ rfl c8 ?_
                              refine WP.seq ?_
                              refine WP.region ?_
                              refine EvK.pure (v := .bool false) (w_none rfl) rfl rfl (f_assign rfl rfl) ?_
                              refine EvK.nil ?_
                              refine WP.ret ?_
                              exact Ret.mk (vs := [.bool false]) false ⟨rfl, trivial⟩ rfl hF
                            · refine WP.cond_false _ rfl c8 ?_
                              refine WP.skip ?_
                              exact KE.mk r8 ⟨rfl, rfl, rfl, trivial⟩ hF
                          · intro k9 hF
                            refine WP.seq ?_
                            refine WP.region ?_
                            refine EvK.pure (v := .int .i64 0) (w_none rfl) rfl rfl (f_assign rfl rfl) ?_
                            refine EvK.nil ?_
                            refine WP.block ?_
                            refine WP.loopF (fun (s10 : Sl × Int) => [(24, Sl.val s10.1), (25, .int .i64 s10.2), (9, .pointer r3.1), (11, Sl.val r8), (20, .int .i64 s5.2), (22, Sl.val r7.1)]) hF ⟨rfl, rfl, rfl, rfl, rfl, rfl, trivial⟩ ?_
                            intro k10 s10 E0 h19 hF
                            refine WP.seq ?_
                            refine WP.seq ?_
                            refine WP.region ?_
                            refine EvK.pure (v := .int .i64 s10.2) (w_none rfl) rfl rfl (f_move rfl rfl) ?_
                            refine EvK.pure (v := Sl.val r8) (w_none rfl) rfl rfl (f_move rfl rfl) ?_
                            refine EvK.pure (v := .int .i64 (r8.len : Int)) (w_none rfl) rfl rfl (f_lenL (s := r8) Try.underlying29 rfl rfl) ?_
                            refine EvK.pure (v := .bool (decide (s10.2 < (r8.len : Int)))) (w_none rfl) rfl rfl (f_lss rfl rfl rfl) ?_
                            refine EvK.nil ?_
                            rcases ite_inv hF with ⟨c9, hF⟩ | ⟨c9, hF⟩
                            · refine WP.cond_true _ rfl c9 ?_
                              refine WP.skip ?_
                              refine WP.joinF (fun (s11 : Sl) => [(24, Sl.val s11), (9, .pointer r3.1), (11, Sl.val r8), (20, .int .i64 s5.2), (22, Sl.val r7.1), (25, .int .i64 s10.2)]) hF ?_ ?_
                              · intro s11 E0 h20 hF
                                refine WP.region ?_
                                refine EvK.pure (v := .int .i64 s10.2) (w_none rfl) rfl rfl (f_move rfl rfl) ?_
                                refine EvK.pure (v := .int .i64 (IntKind.i64.wrap (s10.2 + 1))) (w_none rfl) rfl rfl (f_add rfl rfl rfl) ?_
                                refine EvK.pure (v := .int .i64 (IntKind.i64.wrap (s10.2 + 1))) (w_none rfl) rfl rfl (f_assign rfl rfl) ?_
                                refine EvK.nil ?_
                                exact KE.mk (s11, IntKind.i64.wrap (s10.2 + 1)) ⟨rfl, rfl, rfl, rfl, rfl, rfl, trivial⟩ hF
                              · intro k11 hF
                                refine WP.block ?_
                                refine WP.seq ?_
                                refine WP.seq ?_
                                refine WP.region ?_
                                refine EvK.pure (v := Sl.val r8) (w_none rfl) rfl rfl (f_move rfl rfl) ?_
                                refine EvK.pure (v := .int .i64 s10.2) (w_none rfl) rfl rfl (f_move rfl rfl) ?_
                                obtain ⟨q4, hq4, hF⟩ := hF
                                refine EvK.pure (v := .pointer (some q4)) (w_none rfl) rfl rfl (f_indexAddr (s := r8) Try.underlying29 ty35.size rfl rfl rfl hq4) ?_
                                refine EvK.pure (v := .pointer (some (q4.add 2))) (w_none rfl) rfl rfl (f_fieldAddr fd35_2 rfl rfl) ?_
                                obtain ⟨x4, hx4, hF⟩ := hF
                                refine EvK.read (v := .bool x4) (w_none rfl) rfl rfl (f_load kB ty4 rfl rfl hx4 rfl) ?_
                                refine EvK.nil ?_
                                rcases ite_inv hF with ⟨c10, hF⟩ | ⟨c10, hF⟩
                                · refine WP.cond_true _ rfl c10 ?_
                                  refine WP.exit ?_
                                  exact KE.mk s10.1 ⟨rfl, rfl, rfl, rfl, rfl, rfl, trivial⟩ hF
                                · refine WP.cond_false _ rfl c10 ?_
                                  refine WP.skip ?_
                                  refine WP.seq ?_
                                  refine WP.region ?_
                                  refine EvK.pure (v := .bool false) (w_none rfl) rfl rfl (f_assign rfl rfl) ?_
                                  refine EvK.nil ?_
                                  refine WP.joinF (fun (s12 : Bool) => [(26, .bool s12), (9, .pointer r3.1), (11, Sl.val r8), (20, .int .i64 s5.2), (22, Sl.val r7.1), (24, Sl.val s10.1), (25, .int .i64 s10.2)]) hF ?_ ?_
                                  · intro s12 E0 h21 hF
                                    refine WP.seq ?_
                                    refine WP.region ?_
                                    refine EvK.pure (v := .bool s12) (w_none rfl) rfl rfl (f_move rfl rfl) ?_
                                    refine EvK.pure (v := .bool (!s12)) (w_none rfl) rfl rfl (f_not rfl rfl) ?_
                                    refine EvK.nil ?_
                                    rcases ite_inv hF with ⟨c11, hF⟩ | ⟨c11, hF⟩
                                    · refine WP.cond_true _ rfl c11 ?_
                                      refine WP.seq ?_
                                      refine WP.region ?_
                                      refine EvK.pure (v := Sl.val r8) (w_none rfl) rfl rfl (f_move rfl rfl) ?_
                                      refine EvK.pure (v := .int .i64 s10.2) (w_none rfl) rfl rfl (f_move rfl rfl) ?_
                                      obtain ⟨q5, hq5, hF⟩ := hF
                                      refine EvK.pure (v := .pointer (some q5)) (w_none rfl) rfl rfl (f_indexAddr (s := r8) Try.underlying29 ty35.size rfl rfl rfl hq5) ?_
                                      refine EvK.pure (v := .pointer (some (q5.add 2))) (w_none rfl) rfl rfl (f_fieldAddr fd35_2 rfl rfl) ?_
                                      obtain ⟨h22, hs1, hF⟩ := hF
                                      refine EvK.runN (w_none rfl) rfl (f_store kB ty4.size (z := true) rfl rfl rfl hs1) ?_
                                      rintro _ _ ⟨rfl, rfl⟩
                                      refine EvK.nil ?_
                                      refine WP.region ?_
                                      refine EvK.pure (v := Sl.val s10.1) (w_none rfl) rfl rfl (f_move rfl rfl) ?_
                                      refine EvK.pure (v := Sl.val r8) (w_none rfl) rfl rfl (f_move rfl rfl) ?_
                                      refine EvK.pure (v := .int .i64 s10.2) (w_none rfl) rfl rfl (f_move rfl rfl) ?_
                                      obtain ⟨q6, hq6, hF⟩ := hF
                                      refine EvK.pure (v := .pointer (some q6)) (w_none rfl) rfl rfl (f_indexAddr (s := r8) Try.underlying29 ty35.size rfl rfl rfl hq6) ?_
                                      refine EvK.pure (v := .pointer (some (q6.add 0))) (w_none rfl) rfl rfl (f_fieldAddr fd35_0 rfl rfl) ?_
                                      obtain ⟨x5, hx5, hF⟩ := hF
                                      refine EvK.read (v := .int .i64 x5) (w_none rfl) rfl rfl (f_load (kI .i64) ty3 rfl rfl hx5 rfl) ?_
                                      refine EvK.alloc (w_none rfl) rfl rfl (f_buildSliceF Try.underlying22 el3 (by decide) rfl rfl rfl hF) ?_
                                      rintro _ h23 ⟨x6, rfl, hF⟩
                                      refine EvK.run (w_none rfl) rfl rfl (f_appendE (s := s10.1) (x := x6) Try.underlying22 el3 rfl rfl rfl hF) ?_
                                      rintro _ h24 ⟨x7, rfl, hF⟩
                                      refine EvK.pure (v := Sl.val x7) (w_none rfl) rfl rfl (f_assign rfl rfl) ?_
                                      refine EvK.nil ?_
                                      exact KE.mk x7 ⟨rfl, rfl, rfl, rfl, rfl, rfl, trivial⟩ hF
                                    · refine WP.cond_false _ rfl c11 ?_
                                      refine WP.skip ?_
                                      exact KE.mk s10.1 ⟨rfl, rfl, rfl, rfl, rfl, rfl, trivial⟩ hF
                                  · intro k12 hF
                                    refine WP.seq ?_
                                    refine WP.region ?_
                                    refine EvK.pure (v := .int .i64 0) (w_none rfl) rfl rfl (f_assign rfl rfl) ?_
                                    refine EvK.nil ?_
                                    refine WP.block ?_
                                    refine WP.loopF (fun (s13 : Bool × Int) => [(26, .bool s13.1), (27, .int .i64 s13.2), (9, .pointer r3.1), (11, Sl.val r8), (20, .int .i64 s5.2), (22, Sl.val r7.1), (24, Sl.val s10.1), (25, .int .i64 s10.2)]) hF ⟨rfl, rfl, rfl, rfl, rfl, rfl, rfl, rfl, trivial⟩ ?_
                                    intro k13 s13 E0 h25 hF
                                    refine WP.seq ?_
                                    refine WP.seq ?_
                                    refine WP.region ?_
                                    refine EvK.pure (v := .int .i64 s13.2) (w_none rfl) rfl rfl (f_move rfl rfl) ?_
                                    refine EvK.pure (v := Sl.val r8) (w_none rfl) rfl rfl (f_move rfl rfl) ?_
                                    refine EvK.pure (v := .int .i64 (r8.len : Int)) (w_none rfl) rfl rfl (f_lenL (s := r8) Try.underlying29 rfl rfl) ?_
                                    refine EvK.pure (v := .bool (decide (s13.2 < (r8.len : Int)))) (w_none rfl) rfl rfl (f_lss rfl rfl rfl) ?_
                                    refine EvK.nil ?_
                                    rcases ite_inv hF with ⟨c12, hF⟩ | ⟨c12, hF⟩
                                    · refine WP.cond_true _ rfl c12 ?_
                                      refine WP.skip ?_
                                      refine WP.joinF (fun (s14 : Bool) => [(26, .bool s14), (9, .pointer r3.1), (11, Sl.val r8), (20, .int .i64 s5.2), (22, Sl.val r7.1), (24, Sl.val s10.1), (25, .int .i64 s10.2), (27, .int .i64 s13.2)]) hF ?_ ?_
                                      · intro s14 E0 h26 hF
                                        refine WP.region ?_
                                        refine EvK.pure (v := .int .i64 s13.2) (w_none rfl) rfl rfl (f_move rfl rfl) ?_
                                        refine EvK.pure (v := .int .i64 (IntKind.i64.wrap (s13.2 + 1))) (w_none rfl) rfl rfl (f_add rfl rfl rfl) ?_
                                        refine EvK.pure (v := .int .i64 (IntKind.i64.wrap (s13.2 + 1))) (w_none rfl) rfl rfl (f_assign rfl rfl) ?_
                                        refine EvK.nil ?_
                                        exact KE.mk (s14, IntKind.i64.wrap (s13.2 + 1)) ⟨rfl, rfl, rfl, rfl, rfl, rfl, rfl, rfl, trivial⟩ hF
                                      · intro k14 hF
                                        refine WP.block ?_
                                        refine WP.draw mixed [.pure, .pure, .pure, .pure, .pure, .pure, .pure, .pure, .pure, .pure, .read, .pure, .pure, .pure, .pure, .pure, .pure, .pure, .pure, .pure, .pure, .pure, .read, .pure, .pure, .pure, .pure, .read, .eff [], .pure, .pure, .pure] [[], [0], [0, 1], [0, 1], [0, 1, 2, 3], [0, 1, 2, 3, 4], [0, 1, 2, 3, 4, 5], [0, 1, 2, 3, 4, 5], [0, 1, 2, 3, 4, 5, 6, 7], [0, 1, 2, 3, 4, 5, 6, 7, 8], [0, 1, 2, 3, 4, 5, 6, 7, 8, 9], [0, 1, 2, 3, 4, 5, 6, 7, 8, 9, 10], [0, 1, 2, 3, 4, 5, 6, 7, 8, 9, 10, 11], [0, 1, 2, 3, 4, 5, 6, 7, 8, 9, 10, 11], [0, 1, 2, 3, 4, 5, 6, 7, 8, 9, 10, 11, 12, 13], [0, 1, 2, 3, 4, 5, 6, 7, 8, 9, 10, 11, 12, 13, 14], [0, 1, 2, 3, 4, 5, 6, 7, 8, 9, 10, 11, 12, 13, 14, 15], [0, 1, 2, 3, 4, 5, 6, 7, 8, 9, 10, 11, 12, 13, 14, 15, 16], [0, 1, 2, 3, 4, 5, 6, 7, 8, 9, 10, 11, 12, 13, 14, 15, 16, 17], [0, 1, 2, 3, 4, 5, 6, 7, 8, 9, 10, 11, 12, 13, 14, 15, 16, 17], [0, 1, 2, 3, 4, 5, 6, 7, 8, 9, 10, 11, 12, 13, 14, 15, 16, 17, 18, 19], [0, 1, 2, 3, 4, 5, 6, 7, 8, 9, 10, 11, 12, 13, 14, 15, 16, 17, 18, 19, 20], [0, 1, 2, 3, 4, 5, 6, 7, 8, 9, 10, 11, 12, 13, 14, 15, 16, 17, 18, 19, 20, 21], [0, 1, 2, 3, 4, 5, 6, 7, 8, 9, 10, 11, 12, 13, 14, 15, 16, 17], [0, 1, 2, 3, 4, 5, 6, 7, 8, 9, 10, 11, 12, 13, 14, 15, 16, 17], [0, 1, 2, 3, 4, 5, 6, 7, 8, 9, 10, 11, 12, 13, 14, 15, 16, 17, 23, 24], [0, 1, 2, 3, 4, 5, 6, 7, 8, 9, 10, 11, 12, 13, 14, 15, 16, 17, 23, 24, 25], [0, 1, 2, 3, 4, 5, 6, 7, 8, 9, 10, 11, 12, 13, 14, 15, 16, 17, 23, 24, 25, 26], [0, 1, 2, 3, 4, 5, 6, 7, 8, 9, 10, 11, 12, 13, 14, 15, 16, 17, 18, 19, 20, 21, 22, 23, 24, 25, 26, 27], [0, 1, 2, 3, 4, 5, 6, 7, 8, 9, 10, 11, 12, 13, 14, 15, 16, 17, 18, 19, 20, 21, 22, 23, 24, 25, 26, 27, 28], [0, 1, 2, 3, 4, 5, 6, 7, 8, 9, 10, 11, 12, 13, 14, 15, 16, 17, 18, 19, 20, 21, 22, 23, 24, 25, 26, 27, 28, 29], [0, 1, 2, 3, 4, 5, 6, 7, 8, 9, 10, 11, 12, 13, 14, 15, 16, 17, 18, 19, 20, 21, 22, 23, 24, 25, 26, 27, 28, 29, 30]] [0, 1, 2, 3, 4, 5, 6, 7, 8, 9, 10, 11, 12, 13, 14, 15, 16, 17, 18, 19, 20, 21, 22, 23, 24, 25, 26, 27, 28, 29, 30, 31] (by kernel_rfl) (by kernel_rfl) ?_
                                        refine EvI.pure (v := .bool s13.1) rfl rfl (w_none rfl) rfl (f_move rfl rfl) ?_
                                        refine EvI.pure (v := .bool s13.1) rfl rfl (w_none rfl) rfl (f_move rfl rfl) ?_
                                        rcases ite_inv hF with ⟨c13, hF⟩ | ⟨c13, hF⟩
                                        · refine EvI.not rfl (w_not rfl rfl c13) rfl ?_
                                          refine EvI.not rfl (w_not rfl rfl c13) rfl ?_
                                          refine EvI.not rfl (w_not rfl rfl c13) rfl ?_
                                          refine EvI.not rfl (w_not rfl rfl c13) rfl ?_
                                          refine EvI.not rfl (w_undef rfl rfl) rfl ?_
                                          refine EvI.not rfl (w_undef rfl rfl) rfl ?_
                                          refine EvI.not rfl (w_undef rfl rfl) rfl ?_
                                          refine EvI.not rfl (w_undef rfl rfl) rfl ?_
                                          refine EvI.not rfl (w_undef rfl rfl) rfl ?_
                                          refine EvI.not rfl (w_undef rfl rfl) rfl ?_
                                          refine EvI.not rfl (w_undef rfl rfl) rfl ?_
                                          refine EvI.not rfl (w_undef rfl rfl) rfl ?_
                                          refine EvI.not rfl (w_undef rfl rfl) rfl ?_
                                          refine EvI.not rfl (w_undef rfl rfl) rfl ?_
                                          refine EvI.not rfl (w_not rfl rfl c13) rfl ?_
                                          refine EvI.not rfl (w_not rfl rfl c13) rfl ?_
                                          refine EvI.not rfl (w_undef rfl rfl) rfl ?_
                                          refine EvI.not rfl (w_undef rfl rfl) rfl ?_
                                          refine EvI.not rfl (w_undef rfl rfl) rfl ?_
                                          refine EvI.not rfl (w_undef rfl rfl) rfl ?_
                                          refine EvI.not rfl (w_undef rfl rfl) rfl ?_
                                          refine EvI.not rfl (w_undef rfl rfl) rfl ?_
                                          refine EvI.not rfl (w_undef rfl rfl) rfl ?_
                                          refine EvI.not rfl (w_undef rfl rfl) rfl ?_
                                          refine EvI.not rfl (w_undef rfl rfl) rfl ?_
                                          refine EvI.not rfl (w_undef rfl rfl) rfl ?_
                                          refine EvI.not rfl (w_undef rfl rfl) rfl ?_
                                          refine EvI.not rfl (w_not rfl rfl c13) rfl ?_
                                          refine EvI.pure (v := .bool true) rfl rfl (w_none rfl) rfl (f_pickT rfl rfl c13 rfl) ?_
                                          refine EvI.pure (v := .bool true) rfl rfl (w_none rfl) rfl (f_assign rfl rfl) ?_
                                          refine EvI.nil ?_
                                          exact KE.mk true ⟨rfl, rfl, rfl, rfl, rfl, rfl, rfl, rfl, trivial⟩ hF
                                        · refine EvI.pure (v := .int .i64 s10.2) rfl rfl (w_some rfl rfl c13) rfl (f_move rfl rfl) ?_
                                          refine EvI.pure (v := .int .i64 s13.2) rfl rfl (w_some rfl rfl c13) rfl (f_move rfl rfl) ?_
                                          refine EvI.pure (v := .bool (s10.2 != s13.2)) rfl rfl (w_some rfl rfl c13) rfl (f_neq rfl rfl rfl) ?_
                                          refine EvI.pure (v := .bool (s10.2 != s13.2)) rfl rfl (w_some rfl rfl c13) rfl (f_move rfl rfl) ?_
                                          rcases ite_inv hF with ⟨c14, hF⟩ | ⟨c14, hF⟩
                                          · refine EvI.pure (v := Sl.val r8) rfl rfl (w_some rfl rfl c14) rfl (f_move rfl rfl) ?_
                                            refine EvI.pure (v := .int .i64 s13.2) rfl rfl (w_some rfl rfl c14) rfl (f_move rfl rfl) ?_
                                            obtain ⟨q7, hq7, hF⟩ := hF
                                            refine EvI.pure (v := .pointer (some q7)) rfl rfl (w_some rfl rfl c14) rfl (f_indexAddr (s := r8) Try.underlying29 ty35.size rfl rfl rfl hq7) ?_
                                            refine EvI.pure (v := .pointer (some (q7.add 2))) rfl rfl (w_some rfl rfl c14) rfl (f_fieldAddr fd35_2 rfl rfl) ?_
                                            obtain ⟨x8, hx6, hF⟩ := hF
                                            refine EvI.read (v := .bool x8) rfl rfl (w_some rfl rfl c14) rfl (f_load kB ty4 rfl rfl hx6 rfl) ?_
                                            refine EvI.pure (v := .bool x8) rfl rfl (w_some rfl rfl c14) rfl (f_move rfl rfl) ?_
                                            rcases ite_inv hF with ⟨c15, hF⟩ | ⟨c15, hF⟩
                                            · refine EvI.not rfl (w_not rfl rfl c15) rfl ?_
                                              refine EvI.not rfl (w_not rfl rfl c15) rfl ?_
                                              refine EvI.not rfl (w_not rfl rfl c15) rfl ?_
                                              refine EvI.pure (v := .bool true) rfl rfl (w_some rfl rfl c14) rfl (f_pickT rfl rfl c15 rfl) ?_
                                              refine EvI.pure (v := .bool true) rfl rfl (w_some rfl rfl c13) rfl (f_pickT rfl rfl c14 rfl) ?_
                                              refine EvI.pure (v := .bool true) rfl rfl (w_some rfl rfl c13) rfl (f_move rfl rfl) ?_
                                              refine EvI.pure (v := Sl.val r8) rfl rfl (w_some rfl rfl rfl) rfl (f_move rfl rfl) ?_
                                              refine EvI.pure (v := .int .i64 s13.2) rfl rfl (w_some rfl rfl rfl) rfl (f_move rfl rfl) ?_
                                              obtain ⟨q8, hq8, hF⟩ := hF
                                              refine EvI.pure (v := .pointer (some q8)) rfl rfl (w_some rfl rfl rfl) rfl (f_indexAddr (s := r8) Try.underlying29 ty35.size rfl rfl rfl hq8) ?_
                                              refine EvI.pure (v := .pointer (some (q8.add 1))) rfl rfl (w_some rfl rfl rfl) rfl (f_fieldAddr fd35_1 rfl rfl) ?_
                                              obtain ⟨x9, hx7, hF⟩ := hF
                                              refine EvI.read (v := Sl.val x9) rfl rfl (w_some rfl rfl rfl) rfl (f_load kL ty30 rfl rfl hx7 rfl) ?_
                                              refine EvI.pure (v := Sl.val r8) rfl rfl (w_some rfl rfl rfl) rfl (f_move rfl rfl) ?_
                                              refine EvI.pure (v := .int .i64 s10.2) rfl rfl (w_some rfl rfl rfl) rfl (f_move rfl rfl) ?_
                                              obtain ⟨q9, hq9, hF⟩ := hF
                                              refine EvI.pure (v := .pointer (some q9)) rfl rfl (w_some rfl rfl rfl) rfl (f_indexAddr (s := r8) Try.underlying29 ty35.size rfl rfl rfl hq9) ?_
                                              refine EvI.pure (v := .pointer (some (q9.add 1))) rfl rfl (w_some rfl rfl rfl) rfl (f_fieldAddr fd35_1 rfl rfl) ?_
                                              obtain ⟨x10, hx8, hF⟩ := hF
                                              refine EvI.read (v := Sl.val x10) rfl rfl (w_some rfl rfl rfl) rfl (f_load kL ty30 rfl rfl hx8 rfl) ?_
                                              refine EvI.call rfl rfl (w_some rfl rfl rfl) rfl (enterH Try.func13 rfl rfl rfl rfl (spatelaw11_meets.sound hF)) ?_
                                              rintro _ h27 ⟨r10, rfl, hF⟩
                                              refine ⟨⟨chk_no rfl, chk_no rfl, chk_no rfl, trivial⟩, ?_⟩
                                              refine EvI.pure (v := .bool r10) rfl rfl (w_some rfl rfl c13) rfl (f_pickT rfl rfl rfl rfl) ?_
                                              refine EvI.pure (v := .bool r10) rfl rfl (w_none rfl) rfl (f_pickF rfl rfl c13 rfl) ?_
                                              refine EvI.pure (v := .bool r10) rfl rfl (w_none rfl) rfl (f_assign rfl rfl) ?_
                                              refine EvI.nil ?_
                                              exact KE.mk r10 ⟨rfl, rfl, rfl, rfl, rfl, rfl, rfl, rfl, trivial⟩ hF
                                            · refine EvI.pure (v := .int .i64 s13.2) rfl rfl (w_some rfl rfl c15) rfl (f_move rfl rfl) ?_
                                              refine EvI.pure (v := .int .i64 s10.2) rfl rfl (w_some rfl rfl c15) rfl (f_move rfl rfl) ?_
                                              refine EvI.pure (v := .bool (decide (s13.2 < s10.2))) rfl rfl (w_some rfl rfl c15) rfl (f_lss rfl rfl rfl) ?_
                                              refine EvI.pure (v := .bool (decide (s13.2 < s10.2))) rfl rfl (w_some rfl rfl c14) rfl (f_pickF rfl rfl c15 rfl) ?_
                                              refine EvI.pure (v := .bool (decide (s13.2 < s10.2))) rfl rfl (w_some rfl rfl c13) rfl (f_pickT rfl rfl c14 rfl) ?_
                                              refine EvI.pure (v := .bool (decide (s13.2 < s10.2))) rfl rfl (w_some rfl rfl c13) rfl (f_move rfl rfl) ?_
                                              rcases ite_inv hF with ⟨c16, hF⟩ | ⟨c16, hF⟩
                                              · refine EvI.pure (v := Sl.val r8) rfl rfl (w_some rfl rfl c16) rfl (f_move rfl rfl) ?_
                                                refine EvI.pure (v := .int .i64 s13.2) rfl rfl (w_some rfl rfl c16) rfl (f_move rfl rfl) ?_
                                                obtain ⟨q10, hq10, hF⟩ := hF
                                                refine EvI.pure (v := .pointer (some q10)) rfl rfl (w_some rfl rfl c16) rfl (f_indexAddr (s := r8) Try.underlying29 ty35.size rfl rfl rfl hq10) ?_
                                                refine EvI.pure (v := .pointer (some (q10.add 1))) rfl rfl (w_some rfl rfl c16) rfl (f_fieldAddr fd35_1 rfl rfl) ?_
                                                obtain ⟨x11, hx9, hF⟩ := hF
                                                refine EvI.read (v := Sl.val x11) rfl rfl (w_some rfl rfl c16) rfl (f_load kL ty30 rfl rfl hx9 rfl) ?_
                                                refine EvI.pure (v := Sl.val r8) rfl rfl (w_some rfl rfl c16) rfl (f_move rfl rfl) ?_
                                                refine EvI.pure (v := .int .i64 s10.2) rfl rfl (w_some rfl rfl c16) rfl (f_move rfl rfl) ?_
                                                obtain ⟨q11, hq11, hF⟩ := hF
                                                refine EvI.pure (v := .pointer (some q11)) rfl rfl (w_some rfl rfl c16) rfl (f_indexAddr (s := r8) Try.underlying29 ty35.size rfl rfl rfl hq11) ?_
                                                refine EvI.pure (v := .pointer (some (q11.add 1))) rfl rfl (w_some rfl rfl c16) rfl (f_fieldAddr fd35_1 rfl rfl) ?_
                                                obtain ⟨x12, hx10, hF⟩ := hF
                                                refine EvI.read (v := Sl.val x12) rfl rfl (w_some rfl rfl c16) rfl (f_load kL ty30 rfl rfl hx10 rfl) ?_
                                                refine EvI.call rfl rfl (w_some rfl rfl c16) rfl (enterH Try.func13 rfl rfl rfl rfl (spatelaw11_meets.sound hF)) ?_
                                                rintro _ h28 ⟨r11, rfl, hF⟩
                                                refine ⟨⟨chk_no rfl, chk_no rfl, chk_no rfl, trivial⟩, ?_⟩
                                                refine EvI.pure (v := .bool r11) rfl rfl (w_some rfl rfl c13) rfl (f_pickT rfl rfl c16 rfl) ?_
                                                refine EvI.pure (v := .bool r11) rfl rfl (w_none rfl) rfl (f_pickF rfl rfl c13 rfl) ?_
                                                refine EvI.pure (v := .bool r11) rfl rfl (w_none rfl) rfl (f_assign rfl rfl) ?_
                                                refine EvI.nil ?_
                                                exact KE.mk r11 ⟨rfl, rfl, rfl, rfl, rfl, rfl, rfl, rfl, trivial⟩ hF
                                              · refine EvI.not rfl (w_not rfl rfl c16) rfl ?_
                                                refine EvI.not rfl (w_not rfl rfl c16) rfl ?_
                                                refine EvI.not rfl (w_not rfl rfl c16) rfl ?_
                                                refine EvI.not rfl (w_not rfl rfl c16) rfl ?_
                                                refine EvI.not rfl (w_not rfl rfl c16) rfl ?_
                                                refine EvI.not rfl (w_not rfl rfl c16) rfl ?_
                                                refine EvI.not rfl (w_not rfl rfl c16) rfl ?_
                                                refine EvI.not rfl (w_not rfl rfl c16) rfl ?_
                                                refine EvI.not rfl (w_not rfl rfl c16) rfl ?_
                                                refine EvI.not rfl (w_not rfl rfl c16) rfl ?_
                                                refine EvI.not rfl (w_not rfl rfl c16) rfl ?_
                                                refine EvI.pure (v := .bool false) rfl rfl (w_some rfl rfl c13) rfl (f_pickF rfl rfl c16 rfl) ?_
                                                refine EvI.pure (v := .bool false) rfl rfl (w_none rfl) rfl (f_pickF rfl rfl c13 rfl) ?_
                                                refine EvI.pure (v := .bool false) rfl rfl (w_none rfl) rfl (f_assign rfl rfl) ?_
                                                refine EvI.nil ?_
                                                exact KE.mk false ⟨rfl, rfl, rfl, rfl, rfl, rfl, rfl, rfl, trivial⟩ hF
                                          · refine EvI.not rfl (w_not rfl rfl c14) rfl ?_
                                            refine EvI.not rfl (w_not rfl rfl c14) rfl ?_
                                            refine EvI.not rfl (w_not rfl rfl c14) rfl ?_
                                            refine EvI.not rfl (w_not rfl rfl c14) rfl ?_
                                            refine EvI.not rfl (w_not rfl rfl c14) rfl ?_
                                            refine EvI.not rfl (w_not rfl rfl c14) rfl ?_
                                            refine EvI.not rfl (w_undef rfl rfl) rfl ?_
                                            refine EvI.not rfl (w_undef rfl rfl) rfl ?_
                                            refine EvI.not rfl (w_undef rfl rfl) rfl ?_
                                            refine EvI.not rfl (w_not rfl rfl c14) rfl ?_
                                            refine EvI.pure (v := .bool false) rfl rfl (w_some rfl rfl c13) rfl (f_pickF rfl rfl c14 rfl) ?_
                                            refine EvI.pure (v := .bool false) rfl rfl (w_some rfl rfl c13) rfl (f_move rfl rfl) ?_
                                            refine EvI.not rfl (w_not rfl rfl rfl) rfl ?_
                                            refine EvI.not rfl (w_not rfl rfl rfl) rfl ?_
                                            refine EvI.not rfl (w_not rfl rfl rfl) rfl ?_
                                            refine EvI.not rfl (w_not rfl rfl rfl) rfl ?_
                                            refine EvI.not rfl (w_not rfl rfl rfl) rfl ?_
                                            refine EvI.not rfl (w_not rfl rfl rfl) rfl ?_
                                            refine EvI.not rfl (w_not rfl rfl rfl) rfl ?_
                                            refine EvI.not rfl (w_not rfl rfl rfl) rfl ?_
                                            refine EvI.not rfl (w_not rfl rfl rfl) rfl ?_
                                            refine EvI.not rfl (w_not rfl rfl rfl) rfl ?_
                                            refine EvI.not rfl (w_not rfl rfl rfl) rfl ?_
                                            refine EvI.pure (v := .bool false) rfl rfl (w_some rfl rfl c13) rfl (f_pickF rfl rfl rfl rfl) ?_
                                            refine EvI.pure (v := .bool false) rfl rfl (w_none rfl) rfl (f_pickF rfl rfl c13 rfl) ?_
                                            refine EvI.pure (v := .bool false) rfl rfl (w_none rfl) rfl (f_assign rfl rfl) ?_
                                            refine EvI.nil ?_
                                            exact KE.mk false ⟨rfl, rfl, rfl, rfl, rfl, rfl, rfl, rfl, trivial⟩ hF
                                    · refine WP.cond_false _ rfl c12 ?_
                                      refine WP.exit ?_
                                      exact KE.mk s13.1 ⟨rfl, rfl, rfl, rfl, rfl, rfl, rfl, trivial⟩ hF
                            · refine WP.cond_false _ rfl c9 ?_
                              refine WP.exit ?_
                              exact KE.mk s10.1 ⟨rfl, rfl, rfl, rfl, rfl, trivial⟩ hF
                    · intro k8 hF
                      refine WP.block ?_
                      refine WP.loopF (fun (s15 : Int) => [(21, .int .i64 s15), (9, .pointer r3.1), (11, Sl.val s5.1), (20, .int .i64 s5.2)]) hF ⟨rfl, rfl, rfl, rfl, trivial⟩ ?_
                      intro k15 s15 E0 h29 hF
                      refine WP.seq ?_
                      refine WP.seq ?_
                      refine WP.region ?_
                      refine EvK.pure (v := Sl.val s5.1) (w_none rfl) rfl rfl (f_move rfl rfl) ?_
                      refine EvK.pure (v := .int .i64 s15) (w_none rfl) rfl rfl (f_move rfl rfl) ?_
                      obtain ⟨q12, hq12, hF⟩ := hF
                      refine EvK.pure (v := .pointer (some q12)) (w_none rfl) rfl rfl (f_indexAddr (s := s5.1) Try.underlying29 ty35.size rfl rfl rfl hq12) ?_
                      refine EvK.pure (v := .pointer (some (q12.add 2))) (w_none rfl) rfl rfl (f_fieldAddr fd35_2 rfl rfl) ?_
                      obtain ⟨x13, hx11, hF⟩ := hF
                      refine EvK.read (v := .bool x13) (w_none rfl) rfl rfl (f_load kB ty4 rfl rfl hx11 rfl) ?_
                      refine EvK.pure (v := .bool (!x13)) (w_none rfl) rfl rfl (f_not rfl rfl) ?_
                      refine EvK.nil ?_
                      rcases ite_inv hF with ⟨c17, hF⟩ | ⟨c17, hF⟩
                      · refine WP.cond_true _ rfl c17 ?_
                        refine WP.skip ?_
                        refine WP.block ?_
                        refine WP.seq ?_
                        refine WP.region ?_
                        refine EvK.pure (v := .int .i64 s15) (w_none rfl) rfl rfl (f_move rfl rfl) ?_
                        refine EvK.pure (v := .int .i64 (IntKind.i64.wrap (s15 + 1))) (w_none rfl) rfl rfl (f_add rfl rfl rfl) ?_
                        refine EvK.pure (v := .int .i64 (IntKind.i64.wrap (s15 + 1))) (w_none rfl) rfl rfl (f_assign rfl rfl) ?_
                        refine EvK.nil ?_
                        refine WP.seq ?_
                        refine WP.region ?_
                        refine EvK.pure (v := .int .i64 (IntKind.i64.wrap (s15 + 1))) (w_none rfl) rfl rfl (f_move rfl rfl) ?_
                        refine EvK.pure (v := Sl.val s5.1) (w_none rfl) rfl rfl (f_move rfl rfl) ?_
                        refine EvK.pure (v := .int .i64 (s5.1.len : Int)) (w_none rfl) rfl rfl (f_lenL (s := s5.1) Try.underlying29 rfl rfl) ?_
                        refine EvK.pure (v := .bool ((IntKind.i64.wrap (s15 + 1)) == (s5.1.len : Int))) (w_none rfl) rfl rfl (f_eql rfl rfl rfl) ?_
                        refine EvK.nil ?_
                        rcases ite_inv hF with ⟨c18, hF⟩ | ⟨c18, hF⟩
                        · refine WP.cond_true _ rfl c18 ?_
                          refine WP.seq ?_
                          refine WP.region ?_
                          refine EvK.pure (v := .bool false) (w_none rfl) rfl rfl (f_assign rfl rfl) ?_
                          refine EvK.nil ?_
                          refine WP.ret ?_
                          exact Ret.mk (vs := [.bool false]) false ⟨rfl, trivial⟩ rfl hF
                        · refine WP.cond_false _ rfl c18 ?_
                          refine WP.skip ?_
                          exact KE.mk (IntKind.i64.wrap (s15 + 1)) ⟨rfl, rfl, rfl, rfl, trivial⟩ hF
                      · refine WP.cond_false _ rfl c17 ?_
                        refine WP.exit ?_
                        exact KE.mk s15 ⟨rfl, rfl, rfl, rfl, trivial⟩ hF
                · refine WP.cond_false _ rfl c5 ?_
                  refine WP.exit ?_
                  exact KE.mk s5.1 ⟨rfl, rfl, trivial⟩ hF
              · intro k6 hF
                refine WP.region ?_
                refine EvK.pure (v := Sl.val s5.1) (w_none rfl) rfl rfl (f_move rfl rfl) ?_
                refine EvK.pure (v := .int .i64 (s5.1.len : Int)) (w_none rfl) rfl rfl (f_lenL (s := s5.1) Try.underlying29 rfl rfl) ?_
                refine EvK.pure (v := .bool (decide ((s5.1.len : Int) > 0))) (w_none rfl) rfl rfl (f_gtr rfl rfl rfl) ?_
                refine EvK.pure (v := .bool (decide ((s5.1.len : Int) > 0))) (w_none rfl) rfl rfl (f_move rfl rfl) ?_
                rcases ite_inv hF with ⟨c19, hF⟩ | ⟨c19, hF⟩
                · refine EvK.pure (v := .int .i64 s5.2) (w_some rfl rfl c19) rfl rfl (f_move rfl rfl) ?_
                  refine EvK.pure (v := .bool (decide (s5.2 < 50))) (w_some rfl rfl c19) rfl rfl (f_lss rfl rfl rfl) ?_
                  refine EvK.pure (v := .bool (decide (s5.2 < 50))) (w_none rfl) rfl rfl (f_pickT rfl rfl c19 rfl) ?_
                  refine EvK.nil ?_
                  exact KE.mk (decide (s5.2 < 50)) ⟨rfl, rfl, rfl, rfl, trivial⟩ hF
                · refine EvK.not (w_not rfl rfl c19) rfl rfl ?_
                  refine EvK.not (w_not rfl rfl c19) rfl rfl ?_
                  refine EvK.pure (v := .bool false) (w_none rfl) rfl rfl (f_pickF rfl rfl c19 rfl) ?_
                  refine EvK.nil ?_
                  exact KE.mk false ⟨rfl, rfl, rfl, rfl, trivial⟩ hF
          · intro k2 hF
            refine WP.seq ?_
            refine WP.region ?_
            refine EvK.pure (v := .int .i64 0) (w_none rfl) rfl rfl (f_assign rfl rfl) ?_
            refine EvK.nil ?_
            refine WP.block ?_
            refine WP.loopF (fun (s16 : Sl × Int) => [(11, Sl.val s16.1), (12, .int .i64 s16.2), (0, .int .i64 (IntKind.i64.wrap (1 + r2))), (1, Sl.val a1), (2, Sl.val a2), (3, Sl.val a3), (9, .pointer r3.1)]) hF ⟨rfl, rfl, rfl, rfl, rfl, rfl, rfl, trivial⟩ ?_
            intro k16 s16 E0 h30 hF
            refine WP.seq ?_
            refine WP.joinF (fun (s17 : Bool) => [(60, .bool s17), (0, .int .i64 (IntKind.i64.wrap (1 + r2))), (1, Sl.val a1), (2, Sl.val a2), (3, Sl.val a3), (9, .pointer r3.1), (11, Sl.val s16.1), (12, .int .i64 s16.2)]) hF ?_ ?_
            · intro s17 E0 h31 hF
              rcases ite_inv hF with ⟨c20, hF⟩ | ⟨c20, hF⟩
              · refine WP.cond_true _ rfl c20 ?_
                refine WP.skip ?_
                refine WP.joinF (fun (s18 : Sl) => [(11, Sl.val s18), (0, .int .i64 (IntKind.i64.wrap (1 + r2))), (1, Sl.val a1), (2, Sl.val a2), (3, Sl.val a3), (9, .pointer r3.1), (12, .int .i64 s16.2)]) hF ?_ ?_
                · intro s18 E0 h32 hF
                  refine WP.region ?_
                  refine EvK.pure (v := .int .i64 s16.2) (w_none rfl) rfl rfl (f_move rfl rfl) ?_
                  refine EvK.pure (v := .int .i64 (IntKind.i64.wrap (s16.2 + 1))) (w_none rfl) rfl rfl (f_add rfl rfl rfl) ?_
                  refine EvK.pure (v := .int .i64 (IntKind.i64.wrap (s16.2 + 1))) (w_none rfl) rfl rfl (f_assign rfl rfl) ?_
                  refine EvK.nil ?_
                  exact KE.mk (s18, IntKind.i64.wrap (s16.2 + 1)) ⟨rfl, rfl, rfl, rfl, rfl, rfl, rfl, trivial⟩ hF
                · intro k18 hF
                  refine WP.block ?_
                  refine WP.seq ?_
                  refine WP.region ?_
                  refine EvK.pure (v := Sl.val a2) (w_none rfl) rfl rfl (f_move rfl rfl) ?_
                  refine EvK.pure (v := .int .i64 s16.2) (w_none rfl) rfl rfl (f_move rfl rfl) ?_
                  refine EvK.pure (v := Sl.val a2) (w_none rfl) rfl rfl (f_move rfl rfl) ?_
                  refine EvK.pure (v := .int .i64 (a2.len : Int)) (w_none rfl) rfl rfl (f_lenL (s := a2) Try.underlying22 rfl rfl) ?_
                  obtain ⟨x14, hx12, hF⟩ := hF
                  refine EvK.pure (v := .int .i64 x14) (w_none rfl) rfl rfl (f_rem rfl rfl rfl hx12) ?_
                  obtain ⟨q13, hq13, hF⟩ := hF
                  refine EvK.pure (v := .pointer (some q13)) (w_none rfl) rfl rfl (f_indexAddr (s := a2) Try.underlying22 ty3.size rfl rfl rfl hq13) ?_
                  obtain ⟨x15, hx13, hF⟩ := hF
                  refine EvK.read (v := .int .i64 x15) (w_none rfl) rfl rfl (f_load (kI .i64) ty3 rfl rfl hx13 rfl) ?_
                  refine EvK.call (w_none rfl) rfl rfl (enterH Try.func11 rfl rfl rfl rfl (spatelaw11_within.sound hF)) ?_
                  rintro _ h33 ⟨r18, rfl, hF⟩
                  refine EvK.pure (v := .int .i64 (IntKind.i64.wrap (1 + r18))) (w_none rfl) rfl rfl (f_add rfl rfl rfl) ?_
                  refine EvK.pure (v := .int .i64 (IntKind.i64.wrap (1 + r18))) (w_none rfl) rfl rfl (f_assign rfl rfl) ?_
                  refine EvK.nil ?_
                  refine WP.seq ?_
                  refine WP.region ?_
                  refine EvK.pure (v := Sl.val Sl.nil) (w_none rfl) rfl rfl (f_assign rfl rfl) ?_
                  refine EvK.nil ?_
                  refine WP.joinF (fun (s19 : Sl) => [(14, Sl.val s19), (0, .int .i64 (IntKind.i64.wrap (1 + r2))), (1, Sl.val a1), (2, Sl.val a2), (3, Sl.val a3), (9, .pointer r3.1), (11, Sl.val s16.1), (12, .int .i64 s16.2)]) hF ?_ ?_
                  · intro s19 E0 h34 hF
                    refine WP.seq ?_
                    refine WP.region ?_
                    refine EvK.pure (v := .bool false) (w_none rfl) rfl rfl (f_assign rfl rfl) ?_
                    refine EvK.nil ?_
                    refine WP.joinF (fun (s20 : Bool) => [(16, .bool s20), (0, .int .i64 (IntKind.i64.wrap (1 + r2))), (1, Sl.val a1), (2, Sl.val a2), (3, Sl.val a3), (9, .pointer r3.1), (11, Sl.val s16.1), (12, .int .i64 s16.2), (14, Sl.val s19)]) hF ?_ ?_
                    · intro s20 E0 h35 hF
                      refine WP.seq ?_
                      refine WP.region ?_
                      refine EvK.pure (v := .pointer r3.1) (w_none rfl) rfl rfl (f_move rfl rfl) ?_
                      refine EvK.pure (v := .int .i64 s16.2) (w_none rfl) rfl rfl (f_move rfl rfl) ?_
                      refine EvK.pure (v := .int .i64 (IntKind.i64.wrap (1000 + s16.2))) (w_none rfl) rfl rfl (f_add rfl rfl rfl) ?_
                      refine EvK.pure (v := Sl.val s19) (w_none rfl) rfl rfl (f_move rfl rfl) ?_
                      refine EvK.call (w_none rfl) rfl rfl (enterH Try.func14 rfl rfl rfl rfl (locks_Manager_Ask.sound hF)) ?_
                      rintro _ h36 ⟨r19, rfl, hF⟩
                      refine EvK.pure (v := .tuple #[.bool r19.1, IF.val r19.2]) (w_none rfl) rfl rfl (f_move rfl rfl) ?_
                      refine EvK.pure (v := .bool r19.1) (w_none rfl) rfl rfl (f_extract (vs := #[.bool r19.1, IF.val r19.2]) rfl rfl rfl) ?_
                      refine EvK.pure (v := IF.val r19.2) (w_none rfl) rfl rfl (f_extract (vs := #[.bool r19.1, IF.val r19.2]) rfl rfl rfl) ?_
                      refine EvK.pure (v := .bool r19.1) (w_none rfl) rfl rfl (f_assign rfl rfl) ?_
                      refine EvK.pure (v := IF.val r19.2) (w_none rfl) rfl rfl (f_assign rfl rfl) ?_
                      refine EvK.nil ?_
                      refine WP.seq ?_
                      refine WP.joinF (fun (s21 : Bool) => [(128, .bool s21), (0, .int .i64 (IntKind.i64.wrap (1 + r2))), (1, Sl.val a1), (2, Sl.val a2), (3, Sl.val a3), (9, .pointer r3.1), (11, Sl.val s16.1), (12, .int .i64 s16.2), (14, Sl.val s19), (18, .bool r19.1)]) hF ?_ ?_
                      · intro s21 E0 h37 hF
                        rcases ite_inv hF with ⟨c21, hF⟩ | ⟨c21, hF⟩
                        · refine WP.cond_true _ rfl c21 ?_
                          refine WP.seq ?_
                          refine WP.region ?_
                          refine EvK.pure (v := .bool false) (w_none rfl) rfl rfl (f_assign rfl rfl) ?_
                          refine EvK.nil ?_
                          refine WP.ret ?_
                          exact Ret.mk (vs := [.bool false]) false ⟨rfl, trivial⟩ rfl hF
                        · refine WP.cond_false _ rfl c21 ?_
                          refine WP.skip ?_
                          refine WP.region ?_
                          refine EvK.pure (v := Sl.val s16.1) (w_none rfl) rfl rfl (f_move rfl rfl) ?_
                          refine EvK.pure (v := .int .i64 s16.2) (w_none rfl) rfl rfl (f_move rfl rfl) ?_
                          refine EvK.pure (v := .int .i64 (IntKind.i64.wrap (1000 + s16.2))) (w_none rfl) rfl rfl (f_add rfl rfl rfl) ?_
                          refine EvK.pure (v := Sl.val s19) (w_none rfl) rfl rfl (f_move rfl rfl) ?_
                          refine EvK.pure (v := .bool r19.1) (w_none rfl) rfl rfl (f_move rfl rfl) ?_
                          refine EvK.pure (v := k34.val (S34.mk (IntKind.i64.wrap (1000 + s16.2)) s19 r19.1)) (w_none rfl) rfl rfl (f_build (cells := k34.enc (S34.mk (IntKind.i64.wrap (1000 + s16.2)) s19 r19.1)) st35 rfl rfl rfl) ?_
                          refine EvK.alloc (w_none rfl) rfl rfl (f_buildSliceF Try.underlying29 el35 (by decide) rfl rfl rfl hF) ?_
                          rintro _ h38 ⟨x16, rfl, hF⟩
                          refine EvK.run (w_none rfl) rfl rfl (f_appendE (s := s16.1) (x := x16) Try.underlying29 el35 rfl rfl rfl hF) ?_
                          rintro _ h39 ⟨x17, rfl, hF⟩
                          refine EvK.pure (v := Sl.val x17) (w_none rfl) rfl rfl (f_assign rfl rfl) ?_
                          refine EvK.nil ?_
                          exact KE.mk x17 ⟨rfl, rfl, rfl, rfl, rfl, rfl, rfl, trivial⟩ hF
                      · intro k21 hF
                        refine WP.region ?_
                        refine EvK.pure (v := IF.val r19.2) (w_none rfl) rfl rfl (f_move rfl rfl) ?_
                        refine EvK.pure (v := .bool (!r19.2.isNone)) (w_none rfl) rfl rfl (f_ineqn (a := r19.2) Try.underlying37 rfl rfl) ?_
                        refine EvK.pure (v := .bool (!r19.2.isNone)) (w_none rfl) rfl rfl (f_move rfl rfl) ?_
                        rcases ite_inv hF with ⟨c22, hF⟩ | ⟨c22, hF⟩
                        · refine EvK.not (w_not rfl rfl c22) rfl rfl ?_
                          refine EvK.not (w_not rfl rfl c22) rfl rfl ?_
                          refine EvK.not (w_not rfl rfl c22) rfl rfl ?_
                          refine EvK.pure (v := .bool true) (w_none rfl) rfl rfl (f_pickT rfl rfl c22 rfl) ?_
                          refine EvK.nil ?_
                          exact KE.mk true ⟨rfl, rfl, rfl, rfl, rfl, rfl, rfl, rfl, rfl, rfl, trivial⟩ hF
                        · refine EvK.pure (v := .bool r19.1) (w_some rfl rfl c22) rfl rfl (f_move rfl rfl) ?_
                          refine EvK.pure (v := .bool s20) (w_some rfl rfl c22) rfl rfl (f_move rfl rfl) ?_
                          refine EvK.pure (v := .bool (r19.1 == s20)) (w_some rfl rfl c22) rfl rfl (f_beql Try.underlying4 rfl rfl rfl) ?_
                          refine EvK.pure (v := .bool (r19.1 == s20)) (w_none rfl) rfl rfl (f_pickF rfl rfl c22 rfl) ?_
                          refine EvK.nil ?_
                          exact KE.mk (r19.1 == s20) ⟨rfl, rfl, rfl, rfl, rfl, rfl, rfl, rfl, rfl, rfl, trivial⟩ hF
                    · intro k20 hF
                      refine WP.seq ?_
                      refine WP.region ?_
                      refine EvK.pure (v := .int .i64 0) (w_none rfl) rfl rfl (f_assign rfl rfl) ?_
                      refine EvK.nil ?_
                      refine WP.block ?_
                      refine WP.loopF (fun (s22 : Bool × Int) => [(16, .bool s22.1), (17, .int .i64 s22.2), (0, .int .i64 (IntKind.i64.wrap (1 + r2))), (1, Sl.val a1), (2, Sl.val a2), (3, Sl.val a3), (9, .pointer r3.1), (11, Sl.val s16.1), (12, .int .i64 s16.2), (14, Sl.val s19)]) hF ⟨rfl, rfl, rfl, rfl, rfl, rfl, rfl, rfl, rfl, rfl, trivial⟩ ?_
                      intro k22 s22 E0 h40 hF
                      refine WP.seq ?_
                      refine WP.seq ?_
                      refine WP.region ?_
                      refine EvK.pure (v := .int .i64 s22.2) (w_none rfl) rfl rfl (f_move rfl rfl) ?_
                      refine EvK.pure (v := Sl.val s16.1) (w_none rfl) rfl rfl (f_move rfl rfl) ?_
                      refine EvK.pure (v := .int .i64 (s16.1.len : Int)) (w_none rfl) rfl rfl (f_lenL (s := s16.1) Try.underlying29 rfl rfl) ?_
                      refine EvK.pure (v := .bool (decide (s22.2 < (s16.1.len : Int)))) (w_none rfl) rfl rfl (f_lss rfl rfl rfl) ?_
                      refine EvK.nil ?_
                      rcases ite_inv hF with ⟨c23, hF⟩ | ⟨c23, hF⟩
                      · refine WP.cond_true _ rfl c23 ?_
                        refine WP.skip ?_
                        refine WP.joinF (fun (s23 : Bool) => [(16, .bool s23), (0, .int .i64 (IntKind.i64.wrap (1 + r2))), (1, Sl.val a1), (2, Sl.val a2), (3, Sl.val a3), (9, .pointer r3.1), (11, Sl.val s16.1), (12, .int .i64 s16.2), (14, Sl.val s19), (17, .int .i64 s22.2)]) hF ?_ ?_
                        · intro s23 E0 h41 hF
                          refine WP.region ?_
                          refine EvK.pure (v := .int .i64 s22.2) (w_none rfl) rfl rfl (f_move rfl rfl) ?_
                          refine EvK.pure (v := .int .i64 (IntKind.i64.wrap (s22.2 + 1))) (w_none rfl) rfl rfl (f_add rfl rfl rfl) ?_
                          refine EvK.pure (v := .int .i64 (IntKind.i64.wrap (s22.2 + 1))) (w_none rfl) rfl rfl (f_assign rfl rfl) ?_
                          refine EvK.nil ?_
                          exact KE.mk (s23, IntKind.i64.wrap (s22.2 + 1)) ⟨rfl, rfl, rfl, rfl, rfl, rfl, rfl, rfl, rfl, rfl, trivial⟩ hF
                        · intro k23 hF
                          refine WP.block ?_
                          refine WP.region ?_
                          refine EvK.pure (v := .bool s22.1) (w_none rfl) rfl rfl (f_move rfl rfl) ?_
                          refine EvK.pure (v := .bool s22.1) (w_none rfl) rfl rfl (f_move rfl rfl) ?_
                          rcases ite_inv hF with ⟨c24, hF⟩ | ⟨c24, hF⟩
                          · refine EvK.not (w_not rfl rfl c24) rfl rfl ?_
                            refine EvK.not (w_not rfl rfl c24) rfl rfl ?_
                            refine EvK.not (w_not rfl rfl c24) rfl rfl ?_
                            refine EvK.not (w_not rfl rfl c24) rfl rfl ?_
                            refine EvK.not (w_not rfl rfl c24) rfl rfl ?_
                            refine EvK.not (w_not rfl rfl c24) rfl rfl ?_
                            refine EvK.not (w_not rfl rfl c24) rfl rfl ?_
                            refine EvK.pure (v := .bool true) (w_none rfl) rfl rfl (f_pickT rfl rfl c24 rfl) ?_
                            refine EvK.pure (v := .bool true) (w_none rfl) rfl rfl (f_assign rfl rfl) ?_
                            refine EvK.nil ?_
                            exact KE.mk true ⟨rfl, rfl, rfl, rfl, rfl, rfl, rfl, rfl, rfl, rfl, trivial⟩ hF
                          · refine EvK.pure (v := Sl.val s16.1) (w_some rfl rfl c24) rfl rfl (f_move rfl rfl) ?_
                            refine EvK.pure (v := .int .i64 s22.2) (w_some rfl rfl c24) rfl rfl (f_move rfl rfl) ?_
                            obtain ⟨q14, hq14, hF⟩ := hF
                            refine EvK.pure (v := .pointer (some q14)) (w_some rfl rfl c24) rfl rfl (f_indexAddr (s := s16.1) Try.underlying29 ty35.size rfl rfl rfl hq14) ?_
                            refine EvK.pure (v := .pointer (some (q14.add 1))) (w_some rfl rfl c24) rfl rfl (f_fieldAddr fd35_1 rfl rfl) ?_
                            obtain ⟨x18, hx14, hF⟩ := hF
                            refine EvK.read (v := Sl.val x18) (w_some rfl rfl c24) rfl rfl (f_load kL ty30 rfl rfl hx14 rfl) ?_
                            refine EvK.pure (v := Sl.val s19) (w_some rfl rfl c24) rfl rfl (f_move rfl rfl) ?_
                            refine EvK.call (w_some rfl rfl c24) rfl rfl (enterH Try.func13 rfl rfl rfl rfl (spatelaw11_meets.sound hF)) ?_
                            rintro _ h42 ⟨r20, rfl, hF⟩
                            refine EvK.pure (v := .bool r20) (w_none rfl) rfl rfl (f_pickF rfl rfl c24 rfl) ?_
                            refine EvK.pure (v := .bool r20) (w_none rfl) rfl rfl (f_assign rfl rfl) ?_
                            refine EvK.nil ?_
                            exact KE.mk r20 ⟨rfl, rfl, rfl, rfl, rfl, rfl, rfl, rfl, rfl, rfl, trivial⟩ hF
                      · refine WP.cond_false _ rfl c23 ?_
                        refine WP.exit ?_
                        exact KE.mk s22.1 ⟨rfl, rfl, rfl, rfl, rfl, rfl, rfl, rfl, rfl, trivial⟩ hF
                  · intro k19 hF
                    refine WP.seq ?_
                    refine WP.region ?_
                    refine EvK.pure (v := Sl.val a1) (w_none rfl) rfl rfl (f_move rfl rfl) ?_
                    refine EvK.pure (v := .int .i64 s16.2) (w_none rfl) rfl rfl (f_move rfl rfl) ?_
                    obtain ⟨q15, hq15, hF⟩ := hF
                    refine EvK.pure (v := .pointer (some q15)) (w_none rfl) rfl rfl (f_indexAddr (s := a1) Try.underlying22 ty3.size rfl rfl rfl hq15) ?_
                    obtain ⟨x19, hx15, hF⟩ := hF
                    refine EvK.read (v := .int .i64 x19) (w_none rfl) rfl rfl (f_load (kI .i64) ty3 rfl rfl hx15 rfl) ?_
                    refine EvK.pure (v := .int .i64 (IntKind.i64.wrap (1 + r2))) (w_none rfl) rfl rfl (f_move rfl rfl) ?_
                    refine EvK.call (w_none rfl) rfl rfl (enterH Try.func11 rfl rfl rfl rfl (spatelaw11_within.sound hF)) ?_
                    rintro _ h43 ⟨r22, rfl, hF⟩
                    refine EvK.pure (v := .int .i64 r22) (w_none rfl) rfl rfl (f_assign rfl rfl) ?_
                    refine EvK.nil ?_
                    refine WP.block ?_
                    refine WP.loopF (fun (s24 : Sl × Int) => [(14, Sl.val s24.1), (15, .int .i64 s24.2), (0, .int .i64 (IntKind.i64.wrap (1 + r2))), (1, Sl.val a1), (2, Sl.val a2), (3, Sl.val a3), (9, .pointer r3.1), (11, Sl.val s16.1), (12, .int .i64 s16.2), (13, .int .i64 (IntKind.i64.wrap (1 + r18)))]) hF ⟨rfl, rfl, rfl, rfl, rfl, rfl, rfl, rfl, rfl, rfl, trivial⟩ ?_
                    intro k24 s24 E0 h44 hF
                    refine WP.seq ?_
                    refine WP.seq ?_
                    refine WP.region ?_
                    refine EvK.pure (v := .int .i64 s24.2) (w_none rfl) rfl rfl (f_move rfl rfl) ?_
                    refine EvK.pure (v := .int .i64 (IntKind.i64.wrap (1 + r2))) (w_none rfl) rfl rfl (f_move rfl rfl) ?_
                    refine EvK.pure (v := .bool (decide (s24.2 < (IntKind.i64.wrap (1 + r2))))) (w_none rfl) rfl rfl (f_lss rfl rfl rfl) ?_
                    refine EvK.nil ?_
                    rcases ite_inv hF with ⟨c25, hF⟩ | ⟨c25, hF⟩
                    · refine WP.cond_true _ rfl c25 ?_
                      refine WP.skip ?_
                      refine WP.seq ?_
                      refine WP.block ?_
                      refine WP.region ?_
                      refine EvK.pure (v := Sl.val s24.1) (w_none rfl) rfl rfl (f_move rfl rfl) ?_
                      refine EvK.pure (v := .int .i64 s24.2) (w_none rfl) rfl rfl (f_move rfl rfl) ?_
                      refine EvK.pure (v := Sl.val a3) (w_none rfl) rfl rfl (f_move rfl rfl) ?_
                      refine EvK.pure (v := .int .i64 s16.2) (w_none rfl) rfl rfl (f_move rfl rfl) ?_
                      refine EvK.pure (v := Sl.val a3) (w_none rfl) rfl rfl (f_move rfl rfl) ?_
                      refine EvK.pure (v := .int .i64 (a3.len : Int)) (w_none rfl) rfl rfl (f_lenL (s := a3) Try.underlying22 rfl rfl) ?_
                      obtain ⟨x20, hx16, hF⟩ := hF
                      refine EvK.pure (v := .int .i64 x20) (w_none rfl) rfl rfl (f_rem rfl rfl rfl hx16) ?_
                      obtain ⟨q16, hq16, hF⟩ := hF
                      refine EvK.pure (v := .pointer (some q16)) (w_none rfl) rfl rfl (f_indexAddr (s := a3) Try.underlying22 ty3.size rfl rfl rfl hq16) ?_
                      obtain ⟨x21, hx17, hF⟩ := hF
                      refine EvK.read (v := .int .i64 x21) (w_none rfl) rfl rfl (f_load (kI .i64) ty3 rfl rfl hx17 rfl) ?_
                      refine EvK.call (w_none rfl) rfl rfl (enterH Try.func11 rfl rfl rfl rfl (spatelaw11_within.sound hF)) ?_
                      rintro _ h45 ⟨r23, rfl, hF⟩
                      refine EvK.pure (v := .bool (r23 == 1)) (w_none rfl) rfl rfl (f_eql rfl rfl rfl) ?_
                      refine EvK.pure (v := k31.val (S31.mk s24.2 (r23 == 1))) (w_none rfl) rfl rfl (f_build (cells := k31.enc (S31.mk s24.2 (r23 == 1))) st32 rfl rfl rfl) ?_
                      refine EvK.alloc (w_none rfl) rfl rfl (f_buildSliceF Try.underlying30 el32 (by decide) rfl rfl rfl hF) ?_
                      rintro _ h46 ⟨x22, rfl, hF⟩
                      refine EvK.run (w_none rfl) rfl rfl (f_appendE (s := s24.1) (x := x22) Try.underlying30 el32 rfl rfl rfl hF) ?_
                      rintro _ h47 ⟨x23, rfl, hF⟩
                      refine EvK.pure (v := Sl.val x23) (w_none rfl) rfl rfl (f_assign rfl rfl) ?_
                      refine EvK.nil ?_
                      refine WP.region ?_
                      refine EvK.pure (v := .int .i64 s24.2) (w_none rfl) rfl rfl (f_move rfl rfl) ?_
                      refine EvK.pure (v := .int .i64 (IntKind.i64.wrap (1 + r18))) (w_none rfl) rfl rfl (f_move rfl rfl) ?_
                      refine EvK.pure (v := .int .i64 (IntKind.i64.wrap (s24.2 + (IntKind.i64.wrap (1 + r18))))) (w_none rfl) rfl rfl (f_add rfl rfl rfl) ?_
                      refine EvK.pure (v := .int .i64 (IntKind.i64.wrap (s24.2 + (IntKind.i64.wrap (1 + r18))))) (w_none rfl) rfl rfl (f_assign rfl rfl) ?_
                      refine EvK.nil ?_
                      exact KE.mk (x23, IntKind.i64.wrap (s24.2 + (IntKind.i64.wrap (1 + r18)))) ⟨rfl, rfl, rfl, rfl, rfl, rfl, rfl, rfl, rfl, rfl, trivial⟩ hF
                    · refine WP.cond_false _ rfl c25 ?_
                      refine WP.exit ?_
                      exact KE.mk s24.1 ⟨rfl, rfl, rfl, rfl, rfl, rfl, rfl, rfl, trivial⟩ hF
              · refine WP.cond_false _ rfl c20 ?_
                refine WP.exit ?_
                exact KE.mk s16.1 ⟨rfl, rfl, trivial⟩ hF
            · intro k17 hF
              refine WP.region ?_
              refine EvK.pure (v := .int .i64 s16.2) (w_none rfl) rfl rfl (f_move rfl rfl) ?_
              refine EvK.pure (v := Sl.val a1) (w_none rfl) rfl rfl (f_move rfl rfl) ?_
              refine EvK.pure (v := .int .i64 (a1.len : Int)) (w_none rfl) rfl rfl (f_lenL (s := a1) Try.underlying22 rfl rfl) ?_
              refine EvK.pure (v := .bool (decide (s16.2 < (a1.len : Int)))) (w_none rfl) rfl rfl (f_lss rfl rfl rfl) ?_
              refine EvK.pure (v := .bool (decide (s16.2 < (a1.len : Int)))) (w_none rfl) rfl rfl (f_move rfl rfl) ?_
              rcases ite_inv hF with ⟨c26, hF⟩ | ⟨c26, hF⟩
              · refine EvK.pure (v := .int .i64 s16.2) (w_some rfl rfl c26) rfl rfl (f_move rfl rfl) ?_
                refine EvK.pure (v := .bool (decide (s16.2 < 20))) (w_some rfl rfl c26) rfl rfl (f_lss rfl rfl rfl) ?_
                refine EvK.pure (v := .bool (decide (s16.2 < 20))) (w_none rfl) rfl rfl (f_pickT rfl rfl c26 rfl) ?_
                refine EvK.nil ?_
                exact KE.mk (decide (s16.2 < 20)) ⟨rfl, rfl, rfl, rfl, rfl, rfl, rfl, rfl, trivial⟩ hF
              · refine EvK.not (w_not rfl rfl c26) rfl rfl ?_
                refine EvK.not (w_not rfl rfl c26) rfl rfl ?_
                refine EvK.pure (v := .bool false) (w_none rfl) rfl rfl (f_pickF rfl rfl c26 rfl) ?_
                refine EvK.nil ?_
                exact KE.mk false ⟨rfl, rfl, rfl, rfl, rfl, rfl, rfl, rfl, trivial⟩ hF
      · intro k1 hF
        refine WP.region ?_
        refine EvK.pure (v := Sl.val a1) (w_none rfl) rfl rfl (f_move rfl rfl) ?_
        refine EvK.pure (v := .int .i64 (a1.len : Int)) (w_none rfl) rfl rfl (f_lenL (s := a1) Try.underlying22 rfl rfl) ?_
        refine EvK.pure (v := .bool ((a1.len : Int) == 0)) (w_none rfl) rfl rfl (f_eql rfl rfl rfl) ?_
        refine EvK.pure (v := .bool ((a1.len : Int) == 0)) (w_none rfl) rfl rfl (f_move rfl rfl) ?_
        rcases ite_inv hF with ⟨c27, hF⟩ | ⟨c27, hF⟩
        · refine EvK.not (w_not rfl rfl c27) rfl rfl ?_
          refine EvK.not (w_not rfl rfl c27) rfl rfl ?_
          refine EvK.not (w_not rfl rfl c27) rfl rfl ?_
          refine EvK.pure (v := .bool true) (w_none rfl) rfl rfl (f_pickT rfl rfl c27 rfl) ?_
          refine EvK.pure (v := .bool true) (w_none rfl) rfl rfl (f_move rfl rfl) ?_
          refine EvK.not (w_not rfl rfl rfl) rfl rfl ?_
          refine EvK.not (w_not rfl rfl rfl) rfl rfl ?_
          refine EvK.not (w_not rfl rfl rfl) rfl rfl ?_
          refine EvK.pure (v := .bool true) (w_none rfl) rfl rfl (f_pickT rfl rfl rfl rfl) ?_
          refine EvK.nil ?_
          exact KE.mk true ⟨rfl, rfl, rfl, rfl, rfl, rfl, trivial⟩ hF
        · refine EvK.pure (v := Sl.val a2) (w_some rfl rfl c27) rfl rfl (f_move rfl rfl) ?_
          refine EvK.pure (v := .int .i64 (a2.len : Int)) (w_some rfl rfl c27) rfl rfl (f_lenL (s := a2) Try.underlying22 rfl rfl) ?_
          refine EvK.pure (v := .bool ((a2.len : Int) == 0)) (w_some rfl rfl c27) rfl rfl (f_eql rfl rfl rfl) ?_
          refine EvK.pure (v := .bool ((a2.len : Int) == 0)) (w_none rfl) rfl rfl (f_pickF rfl rfl c27 rfl) ?_
          refine EvK.pure (v := .bool ((a2.len : Int) == 0)) (w_none rfl) rfl rfl (f_move rfl rfl) ?_
          rcases ite_inv hF with ⟨c28, hF⟩ | ⟨c28, hF⟩
          · refine EvK.not (w_not rfl rfl c28) rfl rfl ?_
            refine EvK.not (w_not rfl rfl c28) rfl rfl ?_
            refine EvK.not (w_not rfl rfl c28) rfl rfl ?_
            refine EvK.pure (v := .bool true) (w_none rfl) rfl rfl (f_pickT rfl rfl c28 rfl) ?_
            refine EvK.nil ?_
            exact KE.mk true ⟨rfl, rfl, rfl, rfl, rfl, rfl, trivial⟩ hF
          · refine EvK.pure (v := Sl.val a3) (w_some rfl rfl c28) rfl rfl (f_move rfl rfl) ?_
            refine EvK.pure (v := .int .i64 (a3.len : Int)) (w_some rfl rfl c28) rfl rfl (f_lenL (s := a3) Try.underlying22 rfl rfl) ?_
            refine EvK.pure (v := .bool ((a3.len : Int) == 0)) (w_some rfl rfl c28) rfl rfl (f_eql rfl rfl rfl) ?_
            refine EvK.pure (v := .bool ((a3.len : Int) == 0)) (w_none rfl) rfl rfl (f_pickF rfl rfl c28 rfl) ?_
            refine EvK.nil ?_
            exact KE.mk ((a3.len : Int) == 0) ⟨rfl, rfl, rfl, rfl, rfl, rfl, trivial⟩ hF
end Go.Proofs.Ytgmihbchcmjmdaa
