/- Functions as predicates over the heap, and that the code comes to them. Printed by gen.py, merged by group.py. -/
import Derived.Test.YtgmihbchcmjmdaaG0
import Derived.Test.YtgmihbchcmjmdaaG1
import Derived.Test.YtgmihbchcmjmdaaTy
namespace Go.Proofs.Ytgmihbchcmjmdaa
open Go Go.Tr
set_option linter.unusedVariables false
set_option maxRecDepth 100000
set_option maxHeartbeats 400000
def spatelaw11_LocksNamed.b2 (p0 : Int) (p1 : Sl) (p2 : Int) (p7 : Option Addr) (p9 : Option Addr) (p11 : Int) (p12 : Addr) (p13 : Int) (p15 : Sl) (s : Sl × Int) (h : H) (K : (Sl × Int) ⊕ Sl → H → Prop) : Prop :=
  if (decide (s.2 < (p15.len : Int))) = true then
    rd (ixA 2 p15 (IntKind.i64.wrap ((IntKind.i64.wrap ((p15.len : Int) - 1)) - s.2))) fun q3 =>
    rd (ld k31 q3 h) fun x8 =>
    al 32 (k31.enc z31) h fun q4 h27 =>
    rd (st k31 q4 x8 h27) fun h28 =>
    jn (fun (k10 : Unit → H → Prop) =>
      jn (fun (k11 : Bool → H → Prop) =>
        rd (ld (kI .i64) (q4.add 0) h28) fun x14 =>
        if (decide (x14 ≥ 0)) = true then
          rd (ld (kI .i64) (q4.add 0) h28) fun x15 =>
          k11 (decide (x15 < p0)) h28
        else
          k11 false h28) fun s11 h32 =>
      if s11 = true then
        rd (ld (kI .i64) (q4.add 0) h32) fun x12 =>
        rd (remI (IntKind.i64.wrap (x12 + p2)) p0) fun x13 =>
        rd (st (kI .i64) (q4.add 0) x13 h32) fun h33 =>
        k10 () h33
      else
        k10 () h32) fun s10 h29 =>
    rd (ld k31 q4 h29) fun x9 =>
    bs 32 1 (k31.enc x9) h29 fun x10 h30 =>
    ap k31.n 16 32 (k31.enc z31) s.1 x10 h30 fun x11 h31 =>
    K (.inl (x11, IntKind.i64.wrap (s.2 + 1))) h31
  else
    K (.inr s.1) h
def spatelaw11_LocksNamed.b1 (p0 : Int) (p1 : Sl) (p2 : Int) (p7 : Option Addr) (p9 : Option Addr) (s : Int) (h : H) (K : Int ⊕ (Unit ⊕ Bool) → H → Prop) : Prop :=
  jn (fun (k3 : Bool → H → Prop) =>
    if (decide (s < (p1.len : Int))) = true then
      k3 (decide (s < 300)) h
    else
      k3 false h) fun s3 h7 =>
  if s3 = true then
    jn (fun (k4 : Unit → H → Prop) =>
      rd (ixA 3 p1 s) fun q1 =>
      rd (ld k52 q1 h7) fun x1 =>
      al 53 (k52.enc z52) h7 fun q2 h9 =>
      rd (st k52 q2 x1 h9) fun h10 =>
      jn (fun (k5 : Bool → H → Prop) =>
        rd (ld (kI .i64) (q2.add 1) h10) fun x18 =>
        if (decide (x18 < 0)) = true then
          k5 true h10
        else
          rd (ld (kI .i64) (q2.add 1) h10) fun x19 =>
          k5 (decide (x19 > 1099511627776)) h10) fun s5 h11 =>
      if s5 = true then
        k4 () h11
      else
        rd (ld (kI .i64) (q2.add 1) h11) fun x2 =>
        jn (fun (k6 : Unit → H → Prop) =>
          rd (ld (kI .i64) (q2.add 0) h11) fun x5 =>
          if (x5 == 1) = true then
            rd (ld kL (q2.add 2) h11) fun x6 =>
            spatelaw11_set x6 h11 fun r13 h22 =>
            jn (fun (k8 : Sl → H → Prop) =>
              loopE (spatelaw11_LocksNamed.b2 p0 p1 p2 p7 p9 s q2 (IntKind.i64.wrap ((IntKind.i64.wrap (3 * x2)) + p2)) r13) (Sl.nil, 0) h22 (fun r16 hh => k8 r16 hh)) fun s8 h23 =>
            rd (ld (kI .i64) (q2.add 1) h23) fun x7 =>
            locks_Manager_Ask p7 x7 r13 h23 fun r14 h24 =>
            locks_Manager_Ask p9 (IntKind.i64.wrap ((IntKind.i64.wrap (3 * x2)) + p2)) s8 h24 fun r15 h25 =>
            jn (fun (k9 : Bool → H → Prop) =>
              if (!(r14.1 == r15.1)) = true then
                k9 true h25
              else
                k9 (!(r14.2.isNone == r15.2.isNone)) h25) fun s9 h26 =>
            if s9 = true then
              K (.inr (.inr false)) h26
            else
              k6 () h26
          else
            if (x5 == 2) = true then
              rd (ld (kI .i64) (q2.add 1) h11) fun x16 =>
              locks_Manager_Free p7 x16 h11 fun r17 h35 =>
              locks_Manager_Free p9 (IntKind.i64.wrap ((IntKind.i64.wrap (3 * x2)) + p2)) h35 fun r18 h36 =>
              jn (fun (k13 : Bool → H → Prop) =>
                if (!(r17.2.isNone == r18.2.isNone)) = true then
                  k13 true h36
                else
                  spatelaw11_names r17.1 p2 h36 fun r19 h38 =>
                  spatelaw11_SameInts r19 r18.1 h38 fun r20 h39 =>
                  k13 (!r20) h39) fun s13 h37 =>
              if s13 = true then
                K (.inr (.inr false)) h37
              else
                k6 () h37
            else
              if (x5 == 3) = true then
                rd (ld (kI .i64) (q2.add 1) h11) fun x17 =>
                locks_Manager_Quit p7 x17 h11 fun r21 h40 =>
                spatelaw11_names r21 p2 h40 fun r22 h41 =>
                locks_Manager_Quit p9 (IntKind.i64.wrap ((IntKind.i64.wrap (3 * x2)) + p2)) h41 fun r23 h42 =>
                spatelaw11_SameInts r22 r23 h42 fun r24 h43 =>
                if (!r24) = true then
                  K (.inr (.inr false)) h43
                else
                  k6 () h43
              else
                k6 () h11) fun s6 h12 =>
        jn (fun (k7 : Bool → H → Prop) =>
          locks_Manager_Queue p7 h12 fun r5 h14 =>
          spatelaw11_names r5 p2 h14 fun r6 h15 =>
          locks_Manager_Queue p9 h15 fun r7 h16 =>
          spatelaw11_SameInts r6 r7 h16 fun r8 h17 =>
          if (!r8) = true then
            k7 true h17
          else
            rd (ld (kI .i64) (q2.add 1) h17) fun x3 =>
            locks_Manager_Waits p7 x3 h17 fun r9 h18 =>
            locks_Manager_Waits p9 (IntKind.i64.wrap ((IntKind.i64.wrap (3 * x2)) + p2)) h18 fun r10 h19 =>
            if (!(r9 == r10)) = true then
              k7 true h19
            else
              rd (ld (kI .i64) (q2.add 1) h19) fun x4 =>
              locks_Manager_Has p7 x4 h19 fun r11 h20 =>
              locks_Manager_Has p9 (IntKind.i64.wrap ((IntKind.i64.wrap (3 * x2)) + p2)) h20 fun r12 h21 =>
              k7 ((r11.len : Int) != (r12.len : Int)) h21) fun s7 h13 =>
        if s7 = true then
          K (.inr (.inr false)) h13
        else
          k4 () h13) fun s4 h8 =>
    K (.inl (IntKind.i64.wrap (s + 1))) h8
  else
    K (.inr (.inl ())) h7
/-- spate/spatelaw11.LocksNamed -/
def spatelaw11_LocksNamed (a0 : Int) (a1 : Sl) (a2 : Int) (h : H) (Q : Bool → H → Prop) : Prop :=
  spatelaw11_known  h fun r1 h1 =>
  if (!r1) = true then
    Q false h1
  else
    locks_New a0 h1 fun r2 h2 =>
    locks_New a0 h2 fun r3 h3 =>
    jn (fun (k1 : Bool → H → Prop) =>
      if (r2.2 != r3.2) = true then
        k1 true h3
      else
        k1 (!(r2.1.isNone == r3.1.isNone)) h3) fun s1 h4 =>
    if s1 = true then
      Q false h4
    else
      if r2.1.isNone = true then
        Q true h4
      else
        spatelaw11_within a2 1048576 h4 fun r4 h5 =>
        jn (fun (k2 : Unit → H → Prop) =>
          loopE (spatelaw11_LocksNamed.b1 a0 a1 r4 r2.1 r3.1) 0 h5 (sumK (fun r25 hh => k2 r25 hh) (fun r26 hh => Q r26 hh))) fun s2 h6 =>
        Q true h6
theorem spatelaw11_LocksNamed.sound {a0 : Int} {a1 : Sl} {a2 : Int} {h : H} {Q : Bool → H → Prop} (hF : spatelaw11_LocksNamed a0 a1 a2 h Q) :
    CallsH Try.prog 7 (List.toArray (α := Value) [.int .i64 a0, Sl.val a1, .int .i64 a2]) h fun v h' => ∃ x : Bool, v = .bool x ∧ Q x h' := by
  refine CallsH.of_body Try.func7 rfl 216 rfl rfl ?_
  refine WP.seq ?_
  refine WP.region ?_
  refine EvK.pure (v := .bool false) (w_none rfl) rfl rfl (f_assign rfl rfl) ?_
  refine EvK.nil ?_
  refine WP.seq ?_
  refine WP.seq ?_
  refine WP.region ?_
  refine EvK.call (w_none rfl) rfl rfl (enterH Try.func10 rfl rfl rfl rfl (spatelaw11_known.sound hF)) ?_
  rintro _ h1 ⟨r1, rfl, hF⟩
  refine EvK.pure (v := .bool (!r1)) (w_none rfl) rfl rfl (f_not rfl rfl) ?_
  refine EvK.nil ?_
  rcases ite_inv hF with ⟨c1, hF⟩ | ⟨c1, hF⟩
  · refine WP.cond_true _ rfl c1 ?_
    refine WP.seq ?_
    refine WP.region ?_
    refine EvK.pure (v := .bool false) (w_none rfl) rfl rfl (f_assign rfl rfl) ?_
    refine EvK.nil ?_
    refine WP.ret ?_
    exact Ret.mk (vs := [.bool false]) false ⟨rfl, trivial⟩ rfl hF
  · refine WP.cond_false _ rfl c1 ?_
    refine WP.skip ?_
    refine WP.seq ?_
    refine WP.region ?_
    refine EvK.pure (v := .int .i64 a0) (w_none rfl) rfl rfl (f_move rfl rfl) ?_
    refine EvK.call (w_none rfl) rfl rfl (enterH Try.func12 rfl rfl rfl rfl (locks_New.sound hF)) ?_
    rintro _ h2 ⟨r2, rfl, hF⟩
    refine EvK.pure (v := .tuple #[.pointer r2.1, .int .i64 r2.2]) (w_none rfl) rfl rfl (f_move rfl rfl) ?_
    refine EvK.pure (v := .pointer r2.1) (w_none rfl) rfl rfl (f_extract (vs := #[.pointer r2.1, .int .i64 r2.2]) rfl rfl rfl) ?_
    refine EvK.pure (v := .int .i64 r2.2) (w_none rfl) rfl rfl (f_extract (vs := #[.pointer r2.1, .int .i64 r2.2]) rfl rfl rfl) ?_
    refine EvK.pure (v := .pointer r2.1) (w_none rfl) rfl rfl (f_assign rfl rfl) ?_
    refine EvK.pure (v := .int .i64 r2.2) (w_none rfl) rfl rfl (f_assign rfl rfl) ?_
    refine EvK.nil ?_
    refine WP.seq ?_
    refine WP.region ?_
    refine EvK.pure (v := .int .i64 a0) (w_none rfl) rfl rfl (f_move rfl rfl) ?_
    refine EvK.call (w_none rfl) rfl rfl (enterH Try.func12 rfl rfl rfl rfl (locks_New.sound hF)) ?_
    rintro _ h3 ⟨r3, rfl, hF⟩
    refine EvK.pure (v := .tuple #[.pointer r3.1, .int .i64 r3.2]) (w_none rfl) rfl rfl (f_move rfl rfl) ?_
    refine EvK.pure (v := .pointer r3.1) (w_none rfl) rfl rfl (f_extract (vs := #[.pointer r3.1, .int .i64 r3.2]) rfl rfl rfl) ?_
    refine EvK.pure (v := .int .i64 r3.2) (w_none rfl) rfl rfl (f_extract (vs := #[.pointer r3.1, .int .i64 r3.2]) rfl rfl rfl) ?_
    refine EvK.pure (v := .pointer r3.1) (w_none rfl) rfl rfl (f_assign rfl rfl) ?_
    refine EvK.pure (v := .int .i64 r3.2) (w_none rfl) rfl rfl (f_assign rfl rfl) ?_
    refine EvK.nil ?_
    refine WP.seq ?_
    refine WP.joinF (fun (s1 : Bool) => [(47, .bool s1), (0, .int .i64 a0), (1, Sl.val a1), (2, .int .i64 a2), (7, .pointer r2.1), (9, .pointer r3.1)]) hF ?_ ?_
    · intro s1 E0 h4 hF
      rcases ite_inv hF with ⟨c2, hF⟩ | ⟨c2, hF⟩
      · refine WP.cond_true _ rfl c2 ?_
        refine WP.seq ?_
        refine WP.region ?_
        refine EvK.pure (v := .bool false) (w_none rfl) rfl rfl (f_assign rfl rfl) ?_
        refine EvK.nil ?_
        refine WP.ret ?_
        exact Ret.mk (vs := [.bool false]) false ⟨rfl, trivial⟩ rfl hF
      · refine WP.cond_false _ rfl c2 ?_
        refine WP.skip ?_
        refine WP.seq ?_
        refine WP.seq ?_
        refine WP.region ?_
        refine EvK.pure (v := .pointer r2.1) (w_none rfl) rfl rfl (f_move rfl rfl) ?_
        refine EvK.pure (v := .bool r2.1.isNone) (w_none rfl) rfl rfl (f_peqln Try.underlying25 rfl rfl rfl) ?_
        refine EvK.nil ?_
        rcases ite_inv hF with ⟨c3, hF⟩ | ⟨c3, hF⟩
        · refine WP.cond_true _ rfl c3 ?_
          refine WP.seq ?_
          refine WP.region ?_
          refine EvK.pure (v := .bool true) (w_none rfl) rfl rfl (f_assign rfl rfl) ?_
          refine EvK.nil ?_
          refine WP.ret ?_
          exact Ret.mk (vs := [.bool true]) true ⟨rfl, trivial⟩ rfl hF
        · refine WP.cond_false _ rfl c3 ?_
          refine WP.skip ?_
          refine WP.seq ?_
          refine WP.region ?_
          refine EvK.pure (v := .int .i64 a2) (w_none rfl) rfl rfl (f_move rfl rfl) ?_
          refine EvK.call (w_none rfl) rfl rfl (enterH Try.func11 rfl rfl rfl rfl (spatelaw11_within.sound hF)) ?_
          rintro _ h5 ⟨r4, rfl, hF⟩
          refine EvK.pure (v := .int .i64 r4) (w_none rfl) rfl rfl (f_assign rfl rfl) ?_
          refine EvK.nil ?_
          refine WP.joinF (fun (s2 : Unit) => []) hF ?_ ?_
          · intro s2 E0 h6 hF
            refine WP.seq ?_
            refine WP.region ?_
            refine EvK.pure (v := .bool true) (w_none rfl) rfl rfl (f_assign rfl rfl) ?_
            refine EvK.nil ?_
            refine WP.ret ?_
            exact Ret.mk (vs := [.bool true]) true ⟨rfl, trivial⟩ rfl hF
          · intro k2 hF
            refine WP.seq ?_
            refine WP.region ?_
            refine EvK.pure (v := .int .i64 0) (w_none rfl) rfl rfl (f_assign rfl rfl) ?_
            refine EvK.nil ?_
            refine WP.block ?_
            refine WP.loopF (fun (s3 : Int) => [(11, .int .i64 s3), (0, .int .i64 a0), (1, Sl.val a1), (2, .int .i64 r4), (7, .pointer r2.1), (9, .pointer r3.1)]) hF ⟨rfl, rfl, rfl, rfl, rfl, rfl, trivial⟩ ?_
            intro k3 s3 E0 h7 hF
            refine WP.seq ?_
            refine WP.joinF (fun (s4 : Bool) => [(59, .bool s4), (0, .int .i64 a0), (1, Sl.val a1), (2, .int .i64 r4), (7, .pointer r2.1), (9, .pointer r3.1), (11, .int .i64 s3)]) hF ?_ ?_
            · intro s4 E0 h8 hF
              rcases ite_inv hF with ⟨c4, hF⟩ | ⟨c4, hF⟩
              · refine WP.cond_true _ rfl c4 ?_
                refine WP.skip ?_
                refine WP.joinF (fun (s5 : Unit) => [(0, .int .i64 a0), (1, Sl.val a1), (2, .int .i64 r4), (7, .pointer r2.1), (9, .pointer r3.1), (11, .int .i64 s3)]) hF ?_ ?_
                · intro s5 E0 h9 hF
                  refine WP.region ?_
                  refine EvK.pure (v := .int .i64 s3) (w_none rfl) rfl rfl (f_move rfl rfl) ?_
                  refine EvK.pure (v := .int .i64 (IntKind.i64.wrap (s3 + 1))) (w_none rfl) rfl rfl (f_add rfl rfl rfl) ?_
                  refine EvK.pure (v := .int .i64 (IntKind.i64.wrap (s3 + 1))) (w_none rfl) rfl rfl (f_assign rfl rfl) ?_
                  refine EvK.nil ?_
                  exact KE.mk (IntKind.i64.wrap (s3 + 1)) ⟨rfl, rfl, rfl, rfl, rfl, rfl, trivial⟩ hF
                · intro k5 hF
                  refine WP.block ?_
                  refine WP.seq ?_
                  refine WP.region ?_
                  refine EvK.pure (v := Sl.val a1) (w_none rfl) rfl rfl (f_move rfl rfl) ?_
                  refine EvK.pure (v := .int .i64 s3) (w_none rfl) rfl rfl (f_move rfl rfl) ?_
                  obtain ⟨q1, hq1, hF⟩ := hF
                  refine EvK.pure (v := .pointer (some q1)) (w_none rfl) rfl rfl (f_indexAddr (s := a1) Try.underlying47 ty53.size rfl rfl rfl hq1) ?_
                  obtain ⟨x1, hx1, hF⟩ := hF
                  refine EvK.read (v := k52.val x1) (w_none rfl) rfl rfl (f_load k52 ty53 rfl rfl hx1 rfl) ?_
                  refine EvK.alloc (w_none rfl) rfl rfl (f_allocF zero53 rfl rfl hF) ?_
                  rintro _ h10 ⟨q2, rfl, hF⟩
                  obtain ⟨h11, hs1, hF⟩ := hF
                  refine EvK.runN (w_none rfl) rfl (f_store k52 ty53.size (z := x1) rfl rfl rfl hs1) ?_
                  rintro _ _ ⟨rfl, rfl⟩
                  refine EvK.nil ?_
                  refine WP.seq ?_
                  refine WP.joinF (fun (s6 : Bool) => [(73, .bool s6), (0, .int .i64 a0), (1, Sl.val a1), (2, .int .i64 r4), (7, .pointer r2.1), (9, .pointer r3.1), (11, .int .i64 s3), (12, .pointer (some q2))]) hF ?_ ?_
                  · intro s6 E0 h12 hF
                    rcases ite_inv hF with ⟨c5, hF⟩ | ⟨c5, hF⟩
                    · refine WP.cond_true _ rfl c5 ?_
                      refine WP.exit ?_
                      exact KE.mk () ⟨rfl, rfl, rfl, rfl, rfl, rfl, trivial⟩ hF
                    · refine WP.cond_false _ rfl c5 ?_
                      refine WP.skip ?_
                      refine WP.seq ?_
                      refine WP.region ?_
                      refine EvK.pure (v := .pointer (some (q2.add 1))) (w_none rfl) rfl rfl (f_fieldAddr fd53_1 rfl rfl) ?_
                      obtain ⟨x2, hx2, hF⟩ := hF
                      refine EvK.read (v := .int .i64 x2) (w_none rfl) rfl rfl (f_load (kI .i64) ty3 rfl rfl hx2 rfl) ?_
                      refine EvK.pure (v := .int .i64 (IntKind.i64.wrap (3 * x2))) (w_none rfl) rfl rfl (f_mul rfl rfl rfl) ?_
                      refine EvK.pure (v := .int .i64 r4) (w_none rfl) rfl rfl (f_move rfl rfl) ?_
                      refine EvK.pure (v := .int .i64 (IntKind.i64.wrap ((IntKind.i64.wrap (3 * x2)) + r4))) (w_none rfl) rfl rfl (f_add rfl rfl rfl) ?_
                      refine EvK.pure (v := .int .i64 (IntKind.i64.wrap ((IntKind.i64.wrap (3 * x2)) + r4))) (w_none rfl) rfl rfl (f_assign rfl rfl) ?_
                      refine EvK.nil ?_
                      refine WP.joinF (fun (s7 : Unit) => [(0, .int .i64 a0), (1, Sl.val a1), (2, .int .i64 r4), (7, .pointer r2.1), (9, .pointer r3.1), (11, .int .i64 s3), (12, .pointer (some q2)), (13, .int .i64 (IntKind.i64.wrap ((IntKind.i64.wrap (3 * x2)) + r4)))]) hF ?_ ?_
                      · intro s7 E0 h13 hF
                        refine WP.joinF (fun (s8 : Bool) => [(215, .bool s8), (0, .int .i64 a0), (1, Sl.val a1), (2, .int .i64 r4), (7, .pointer r2.1), (9, .pointer r3.1), (11, .int .i64 s3)]) hF ?_ ?_
                        · intro s8 E0 h14 hF
                          rcases ite_inv hF with ⟨c6, hF⟩ | ⟨c6, hF⟩
                          · refine WP.cond_true _ rfl c6 ?_
                            refine WP.seq ?_
                            refine WP.region ?_
                            refine EvK.pure (v := .bool false) (w_none rfl) rfl rfl (f_assign rfl rfl) ?_
                            refine EvK.nil ?_
                            refine WP.ret ?_
                            exact Ret.mk (vs := [.bool false]) false ⟨rfl, trivial⟩ rfl hF
                          · refine WP.cond_false _ rfl c6 ?_
                            refine WP.skip ?_
                            exact KE.mk () ⟨rfl, rfl, rfl, rfl, rfl, rfl, trivial⟩ hF
                        · intro k8 hF
                          refine WP.region ?_
                          refine EvK.pure (v := .pointer r2.1) (w_none rfl) rfl rfl (f_move rfl rfl) ?_
                          refine EvK.call (w_none rfl) rfl rfl (enterH Try.func20 rfl rfl rfl rfl (locks_Manager_Queue.sound hF)) ?_
                          rintro _ h15 ⟨r5, rfl, hF⟩
                          refine EvK.pure (v := .int .i64 r4) (w_none rfl) rfl rfl (f_move rfl rfl) ?_
                          refine EvK.call (w_none rfl) rfl rfl (enterH Try.func33 rfl rfl rfl rfl (spatelaw11_names.sound hF)) ?_
                          rintro _ h16 ⟨r6, rfl, hF⟩
                          refine EvK.pure (v := .pointer r3.1) (w_none rfl) rfl rfl (f_move rfl rfl) ?_
                          refine EvK.call (w_none rfl) rfl rfl (enterH Try.func20 rfl rfl rfl rfl (locks_Manager_Queue.sound hF)) ?_
                          rintro _ h17 ⟨r7, rfl, hF⟩
                          refine EvK.call (w_none rfl) rfl rfl (enterH Try.func19 rfl rfl rfl rfl (spatelaw11_SameInts.sound hF)) ?_
                          rintro _ h18 ⟨r8, rfl, hF⟩
                          refine EvK.pure (v := .bool (!r8)) (w_none rfl) rfl rfl (f_not rfl rfl) ?_
                          refine EvK.pure (v := .bool (!r8)) (w_none rfl) rfl rfl (f_move rfl rfl) ?_
                          rcases ite_inv hF with ⟨c7, hF⟩ | ⟨c7, hF⟩
                          · refine EvK.not (w_not rfl rfl c7) rfl rfl ?_
                            refine EvK.not (w_not rfl rfl c7) rfl rfl ?_
                            refine EvK.not (w_not rfl rfl c7) rfl rfl ?_
                            refine EvK.not (w_not rfl rfl c7) rfl rfl ?_
                            refine EvK.not (w_not rfl rfl c7) rfl rfl ?_
                            refine EvK.not (w_not rfl rfl c7) rfl rfl ?_
                            refine EvK.not (w_not rfl rfl c7) rfl rfl ?_
                            refine EvK.not (w_not rfl rfl c7) rfl rfl ?_
                            refine EvK.pure (v := .bool true) (w_none rfl) rfl rfl (f_pickT rfl rfl c7 rfl) ?_
                            refine EvK.pure (v := .bool true) (w_none rfl) rfl rfl (f_move rfl rfl) ?_
                            refine EvK.not (w_not rfl rfl rfl) rfl rfl ?_
                            refine EvK.not (w_not rfl rfl rfl) rfl rfl ?_
                            refine EvK.not (w_not rfl rfl rfl) rfl rfl ?_
                            refine EvK.not (w_not rfl rfl rfl) rfl rfl ?_
                            refine EvK.not (w_not rfl rfl rfl) rfl rfl ?_
                            refine EvK.not (w_not rfl rfl rfl) rfl rfl ?_
                            refine EvK.not (w_not rfl rfl rfl) rfl rfl ?_
                            refine EvK.not (w_not rfl rfl rfl) rfl rfl ?_
                            refine EvK.not (w_not rfl rfl rfl) rfl rfl ?_
                            refine EvK.not (w_not rfl rfl rfl) rfl rfl ?_
                            refine EvK.pure (v := .bool true) (w_none rfl) rfl rfl (f_pickT rfl rfl rfl rfl) ?_
                            refine EvK.nil ?_
                            exact KE.mk true ⟨rfl, rfl, rfl, rfl, rfl, rfl, rfl, trivial⟩ hF
                          · refine EvK.pure (v := .pointer r2.1) (w_some rfl rfl c7) rfl rfl (f_move rfl rfl) ?_
                            refine EvK.pure (v := .pointer (some (q2.add 1))) (w_some rfl rfl c7) rfl rfl (f_fieldAddr fd53_1 rfl rfl) ?_
                            obtain ⟨x3, hx3, hF⟩ := hF
                            refine EvK.read (v := .int .i64 x3) (w_some rfl rfl c7) rfl rfl (f_load (kI .i64) ty3 rfl rfl hx3 rfl) ?_
                            refine EvK.call (w_some rfl rfl c7) rfl rfl (enterH Try.func32 rfl rfl rfl rfl (locks_Manager_Waits.sound hF)) ?_
                            rintro _ h19 ⟨r9, rfl, hF⟩
                            refine EvK.pure (v := .pointer r3.1) (w_some rfl rfl c7) rfl rfl (f_move rfl rfl) ?_
                            refine EvK.pure (v := .int .i64 (IntKind.i64.wrap ((IntKind.i64.wrap (3 * x2)) + r4))) (w_some rfl rfl c7) rfl rfl (f_move rfl rfl) ?_
                            refine EvK.call (w_some rfl rfl c7) rfl rfl (enterH Try.func32 rfl rfl rfl rfl (locks_Manager_Waits.sound hF)) ?_
                            rintro _ h20 ⟨r10, rfl, hF⟩
                            refine EvK.pure (v := .bool (!(r9 == r10))) (w_some rfl rfl c7) rfl rfl (f_bneq Try.underlying4 rfl rfl rfl) ?_
                            refine EvK.pure (v := .bool (!(r9 == r10))) (w_none rfl) rfl rfl (f_pickF rfl rfl c7 rfl) ?_
                            refine EvK.pure (v := .bool (!(r9 == r10))) (w_none rfl) rfl rfl (f_move rfl rfl) ?_
                            rcases ite_inv hF with ⟨c8, hF⟩ | ⟨c8, hF⟩
                            · refine EvK.not (w_not rfl rfl c8) rfl rfl ?_
                              refine EvK.not (w_not rfl rfl c8) rfl rfl ?_
                              refine EvK.not (w_not rfl rfl c8) rfl rfl ?_
                              refine EvK.not (w_not rfl rfl c8) rfl rfl ?_
                              refine EvK.not (w_not rfl rfl c8) rfl rfl ?_
                              refine EvK.not (w_not rfl rfl c8) rfl rfl ?_
                              refine EvK.not (w_not rfl rfl c8) rfl rfl ?_
                              refine EvK.not (w_not rfl rfl c8) rfl rfl ?_
                              refine EvK.not (w_not rfl rfl c8) rfl rfl ?_
                              refine EvK.not (w_not rfl rfl c8) rfl rfl ?_
                              refine EvK.pure (v := .bool true) (w_none rfl) rfl rfl (f_pickT rfl rfl c8 rfl) ?_
                              refine EvK.nil ?_
                              exact KE.mk true ⟨rfl, rfl, rfl, rfl, rfl, rfl, rfl, trivial⟩ hF
                            · refine EvK.pure (v := .pointer r2.1) (w_some rfl rfl c8) rfl rfl (f_move rfl rfl) ?_
                              refine EvK.pure (v := .pointer (some (q2.add 1))) (w_some rfl rfl c8) rfl rfl (f_fieldAddr fd53_1 rfl rfl) ?_
                              obtain ⟨x4, hx4, hF⟩ := hF
                              refine EvK.read (v := .int .i64 x4) (w_some rfl rfl c8) rfl rfl (f_load (kI .i64) ty3 rfl rfl hx4 rfl) ?_
                              refine EvK.call (w_some rfl rfl c8) rfl rfl (enterH Try.func16 rfl rfl rfl rfl (locks_Manager_Has.sound hF)) ?_
                              rintro _ h21 ⟨r11, rfl, hF⟩
                              refine EvK.pure (v := .int .i64 (r11.len : Int)) (w_some rfl rfl c8) rfl rfl (f_lenL (s := r11) Try.underlying30 rfl rfl) ?_
                              refine EvK.pure (v := .pointer r3.1) (w_some rfl rfl c8) rfl rfl (f_move rfl rfl) ?_
                              refine EvK.pure (v := .int .i64 (IntKind.i64.wrap ((IntKind.i64.wrap (3 * x2)) + r4))) (w_some rfl rfl c8) rfl rfl (f_move rfl rfl) ?_
                              refine EvK.call (w_some rfl rfl c8) rfl rfl (enterH Try.func16 rfl rfl rfl rfl (locks_Manager_Has.sound hF)) ?_
                              rintro _ h22 ⟨r12, rfl, hF⟩
                              refine EvK.pure (v := .int .i64 (r12.len : Int)) (w_some rfl rfl c8) rfl rfl (f_lenL (s := r12) Try.underlying30 rfl rfl) ?_
                              refine EvK.pure (v := .bool ((r11.len : Int) != (r12.len : Int))) (w_some rfl rfl c8) rfl rfl (f_neq rfl rfl rfl) ?_
                              refine EvK.pure (v := .bool ((r11.len : Int) != (r12.len : Int))) (w_none rfl) rfl rfl (f_pickF rfl rfl c8 rfl) ?_
                              refine EvK.nil ?_
                              exact KE.mk ((r11.len : Int) != (r12.len : Int)) ⟨rfl, rfl, rfl, rfl, rfl, rfl, rfl, trivial⟩ hF
                      · intro k7 hF
                        refine WP.seq ?_
                        refine WP.region ?_
                        refine EvK.pure (v := .pointer (some (q2.add 0))) (w_none rfl) rfl rfl (f_fieldAddr fd53_0 rfl rfl) ?_
                        obtain ⟨x5, hx5, hF⟩ := hF
                        refine EvK.read (v := .int .i64 x5) (w_none rfl) rfl rfl (f_load (kI .i64) ty3 rfl rfl hx5 rfl) ?_
                        refine EvK.nil ?_
                        refine WP.block ?_
                        refine WP.seq ?_
                        refine WP.region ?_
                        refine EvK.pure (v := .bool (x5 == 1)) (w_none rfl) rfl rfl (f_eql rfl rfl rfl) ?_
                        refine EvK.pure (v := .bool (x5 == 1)) (w_none rfl) rfl rfl (f_assign rfl rfl) ?_
                        refine EvK.nil ?_
                        rcases ite_inv hF with ⟨c9, hF⟩ | ⟨c9, hF⟩
                        · refine WP.cond_true _ rfl c9 ?_
                          refine WP.seq ?_
                          refine WP.region ?_
                          refine EvK.pure (v := Sl.val Sl.nil) (w_none rfl) rfl rfl (f_assign rfl rfl) ?_
                          refine EvK.nil ?_
                          refine WP.seq ?_
                          refine WP.region ?_
                          refine EvK.pure (v := .pointer (some (q2.add 2))) (w_none rfl) rfl rfl (f_fieldAddr fd53_2 rfl rfl) ?_
                          obtain ⟨x6, hx6, hF⟩ := hF
                          refine EvK.read (v := Sl.val x6) (w_none rfl) rfl rfl (f_load kL ty30 rfl rfl hx6 rfl) ?_
                          refine EvK.call (w_none rfl) rfl rfl (enterH Try.func25 rfl rfl rfl rfl (spatelaw11_set.sound hF)) ?_
                          rintro _ h23 ⟨r13, rfl, hF⟩
                          refine EvK.pure (v := Sl.val r13) (w_none rfl) rfl rfl (f_assign rfl rfl) ?_
                          refine EvK.nil ?_
                          refine WP.joinF (fun (s9 : Sl) => [(14, Sl.val s9), (0, .int .i64 a0), (1, Sl.val a1), (2, .int .i64 r4), (7, .pointer r2.1), (9, .pointer r3.1), (11, .int .i64 s3), (12, .pointer (some q2)), (13, .int .i64 (IntKind.i64.wrap ((IntKind.i64.wrap (3 * x2)) + r4))), (15, Sl.val r13)]) hF ?_ ?_
                          · intro s9 E0 h24 hF
                            refine WP.seq ?_
                            refine WP.region ?_
                            refine EvK.pure (v := .pointer r2.1) (w_none rfl) rfl rfl (f_move rfl rfl) ?_
                            refine EvK.pure (v := .pointer (some (q2.add 1))) (w_none rfl) rfl rfl (f_fieldAddr fd53_1 rfl rfl) ?_
                            obtain ⟨x7, hx7, hF⟩ := hF
                            refine EvK.read (v := .int .i64 x7) (w_none rfl) rfl rfl (f_load (kI .i64) ty3 rfl rfl hx7 rfl) ?_
                            refine EvK.pure (v := Sl.val r13) (w_none rfl) rfl rfl (f_move rfl rfl) ?_
                            refine EvK.call (w_none rfl) rfl rfl (enterH Try.func14 rfl rfl rfl rfl (locks_Manager_Ask.sound hF)) ?_
                            rintro _ h25 ⟨r14, rfl, hF⟩
                            refine EvK.pure (v := .tuple #[.bool r14.1, IF.val r14.2]) (w_none rfl) rfl rfl (f_move rfl rfl) ?_
                            refine EvK.pure (v := .bool r14.1) (w_none rfl) rfl rfl (f_extract (vs := #[.bool r14.1, IF.val r14.2]) rfl rfl rfl) ?_
                            refine EvK.pure (v := IF.val r14.2) (w_none rfl) rfl rfl (f_extract (vs := #[.bool r14.1, IF.val r14.2]) rfl rfl rfl) ?_
                            refine EvK.pure (v := .bool r14.1) (w_none rfl) rfl rfl (f_assign rfl rfl) ?_
                            refine EvK.pure (v := IF.val r14.2) (w_none rfl) rfl rfl (f_assign rfl rfl) ?_
                            refine EvK.nil ?_
                            refine WP.seq ?_
                            refine WP.region ?_
                            refine EvK.pure (v := .pointer r3.1) (w_none rfl) rfl rfl (f_move rfl rfl) ?_
                            refine EvK.pure (v := .int .i64 (IntKind.i64.wrap ((IntKind.i64.wrap (3 * x2)) + r4))) (w_none rfl) rfl rfl (f_move rfl rfl) ?_
                            refine EvK.pure (v := Sl.val s9) (w_none rfl) rfl rfl (f_move rfl rfl) ?_
                            refine EvK.call (w_none rfl) rfl rfl (enterH Try.func14 rfl rfl rfl rfl (locks_Manager_Ask.sound hF)) ?_
                            rintro _ h26 ⟨r15, rfl, hF⟩
                            refine EvK.pure (v := .tuple #[.bool r15.1, IF.val r15.2]) (w_none rfl) rfl rfl (f_move rfl rfl) ?_
                            refine EvK.pure (v := .bool r15.1) (w_none rfl) rfl rfl (f_extract (vs := #[.bool r15.1, IF.val r15.2]) rfl rfl rfl) ?_
                            refine EvK.pure (v := IF.val r15.2) (w_none rfl) rfl rfl (f_extract (vs := #[.bool r15.1, IF.val r15.2]) rfl rfl rfl) ?_
                            refine EvK.pure (v := .bool r15.1) (w_none rfl) rfl rfl (f_assign rfl rfl) ?_
                            refine EvK.pure (v := IF.val r15.2) (w_none rfl) rfl rfl (f_assign rfl rfl) ?_
                            refine EvK.nil ?_
                            refine WP.joinF (fun (s10 : Bool) => [(144, .bool s10), (0, .int .i64 a0), (1, Sl.val a1), (2, .int .i64 r4), (7, .pointer r2.1), (9, .pointer r3.1), (11, .int .i64 s3), (12, .pointer (some q2)), (13, .int .i64 (IntKind.i64.wrap ((IntKind.i64.wrap (3 * x2)) + r4)))]) hF ?_ ?_
                            · intro s10 E0 h27 hF
                              rcases ite_inv hF with ⟨c10, hF⟩ | ⟨c10, hF⟩
                              · refine WP.cond_true _ rfl c10 ?_
                                refine WP.seq ?_
                                refine WP.region ?_
                                refine EvK.pure (v := .bool false) (w_none rfl) rfl rfl (f_assign rfl rfl) ?_
                                refine EvK.nil ?_
                                refine WP.ret ?_
                                exact Ret.mk (vs := [.bool false]) false ⟨rfl, trivial⟩ rfl hF
                              · refine WP.cond_false _ rfl c10 ?_
                                refine WP.skip ?_
                                exact KE.mk () ⟨rfl, rfl, rfl, rfl, rfl, rfl, rfl, rfl, trivial⟩ hF
                            · intro k10 hF
                              refine WP.draw mixed [.pure, .pure, .pure, .pure, .pure, .pure, .pure, .pure, .pure, .pure] [[], [], [0, 1], [0, 1, 2], [0, 1, 2, 3], [0, 1, 2, 3, 4], [0, 1, 2, 3], [0, 1, 2, 3, 6], [0, 1, 2, 3, 4, 5, 6, 7], [0, 1, 2, 3, 4, 5, 6, 7, 8]] [0, 1, 2, 3, 4, 5, 6, 7, 8, 9] (by kernel_rfl) (by kernel_rfl) ?_
                              refine EvI.pure (v := .bool r14.1) rfl rfl (w_none rfl) rfl (f_move rfl rfl) ?_
                              refine EvI.pure (v := .bool r15.1) rfl rfl (w_none rfl) rfl (f_move rfl rfl) ?_
                              refine EvI.pure (v := .bool (!(r14.1 == r15.1))) rfl rfl (w_none rfl) rfl (f_bneq Try.underlying4 rfl rfl rfl) ?_
                              refine EvI.pure (v := .bool (!(r14.1 == r15.1))) rfl rfl (w_none rfl) rfl (f_move rfl rfl) ?_
                              rcases ite_inv hF with ⟨c11, hF⟩ | ⟨c11, hF⟩
                              · refine EvI.not rfl (w_not rfl rfl c11) rfl ?_
                                refine EvI.not rfl (w_not rfl rfl c11) rfl ?_
                                refine EvI.not rfl (w_not rfl rfl c11) rfl ?_
                                refine EvI.not rfl (w_not rfl rfl c11) rfl ?_
                                refine EvI.not rfl (w_not rfl rfl c11) rfl ?_
                                refine EvI.pure (v := .bool true) rfl rfl (w_none rfl) rfl (f_pickT rfl rfl c11 rfl) ?_
                                refine EvI.nil ?_
                                exact KE.mk true ⟨rfl, rfl, rfl, rfl, rfl, rfl, rfl, rfl, rfl, trivial⟩ hF
                              · refine EvI.pure (v := IF.val r14.2) rfl rfl (w_some rfl rfl c11) rfl (f_move rfl rfl) ?_
                                refine EvI.pure (v := .bool r14.2.isNone) rfl rfl (w_some rfl rfl c11) rfl (f_ieqln (a := r14.2) Try.underlying37 rfl rfl) ?_
                                refine EvI.pure (v := IF.val r15.2) rfl rfl (w_some rfl rfl c11) rfl (f_move rfl rfl) ?_
                                refine EvI.pure (v := .bool r15.2.isNone) rfl rfl (w_some rfl rfl c11) rfl (f_ieqln (a := r15.2) Try.underlying37 rfl rfl) ?_
                                refine EvI.pure (v := .bool (!(r14.2.isNone == r15.2.isNone))) rfl rfl (w_some rfl rfl c11) rfl (f_bneq Try.underlying4 rfl rfl rfl) ?_
                                refine EvI.pure (v := .bool (!(r14.2.isNone == r15.2.isNone))) rfl rfl (w_none rfl) rfl (f_pickF rfl rfl c11 rfl) ?_
                                refine EvI.nil ?_
                                exact KE.mk (!(r14.2.isNone == r15.2.isNone)) ⟨rfl, rfl, rfl, rfl, rfl, rfl, rfl, rfl, rfl, trivial⟩ hF
                          · intro k9 hF
                            refine WP.seq ?_
                            refine WP.region ?_
                            refine EvK.pure (v := .int .i64 0) (w_none rfl) rfl rfl (f_assign rfl rfl) ?_
                            refine EvK.nil ?_
                            refine WP.block ?_
                            refine WP.loopF (fun (s11 : Sl × Int) => [(14, Sl.val s11.1), (16, .int .i64 s11.2), (0, .int .i64 a0), (1, Sl.val a1), (2, .int .i64 r4), (7, .pointer r2.1), (9, .pointer r3.1), (11, .int .i64 s3), (12, .pointer (some q2)), (13, .int .i64 (IntKind.i64.wrap ((IntKind.i64.wrap (3 * x2)) + r4))), (15, Sl.val r13)]) hF ⟨rfl, rfl, rfl, rfl, rfl, rfl, rfl, rfl, rfl, rfl, rfl, trivial⟩ ?_
                            intro k11 s11 E0 h28 hF
                            refine WP.seq ?_
                            refine WP.seq ?_
                            refine WP.region ?_
                            refine EvK.pure (v := .int .i64 s11.2) (w_none rfl) rfl rfl (f_move rfl rfl) ?_
                            refine EvK.pure (v := Sl.val r13) (w_none rfl) rfl rfl (f_move rfl rfl) ?_
                            refine EvK.pure (v := .int .i64 (r13.len : Int)) (w_none rfl) rfl rfl (f_lenL (s := r13) Try.underlying30 rfl rfl) ?_
                            refine EvK.pure (v := .bool (decide (s11.2 < (r13.len : Int)))) (w_none rfl) rfl rfl (f_lss rfl rfl rfl) ?_
                            refine EvK.nil ?_
                            rcases ite_inv hF with ⟨c12, hF⟩ | ⟨c12, hF⟩
                            · refine WP.cond_true _ rfl c12 ?_
                              refine WP.skip ?_
                              refine WP.seq ?_
                              refine WP.block ?_
                              refine WP.seq ?_
                              refine WP.region ?_
                              refine EvK.pure (v := Sl.val r13) (w_none rfl) rfl rfl (f_move rfl rfl) ?_
                              refine EvK.pure (v := Sl.val r13) (w_none rfl) rfl rfl (f_move rfl rfl) ?_
                              refine EvK.pure (v := .int .i64 (r13.len : Int)) (w_none rfl) rfl rfl (f_lenL (s := r13) Try.underlying30 rfl rfl) ?_
                              refine EvK.pure (v := .int .i64 (IntKind.i64.wrap ((r13.len : Int) - 1))) (w_none rfl) rfl rfl (f_sub rfl rfl rfl) ?_
                              refine EvK.pure (v := .int .i64 s11.2) (w_none rfl) rfl rfl (f_move rfl rfl) ?_
                              refine EvK.pure (v := .int .i64 (IntKind.i64.wrap ((IntKind.i64.wrap ((r13.len : Int) - 1)) - s11.2))) (w_none rfl) rfl rfl (f_sub rfl rfl rfl) ?_
                              obtain ⟨q3, hq2, hF⟩ := hF
                              refine EvK.pure (v := .pointer (some q3)) (w_none rfl) rfl rfl (f_indexAddr (s := r13) Try.underlying30 ty32.size rfl rfl rfl hq2) ?_
                              obtain ⟨x8, hx8, hF⟩ := hF
                              refine EvK.read (v := k31.val x8) (w_none rfl) rfl rfl (f_load k31 ty32 rfl rfl hx8 rfl) ?_
                              refine EvK.alloc (w_none rfl) rfl rfl (f_allocF zero32 rfl rfl hF) ?_
                              rintro _ h29 ⟨q4, rfl, hF⟩
                              obtain ⟨h30, hs2, hF⟩ := hF
                              refine EvK.runN (w_none rfl) rfl (f_store k31 ty32.size (z := x8) rfl rfl rfl hs2) ?_
                              rintro _ _ ⟨rfl, rfl⟩
                              refine EvK.nil ?_
                              refine WP.joinF (fun (s12 : Unit) => [(0, .int .i64 a0), (1, Sl.val a1), (2, .int .i64 r4), (7, .pointer r2.1), (9, .pointer r3.1), (11, .int .i64 s3), (12, .pointer (some q2)), (13, .int .i64 (IntKind.i64.wrap ((IntKind.i64.wrap (3 * x2)) + r4))), (14, Sl.val s11.1), (15, Sl.val r13), (16, .int .i64 s11.2), (17, .pointer (some q4))]) hF ?_ ?_
                              · intro s12 E0 h31 hF
                                refine WP.region ?_
                                refine EvK.pure (v := Sl.val s11.1) (w_none rfl) rfl rfl (f_move rfl rfl) ?_
                                obtain ⟨x9, hx9, hF⟩ := hF
                                refine EvK.read (v := k31.val x9) (w_none rfl) rfl rfl (f_load k31 ty32 rfl rfl hx9 rfl) ?_
                                refine EvK.alloc (w_none rfl) rfl rfl (f_buildSliceF Try.underlying30 el32 (by decide) rfl rfl rfl hF) ?_
                                rintro _ h32 ⟨x10, rfl, hF⟩
                                refine EvK.run (w_none rfl) rfl rfl (f_appendE (s := s11.1) (x := x10) Try.underlying30 el32 rfl rfl rfl hF) ?_
                                rintro _ h33 ⟨x11, rfl, hF⟩
                                refine EvK.pure (v := Sl.val x11) (w_none rfl) rfl rfl (f_assign rfl rfl) ?_
                                refine EvK.nil ?_
                                refine WP.region ?_
                                refine EvK.pure (v := .int .i64 s11.2) (w_none rfl) rfl rfl (f_move rfl rfl) ?_
                                refine EvK.pure (v := .int .i64 (IntKind.i64.wrap (s11.2 + 1))) (w_none rfl) rfl rfl (f_add rfl rfl rfl) ?_
                                refine EvK.pure (v := .int .i64 (IntKind.i64.wrap (s11.2 + 1))) (w_none rfl) rfl rfl (f_assign rfl rfl) ?_
                                refine EvK.nil ?_
                                exact KE.mk (x11, IntKind.i64.wrap (s11.2 + 1)) ⟨rfl, rfl, rfl, rfl, rfl, rfl, rfl, rfl, rfl, rfl, rfl, trivial⟩ hF
                              · intro k12 hF
                                refine WP.joinF (fun (s13 : Bool) => [(108, .bool s13), (0, .int .i64 a0), (1, Sl.val a1), (2, .int .i64 r4), (7, .pointer r2.1), (9, .pointer r3.1), (11, .int .i64 s3), (12, .pointer (some q2)), (13, .int .i64 (IntKind.i64.wrap ((IntKind.i64.wrap (3 * x2)) + r4))), (14, Sl.val s11.1), (15, Sl.val r13), (16, .int .i64 s11.2), (17, .pointer (some q4))]) hF ?_ ?_
                                · intro s13 E0 h34 hF
                                  rcases ite_inv hF with ⟨c13, hF⟩ | ⟨c13, hF⟩
                                  · refine WP.cond_true _ rfl c13 ?_
                                    refine WP.region ?_
                                    refine EvK.pure (v := .pointer (some (q4.add 0))) (w_none rfl) rfl rfl (f_fieldAddr fd32_0 rfl rfl) ?_
                                    obtain ⟨x12, hx10, hF⟩ := hF
                                    refine EvK.read (v := .int .i64 x12) (w_none rfl) rfl rfl (f_load (kI .i64) ty3 rfl rfl hx10 rfl) ?_
                                    refine EvK.pure (v := .int .i64 r4) (w_none rfl) rfl rfl (f_move rfl rfl) ?_
                                    refine EvK.pure (v := .int .i64 (IntKind.i64.wrap (x12 + r4))) (w_none rfl) rfl rfl (f_add rfl rfl rfl) ?_
                                    refine EvK.pure (v := .int .i64 a0) (w_none rfl) rfl rfl (f_move rfl rfl) ?_
                                    obtain ⟨x13, hx11, hF⟩ := hF
                                    refine EvK.pure (v := .int .i64 x13) (w_none rfl) rfl rfl (f_rem rfl rfl rfl hx11) ?_
                                    refine EvK.pure (v := .pointer (some (q4.add 0))) (w_none rfl) rfl rfl (f_fieldAddr fd32_0 rfl rfl) ?_
                                    obtain ⟨h35, hs3, hF⟩ := hF
                                    refine EvK.runN (w_none rfl) rfl (f_store (kI .i64) ty3.size (z := x13) rfl rfl rfl hs3) ?_
                                    rintro _ _ ⟨rfl, rfl⟩
                                    refine EvK.nil ?_
                                    exact KE.mk () ⟨rfl, rfl, rfl, rfl, rfl, rfl, rfl, rfl, rfl, rfl, rfl, rfl, trivial⟩ hF
                                  · refine WP.cond_false _ rfl c13 ?_
                                    refine WP.skip ?_
                                    exact KE.mk () ⟨rfl, rfl, rfl, rfl, rfl, rfl, rfl, rfl, rfl, rfl, rfl, rfl, trivial⟩ hF
                                · intro k13 hF
                                  refine WP.region ?_
                                  refine EvK.pure (v := .pointer (some (q4.add 0))) (w_none rfl) rfl rfl (f_fieldAddr fd32_0 rfl rfl) ?_
                                  obtain ⟨x14, hx12, hF⟩ := hF
                                  refine EvK.read (v := .int .i64 x14) (w_none rfl) rfl rfl (f_load (kI .i64) ty3 rfl rfl hx12 rfl) ?_
                                  refine EvK.pure (v := .bool (decide (x14 ≥ 0))) (w_none rfl) rfl rfl (f_geq rfl rfl rfl) ?_
                                  refine EvK.pure (v := .bool (decide (x14 ≥ 0))) (w_none rfl) rfl rfl (f_move rfl rfl) ?_
                                  rcases ite_inv hF with ⟨c14, hF⟩ | ⟨c14, hF⟩
                                  · refine EvK.pure (v := .pointer (some (q4.add 0))) (w_some rfl rfl c14) rfl rfl (f_fieldAddr fd32_0 rfl rfl) ?_
                                    obtain ⟨x15, hx13, hF⟩ := hF
                                    refine EvK.read (v := .int .i64 x15) (w_some rfl rfl c14) rfl rfl (f_load (kI .i64) ty3 rfl rfl hx13 rfl) ?_
                                    refine EvK.pure (v := .int .i64 a0) (w_some rfl rfl c14) rfl rfl (f_move rfl rfl) ?_
                                    refine EvK.pure (v := .bool (decide (x15 < a0))) (w_some rfl rfl c14) rfl rfl (f_lss rfl rfl rfl) ?_
                                    refine EvK.pure (v := .bool (decide (x15 < a0))) (w_none rfl) rfl rfl (f_pickT rfl rfl c14 rfl) ?_
                                    refine EvK.nil ?_
                                    exact KE.mk (decide (x15 < a0)) ⟨rfl, rfl, rfl, rfl, rfl, rfl, rfl, rfl, rfl, rfl, rfl, rfl, rfl, trivial⟩ hF
                                  · refine EvK.not (w_not rfl rfl c14) rfl rfl ?_
                                    refine EvK.not (w_not rfl rfl c14) rfl rfl ?_
                                    refine EvK.not (w_not rfl rfl c14) rfl rfl ?_
                                    refine EvK.not (w_not rfl rfl c14) rfl rfl ?_
                                    refine EvK.pure (v := .bool false) (w_none rfl) rfl rfl (f_pickF rfl rfl c14 rfl) ?_
                                    refine EvK.nil ?_
                                    exact KE.mk false ⟨rfl, rfl, rfl, rfl, rfl, rfl, rfl, rfl, rfl, rfl, rfl, rfl, rfl, trivial⟩ hF
                            · refine WP.cond_false _ rfl c12 ?_
                              refine WP.exit ?_
                              exact KE.mk s11.1 ⟨rfl, rfl, rfl, rfl, rfl, rfl, rfl, rfl, rfl, rfl, trivial⟩ hF
                        · refine WP.cond_false _ rfl c9 ?_
                          refine WP.seq ?_
                          refine WP.region ?_
                          refine EvK.pure (v := .bool (x5 == 2)) (w_none rfl) rfl rfl (f_eql rfl rfl rfl) ?_
                          refine EvK.pure (v := .bool (x5 == 2)) (w_none rfl) rfl rfl (f_assign rfl rfl) ?_
                          refine EvK.nil ?_
                          rcases ite_inv hF with ⟨c15, hF⟩ | ⟨c15, hF⟩
                          · refine WP.cond_true _ rfl c15 ?_
                            refine WP.seq ?_
                            refine WP.region ?_
                            refine EvK.pure (v := .pointer r2.1) (w_none rfl) rfl rfl (f_move rfl rfl) ?_
                            refine EvK.pure (v := .pointer (some (q2.add 1))) (w_none rfl) rfl rfl (f_fieldAddr fd53_1 rfl rfl) ?_
                            obtain ⟨x16, hx14, hF⟩ := hF
                            refine EvK.read (v := .int .i64 x16) (w_none rfl) rfl rfl (f_load (kI .i64) ty3 rfl rfl hx14 rfl) ?_
                            refine EvK.call (w_none rfl) rfl rfl (enterH Try.func17 rfl rfl rfl rfl (locks_Manager_Free.sound hF)) ?_
                            rintro _ h36 ⟨r17, rfl, hF⟩
                            refine EvK.pure (v := .tuple #[Sl.val r17.1, IF.val r17.2]) (w_none rfl) rfl rfl (f_move rfl rfl) ?_
                            refine EvK.pure (v := Sl.val r17.1) (w_none rfl) rfl rfl (f_extract (vs := #[Sl.val r17.1, IF.val r17.2]) rfl rfl rfl) ?_
                            refine EvK.pure (v := IF.val r17.2) (w_none rfl) rfl rfl (f_extract (vs := #[Sl.val r17.1, IF.val r17.2]) rfl rfl rfl) ?_
                            refine EvK.pure (v := Sl.val r17.1) (w_none rfl) rfl rfl (f_assign rfl rfl) ?_
                            refine EvK.pure (v := IF.val r17.2) (w_none rfl) rfl rfl (f_assign rfl rfl) ?_
                            refine EvK.nil ?_
                            refine WP.seq ?_
                            refine WP.region ?_
                            refine EvK.pure (v := .pointer r3.1) (w_none rfl) rfl rfl (f_move rfl rfl) ?_
                            refine EvK.pure (v := .int .i64 (IntKind.i64.wrap ((IntKind.i64.wrap (3 * x2)) + r4))) (w_none rfl) rfl rfl (f_move rfl rfl) ?_
                            refine EvK.call (w_none rfl) rfl rfl (enterH Try.func17 rfl rfl rfl rfl (locks_Manager_Free.sound hF)) ?_
                            rintro _ h37 ⟨r18, rfl, hF⟩
                            refine EvK.pure (v := .tuple #[Sl.val r18.1, IF.val r18.2]) (w_none rfl) rfl rfl (f_move rfl rfl) ?_
                            refine EvK.pure (v := Sl.val r18.1) (w_none rfl) rfl rfl (f_extract (vs := #[Sl.val r18.1, IF.val r18.2]) rfl rfl rfl) ?_
                            refine EvK.pure (v := IF.val r18.2) (w_none rfl) rfl rfl (f_extract (vs := #[Sl.val r18.1, IF.val r18.2]) rfl rfl rfl) ?_
                            refine EvK.pure (v := Sl.val r18.1) (w_none rfl) rfl rfl (f_assign rfl rfl) ?_
                            refine EvK.pure (v := IF.val r18.2) (w_none rfl) rfl rfl (f_assign rfl rfl) ?_
                            refine EvK.nil ?_
                            refine WP.joinF (fun (s14 : Bool) => [(172, .bool s14), (0, .int .i64 a0), (1, Sl.val a1), (2, .int .i64 r4), (7, .pointer r2.1), (9, .pointer r3.1), (11, .int .i64 s3), (12, .pointer (some q2)), (13, .int .i64 (IntKind.i64.wrap ((IntKind.i64.wrap (3 * x2)) + r4)))]) hF ?_ ?_
                            · intro s14 E0 h38 hF
                              rcases ite_inv hF with ⟨c16, hF⟩ | ⟨c16, hF⟩
                              · refine WP.cond_true _ rfl c16 ?_
                                refine WP.seq ?_
                                refine WP.region ?_
                                refine EvK.pure (v := .bool false) (w_none rfl) rfl rfl (f_assign rfl rfl) ?_
                                refine EvK.nil ?_
                                refine WP.ret ?_
                                exact Ret.mk (vs := [.bool false]) false ⟨rfl, trivial⟩ rfl hF
                              · refine WP.cond_false _ rfl c16 ?_
                                refine WP.skip ?_
                                exact KE.mk () ⟨rfl, rfl, rfl, rfl, rfl, rfl, rfl, rfl, trivial⟩ hF
                            · intro k14 hF
                              refine WP.draw mixed [.pure, .pure, .pure, .pure, .pure, .pure, .pure, .pure, .eff [], .pure, .eff [], .pure, .pure] [[], [0], [], [2], [0, 1, 2, 3], [0, 1, 2, 3, 4], [0, 1, 2, 3, 4, 5], [0, 1, 2, 3, 4, 5], [0, 1, 2, 3, 4, 5, 6, 7], [0, 1, 2, 3, 4, 5], [0, 1, 2, 3, 4, 5, 6, 7, 8, 9], [0, 1, 2, 3, 4, 5, 6, 7, 8, 9, 10], [0, 1, 2, 3, 4, 5, 6, 7, 8, 9, 10, 11]] [0, 1, 2, 3, 4, 5, 6, 7, 9, 8, 10, 11, 12] (by kernel_rfl) (by kernel_rfl) ?_
                              refine EvI.pure (v := IF.val r17.2) rfl rfl (w_none rfl) rfl (f_move rfl rfl) ?_
                              refine EvI.pure (v := .bool r17.2.isNone) rfl rfl (w_none rfl) rfl (f_ieqln (a := r17.2) Try.underlying37 rfl rfl) ?_
                              refine EvI.pure (v := IF.val r18.2) rfl rfl (w_none rfl) rfl (f_move rfl rfl) ?_
                              refine EvI.pure (v := .bool r18.2.isNone) rfl rfl (w_none rfl) rfl (f_ieqln (a := r18.2) Try.underlying37 rfl rfl) ?_
                              refine EvI.pure (v := .bool (!(r17.2.isNone == r18.2.isNone))) rfl rfl (w_none rfl) rfl (f_bneq Try.underlying4 rfl rfl rfl) ?_
                              refine EvI.pure (v := .bool (!(r17.2.isNone == r18.2.isNone))) rfl rfl (w_none rfl) rfl (f_move rfl rfl) ?_
                              rcases ite_inv hF with ⟨c17, hF⟩ | ⟨c17, hF⟩
                              · refine EvI.not rfl (w_not rfl rfl c17) rfl ?_
                                refine EvI.not rfl (w_not rfl rfl c17) rfl ?_
                                refine EvI.not rfl (w_not rfl rfl c17) rfl ?_
                                refine EvI.not rfl (w_not rfl rfl c17) rfl ?_
                                refine EvI.not rfl (w_not rfl rfl c17) rfl ?_
                                refine EvI.not rfl (w_not rfl rfl c17) rfl ?_
                                refine EvI.pure (v := .bool true) rfl rfl (w_none rfl) rfl (f_pickT rfl rfl c17 rfl) ?_
                                refine EvI.nil ?_
                                exact KE.mk true ⟨rfl, rfl, rfl, rfl, rfl, rfl, rfl, rfl, rfl, trivial⟩ hF
                              · refine EvI.pure (v := Sl.val r17.1) rfl rfl (w_some rfl rfl c17) rfl (f_move rfl rfl) ?_
                                refine EvI.pure (v := .int .i64 r4) rfl rfl (w_some rfl rfl c17) rfl (f_move rfl rfl) ?_
                                refine EvI.pure (v := Sl.val r18.1) rfl rfl (w_some rfl rfl c17) rfl (f_move rfl rfl) ?_
                                refine EvI.call rfl rfl (w_some rfl rfl c17) rfl (enterH Try.func33 rfl rfl rfl rfl (spatelaw11_names.sound hF)) ?_
                                rintro _ h39 ⟨r19, rfl, hF⟩
                                refine ⟨trivial, ?_⟩
                                refine EvI.call rfl rfl (w_some rfl rfl c17) rfl (enterH Try.func19 rfl rfl rfl rfl (spatelaw11_SameInts.sound hF)) ?_
                                rintro _ h40 ⟨r20, rfl, hF⟩
                                refine ⟨trivial, ?_⟩
                                refine EvI.pure (v := .bool (!r20)) rfl rfl (w_some rfl rfl c17) rfl (f_not rfl rfl) ?_
                                refine EvI.pure (v := .bool (!r20)) rfl rfl (w_none rfl) rfl (f_pickF rfl rfl c17 rfl) ?_
                                refine EvI.nil ?_
                                exact KE.mk (!r20) ⟨rfl, rfl, rfl, rfl, rfl, rfl, rfl, rfl, rfl, trivial⟩ hF
                          · refine WP.cond_false _ rfl c15 ?_
                            refine WP.seq ?_
                            refine WP.region ?_
                            refine EvK.pure (v := .bool (x5 == 3)) (w_none rfl) rfl rfl (f_eql rfl rfl rfl) ?_
                            refine EvK.pure (v := .bool (x5 == 3)) (w_none rfl) rfl rfl (f_assign rfl rfl) ?_
                            refine EvK.nil ?_
                            rcases ite_inv hF with ⟨c18, hF⟩ | ⟨c18, hF⟩
                            · refine WP.cond_true _ rfl c18 ?_
                              refine WP.seq ?_
                              refine WP.region ?_
                              refine EvK.pure (v := .pointer r2.1) (w_none rfl) rfl rfl (f_move rfl rfl) ?_
                              refine EvK.pure (v := .pointer (some (q2.add 1))) (w_none rfl) rfl rfl (f_fieldAddr fd53_1 rfl rfl) ?_
                              obtain ⟨x17, hx15, hF⟩ := hF
                              refine EvK.read (v := .int .i64 x17) (w_none rfl) rfl rfl (f_load (kI .i64) ty3 rfl rfl hx15 rfl) ?_
                              refine EvK.call (w_none rfl) rfl rfl (enterH Try.func28 rfl rfl rfl rfl (locks_Manager_Quit.sound hF)) ?_
                              rintro _ h41 ⟨r21, rfl, hF⟩
                              refine EvK.pure (v := .int .i64 r4) (w_none rfl) rfl rfl (f_move rfl rfl) ?_
                              refine EvK.call (w_none rfl) rfl rfl (enterH Try.func33 rfl rfl rfl rfl (spatelaw11_names.sound hF)) ?_
                              rintro _ h42 ⟨r22, rfl, hF⟩
                              refine EvK.pure (v := .pointer r3.1) (w_none rfl) rfl rfl (f_move rfl rfl) ?_
                              refine EvK.pure (v := .int .i64 (IntKind.i64.wrap ((IntKind.i64.wrap (3 * x2)) + r4))) (w_none rfl) rfl rfl (f_move rfl rfl) ?_
                              refine EvK.call (w_none rfl) rfl rfl (enterH Try.func28 rfl rfl rfl rfl (locks_Manager_Quit.sound hF)) ?_
                              rintro _ h43 ⟨r23, rfl, hF⟩
                              refine EvK.call (w_none rfl) rfl rfl (enterH Try.func19 rfl rfl rfl rfl (spatelaw11_SameInts.sound hF)) ?_
                              rintro _ h44 ⟨r24, rfl, hF⟩
                              refine EvK.pure (v := .bool (!r24)) (w_none rfl) rfl rfl (f_not rfl rfl) ?_
                              refine EvK.nil ?_
                              rcases ite_inv hF with ⟨c19, hF⟩ | ⟨c19, hF⟩
                              · refine WP.cond_true _ rfl c19 ?_
                                refine WP.seq ?_
                                refine WP.region ?_
                                refine EvK.pure (v := .bool false) (w_none rfl) rfl rfl (f_assign rfl rfl) ?_
                                refine EvK.nil ?_
                                refine WP.ret ?_
                                exact Ret.mk (vs := [.bool false]) false ⟨rfl, trivial⟩ rfl hF
                              · refine WP.cond_false _ rfl c19 ?_
                                refine WP.skip ?_
                                exact KE.mk () ⟨rfl, rfl, rfl, rfl, rfl, rfl, rfl, rfl, trivial⟩ hF
                            · refine WP.cond_false _ rfl c18 ?_
                              refine WP.skip ?_
                              exact KE.mk () ⟨rfl, rfl, rfl, rfl, rfl, rfl, rfl, rfl, trivial⟩ hF
                  · intro k6 hF
                    refine WP.region ?_
                    refine EvK.pure (v := .pointer (some (q2.add 1))) (w_none rfl) rfl rfl (f_fieldAddr fd53_1 rfl rfl) ?_
                    obtain ⟨x18, hx16, hF⟩ := hF
                    refine EvK.read (v := .int .i64 x18) (w_none rfl) rfl rfl (f_load (kI .i64) ty3 rfl rfl hx16 rfl) ?_
                    refine EvK.pure (v := .bool (decide (x18 < 0))) (w_none rfl) rfl rfl (f_lss rfl rfl rfl) ?_
                    refine EvK.pure (v := .bool (decide (x18 < 0))) (w_none rfl) rfl rfl (f_move rfl rfl) ?_
                    rcases ite_inv hF with ⟨c20, hF⟩ | ⟨c20, hF⟩
                    · refine EvK.not (w_not rfl rfl c20) rfl rfl ?_
                      refine EvK.not (w_not rfl rfl c20) rfl rfl ?_
                      refine EvK.not (w_not rfl rfl c20) rfl rfl ?_
                      refine EvK.pure (v := .bool true) (w_none rfl) rfl rfl (f_pickT rfl rfl c20 rfl) ?_
                      refine EvK.nil ?_
                      exact KE.mk true ⟨rfl, rfl, rfl, rfl, rfl, rfl, rfl, rfl, trivial⟩ hF
                    · refine EvK.pure (v := .pointer (some (q2.add 1))) (w_some rfl rfl c20) rfl rfl (f_fieldAddr fd53_1 rfl rfl) ?_
                      obtain ⟨x19, hx17, hF⟩ := hF
                      refine EvK.read (v := .int .i64 x19) (w_some rfl rfl c20) rfl rfl (f_load (kI .i64) ty3 rfl rfl hx17 rfl) ?_
                      refine EvK.pure (v := .bool (decide (x19 > 1099511627776))) (w_some rfl rfl c20) rfl rfl (f_gtr rfl rfl rfl) ?_
                      refine EvK.pure (v := .bool (decide (x19 > 1099511627776))) (w_none rfl) rfl rfl (f_pickF rfl rfl c20 rfl) ?_
                      refine EvK.nil ?_
                      exact KE.mk (decide (x19 > 1099511627776)) ⟨rfl, rfl, rfl, rfl, rfl, rfl, rfl, rfl, trivial⟩ hF
              · refine WP.cond_false _ rfl c4 ?_
                refine WP.exit ?_
                exact KE.mk () trivial hF
            · intro k4 hF
              refine WP.region ?_
              refine EvK.pure (v := .int .i64 s3) (w_none rfl) rfl rfl (f_move rfl rfl) ?_
              refine EvK.pure (v := Sl.val a1) (w_none rfl) rfl rfl (f_move rfl rfl) ?_
              refine EvK.pure (v := .int .i64 (a1.len : Int)) (w_none rfl) rfl rfl (f_lenL (s := a1) Try.underlying47 rfl rfl) ?_
              refine EvK.pure (v := .bool (decide (s3 < (a1.len : Int)))) (w_none rfl) rfl rfl (f_lss rfl rfl rfl) ?_
              refine EvK.pure (v := .bool (decide (s3 < (a1.len : Int)))) (w_none rfl) rfl rfl (f_move rfl rfl) ?_
              rcases ite_inv hF with ⟨c21, hF⟩ | ⟨c21, hF⟩
              · refine EvK.pure (v := .int .i64 s3) (w_some rfl rfl c21) rfl rfl (f_move rfl rfl) ?_
                refine EvK.pure (v := .bool (decide (s3 < 300))) (w_some rfl rfl c21) rfl rfl (f_lss rfl rfl rfl) ?_
                refine EvK.pure (v := .bool (decide (s3 < 300))) (w_none rfl) rfl rfl (f_pickT rfl rfl c21 rfl) ?_
                refine EvK.nil ?_
                exact KE.mk (decide (s3 < 300)) ⟨rfl, rfl, rfl, rfl, rfl, rfl, rfl, trivial⟩ hF
              · refine EvK.not (w_not rfl rfl c21) rfl rfl ?_
                refine EvK.not (w_not rfl rfl c21) rfl rfl ?_
                refine EvK.pure (v := .bool false) (w_none rfl) rfl rfl (f_pickF rfl rfl c21 rfl) ?_
                refine EvK.nil ?_
                exact KE.mk false ⟨rfl, rfl, rfl, rfl, rfl, rfl, rfl, trivial⟩ hF
    · intro k1 hF
      refine WP.region ?_
      refine EvK.pure (v := .int .i64 r2.2) (w_none rfl) rfl rfl (f_move rfl rfl) ?_
      refine EvK.pure (v := .int .i64 r3.2) (w_none rfl) rfl rfl (f_move rfl rfl) ?_
      refine EvK.pure (v := .bool (r2.2 != r3.2)) (w_none rfl) rfl rfl (f_neq rfl rfl rfl) ?_
      refine EvK.pure (v := .bool (r2.2 != r3.2)) (w_none rfl) rfl rfl (f_move rfl rfl) ?_
      rcases ite_inv hF with ⟨c22, hF⟩ | ⟨c22, hF⟩
      · refine EvK.not (w_not rfl rfl c22) rfl rfl ?_
        refine EvK.not (w_not rfl rfl c22) rfl rfl ?_
        refine EvK.not (w_not rfl rfl c22) rfl rfl ?_
        refine EvK.not (w_not rfl rfl c22) rfl rfl ?_
        refine EvK.not (w_not rfl rfl c22) rfl rfl ?_
        refine EvK.pure (v := .bool true) (w_none rfl) rfl rfl (f_pickT rfl rfl c22 rfl) ?_
        refine EvK.nil ?_
        exact KE.mk true ⟨rfl, rfl, rfl, rfl, rfl, rfl, trivial⟩ hF
      · refine EvK.pure (v := .pointer r2.1) (w_some rfl rfl c22) rfl rfl (f_move rfl rfl) ?_
        refine EvK.pure (v := .bool r2.1.isNone) (w_some rfl rfl c22) rfl rfl (f_peqln Try.underlying25 rfl rfl rfl) ?_
        refine EvK.pure (v := .pointer r3.1) (w_some rfl rfl c22) rfl rfl (f_move rfl rfl) ?_
        refine EvK.pure (v := .bool r3.1.isNone) (w_some rfl rfl c22) rfl rfl (f_peqln Try.underlying25 rfl rfl rfl) ?_
        refine EvK.pure (v := .bool (!(r2.1.isNone == r3.1.isNone))) (w_some rfl rfl c22) rfl rfl (f_bneq Try.underlying4 rfl rfl rfl) ?_
        refine EvK.pure (v := .bool (!(r2.1.isNone == r3.1.isNone))) (w_none rfl) rfl rfl (f_pickF rfl rfl c22 rfl) ?_
        refine EvK.nil ?_
        exact KE.mk (!(r2.1.isNone == r3.1.isNone)) ⟨rfl, rfl, rfl, rfl, rfl, rfl, trivial⟩ hF
end Go.Proofs.Ytgmihbchcmjmdaa
