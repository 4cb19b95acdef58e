/- Functions as predicates over the heap, and that the code comes to them. Printed by gen.py, merged by group.py. -/
import Derived.Test.YtgmihbchcmjmdaaG0
import Derived.Test.YtgmihbchcmjmdaaG1
import Derived.Test.YtgmihbchcmjmdaaG8
import Derived.Test.YtgmihbchcmjmdaaG9
import Derived.Test.YtgmihbchcmjmdaaTy
namespace Go.Proofs.Ytgmihbchcmjmdaa
open Go Go.Tr
set_option linter.unusedVariables false
set_option maxRecDepth 100000
set_option maxHeartbeats 400000
def spatelaw11_LocksBook.b1 (p2 : Sl) (p7 : Option Addr) (p9 : Option Addr) (s : Int) (h : H) (K : Int ⊕ (Unit ⊕ Bool) → H → Prop) : Prop :=
  jn (fun (k6 : Bool → H → Prop) =>
    if (decide (s < (p2.len : Int))) = true then
      k6 (decide (s < 60)) h
    else
      k6 false h) fun s6 h9 =>
  if s6 = true then
    jn (fun (k7 : Bool → H → Prop) =>
      rd (ixA 3 p2 s) fun q1 =>
      rd (ld k52 q1 h9) fun x1 =>
      spatelaw11_step p7 p9 x1 h9 fun r4 h11 =>
      if (!r4) = true then
        k7 true h11
      else
        rd (ixA 3 p2 s) fun q2 =>
        rd (ld (kI .i64) (q2.add 1) h11) fun x2 =>
        spatelaw11_looks p7 p9 x2 h11 fun r5 h12 =>
        k7 (!r5) h12) fun s7 h10 =>
    if s7 = true then
      K (.inr (.inr false)) h10
    else
      K (.inl (IntKind.i64.wrap (s + 1))) h10
  else
    K (.inr (.inl ())) h9
def spatelaw11_LocksBook.b2 (p1 : Sl) (p2 : Sl) (p7 : Option Addr) (p9 : Option Addr) (s : Int) (h : H) (K : Int ⊕ (Unit ⊕ Bool) → H → Prop) : Prop :=
  jn (fun (k9 : Bool → H → Prop) =>
    if (decide (s < (p1.len : Int))) = true then
      k9 (decide (s < 60)) h
    else
      k9 false h) fun s9 h14 =>
  if s9 = true then
    rd (ixA 3 p1 s) fun q3 =>
    rd (ld (kI .i64) (q3.add 1) h14) fun x3 =>
    spatelaw11_looks p7 p9 x3 h14 fun r8 h15 =>
    if (!r8) = true then
      K (.inr (.inr false)) h15
    else
      K (.inl (IntKind.i64.wrap (s + 1))) h15
  else
    K (.inr (.inl ())) h14
def spatelaw11_LocksBook.b4 (p1 : Sl) (p2 : Sl) (p7 : Option Addr) (p9 : Option Addr) (p13 : Int) (p14 : Addr) (s : Sl × Sl × Int) (h : H) (K : (Sl × Sl × Int) ⊕ ((Sl × Sl) ⊕ Bool) → H → Prop) : Prop :=
  if (decide (s.2.2 < 2)) = true then
    rd (ld (kI .i64) (p14.add 1) h) fun x5 =>
    locks_Manager_Has p7 x5 h fun r13 h24 =>
    locks_Manager_Queue p7 h24 fun r14 h25 =>
    jn (fun (k14 : Bool → H → Prop) =>
      rd (ld (kI .i64) (p14.add 1) h25) fun x10 =>
      spateref11_Manager_Has p9 x10 h25 fun r15 h31 =>
      spatelaw11_SameLocks r13 r15 h31 fun r16 h32 =>
      if (!r16) = true then
        k14 true h32
      else
        spateref11_Manager_Queue p9 h32 fun r17 h33 =>
        spatelaw11_SameInts r14 r17 h33 fun r18 h34 =>
        k14 (!r18) h34) fun s14 h26 =>
    if s14 = true then
      K (.inr (.inr false)) h26
    else
      bs 30 1 (kL.enc r13) h26 fun x6 h27 =>
      ap kL.n 24 30 (kL.enc Sl.nil) s.2.1 x6 h27 fun x7 h28 =>
      bs 22 1 (kL.enc r14) h28 fun x8 h29 =>
      ap kL.n 24 22 (kL.enc Sl.nil) s.1 x8 h29 fun x9 h30 =>
      K (.inl (x9, x7, IntKind.i64.wrap (s.2.2 + 1))) h30
  else
    K (.inr (.inl (s.1, s.2.1))) h
def spatelaw11_LocksBook.b3 (p1 : Sl) (p2 : Sl) (p7 : Option Addr) (p9 : Option Addr) (s : Sl × Sl × Int) (h : H) (K : (Sl × Sl × Int) ⊕ ((Sl × Sl) ⊕ Bool) → H → Prop) : Prop :=
  jn (fun (k11 : Bool → H → Prop) =>
    if (decide (s.2.2 < (p1.len : Int))) = true then
      k11 (decide (s.2.2 < 60)) h
    else
      k11 false h) fun s11 h19 =>
  if s11 = true then
    jn (fun (k12 : (Sl × Sl) → H → Prop) =>
      rd (ixA 3 p1 s.2.2) fun q4 =>
      rd (ld k52 q4 h19) fun x4 =>
      al 53 (k52.enc z52) h19 fun q5 h21 =>
      rd (st k52 q5 x4 h21) fun h22 =>
      jn (fun (k13 : Sl → H → Prop) =>
        rd (ld (kI .i64) (q5.add 0) h22) fun x11 =>
        if (x11 == 2) = true then
          rd (ld (kI .i64) (q5.add 1) h22) fun x12 =>
          locks_Manager_Free p7 x12 h22 fun r21 h36 =>
          rd (ld (kI .i64) (q5.add 1) h36) fun x13 =>
          spateref11_Manager_Free p9 x13 h36 fun r22 h37 =>
          jn (fun (k16 : Bool → H → Prop) =>
            spatelaw11_SameInts r21.1 r22.1 h37 fun r23 h41 =>
            if (!r23) = true then
              k16 true h41
            else
              spatelaw11_is r21.2 r22.2 h41 fun r24 h42 =>
              k16 (!r24) h42) fun s16 h38 =>
          if s16 = true then
            K (.inr (.inr false)) h38
          else
            bs 22 1 (kL.enc r21.1) h38 fun x14 h39 =>
            ap kL.n 24 22 (kL.enc Sl.nil) s.1 x14 h39 fun x15 h40 =>
            k13 x15 h40
        else
          if (x11 == 3) = true then
            rd (ld (kI .i64) (q5.add 1) h22) fun x16 =>
            locks_Manager_Quit p7 x16 h22 fun r25 h43 =>
            rd (ld (kI .i64) (q5.add 1) h43) fun x17 =>
            spateref11_Manager_Quit p9 x17 h43 fun r26 h44 =>
            spatelaw11_SameInts r25 r26 h44 fun r27 h45 =>
            if (!r27) = true then
              K (.inr (.inr false)) h45
            else
              bs 22 1 (kL.enc r25) h45 fun x18 h46 =>
              ap kL.n 24 22 (kL.enc Sl.nil) s.1 x18 h46 fun x19 h47 =>
              k13 x19 h47
          else
            rd (ld k52 q5 h22) fun x20 =>
            spatelaw11_step p7 p9 x20 h22 fun r28 h48 =>
            if (!r28) = true then
              K (.inr (.inr false)) h48
            else
              k13 s.1 h48) fun s13 h23 =>
      loopE (spatelaw11_LocksBook.b4 p1 p2 p7 p9 s.2.2 q5) (s13, s.2.1, 0) h23 (sumK (fun r19 hh => k12 r19 hh) (fun r20 hh => K (.inr (.inr r20)) hh))) fun s12 h20 =>
    K (.inl (s12.1, s12.2, IntKind.i64.wrap (s.2.2 + 1))) h20
  else
    K (.inr (.inl (s.1, s.2.1))) h19
/-- spate/spatelaw11.LocksBook -/
def spatelaw11_LocksBook (a0 : Int) (a1 : Sl) (a2 : Sl) (h : H) (Q : Bool → H → Prop) : Prop :=
  spatelaw11_known  h fun r1 h1 =>
  if (!r1) = true then
    Q false h1
  else
    locks_New a0 h1 fun r2 h2 =>
    spateref11_New a0 h2 fun r3 h3 =>
    jn (fun (k1 : Bool → H → Prop) =>
      if (r2.2 != r3.2) = true then
        k1 true h3
      else
        k1 (!(r2.1.isNone == r3.1.isNone)) h3) fun s1 h4 =>
    if s1 = true then
      Q false h4
    else
      if r2.1.isNone = true then
        Q true h4
      else
        jn (fun (k2 : (Sl × Sl) → H → Prop) =>
          loopE (spatelaw11_LocksBook.b3 a1 a2 r2.1 r3.1) (Sl.nil, Sl.nil, 0) h4 (sumK (fun r29 hh => k2 r29 hh) (fun r30 hh => Q r30 hh))) fun s2 h5 =>
        jn (fun (k3 : Bool → H → Prop) =>
          spatelaw2_GrownInts s2.1 h5 fun r11 h17 =>
          if (!r11) = true then
            k3 true h17
          else
            spatelaw2_GrownLocks s2.2 h17 fun r12 h18 =>
            k3 (!r12) h18) fun s3 h6 =>
        if s3 = true then
          Q false h6
        else
          jn (fun (k4 : Unit → H → Prop) =>
            loopE (spatelaw11_LocksBook.b2 a1 a2 r2.1 r3.1) 0 h6 (sumK (fun r9 hh => k4 r9 hh) (fun r10 hh => Q r10 hh))) fun s4 h7 =>
          jn (fun (k5 : Unit → H → Prop) =>
            loopE (spatelaw11_LocksBook.b1 a2 r2.1 r3.1) 0 h7 (sumK (fun r6 hh => k5 r6 hh) (fun r7 hh => Q r7 hh))) fun s5 h8 =>
          Q true h8
theorem spatelaw11_LocksBook.sound {a0 : Int} {a1 : Sl} {a2 : Sl} {h : H} {Q : Bool → H → Prop} (hF : spatelaw11_LocksBook a0 a1 a2 h Q) :
    CallsH Try.prog 9 (List.toArray (α := Value) [.int .i64 a0, Sl.val a1, Sl.val a2]) h fun v h' => ∃ x : Bool, v = .bool x ∧ Q x h' := by
  refine CallsH.of_body Try.func9 rfl 205 rfl rfl ?_
  refine WP.seq ?_
  refine WP.region ?_
  refine EvK.pure (v := .bool false) (w_none rfl) rfl rfl (f_assign rfl rfl) ?_
  refine EvK.nil ?_
  refine WP.seq ?_
  refine WP.seq ?_
  refine WP.region ?_
  refine EvK.call (w_none rfl) rfl rfl (enterH Try.func10 rfl rfl rfl rfl (spatelaw11_known.sound hF)) ?_
  rintro _ h1 ⟨r1, rfl, hF⟩
  refine EvK.pure (v := .bool (!r1)) (w_none rfl) rfl rfl (f_not rfl rfl) ?_
  refine EvK.nil ?_
  rcases ite_inv hF with ⟨c1, hF⟩ | ⟨c1, hF⟩
  · refine WP.cond_true _ rfl c1 ?_
    refine WP.seq ?_
    refine WP.region ?_
    refine EvK.pure (v := .bool false) (w_none rfl) rfl rfl (f_assign rfl rfl) ?_
    refine EvK.nil ?_
    refine WP.ret ?_
    exact Ret.mk (vs := [.bool false]) false ⟨rfl, trivial⟩ rfl hF
  · refine WP.cond_false _ rfl c1 ?_
    refine WP.skip ?_
    refine WP.seq ?_
    refine WP.region ?_
    refine EvK.pure (v := .int .i64 a0) (w_none rfl) rfl rfl (f_move rfl rfl) ?_
    refine EvK.call (w_none rfl) rfl rfl (enterH Try.func12 rfl rfl rfl rfl (locks_New.sound hF)) ?_
    rintro _ h2 ⟨r2, rfl, hF⟩
    refine EvK.pure (v := .tuple #[.pointer r2.1, .int .i64 r2.2]) (w_none rfl) rfl rfl (f_move rfl rfl) ?_
    refine EvK.pure (v := .pointer r2.1) (w_none rfl) rfl rfl (f_extract (vs := #[.pointer r2.1, .int .i64 r2.2]) rfl rfl rfl) ?_
    refine EvK.pure (v := .int .i64 r2.2) (w_none rfl) rfl rfl (f_extract (vs := #[.pointer r2.1, .int .i64 r2.2]) rfl rfl rfl) ?_
    refine EvK.pure (v := .pointer r2.1) (w_none rfl) rfl rfl (f_assign rfl rfl) ?_
    refine EvK.pure (v := .int .i64 r2.2) (w_none rfl) rfl rfl (f_assign rfl rfl) ?_
    refine EvK.nil ?_
    refine WP.seq ?_
    refine WP.region ?_
    refine EvK.pure (v := .int .i64 a0) (w_none rfl) rfl rfl (f_move rfl rfl) ?_
    refine EvK.call (w_none rfl) rfl rfl (enterH Try.func21 rfl rfl rfl rfl (spateref11_New.sound hF)) ?_
    rintro _ h3 ⟨r3, rfl, hF⟩
    refine EvK.pure (v := .tuple #[.pointer r3.1, .int .i64 r3.2]) (w_none rfl) rfl rfl (f_move rfl rfl) ?_
    refine EvK.pure (v := .pointer r3.1) (w_none rfl) rfl rfl (f_extract (vs := #[.pointer r3.1, .int .i64 r3.2]) rfl rfl rfl) ?_
    refine EvK.pure (v := .int .i64 r3.2) (w_none rfl) rfl rfl (f_extract (vs := #[.pointer r3.1, .int .i64 r3.2]) rfl rfl rfl) ?_
    refine EvK.pure (v := .pointer r3.1) (w_none rfl) rfl rfl (f_assign rfl rfl) ?_
    refine EvK.pure (v := .int .i64 r3.2) (w_none rfl) rfl rfl (f_assign rfl rfl) ?_
    refine EvK.nil ?_
    refine WP.seq ?_
    refine WP.joinF (fun (s1 : Bool) => [(46, .bool s1), (1, Sl.val a1), (2, Sl.val a2), (7, .pointer r2.1), (9, .pointer r3.1)]) hF ?_ ?_
    · intro s1 E0 h4 hF
      rcases ite_inv hF with ⟨c2, hF⟩ | ⟨c2, hF⟩
      · refine WP.cond_true _ rfl c2 ?_
        refine WP.seq ?_
        refine WP.region ?_
        refine EvK.pure (v := .bool false) (w_none rfl) rfl rfl (f_assign rfl rfl) ?_
        refine EvK.nil ?_
        refine WP.ret ?_
        exact Ret.mk (vs := [.bool false]) false ⟨rfl, trivial⟩ rfl hF
      · refine WP.cond_false _ rfl c2 ?_
        refine WP.skip ?_
        refine WP.seq ?_
        refine WP.seq ?_
        refine WP.region ?_
        refine EvK.pure (v := .pointer r2.1) (w_none rfl) rfl rfl (f_move rfl rfl) ?_
        refine EvK.pure (v := .bool r2.1.isNone) (w_none rfl) rfl rfl (f_peqln Try.underlying25 rfl rfl rfl) ?_
        refine EvK.nil ?_
        rcases ite_inv hF with ⟨c3, hF⟩ | ⟨c3, hF⟩
        · refine WP.cond_true _ rfl c3 ?_
          refine WP.seq ?_
          refine WP.region ?_
          refine EvK.pure (v := .bool true) (w_none rfl) rfl rfl (f_assign rfl rfl) ?_
          refine EvK.nil ?_
          refine WP.ret ?_
          exact Ret.mk (vs := [.bool true]) true ⟨rfl, trivial⟩ rfl hF
        · refine WP.cond_false _ rfl c3 ?_
          refine WP.skip ?_
          refine WP.seq ?_
          refine WP.region ?_
          refine EvK.pure (v := Sl.val Sl.nil) (w_none rfl) rfl rfl (f_assign rfl rfl) ?_
          refine EvK.nil ?_
          refine WP.seq ?_
          refine WP.region ?_
          refine EvK.pure (v := Sl.val Sl.nil) (w_none rfl) rfl rfl (f_assign rfl rfl) ?_
          refine EvK.nil ?_
          refine WP.joinF (fun (s2 : Sl × Sl) => [(11, Sl.val s2.1), (12, Sl.val s2.2), (1, Sl.val a1), (2, Sl.val a2), (7, .pointer r2.1), (9, .pointer r3.1)]) hF ?_ ?_
          · intro s2 E0 h5 hF
            refine WP.seq ?_
            refine WP.joinF (fun (s3 : Bool) => [(156, .bool s3), (1, Sl.val a1), (2, Sl.val a2), (7, .pointer r2.1), (9, .pointer r3.1)]) hF ?_ ?_
            · intro s3 E0 h6 hF
              rcases ite_inv hF with ⟨c4, hF⟩ | ⟨c4, hF⟩
              · refine WP.cond_true _ rfl c4 ?_
                refine WP.seq ?_
                refine WP.region ?_
                refine EvK.pure (v := .bool false) (w_none rfl) rfl rfl (f_assign rfl rfl) ?_
                refine EvK.nil ?_
                refine WP.ret ?_
                exact Ret.mk (vs := [.bool false]) false ⟨rfl, trivial⟩ rfl hF
              · refine WP.cond_false _ rfl c4 ?_
                refine WP.skip ?_
                refine WP.joinF (fun (s4 : Unit) => [(2, Sl.val a2), (7, .pointer r2.1), (9, .pointer r3.1)]) hF ?_ ?_
                · intro s4 E0 h7 hF
                  refine WP.joinF (fun (s5 : Unit) => []) hF ?_ ?_
                  · intro s5 E0 h8 hF
                    refine WP.seq ?_
                    refine WP.region ?_
                    refine EvK.pure (v := .bool true) (w_none rfl) rfl rfl (f_assign rfl rfl) ?_
                    refine EvK.nil ?_
                    refine WP.ret ?_
                    exact Ret.mk (vs := [.bool true]) true ⟨rfl, trivial⟩ rfl hF
                  · intro k5 hF
                    refine WP.seq ?_
                    refine WP.region ?_
                    refine EvK.pure (v := .int .i64 0) (w_none rfl) rfl rfl (f_assign rfl rfl) ?_
                    refine EvK.nil ?_
                    refine WP.block ?_
                    refine WP.loopF (fun (s6 : Int) => [(24, .int .i64 s6), (2, Sl.val a2), (7, .pointer r2.1), (9, .pointer r3.1)]) hF ⟨rfl, rfl, rfl, rfl, trivial⟩ ?_
                    intro k6 s6 E0 h9 hF
                    refine WP.seq ?_
                    refine WP.joinF (fun (s7 : Bool) => [(183, .bool s7), (2, Sl.val a2), (7, .pointer r2.1), (9, .pointer r3.1), (24, .int .i64 s6)]) hF ?_ ?_
                    · intro s7 E0 h10 hF
                      rcases ite_inv hF with ⟨c5, hF⟩ | ⟨c5, hF⟩
                      · refine WP.cond_true _ rfl c5 ?_
                        refine WP.skip ?_
                        refine WP.seq ?_
                        refine WP.block ?_
                        refine WP.joinF (fun (s8 : Bool) => [(204, .bool s8), (2, Sl.val a2), (7, .pointer r2.1), (9, .pointer r3.1), (24, .int .i64 s6)]) hF ?_ ?_
                        · intro s8 E0 h11 hF
                          rcases ite_inv hF with ⟨c6, hF⟩ | ⟨c6, hF⟩
                          · refine WP.cond_true _ rfl c6 ?_
                            refine WP.seq ?_
                            refine WP.region ?_
                            refine EvK.pure (v := .bool false) (w_none rfl) rfl rfl (f_assign rfl rfl) ?_
                            refine EvK.nil ?_
                            refine WP.ret ?_
                            exact Ret.mk (vs := [.bool false]) false ⟨rfl, trivial⟩ rfl hF
                          · refine WP.cond_false _ rfl c6 ?_
                            refine WP.skip ?_
                            refine WP.region ?_
                            refine EvK.pure (v := .int .i64 s6) (w_none rfl) rfl rfl (f_move rfl rfl) ?_
                            refine EvK.pure (v := .int .i64 (IntKind.i64.wrap (s6 + 1))) (w_none rfl) rfl rfl (f_add rfl rfl rfl) ?_
                            refine EvK.pure (v := .int .i64 (IntKind.i64.wrap (s6 + 1))) (w_none rfl) rfl rfl (f_assign rfl rfl) ?_
                            refine EvK.nil ?_
                            exact KE.mk (IntKind.i64.wrap (s6 + 1)) ⟨rfl, rfl, rfl, rfl, trivial⟩ hF
                        · intro k8 hF
                          refine WP.region ?_
                          refine EvK.pure (v := .pointer r2.1) (w_none rfl) rfl rfl (f_move rfl rfl) ?_
                          refine EvK.pure (v := .pointer r3.1) (w_none rfl) rfl rfl (f_move rfl rfl) ?_
                          refine EvK.pure (v := Sl.val a2) (w_none rfl) rfl rfl (f_move rfl rfl) ?_
                          refine EvK.pure (v := .int .i64 s6) (w_none rfl) rfl rfl (f_move rfl rfl) ?_
                          obtain ⟨q1, hq1, hF⟩ := hF
                          refine EvK.pure (v := .pointer (some q1)) (w_none rfl) rfl rfl (f_indexAddr (s := a2) Try.underlying47 ty53.size rfl rfl rfl hq1) ?_
                          obtain ⟨x1, hx1, hF⟩ := hF
                          refine EvK.read (v := k52.val x1) (w_none rfl) rfl rfl (f_load k52 ty53 rfl rfl hx1 rfl) ?_
                          refine EvK.call (w_none rfl) rfl rfl (enterH Try.func22 rfl rfl rfl rfl (spatelaw11_step.sound hF)) ?_
                          rintro _ h12 ⟨r4, rfl, hF⟩
                          refine EvK.pure (v := .bool (!r4)) (w_none rfl) rfl rfl (f_not rfl rfl) ?_
                          refine EvK.pure (v := .bool (!r4)) (w_none rfl) rfl rfl (f_move rfl rfl) ?_
                          rcases ite_inv hF with ⟨c7, hF⟩ | ⟨c7, hF⟩
                          · refine EvK.not (w_not rfl rfl c7) rfl rfl ?_
                            refine EvK.not (w_not rfl rfl c7) rfl rfl ?_
                            refine EvK.not (w_not rfl rfl c7) rfl rfl ?_
                            refine EvK.not (w_not rfl rfl c7) rfl rfl ?_
                            refine EvK.not (w_not rfl rfl c7) rfl rfl ?_
                            refine EvK.not (w_not rfl rfl c7) rfl rfl ?_
                            refine EvK.not (w_not rfl rfl c7) rfl rfl ?_
                            refine EvK.not (w_not rfl rfl c7) rfl rfl ?_
                            refine EvK.not (w_not rfl rfl c7) rfl rfl ?_
                            refine EvK.pure (v := .bool true) (w_none rfl) rfl rfl (f_pickT rfl rfl c7 rfl) ?_
                            refine EvK.nil ?_
                            exact KE.mk true ⟨rfl, rfl, rfl, rfl, rfl, trivial⟩ hF
                          · refine EvK.pure (v := .pointer r2.1) (w_some rfl rfl c7) rfl rfl (f_move rfl rfl) ?_
                            refine EvK.pure (v := .pointer r3.1) (w_some rfl rfl c7) rfl rfl (f_move rfl rfl) ?_
                            refine EvK.pure (v := Sl.val a2) (w_some rfl rfl c7) rfl rfl (f_move rfl rfl) ?_
                            refine EvK.pure (v := .int .i64 s6) (w_some rfl rfl c7) rfl rfl (f_move rfl rfl) ?_
                            obtain ⟨q2, hq2, hF⟩ := hF
                            refine EvK.pure (v := .pointer (some q2)) (w_some rfl rfl c7) rfl rfl (f_indexAddr (s := a2) Try.underlying47 ty53.size rfl rfl rfl hq2) ?_
                            refine EvK.pure (v := .pointer (some (q2.add 1))) (w_some rfl rfl c7) rfl rfl (f_fieldAddr fd53_1 rfl rfl) ?_
                            obtain ⟨x2, hx2, hF⟩ := hF
                            refine EvK.read (v := .int .i64 x2) (w_some rfl rfl c7) rfl rfl (f_load (kI .i64) ty3 rfl rfl hx2 rfl) ?_
                            refine EvK.call (w_some rfl rfl c7) rfl rfl (enterH Try.func23 rfl rfl rfl rfl (spatelaw11_looks.sound hF)) ?_
                            rintro _ h13 ⟨r5, rfl, hF⟩
                            refine EvK.pure (v := .bool (!r5)) (w_some rfl rfl c7) rfl rfl (f_not rfl rfl) ?_
                            refine EvK.pure (v := .bool (!r5)) (w_none rfl) rfl rfl (f_pickF rfl rfl c7 rfl) ?_
                            refine EvK.nil ?_
                            exact KE.mk (!r5) ⟨rfl, rfl, rfl, rfl, rfl, trivial⟩ hF
                      · refine WP.cond_false _ rfl c5 ?_
                        refine WP.exit ?_
                        exact KE.mk () trivial hF
                    · intro k7 hF
                      refine WP.region ?_
                      refine EvK.pure (v := .int .i64 s6) (w_none rfl) rfl rfl (f_move rfl rfl) ?_
                      refine EvK.pure (v := Sl.val a2) (w_none rfl) rfl rfl (f_move rfl rfl) ?_
                      refine EvK.pure (v := .int .i64 (a2.len : Int)) (w_none rfl) rfl rfl (f_lenL (s := a2) Try.underlying47 rfl rfl) ?_
                      refine EvK.pure (v := .bool (decide (s6 < (a2.len : Int)))) (w_none rfl) rfl rfl (f_lss rfl rfl rfl) ?_
                      refine EvK.pure (v := .bool (decide (s6 < (a2.len : Int)))) (w_none rfl) rfl rfl (f_move rfl rfl) ?_
                      rcases ite_inv hF with ⟨c8, hF⟩ | ⟨c8, hF⟩
                      · refine EvK.pure (v := .int .i64 s6) (w_some rfl rfl c8) rfl rfl (f_move rfl rfl) ?_
                        refine EvK.pure (v := .bool (decide (s6 < 60))) (w_some rfl rfl c8) rfl rfl (f_lss rfl rfl rfl) ?_
                        refine EvK.pure (v := .bool (decide (s6 < 60))) (w_none rfl) rfl rfl (f_pickT rfl rfl c8 rfl) ?_
                        refine EvK.nil ?_
                        exact KE.mk (decide (s6 < 60)) ⟨rfl, rfl, rfl, rfl, rfl, trivial⟩ hF
                      · refine EvK.not (w_not rfl rfl c8) rfl rfl ?_
                        refine EvK.not (w_not rfl rfl c8) rfl rfl ?_
                        refine EvK.pure (v := .bool false) (w_none rfl) rfl rfl (f_pickF rfl rfl c8 rfl) ?_
                        refine EvK.nil ?_
                        exact KE.mk false ⟨rfl, rfl, rfl, rfl, rfl, trivial⟩ hF
                · intro k4 hF
                  refine WP.seq ?_
                  refine WP.region ?_
                  refine EvK.pure (v := .int .i64 0) (w_none rfl) rfl rfl (f_assign rfl rfl) ?_
                  refine EvK.nil ?_
                  refine WP.block ?_
                  refine WP.loopF (fun (s9 : Int) => [(23, .int .i64 s9), (1, Sl.val a1), (2, Sl.val a2), (7, .pointer r2.1), (9, .pointer r3.1)]) hF ⟨rfl, rfl, rfl, rfl, rfl, trivial⟩ ?_
                  intro k9 s9 E0 h14 hF
                  refine WP.seq ?_
                  refine WP.joinF (fun (s10 : Bool) => [(164, .bool s10), (1, Sl.val a1), (2, Sl.val a2), (7, .pointer r2.1), (9, .pointer r3.1), (23, .int .i64 s9)]) hF ?_ ?_
                  · intro s10 E0 h15 hF
                    rcases ite_inv hF with ⟨c9, hF⟩ | ⟨c9, hF⟩
                    · refine WP.cond_true _ rfl c9 ?_
                      refine WP.skip ?_
                      refine WP.seq ?_
                      refine WP.block ?_
                      refine WP.seq ?_
                      refine WP.region ?_
                      refine EvK.pure (v := .pointer r2.1) (w_none rfl) rfl rfl (f_move rfl rfl) ?_
                      refine EvK.pure (v := .pointer r3.1) (w_none rfl) rfl rfl (f_move rfl rfl) ?_
                      refine EvK.pure (v := Sl.val a1) (w_none rfl) rfl rfl (f_move rfl rfl) ?_
                      refine EvK.pure (v := .int .i64 s9) (w_none rfl) rfl rfl (f_move rfl rfl) ?_
                      obtain ⟨q3, hq3, hF⟩ := hF
                      refine EvK.pure (v := .pointer (some q3)) (w_none rfl) rfl rfl (f_indexAddr (s := a1) Try.underlying47 ty53.size rfl rfl rfl hq3) ?_
                      refine EvK.pure (v := .pointer (some (q3.add 1))) (w_none rfl) rfl rfl (f_fieldAddr fd53_1 rfl rfl) ?_
                      obtain ⟨x3, hx3, hF⟩ := hF
                      refine EvK.read (v := .int .i64 x3) (w_none rfl) rfl rfl (f_load (kI .i64) ty3 rfl rfl hx3 rfl) ?_
                      refine EvK.call (w_none rfl) rfl rfl (enterH Try.func23 rfl rfl rfl rfl (spatelaw11_looks.sound hF)) ?_
                      rintro _ h16 ⟨r8, rfl, hF⟩
                      refine EvK.pure (v := .bool (!r8)) (w_none rfl) rfl rfl (f_not rfl rfl) ?_
                      refine EvK.nil ?_
                      rcases ite_inv hF with ⟨c10, hF⟩ | ⟨c10, hF⟩
                      · refine WP.cond_true _ rfl c10 ?_
                        refine WP.seq ?_
                        refine WP.region ?_
                        refine EvK.pure (v := .bool false) (w_none rfl) rfl rfl (f_assign rfl rfl) ?_
                        refine EvK.nil ?_
                        refine WP.ret ?_
                        exact Ret.mk (vs := [.bool false]) false ⟨rfl, trivial⟩ rfl hF
                      · refine WP.cond_false _ rfl c10 ?_
                        refine WP.skip ?_
                        refine WP.region ?_
                        refine EvK.pure (v := .int .i64 s9) (w_none rfl) rfl rfl (f_move rfl rfl) ?_
                        refine EvK.pure (v := .int .i64 (IntKind.i64.wrap (s9 + 1))) (w_none rfl) rfl rfl (f_add rfl rfl rfl) ?_
                        refine EvK.pure (v := .int .i64 (IntKind.i64.wrap (s9 + 1))) (w_none rfl) rfl rfl (f_assign rfl rfl) ?_
                        refine EvK.nil ?_
                        exact KE.mk (IntKind.i64.wrap (s9 + 1)) ⟨rfl, rfl, rfl, rfl, rfl, trivial⟩ hF
                    · refine WP.cond_false _ rfl c9 ?_
                      refine WP.exit ?_
                      exact KE.mk () ⟨rfl, rfl, rfl, trivial⟩ hF
                  · intro k10 hF
                    refine WP.region ?_
                    refine EvK.pure (v := .int .i64 s9) (w_none rfl) rfl rfl (f_move rfl rfl) ?_
                    refine EvK.pure (v := Sl.val a1) (w_none rfl) rfl rfl (f_move rfl rfl) ?_
                    refine EvK.pure (v := .int .i64 (a1.len : Int)) (w_none rfl) rfl rfl (f_lenL (s := a1) Try.underlying47 rfl rfl) ?_
                    refine EvK.pure (v := .bool (decide (s9 < (a1.len : Int)))) (w_none rfl) rfl rfl (f_lss rfl rfl rfl) ?_
                    refine EvK.pure (v := .bool (decide (s9 < (a1.len : Int)))) (w_none rfl) rfl rfl (f_move rfl rfl) ?_
                    rcases ite_inv hF with ⟨c11, hF⟩ | ⟨c11, hF⟩
                    · refine EvK.pure (v := .int .i64 s9) (w_some rfl rfl c11) rfl rfl (f_move rfl rfl) ?_
                      refine EvK.pure (v := .bool (decide (s9 < 60))) (w_some rfl rfl c11) rfl rfl (f_lss rfl rfl rfl) ?_
                      refine EvK.pure (v := .bool (decide (s9 < 60))) (w_none rfl) rfl rfl (f_pickT rfl rfl c11 rfl) ?_
                      refine EvK.nil ?_
                      exact KE.mk (decide (s9 < 60)) ⟨rfl, rfl, rfl, rfl, rfl, rfl, trivial⟩ hF
                    · refine EvK.not (w_not rfl rfl c11) rfl rfl ?_
                      refine EvK.not (w_not rfl rfl c11) rfl rfl ?_
                      refine EvK.pure (v := .bool false) (w_none rfl) rfl rfl (f_pickF rfl rfl c11 rfl) ?_
                      refine EvK.nil ?_
                      exact KE.mk false ⟨rfl, rfl, rfl, rfl, rfl, rfl, trivial⟩ hF
            · intro k3 hF
              refine WP.region ?_
              refine EvK.pure (v := Sl.val s2.1) (w_none rfl) rfl rfl (f_move rfl rfl) ?_
              refine EvK.call (w_none rfl) rfl rfl (enterH Try.func40 rfl rfl rfl rfl (spatelaw2_GrownInts.sound hF)) ?_
              rintro _ h17 ⟨r11, rfl, hF⟩
              refine EvK.pure (v := .bool (!r11)) (w_none rfl) rfl rfl (f_not rfl rfl) ?_
              refine EvK.pure (v := .bool (!r11)) (w_none rfl) rfl rfl (f_move rfl rfl) ?_
              rcases ite_inv hF with ⟨c12, hF⟩ | ⟨c12, hF⟩
              · refine EvK.not (w_not rfl rfl c12) rfl rfl ?_
                refine EvK.not (w_not rfl rfl c12) rfl rfl ?_
                refine EvK.not (w_not rfl rfl c12) rfl rfl ?_
                refine EvK.pure (v := .bool true) (w_none rfl) rfl rfl (f_pickT rfl rfl c12 rfl) ?_
                refine EvK.nil ?_
                exact KE.mk true ⟨rfl, rfl, rfl, rfl, rfl, trivial⟩ hF
              · refine EvK.pure (v := Sl.val s2.2) (w_some rfl rfl c12) rfl rfl (f_move rfl rfl) ?_
                refine EvK.call (w_some rfl rfl c12) rfl rfl (enterH Try.func41 rfl rfl rfl rfl (spatelaw2_GrownLocks.sound hF)) ?_
                rintro _ h18 ⟨r12, rfl, hF⟩
                refine EvK.pure (v := .bool (!r12)) (w_some rfl rfl c12) rfl rfl (f_not rfl rfl) ?_
                refine EvK.pure (v := .bool (!r12)) (w_none rfl) rfl rfl (f_pickF rfl rfl c12 rfl) ?_
                refine EvK.nil ?_
                exact KE.mk (!r12) ⟨rfl, rfl, rfl, rfl, rfl, trivial⟩ hF
          · intro k2 hF
            refine WP.seq ?_
            refine WP.region ?_
            refine EvK.pure (v := .int .i64 0) (w_none rfl) rfl rfl (f_assign rfl rfl) ?_
            refine EvK.nil ?_
            refine WP.block ?_
            refine WP.loopF (fun (s11 : Sl × Sl × Int) => [(11, Sl.val s11.1), (12, Sl.val s11.2.1), (13, .int .i64 s11.2.2), (1, Sl.val a1), (2, Sl.val a2), (7, .pointer r2.1), (9, .pointer r3.1)]) hF ⟨rfl, rfl, rfl, rfl, rfl, rfl, rfl, trivial⟩ ?_
            intro k11 s11 E0 h19 hF
            refine WP.seq ?_
            refine WP.joinF (fun (s12 : Bool) => [(56, .bool s12), (1, Sl.val a1), (2, Sl.val a2), (7, .pointer r2.1), (9, .pointer r3.1), (11, Sl.val s11.1), (12, Sl.val s11.2.1), (13, .int .i64 s11.2.2)]) hF ?_ ?_
            · intro s12 E0 h20 hF
              rcases ite_inv hF with ⟨c13, hF⟩ | ⟨c13, hF⟩
              · refine WP.cond_true _ rfl c13 ?_
                refine WP.skip ?_
                refine WP.joinF (fun (s13 : Sl × Sl) => [(11, Sl.val s13.1), (12, Sl.val s13.2), (1, Sl.val a1), (2, Sl.val a2), (7, .pointer r2.1), (9, .pointer r3.1), (13, .int .i64 s11.2.2)]) hF ?_ ?_
                · intro s13 E0 h21 hF
                  refine WP.region ?_
                  refine EvK.pure (v := .int .i64 s11.2.2) (w_none rfl) rfl rfl (f_move rfl rfl) ?_
                  refine EvK.pure (v := .int .i64 (IntKind.i64.wrap (s11.2.2 + 1))) (w_none rfl) rfl rfl (f_add rfl rfl rfl) ?_
                  refine EvK.pure (v := .int .i64 (IntKind.i64.wrap (s11.2.2 + 1))) (w_none rfl) rfl rfl (f_assign rfl rfl) ?_
                  refine EvK.nil ?_
                  exact KE.mk (s13.1, s13.2, IntKind.i64.wrap (s11.2.2 + 1)) ⟨rfl, rfl, rfl, rfl, rfl, rfl, rfl, trivial⟩ hF
                · intro k13 hF
                  refine WP.block ?_
                  refine WP.seq ?_
                  refine WP.region ?_
                  refine EvK.pure (v := Sl.val a1) (w_none rfl) rfl rfl (f_move rfl rfl) ?_
                  refine EvK.pure (v := .int .i64 s11.2.2) (w_none rfl) rfl rfl (f_move rfl rfl) ?_
                  obtain ⟨q4, hq4, hF⟩ := hF
                  refine EvK.pure (v := .pointer (some q4)) (w_none rfl) rfl rfl (f_indexAddr (s := a1) Try.underlying47 ty53.size rfl rfl rfl hq4) ?_
                  obtain ⟨x4, hx4, hF⟩ := hF
                  refine EvK.read (v := k52.val x4) (w_none rfl) rfl rfl (f_load k52 ty53 rfl rfl hx4 rfl) ?_
                  refine EvK.alloc (w_none rfl) rfl rfl (f_allocF zero53 rfl rfl hF) ?_
                  rintro _ h22 ⟨q5, rfl, hF⟩
                  obtain ⟨h23, hs1, hF⟩ := hF
                  refine EvK.runN (w_none rfl) rfl (f_store k52 ty53.size (z := x4) rfl rfl rfl hs1) ?_
                  rintro _ _ ⟨rfl, rfl⟩
                  refine EvK.nil ?_
                  refine WP.joinF (fun (s14 : Sl) => [(11, Sl.val s14), (1, Sl.val a1), (2, Sl.val a2), (7, .pointer r2.1), (9, .pointer r3.1), (12, Sl.val s11.2.1), (13, .int .i64 s11.2.2), (14, .pointer (some q5))]) hF ?_ ?_
                  · intro s14 E0 h24 hF
                    refine WP.seq ?_
                    refine WP.region ?_
                    refine EvK.pure (v := .int .i64 0) (w_none rfl) rfl rfl (f_assign rfl rfl) ?_
                    refine EvK.nil ?_
                    refine WP.block ?_
                    refine WP.loopF (fun (s15 : Sl × Sl × Int) => [(11, Sl.val s15.1), (12, Sl.val s15.2.1), (20, .int .i64 s15.2.2), (1, Sl.val a1), (2, Sl.val a2), (7, .pointer r2.1), (9, .pointer r3.1), (13, .int .i64 s11.2.2), (14, .pointer (some q5))]) hF ⟨rfl, rfl, rfl, rfl, rfl, rfl, rfl, rfl, rfl, trivial⟩ ?_
                    intro k15 s15 E0 h25 hF
                    refine WP.seq ?_
                    refine WP.seq ?_
                    refine WP.region ?_
                    refine EvK.pure (v := .int .i64 s15.2.2) (w_none rfl) rfl rfl (f_move rfl rfl) ?_
                    refine EvK.pure (v := .bool (decide (s15.2.2 < 2))) (w_none rfl) rfl rfl (f_lss rfl rfl rfl) ?_
                    refine EvK.nil ?_
                    rcases ite_inv hF with ⟨c14, hF⟩ | ⟨c14, hF⟩
                    · refine WP.cond_true _ rfl c14 ?_
                      refine WP.skip ?_
                      refine WP.seq ?_
                      refine WP.block ?_
                      refine WP.seq ?_
                      refine WP.region ?_
                      refine EvK.pure (v := .pointer r2.1) (w_none rfl) rfl rfl (f_move rfl rfl) ?_
                      refine EvK.pure (v := .pointer (some (q5.add 1))) (w_none rfl) rfl rfl (f_fieldAddr fd53_1 rfl rfl) ?_
                      obtain ⟨x5, hx5, hF⟩ := hF
                      refine EvK.read (v := .int .i64 x5) (w_none rfl) rfl rfl (f_load (kI .i64) ty3 rfl rfl hx5 rfl) ?_
                      refine EvK.call (w_none rfl) rfl rfl (enterH Try.func16 rfl rfl rfl rfl (locks_Manager_Has.sound hF)) ?_
                      rintro _ h26 ⟨r13, rfl, hF⟩
                      refine EvK.pure (v := Sl.val r13) (w_none rfl) rfl rfl (f_assign rfl rfl) ?_
                      refine EvK.nil ?_
                      refine WP.seq ?_
                      refine WP.region ?_
                      refine EvK.pure (v := .pointer r2.1) (w_none rfl) rfl rfl (f_move rfl rfl) ?_
                      refine EvK.call (w_none rfl) rfl rfl (enterH Try.func20 rfl rfl rfl rfl (locks_Manager_Queue.sound hF)) ?_
                      rintro _ h27 ⟨r14, rfl, hF⟩
                      refine EvK.pure (v := Sl.val r14) (w_none rfl) rfl rfl (f_assign rfl rfl) ?_
                      refine EvK.nil ?_
                      refine WP.seq ?_
                      refine WP.joinF (fun (s16 : Bool) => [(140, .bool s16), (1, Sl.val a1), (2, Sl.val a2), (7, .pointer r2.1), (9, .pointer r3.1), (11, Sl.val s15.1), (12, Sl.val s15.2.1), (13, .int .i64 s11.2.2), (14, .pointer (some q5)), (20, .int .i64 s15.2.2), (21, Sl.val r13), (22, Sl.val r14)]) hF ?_ ?_
                      · intro s16 E0 h28 hF
                        rcases ite_inv hF with ⟨c15, hF⟩ | ⟨c15, hF⟩
                        · refine WP.cond_true _ rfl c15 ?_
                          refine WP.seq ?_
                          refine WP.region ?_
                          refine EvK.pure (v := .bool false) (w_none rfl) rfl rfl (f_assign rfl rfl) ?_
                          refine EvK.nil ?_
                          refine WP.ret ?_
                          exact Ret.mk (vs := [.bool false]) false ⟨rfl, trivial⟩ rfl hF
                        · refine WP.cond_false _ rfl c15 ?_
                          refine WP.skip ?_
                          refine WP.seq ?_
                          refine WP.region ?_
                          refine EvK.pure (v := Sl.val s15.2.1) (w_none rfl) rfl rfl (f_move rfl rfl) ?_
                          refine EvK.pure (v := Sl.val r13) (w_none rfl) rfl rfl (f_move rfl rfl) ?_
                          refine EvK.alloc (w_none rfl) rfl rfl (f_buildSliceF Try.underlying69 el30 (by decide) rfl rfl rfl hF) ?_
                          rintro _ h29 ⟨x6, rfl, hF⟩
                          refine EvK.run (w_none rfl) rfl rfl (f_appendE (s := s15.2.1) (x := x6) Try.underlying69 el30 rfl rfl rfl hF) ?_
                          rintro _ h30 ⟨x7, rfl, hF⟩
                          refine EvK.pure (v := Sl.val x7) (w_none rfl) rfl rfl (f_assign rfl rfl) ?_
                          refine EvK.nil ?_
                          refine WP.region ?_
                          refine EvK.pure (v := Sl.val s15.1) (w_none rfl) rfl rfl (f_move rfl rfl) ?_
                          refine EvK.pure (v := Sl.val r14) (w_none rfl) rfl rfl (f_move rfl rfl) ?_
                          refine EvK.alloc (w_none rfl) rfl rfl (f_buildSliceF Try.underlying68 el22 (by decide) rfl rfl rfl hF) ?_
                          rintro _ h31 ⟨x8, rfl, hF⟩
                          refine EvK.run (w_none rfl) rfl rfl (f_appendE (s := s15.1) (x := x8) Try.underlying68 el22 rfl rfl rfl hF) ?_
                          rintro _ h32 ⟨x9, rfl, hF⟩
                          refine EvK.pure (v := Sl.val x9) (w_none rfl) rfl rfl (f_assign rfl rfl) ?_
                          refine EvK.nil ?_
                          refine WP.region ?_
                          refine EvK.pure (v := .int .i64 s15.2.2) (w_none rfl) rfl rfl (f_move rfl rfl) ?_
                          refine EvK.pure (v := .int .i64 (IntKind.i64.wrap (s15.2.2 + 1))) (w_none rfl) rfl rfl (f_add rfl rfl rfl) ?_
                          refine EvK.pure (v := .int .i64 (IntKind.i64.wrap (s15.2.2 + 1))) (w_none rfl) rfl rfl (f_assign rfl rfl) ?_
                          refine EvK.nil ?_
                          exact KE.mk (x9, x7, IntKind.i64.wrap (s15.2.2 + 1)) ⟨rfl, rfl, rfl, rfl, rfl, rfl, rfl, rfl, rfl, trivial⟩ hF
                      · intro k16 hF
                        refine WP.region ?_
                        refine EvK.pure (v := Sl.val r13) (w_none rfl) rfl rfl (f_move rfl rfl) ?_
                        refine EvK.pure (v := .pointer r3.1) (w_none rfl) rfl rfl (f_move rfl rfl) ?_
                        refine EvK.pure (v := .pointer (some (q5.add 1))) (w_none rfl) rfl rfl (f_fieldAddr fd53_1 rfl rfl) ?_
                        obtain ⟨x10, hx6, hF⟩ := hF
                        refine EvK.read (v := .int .i64 x10) (w_none rfl) rfl rfl (f_load (kI .i64) ty3 rfl rfl hx6 rfl) ?_
                        refine EvK.call (w_none rfl) rfl rfl (enterH Try.func38 rfl rfl rfl rfl (spateref11_Manager_Has.sound hF)) ?_
                        rintro _ h33 ⟨r15, rfl, hF⟩
                        refine EvK.call (w_none rfl) rfl rfl (enterH Try.func15 rfl rfl rfl rfl (spatelaw11_SameLocks.sound hF)) ?_
                        rintro _ h34 ⟨r16, rfl, hF⟩
                        refine EvK.pure (v := .bool (!r16)) (w_none rfl) rfl rfl (f_not rfl rfl) ?_
                        refine EvK.pure (v := .bool (!r16)) (w_none rfl) rfl rfl (f_move rfl rfl) ?_
                        rcases ite_inv hF with ⟨c16, hF⟩ | ⟨c16, hF⟩
                        · refine EvK.not (w_not rfl rfl c16) rfl rfl ?_
                          refine EvK.not (w_not rfl rfl c16) rfl rfl ?_
                          refine EvK.not (w_not rfl rfl c16) rfl rfl ?_
                          refine EvK.not (w_not rfl rfl c16) rfl rfl ?_
                          refine EvK.not (w_not rfl rfl c16) rfl rfl ?_
                          refine EvK.pure (v := .bool true) (w_none rfl) rfl rfl (f_pickT rfl rfl c16 rfl) ?_
                          refine EvK.nil ?_
                          exact KE.mk true ⟨rfl, rfl, rfl, rfl, rfl, rfl, rfl, rfl, rfl, rfl, rfl, rfl, trivial⟩ hF
                        · refine EvK.pure (v := Sl.val r14) (w_some rfl rfl c16) rfl rfl (f_move rfl rfl) ?_
                          refine EvK.pure (v := .pointer r3.1) (w_some rfl rfl c16) rfl rfl (f_move rfl rfl) ?_
                          refine EvK.call (w_some rfl rfl c16) rfl rfl (enterH Try.func39 rfl rfl rfl rfl (spateref11_Manager_Queue.sound hF)) ?_
                          rintro _ h35 ⟨r17, rfl, hF⟩
                          refine EvK.call (w_some rfl rfl c16) rfl rfl (enterH Try.func19 rfl rfl rfl rfl (spatelaw11_SameInts.sound hF)) ?_
                          rintro _ h36 ⟨r18, rfl, hF⟩
                          refine EvK.pure (v := .bool (!r18)) (w_some rfl rfl c16) rfl rfl (f_not rfl rfl) ?_
                          refine EvK.pure (v := .bool (!r18)) (w_none rfl) rfl rfl (f_pickF rfl rfl c16 rfl) ?_
                          refine EvK.nil ?_
                          exact KE.mk (!r18) ⟨rfl, rfl, rfl, rfl, rfl, rfl, rfl, rfl, rfl, rfl, rfl, rfl, trivial⟩ hF
                    · refine WP.cond_false _ rfl c14 ?_
                      refine WP.exit ?_
                      exact KE.mk (s15.1, s15.2.1) ⟨rfl, rfl, rfl, rfl, rfl, rfl, rfl, trivial⟩ hF
                  · intro k14 hF
                    refine WP.seq ?_
                    refine WP.region ?_
                    refine EvK.pure (v := .pointer (some (q5.add 0))) (w_none rfl) rfl rfl (f_fieldAddr fd53_0 rfl rfl) ?_
                    obtain ⟨x11, hx7, hF⟩ := hF
                    refine EvK.read (v := .int .i64 x11) (w_none rfl) rfl rfl (f_load (kI .i64) ty3 rfl rfl hx7 rfl) ?_
                    refine EvK.nil ?_
                    refine WP.block ?_
                    refine WP.seq ?_
                    refine WP.region ?_
                    refine EvK.pure (v := .bool (x11 == 2)) (w_none rfl) rfl rfl (f_eql rfl rfl rfl) ?_
                    refine EvK.pure (v := .bool (x11 == 2)) (w_none rfl) rfl rfl (f_assign rfl rfl) ?_
                    refine EvK.nil ?_
                    rcases ite_inv hF with ⟨c17, hF⟩ | ⟨c17, hF⟩
                    · refine WP.cond_true _ rfl c17 ?_
                      refine WP.seq ?_
                      refine WP.region ?_
                      refine EvK.pure (v := .pointer r2.1) (w_none rfl) rfl rfl (f_move rfl rfl) ?_
                      refine EvK.pure (v := .pointer (some (q5.add 1))) (w_none rfl) rfl rfl (f_fieldAddr fd53_1 rfl rfl) ?_
                      obtain ⟨x12, hx8, hF⟩ := hF
                      refine EvK.read (v := .int .i64 x12) (w_none rfl) rfl rfl (f_load (kI .i64) ty3 rfl rfl hx8 rfl) ?_
                      refine EvK.call (w_none rfl) rfl rfl (enterH Try.func17 rfl rfl rfl rfl (locks_Manager_Free.sound hF)) ?_
                      rintro _ h37 ⟨r21, rfl, hF⟩
                      refine EvK.pure (v := .tuple #[Sl.val r21.1, IF.val r21.2]) (w_none rfl) rfl rfl (f_move rfl rfl) ?_
                      refine EvK.pure (v := Sl.val r21.1) (w_none rfl) rfl rfl (f_extract (vs := #[Sl.val r21.1, IF.val r21.2]) rfl rfl rfl) ?_
                      refine EvK.pure (v := IF.val r21.2) (w_none rfl) rfl rfl (f_extract (vs := #[Sl.val r21.1, IF.val r21.2]) rfl rfl rfl) ?_
                      refine EvK.pure (v := Sl.val r21.1) (w_none rfl) rfl rfl (f_assign rfl rfl) ?_
                      refine EvK.pure (v := IF.val r21.2) (w_none rfl) rfl rfl (f_assign rfl rfl) ?_
                      refine EvK.nil ?_
                      refine WP.seq ?_
                      refine WP.region ?_
                      refine EvK.pure (v := .pointer r3.1) (w_none rfl) rfl rfl (f_move rfl rfl) ?_
                      refine EvK.pure (v := .pointer (some (q5.add 1))) (w_none rfl) rfl rfl (f_fieldAddr fd53_1 rfl rfl) ?_
                      obtain ⟨x13, hx9, hF⟩ := hF
                      refine EvK.read (v := .int .i64 x13) (w_none rfl) rfl rfl (f_load (kI .i64) ty3 rfl rfl hx9 rfl) ?_
                      refine EvK.call (w_none rfl) rfl rfl (enterH Try.func35 rfl rfl rfl rfl (spateref11_Manager_Free.sound hF)) ?_
                      rintro _ h38 ⟨r22, rfl, hF⟩
                      refine EvK.pure (v := .tuple #[Sl.val r22.1, .int .i64 r22.2]) (w_none rfl) rfl rfl (f_move rfl rfl) ?_
                      refine EvK.pure (v := Sl.val r22.1) (w_none rfl) rfl rfl (f_extract (vs := #[Sl.val r22.1, .int .i64 r22.2]) rfl rfl rfl) ?_
                      refine EvK.pure (v := .int .i64 r22.2) (w_none rfl) rfl rfl (f_extract (vs := #[Sl.val r22.1, .int .i64 r22.2]) rfl rfl rfl) ?_
                      refine EvK.pure (v := Sl.val r22.1) (w_none rfl) rfl rfl (f_assign rfl rfl) ?_
                      refine EvK.pure (v := .int .i64 r22.2) (w_none rfl) rfl rfl (f_assign rfl rfl) ?_
                      refine EvK.nil ?_
                      refine WP.seq ?_
                      refine WP.joinF (fun (s17 : Bool) => [(95, .bool s17), (1, Sl.val a1), (2, Sl.val a2), (7, .pointer r2.1), (9, .pointer r3.1), (11, Sl.val s11.1), (12, Sl.val s11.2.1), (13, .int .i64 s11.2.2), (14, .pointer (some q5)), (15, Sl.val r21.1)]) hF ?_ ?_
                      · intro s17 E0 h39 hF
                        rcases ite_inv hF with ⟨c18, hF⟩ | ⟨c18, hF⟩
                        · refine WP.cond_true _ rfl c18 ?_
                          refine WP.seq ?_
                          refine WP.region ?_
                          refine EvK.pure (v := .bool false) (w_none rfl) rfl rfl (f_assign rfl rfl) ?_
                          refine EvK.nil ?_
                          refine WP.ret ?_
                          exact Ret.mk (vs := [.bool false]) false ⟨rfl, trivial⟩ rfl hF
                        · refine WP.cond_false _ rfl c18 ?_
                          refine WP.skip ?_
                          refine WP.region ?_
                          refine EvK.pure (v := Sl.val s11.1) (w_none rfl) rfl rfl (f_move rfl rfl) ?_
                          refine EvK.pure (v := Sl.val r21.1) (w_none rfl) rfl rfl (f_move rfl rfl) ?_
                          refine EvK.alloc (w_none rfl) rfl rfl (f_buildSliceF Try.underlying68 el22 (by decide) rfl rfl rfl hF) ?_
                          rintro _ h40 ⟨x14, rfl, hF⟩
                          refine EvK.run (w_none rfl) rfl rfl (f_appendE (s := s11.1) (x := x14) Try.underlying68 el22 rfl rfl rfl hF) ?_
                          rintro _ h41 ⟨x15, rfl, hF⟩
                          refine EvK.pure (v := Sl.val x15) (w_none rfl) rfl rfl (f_assign rfl rfl) ?_
                          refine EvK.nil ?_
                          exact KE.mk x15 ⟨rfl, rfl, rfl, rfl, rfl, rfl, rfl, rfl, trivial⟩ hF
                      · intro k17 hF
                        refine WP.region ?_
                        refine EvK.pure (v := Sl.val r21.1) (w_none rfl) rfl rfl (f_move rfl rfl) ?_
                        refine EvK.pure (v := Sl.val r22.1) (w_none rfl) rfl rfl (f_move rfl rfl) ?_
                        refine EvK.call (w_none rfl) rfl rfl (enterH Try.func19 rfl rfl rfl rfl (spatelaw11_SameInts.sound hF)) ?_
                        rintro _ h42 ⟨r23, rfl, hF⟩
                        refine EvK.pure (v := .bool (!r23)) (w_none rfl) rfl rfl (f_not rfl rfl) ?_
                        refine EvK.pure (v := .bool (!r23)) (w_none rfl) rfl rfl (f_move rfl rfl) ?_
                        rcases ite_inv hF with ⟨c19, hF⟩ | ⟨c19, hF⟩
                        · refine EvK.not (w_not rfl rfl c19) rfl rfl ?_
                          refine EvK.not (w_not rfl rfl c19) rfl rfl ?_
                          refine EvK.not (w_not rfl rfl c19) rfl rfl ?_
                          refine EvK.not (w_not rfl rfl c19) rfl rfl ?_
                          refine EvK.pure (v := .bool true) (w_none rfl) rfl rfl (f_pickT rfl rfl c19 rfl) ?_
                          refine EvK.nil ?_
                          exact KE.mk true ⟨rfl, rfl, rfl, rfl, rfl, rfl, rfl, rfl, rfl, rfl, trivial⟩ hF
                        · refine EvK.pure (v := IF.val r21.2) (w_some rfl rfl c19) rfl rfl (f_move rfl rfl) ?_
                          refine EvK.pure (v := .int .i64 r22.2) (w_some rfl rfl c19) rfl rfl (f_move rfl rfl) ?_
                          refine EvK.call (w_some rfl rfl c19) rfl rfl (enterH (vs := [IF.val r21.2, .int .i64 r22.2]) Try.func36 rfl rfl rfl rfl (spatelaw11_is.sound hF)) ?_
                          rintro _ h43 ⟨r24, rfl, hF⟩
                          refine EvK.pure (v := .bool (!r24)) (w_some rfl rfl c19) rfl rfl (f_not rfl rfl) ?_
                          refine EvK.pure (v := .bool (!r24)) (w_none rfl) rfl rfl (f_pickF rfl rfl c19 rfl) ?_
                          refine EvK.nil ?_
                          exact KE.mk (!r24) ⟨rfl, rfl, rfl, rfl, rfl, rfl, rfl, rfl, rfl, rfl, trivial⟩ hF
                    · refine WP.cond_false _ rfl c17 ?_
                      refine WP.seq ?_
                      refine WP.region ?_
                      refine EvK.pure (v := .bool (x11 == 3)) (w_none rfl) rfl rfl (f_eql rfl rfl rfl) ?_
                      refine EvK.pure (v := .bool (x11 == 3)) (w_none rfl) rfl rfl (f_assign rfl rfl) ?_
                      refine EvK.nil ?_
                      rcases ite_inv hF with ⟨c20, hF⟩ | ⟨c20, hF⟩
                      · refine WP.cond_true _ rfl c20 ?_
                        refine WP.seq ?_
                        refine WP.region ?_
                        refine EvK.pure (v := .pointer r2.1) (w_none rfl) rfl rfl (f_move rfl rfl) ?_
                        refine EvK.pure (v := .pointer (some (q5.add 1))) (w_none rfl) rfl rfl (f_fieldAddr fd53_1 rfl rfl) ?_
                        obtain ⟨x16, hx10, hF⟩ := hF
                        refine EvK.read (v := .int .i64 x16) (w_none rfl) rfl rfl (f_load (kI .i64) ty3 rfl rfl hx10 rfl) ?_
                        refine EvK.call (w_none rfl) rfl rfl (enterH Try.func28 rfl rfl rfl rfl (locks_Manager_Quit.sound hF)) ?_
                        rintro _ h44 ⟨r25, rfl, hF⟩
                        refine EvK.pure (v := Sl.val r25) (w_none rfl) rfl rfl (f_assign rfl rfl) ?_
                        refine EvK.nil ?_
                        refine WP.seq ?_
                        refine WP.seq ?_
                        refine WP.region ?_
                        refine EvK.pure (v := Sl.val r25) (w_none rfl) rfl rfl (f_move rfl rfl) ?_
                        refine EvK.pure (v := .pointer r3.1) (w_none rfl) rfl rfl (f_move rfl rfl) ?_
                        refine EvK.pure (v := .pointer (some (q5.add 1))) (w_none rfl) rfl rfl (f_fieldAddr fd53_1 rfl rfl) ?_
                        obtain ⟨x17, hx11, hF⟩ := hF
                        refine EvK.read (v := .int .i64 x17) (w_none rfl) rfl rfl (f_load (kI .i64) ty3 rfl rfl hx11 rfl) ?_
                        refine EvK.call (w_none rfl) rfl rfl (enterH Try.func37 rfl rfl rfl rfl (spateref11_Manager_Quit.sound hF)) ?_
                        rintro _ h45 ⟨r26, rfl, hF⟩
                        refine EvK.call (w_none rfl) rfl rfl (enterH Try.func19 rfl rfl rfl rfl (spatelaw11_SameInts.sound hF)) ?_
                        rintro _ h46 ⟨r27, rfl, hF⟩
                        refine EvK.pure (v := .bool (!r27)) (w_none rfl) rfl rfl (f_not rfl rfl) ?_
                        refine EvK.nil ?_
                        rcases ite_inv hF with ⟨c21, hF⟩ | ⟨c21, hF⟩
                        · refine WP.cond_true _ rfl c21 ?_
                          refine WP.seq ?_
                          refine WP.region ?_
                          refine EvK.pure (v := .bool false) (w_none rfl) rfl rfl (f_assign rfl rfl) ?_
                          refine EvK.nil ?_
                          refine WP.ret ?_
                          exact Ret.mk (vs := [.bool false]) false ⟨rfl, trivial⟩ rfl hF
                        · refine WP.cond_false _ rfl c21 ?_
                          refine WP.skip ?_
                          refine WP.region ?_
                          refine EvK.pure (v := Sl.val s11.1) (w_none rfl) rfl rfl (f_move rfl rfl) ?_
                          refine EvK.pure (v := Sl.val r25) (w_none rfl) rfl rfl (f_move rfl rfl) ?_
                          refine EvK.alloc (w_none rfl) rfl rfl (f_buildSliceF Try.underlying68 el22 (by decide) rfl rfl rfl hF) ?_
                          rintro _ h47 ⟨x18, rfl, hF⟩
                          refine EvK.run (w_none rfl) rfl rfl (f_appendE (s := s11.1) (x := x18) Try.underlying68 el22 rfl rfl rfl hF) ?_
                          rintro _ h48 ⟨x19, rfl, hF⟩
                          refine EvK.pure (v := Sl.val x19) (w_none rfl) rfl rfl (f_assign rfl rfl) ?_
                          refine EvK.nil ?_
                          exact KE.mk x19 ⟨rfl, rfl, rfl, rfl, rfl, rfl, rfl, rfl, trivial⟩ hF
                      · refine WP.cond_false _ rfl c20 ?_
                        refine WP.seq ?_
                        refine WP.region ?_
                        refine EvK.pure (v := .pointer r2.1) (w_none rfl) rfl rfl (f_move rfl rfl) ?_
                        refine EvK.pure (v := .pointer r3.1) (w_none rfl) rfl rfl (f_move rfl rfl) ?_
                        obtain ⟨x20, hx12, hF⟩ := hF
                        refine EvK.read (v := k52.val x20) (w_none rfl) rfl rfl (f_load k52 ty53 rfl rfl hx12 rfl) ?_
                        refine EvK.call (w_none rfl) rfl rfl (enterH Try.func22 rfl rfl rfl rfl (spatelaw11_step.sound hF)) ?_
                        rintro _ h49 ⟨r28, rfl, hF⟩
                        refine EvK.pure (v := .bool (!r28)) (w_none rfl) rfl rfl (f_not rfl rfl) ?_
                        refine EvK.nil ?_
                        rcases ite_inv hF with ⟨c22, hF⟩ | ⟨c22, hF⟩
                        · refine WP.cond_true _ rfl c22 ?_
                          refine WP.seq ?_
                          refine WP.region ?_
                          refine EvK.pure (v := .bool false) (w_none rfl) rfl rfl (f_assign rfl rfl) ?_
                          refine EvK.nil ?_
                          refine WP.ret ?_
                          exact Ret.mk (vs := [.bool false]) false ⟨rfl, trivial⟩ rfl hF
                        · refine WP.cond_false _ rfl c22 ?_
                          refine WP.skip ?_
                          exact KE.mk s11.1 ⟨rfl, rfl, rfl, rfl, rfl, rfl, rfl, rfl, trivial⟩ hF
              · refine WP.cond_false _ rfl c13 ?_
                refine WP.exit ?_
                exact KE.mk (s11.1, s11.2.1) ⟨rfl, rfl, rfl, rfl, rfl, rfl, trivial⟩ hF
            · intro k12 hF
              refine WP.region ?_
              refine EvK.pure (v := .int .i64 s11.2.2) (w_none rfl) rfl rfl (f_move rfl rfl) ?_
              refine EvK.pure (v := Sl.val a1) (w_none rfl) rfl rfl (f_move rfl rfl) ?_
              refine EvK.pure (v := .int .i64 (a1.len : Int)) (w_none rfl) rfl rfl (f_lenL (s := a1) Try.underlying47 rfl rfl) ?_
              refine EvK.pure (v := .bool (decide (s11.2.2 < (a1.len : Int)))) (w_none rfl) rfl rfl (f_lss rfl rfl rfl) ?_
              refine EvK.pure (v := .bool (decide (s11.2.2 < (a1.len : Int)))) (w_none rfl) rfl rfl (f_move rfl rfl) ?_
              rcases ite_inv hF with ⟨c23, hF⟩ | ⟨c23, hF⟩
              · refine EvK.pure (v := .int .i64 s11.2.2) (w_some rfl rfl c23) rfl rfl (f_move rfl rfl) ?_
                refine EvK.pure (v := .bool (decide (s11.2.2 < 60))) (w_some rfl rfl c23) rfl rfl (f_lss rfl rfl rfl) ?_
                refine EvK.pure (v := .bool (decide (s11.2.2 < 60))) (w_none rfl) rfl rfl (f_pickT rfl rfl c23 rfl) ?_
                refine EvK.nil ?_
                exact KE.mk (decide (s11.2.2 < 60)) ⟨rfl, rfl, rfl, rfl, rfl, rfl, rfl, rfl, trivial⟩ hF
              · refine EvK.not (w_not rfl rfl c23) rfl rfl ?_
                refine EvK.not (w_not rfl rfl c23) rfl rfl ?_
                refine EvK.pure (v := .bool false) (w_none rfl) rfl rfl (f_pickF rfl rfl c23 rfl) ?_
                refine EvK.nil ?_
                exact KE.mk false ⟨rfl, rfl, rfl, rfl, rfl, rfl, rfl, rfl, trivial⟩ hF
    · intro k1 hF
      refine WP.region ?_
      refine EvK.pure (v := .int .i64 r2.2) (w_none rfl) rfl rfl (f_move rfl rfl) ?_
      refine EvK.pure (v := .int .i64 r3.2) (w_none rfl) rfl rfl (f_move rfl rfl) ?_
      refine EvK.pure (v := .bool (r2.2 != r3.2)) (w_none rfl) rfl rfl (f_neq rfl rfl rfl) ?_
      refine EvK.pure (v := .bool (r2.2 != r3.2)) (w_none rfl) rfl rfl (f_move rfl rfl) ?_
      rcases ite_inv hF with ⟨c24, hF⟩ | ⟨c24, hF⟩
      · refine EvK.not (w_not rfl rfl c24) rfl rfl ?_
        refine EvK.not (w_not rfl rfl c24) rfl rfl ?_
        refine EvK.not (w_not rfl rfl c24) rfl rfl ?_
        refine EvK.not (w_not rfl rfl c24) rfl rfl ?_
        refine EvK.not (w_not rfl rfl c24) rfl rfl ?_
        refine EvK.pure (v := .bool true) (w_none rfl) rfl rfl (f_pickT rfl rfl c24 rfl) ?_
        refine EvK.nil ?_
        exact KE.mk true ⟨rfl, rfl, rfl, rfl, rfl, trivial⟩ hF
      · refine EvK.pure (v := .pointer r2.1) (w_some rfl rfl c24) rfl rfl (f_move rfl rfl) ?_
        refine EvK.pure (v := .bool r2.1.isNone) (w_some rfl rfl c24) rfl rfl (f_peqln Try.underlying25 rfl rfl rfl) ?_
        refine EvK.pure (v := .pointer r3.1) (w_some rfl rfl c24) rfl rfl (f_move rfl rfl) ?_
        refine EvK.pure (v := .bool r3.1.isNone) (w_some rfl rfl c24) rfl rfl (f_peqln Try.underlying48 rfl rfl rfl) ?_
        refine EvK.pure (v := .bool (!(r2.1.isNone == r3.1.isNone))) (w_some rfl rfl c24) rfl rfl (f_bneq Try.underlying4 rfl rfl rfl) ?_
        refine EvK.pure (v := .bool (!(r2.1.isNone == r3.1.isNone))) (w_none rfl) rfl rfl (f_pickF rfl rfl c24 rfl) ?_
        refine EvK.nil ?_
        exact KE.mk (!(r2.1.isNone == r3.1.isNone)) ⟨rfl, rfl, rfl, rfl, rfl, trivial⟩ hF
end Go.Proofs.Ytgmihbchcmjmdaa
