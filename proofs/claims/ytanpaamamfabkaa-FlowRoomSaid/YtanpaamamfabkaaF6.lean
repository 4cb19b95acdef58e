/- spate/spatelaw15.FlowRoom, as a predicate over the heap, and that the code comes to it. Printed by gen.py. -/
import Derived.Test.YtanpaamamfabkaaTy
import Derived.Test.YtanpaamamfabkaaF8
import Derived.Test.YtanpaamamfabkaaF9
import Derived.Test.YtanpaamamfabkaaF15
import Derived.Test.YtanpaamamfabkaaF16
import Derived.Test.YtanpaamamfabkaaF17
import Derived.Test.YtanpaamamfabkaaF18
import Derived.Test.YtanpaamamfabkaaF21
import Derived.Test.YtanpaamamfabkaaF22
import Derived.Test.YtanpaamamfabkaaF23
namespace Go.Proofs.Ytanpaamamfabkaa
open Go Go.Tr
set_option linter.unusedVariables false
set_option maxRecDepth 100000
set_option maxHeartbeats 400000
def spatelaw15_FlowRoom.b2 (p1 : Int) (p2 : Int) (p3 : Sl) (p9 : Option Addr) (p11 : Int) (s : Int) (h : H) (K : Int ⊕ (Unit ⊕ Bool) → H → Prop) : Prop :=
  if (decide (s < p1)) = true then
    flow_Flow_Boxed p9 s h fun r10 h16 =>
    if (decide (r10 > p2)) = true then
      K (.inr (.inr false)) h16
    else
      K (.inl (IntKind.i64.wrap (s + 1))) h16
  else
    K (.inr (.inl ())) h
def spatelaw15_FlowRoom.b1 (p1 : Int) (p2 : Int) (p3 : Sl) (p9 : Option Addr) (s : Int) (h : H) (K : Int ⊕ (Unit ⊕ Bool) → H → Prop) : Prop :=
  if (decide (s < (p3.len : Int))) = true then
    jn (fun (k3 : Unit → H → Prop) =>
      rd (ixA 6 p3 s) fun q1 =>
      rd (ld k34 q1 h) fun x1 =>
      al 35 (k34.enc z34) h fun q2 h9 =>
      rd (st k34 q2 x1 h9) fun h10 =>
      rd (ld (kI .i64) (q2.add 1) h10) fun x2 =>
      flow_Flow_Queued p9 x2 h10 fun r6 h11 =>
      rd (ld (kI .i64) (q2.add 1) h11) fun x3 =>
      flow_Flow_Toward p9 x3 h11 fun r7 h12 =>
      flow_Flow_Boxed p9 r7.1 h12 fun r8 h13 =>
      rd (ld (kI .i64) (q2.add 1) h13) fun x4 =>
      flow_Flow_Boxed p9 x4 h13 fun r9 h14 =>
      jn (fun (k4 : Unit → H → Prop) =>
        rd (ld (kI .i64) (q2.add 0) h14) fun x5 =>
        if (x5 == 1) = true then
          rd (ld (kI .i64) (q2.add 1) h14) fun x6 =>
          rd (ld k32 (q2.add 2) h14) fun x7 =>
          flow_Flow_Put p9 x6 x7 h14 fun r13 h18 =>
          jn (fun (k6 : Bool → H → Prop) =>
            rd (ld (kI .i64) (q2.add 1) h18) fun x8 =>
            flow_Flow_Queued p9 x8 h18 fun r14 h20 =>
            if (r14 != r6) = true then
              if (r13 != 0) = true then
                k6 true h20
              else
                if (r13 == 0) = true then
                  rd (ld (kI .i64) (q2.add 1) h20) fun x9 =>
                  flow_Flow_Queued p9 x9 h20 fun r15 h21 =>
                  k6 (r15 != (IntKind.i64.wrap (r6 + 1))) h21
                else
                  k6 false h20
            else
              if (r13 == 0) = true then
                rd (ld (kI .i64) (q2.add 1) h20) fun x10 =>
                flow_Flow_Queued p9 x10 h20 fun r16 h22 =>
                k6 (r16 != (IntKind.i64.wrap (r6 + 1))) h22
              else
                k6 false h20) fun s6 h19 =>
          if s6 = true then
            K (.inr (.inr false)) h19
          else
            k4 () h19
        else
          if (x5 == 2) = true then
            rd (ld (kI .i64) (q2.add 1) h14) fun x11 =>
            flow_Flow_Pass p9 x11 h14 fun r17 h23 =>
            if (r7.2 != 0) = true then
              if (r17.2 != r7.2) = true then
                K (.inr (.inr false)) h23
              else
                k3 () h23
            else
              jn (fun (k7 : Bool → H → Prop) =>
                if (!((decide (r8 ≥ p2)) == (r17.2 != 0))) = true then
                  k7 true h23
                else
                  if (decide (r8 ≥ p2)) = true then
                    if (r17.2 != 45) = true then
                      k7 true h23
                    else
                      if (!(decide (r8 ≥ p2))) = true then
                        if (r17.1 != r7.1) = true then
                          k7 true h23
                        else
                          flow_Flow_Boxed p9 r17.1 h23 fun r18 h25 =>
                          if (r18 != (IntKind.i64.wrap (r8 + 1))) = true then
                            k7 true h25
                          else
                            flow_Flow_Boxed p9 r7.1 h25 fun r19 h26 =>
                            k7 (r19 != r8) h26
                      else
                        flow_Flow_Boxed p9 r7.1 h23 fun r20 h27 =>
                        k7 (r20 != r8) h27
                  else
                    if (!(decide (r8 ≥ p2))) = true then
                      if (r17.1 != r7.1) = true then
                        k7 true h23
                      else
                        flow_Flow_Boxed p9 r17.1 h23 fun r21 h28 =>
                        if (r21 != (IntKind.i64.wrap (r8 + 1))) = true then
                          k7 true h28
                        else
                          k7 false h28
                    else
                      k7 false h23) fun s7 h24 =>
              if s7 = true then
                K (.inr (.inr false)) h24
              else
                k4 () h24
          else
            if (x5 == 3) = true then
              rd (ld (kI .i64) (q2.add 1) h14) fun x12 =>
              flow_Flow_Take p9 x12 h14 fun r22 h29 =>
              al 33 (k32.enc z32) h29 fun q3 h30 =>
              rd (st k32 q3 r22.2.1 h30) fun h31 =>
              jn (fun (k8 : Bool → H → Prop) =>
                if (!((r22.2.2 == 0) == (decide (r9 > 0)))) = true then
                  k8 true h31
                else
                  if (decide (r9 > 0)) = true then
                    rd (ld (kI .i64) (q2.add 1) h31) fun x13 =>
                    flow_Flow_Boxed p9 x13 h31 fun r23 h33 =>
                    k8 (r23 != (IntKind.i64.wrap (r9 - 1))) h33
                  else
                    k8 false h31) fun s8 h32 =>
              if s8 = true then
                K (.inr (.inr false)) h32
              else
                k4 () h32
            else
              k4 () h14) fun s4 h15 =>
      loopE (spatelaw15_FlowRoom.b2 p1 p2 p3 p9 s) 0 h15 (sumK (fun r11 hh => k3 r11 hh) (fun r12 hh => K (.inr (.inr r12)) hh))) fun s3 h8 =>
    K (.inl (IntKind.i64.wrap (s + 1))) h8
  else
    K (.inr (.inl ())) h
/-- spate/spatelaw15.FlowRoom -/
def spatelaw15_FlowRoom (a0 : Int) (a1 : Int) (a2 : Int) (a3 : Sl) (h : H) (Q : Bool → H → Prop) : Prop :=
  spatelaw15_known  h fun r1 h1 =>
  if (!r1) = true then
    Q false h1
  else
    if (decide ((a3.len : Int) > 5000)) = true then
      Q true h1
    else
      spatelaw15_small a0 8 h1 fun r2 h2 =>
      spatelaw15_small a1 8 h2 fun r3 h3 =>
      spatelaw15_small a2 4 h3 fun r4 h4 =>
      flow_New r2 r3 r4 h4 fun r5 h5 =>
      jn (fun (k1 : Bool → H → Prop) =>
        if (r5.2 != 0) = true then
          k1 true h5
        else
          k1 r5.1.isNone h5) fun s1 h6 =>
      if s1 = true then
        Q false h6
      else
        jn (fun (k2 : Unit → H → Prop) =>
          loopE (spatelaw15_FlowRoom.b1 r3 r4 a3 r5.1) 0 h6 (sumK (fun r24 hh => k2 r24 hh) (fun r25 hh => Q r25 hh))) fun s2 h7 =>
        Q true h7
theorem spatelaw15_FlowRoom.sound {a0 : Int} {a1 : Int} {a2 : Int} {a3 : Sl} {h : H} {Q : Bool → H → Prop} (hF : spatelaw15_FlowRoom a0 a1 a2 a3 h Q) :
    CallsH Try.prog 6 (List.toArray (α := Value) [.int .i64 a0, .int .i64 a1, .int .i64 a2, Sl.val a3]) h fun v h' => ∃ x : Bool, v = .bool x ∧ Q x h' := by
  refine CallsH.of_body Try.func6 rfl 204 rfl rfl ?_
  refine WP.seq ?_
  refine WP.region ?_
  refine EvK.pure (v := .bool false) (w_none rfl) rfl rfl (f_assign rfl rfl) ?_
  refine EvK.nil ?_
  refine WP.seq ?_
  refine WP.seq ?_
  refine WP.region ?_
  refine EvK.call (w_none rfl) rfl rfl (enterH Try.func8 rfl rfl rfl rfl (spatelaw15_known.sound hF)) ?_
  rintro _ h1 ⟨r1, rfl, hF⟩
  refine EvK.pure (v := .bool (!r1)) (w_none rfl) rfl rfl (f_not rfl rfl) ?_
  refine EvK.nil ?_
  rcases ite_inv hF with ⟨c1, hF⟩ | ⟨c1, hF⟩
  · refine WP.cond_true _ rfl c1 ?_
    refine WP.seq ?_
    refine WP.region ?_
    refine EvK.pure (v := .bool false) (w_none rfl) rfl rfl (f_assign rfl rfl) ?_
    refine EvK.nil ?_
    refine WP.ret ?_
    exact Ret.mk (vs := [.bool false]) false ⟨rfl, trivial⟩ rfl hF
  · refine WP.cond_false _ rfl c1 ?_
    refine WP.skip ?_
    refine WP.seq ?_
    refine WP.seq ?_
    refine WP.region ?_
    refine EvK.pure (v := Sl.val a3) (w_none rfl) rfl rfl (f_move rfl rfl) ?_
    refine EvK.pure (v := .int .i64 (a3.len : Int)) (w_none rfl) rfl rfl (f_lenL (s := a3) Try.underlying22 rfl rfl) ?_
    refine EvK.pure (v := .bool (decide ((a3.len : Int) > 5000))) (w_none rfl) rfl rfl (f_gtr rfl rfl rfl) ?_
    refine EvK.nil ?_
    rcases ite_inv hF with ⟨c2, hF⟩ | ⟨c2, hF⟩
    · refine WP.cond_true _ rfl c2 ?_
      refine WP.seq ?_
      refine WP.region ?_
      refine EvK.pure (v := .bool true) (w_none rfl) rfl rfl (f_assign rfl rfl) ?_
      refine EvK.nil ?_
      refine WP.ret ?_
      exact Ret.mk (vs := [.bool true]) true ⟨rfl, trivial⟩ rfl hF
    · refine WP.cond_false _ rfl c2 ?_
      refine WP.skip ?_
      refine WP.seq ?_
      refine WP.region ?_
      refine EvK.pure (v := .int .i64 a0) (w_none rfl) rfl rfl (f_move rfl rfl) ?_
      refine EvK.call (w_none rfl) rfl rfl (enterH Try.func15 rfl rfl rfl rfl (spatelaw15_small.sound hF)) ?_
      rintro _ h2 ⟨r2, rfl, hF⟩
      refine EvK.pure (v := .int .i64 r2) (w_none rfl) rfl rfl (f_assign rfl rfl) ?_
      refine EvK.nil ?_
      refine WP.seq ?_
      refine WP.region ?_
      refine EvK.pure (v := .int .i64 a1) (w_none rfl) rfl rfl (f_move rfl rfl) ?_
      refine EvK.call (w_none rfl) rfl rfl (enterH Try.func15 rfl rfl rfl rfl (spatelaw15_small.sound hF)) ?_
      rintro _ h3 ⟨r3, rfl, hF⟩
      refine EvK.pure (v := .int .i64 r3) (w_none rfl) rfl rfl (f_assign rfl rfl) ?_
      refine EvK.nil ?_
      refine WP.seq ?_
      refine WP.region ?_
      refine EvK.pure (v := .int .i64 a2) (w_none rfl) rfl rfl (f_move rfl rfl) ?_
      refine EvK.call (w_none rfl) rfl rfl (enterH Try.func15 rfl rfl rfl rfl (spatelaw15_small.sound hF)) ?_
      rintro _ h4 ⟨r4, rfl, hF⟩
      refine EvK.pure (v := .int .i64 r4) (w_none rfl) rfl rfl (f_assign rfl rfl) ?_
      refine EvK.nil ?_
      refine WP.seq ?_
      refine WP.region ?_
      refine EvK.pure (v := .int .i64 r2) (w_none rfl) rfl rfl (f_move rfl rfl) ?_
      refine EvK.pure (v := .int .i64 r3) (w_none rfl) rfl rfl (f_move rfl rfl) ?_
      refine EvK.pure (v := .int .i64 r4) (w_none rfl) rfl rfl (f_move rfl rfl) ?_
      refine EvK.call (w_none rfl) rfl rfl (enterH Try.func9 rfl rfl rfl rfl (flow_New.sound hF)) ?_
      rintro _ h5 ⟨r5, rfl, hF⟩
      refine EvK.pure (v := .tuple #[.pointer r5.1, .int .i64 r5.2]) (w_none rfl) rfl rfl (f_move rfl rfl) ?_
      refine EvK.pure (v := .pointer r5.1) (w_none rfl) rfl rfl (f_extract (vs := #[.pointer r5.1, .int .i64 r5.2]) rfl rfl rfl) ?_
      refine EvK.pure (v := .int .i64 r5.2) (w_none rfl) rfl rfl (f_extract (vs := #[.pointer r5.1, .int .i64 r5.2]) rfl rfl rfl) ?_
      refine EvK.pure (v := .pointer r5.1) (w_none rfl) rfl rfl (f_assign rfl rfl) ?_
      refine EvK.pure (v := .int .i64 r5.2) (w_none rfl) rfl rfl (f_assign rfl rfl) ?_
      refine EvK.nil ?_
      refine WP.seq ?_
      refine WP.joinF (fun (s1 : Bool) => [(49, .bool s1), (1, .int .i64 r3), (2, .int .i64 r4), (3, Sl.val a3), (9, .pointer r5.1)]) hF ?_ ?_
      · intro s1 E0 h6 hF
        rcases ite_inv hF with ⟨c3, hF⟩ | ⟨c3, hF⟩
        · refine WP.cond_true _ rfl c3 ?_
          refine WP.seq ?_
          refine WP.region ?_
          refine EvK.pure (v := .bool false) (w_none rfl) rfl rfl (f_assign rfl rfl) ?_
          refine EvK.nil ?_
          refine WP.ret ?_
          exact Ret.mk (vs := [.bool false]) false ⟨rfl, trivial⟩ rfl hF
        · refine WP.cond_false _ rfl c3 ?_
          refine WP.skip ?_
          refine WP.joinF (fun (s2 : Unit) => []) hF ?_ ?_
          · intro s2 E0 h7 hF
            refine WP.seq ?_
            refine WP.region ?_
            refine EvK.pure (v := .bool true) (w_none rfl) rfl rfl (f_assign rfl rfl) ?_
            refine EvK.nil ?_
            refine WP.ret ?_
            exact Ret.mk (vs := [.bool true]) true ⟨rfl, trivial⟩ rfl hF
          · intro k2 hF
            refine WP.seq ?_
            refine WP.region ?_
            refine EvK.pure (v := .int .i64 0) (w_none rfl) rfl rfl (f_assign rfl rfl) ?_
            refine EvK.nil ?_
            refine WP.block ?_
            refine WP.loopF (fun (s3 : Int) => [(11, .int .i64 s3), (1, .int .i64 r3), (2, .int .i64 r4), (3, Sl.val a3), (9, .pointer r5.1)]) hF ⟨rfl, rfl, rfl, rfl, rfl, trivial⟩ ?_
            intro k3 s3 E0 h8 hF
            refine WP.seq ?_
            refine WP.seq ?_
            refine WP.region ?_
            refine EvK.pure (v := .int .i64 s3) (w_none rfl) rfl rfl (f_move rfl rfl) ?_
            refine EvK.pure (v := Sl.val a3) (w_none rfl) rfl rfl (f_move rfl rfl) ?_
            refine EvK.pure (v := .int .i64 (a3.len : Int)) (w_none rfl) rfl rfl (f_lenL (s := a3) Try.underlying22 rfl rfl) ?_
            refine EvK.pure (v := .bool (decide (s3 < (a3.len : Int)))) (w_none rfl) rfl rfl (f_lss rfl rfl rfl) ?_
            refine EvK.nil ?_
            rcases ite_inv hF with ⟨c4, hF⟩ | ⟨c4, hF⟩
            · refine WP.cond_true _ rfl c4 ?_
              refine WP.skip ?_
              refine WP.joinF (fun (s4 : Unit) => [(1, .int .i64 r3), (2, .int .i64 r4), (3, Sl.val a3), (9, .pointer r5.1), (11, .int .i64 s3)]) hF ?_ ?_
              · intro s4 E0 h9 hF
                refine WP.region ?_
                refine EvK.pure (v := .int .i64 s3) (w_none rfl) rfl rfl (f_move rfl rfl) ?_
                refine EvK.pure (v := .int .i64 (IntKind.i64.wrap (s3 + 1))) (w_none rfl) rfl rfl (f_add rfl rfl rfl) ?_
                refine EvK.pure (v := .int .i64 (IntKind.i64.wrap (s3 + 1))) (w_none rfl) rfl rfl (f_assign rfl rfl) ?_
                refine EvK.nil ?_
                exact KE.mk (IntKind.i64.wrap (s3 + 1)) ⟨rfl, rfl, rfl, rfl, rfl, trivial⟩ hF
              · intro k4 hF
                refine WP.block ?_
                refine WP.seq ?_
                refine WP.region ?_
                refine EvK.pure (v := Sl.val a3) (w_none rfl) rfl rfl (f_move rfl rfl) ?_
                refine EvK.pure (v := .int .i64 s3) (w_none rfl) rfl rfl (f_move rfl rfl) ?_
                obtain ⟨q1, hq1, hF⟩ := hF
                refine EvK.pure (v := .pointer (some q1)) (w_none rfl) rfl rfl (f_indexAddr (s := a3) Try.underlying22 ty35.size rfl rfl rfl hq1) ?_
                obtain ⟨x1, hx1, hF⟩ := hF
                refine EvK.read (v := k34.val x1) (w_none rfl) rfl rfl (f_load k34 ty35 rfl rfl hx1 rfl) ?_
                refine EvK.alloc (w_none rfl) rfl rfl (f_allocF zero35 rfl rfl hF) ?_
                rintro _ h10 ⟨q2, rfl, hF⟩
                obtain ⟨h11, hs1, hF⟩ := hF
                refine EvK.runN (w_none rfl) rfl (f_store k34 ty35.size (z := x1) rfl rfl rfl hs1) ?_
                rintro _ _ ⟨rfl, rfl⟩
                refine EvK.nil ?_
                refine WP.seq ?_
                refine WP.region ?_
                refine EvK.pure (v := .pointer r5.1) (w_none rfl) rfl rfl (f_move rfl rfl) ?_
                refine EvK.pure (v := .pointer (some (q2.add 1))) (w_none rfl) rfl rfl (f_fieldAddr fd35_1 rfl rfl) ?_
                obtain ⟨x2, hx2, hF⟩ := hF
                refine EvK.read (v := .int .i64 x2) (w_none rfl) rfl rfl (f_load (kI .i64) ty3 rfl rfl hx2 rfl) ?_
                refine EvK.call (w_none rfl) rfl rfl (enterH Try.func21 rfl rfl rfl rfl (flow_Flow_Queued.sound hF)) ?_
                rintro _ h12 ⟨r6, rfl, hF⟩
                refine EvK.pure (v := .int .i64 r6) (w_none rfl) rfl rfl (f_assign rfl rfl) ?_
                refine EvK.nil ?_
                refine WP.seq ?_
                refine WP.region ?_
                refine EvK.pure (v := .pointer r5.1) (w_none rfl) rfl rfl (f_move rfl rfl) ?_
                refine EvK.pure (v := .pointer (some (q2.add 1))) (w_none rfl) rfl rfl (f_fieldAddr fd35_1 rfl rfl) ?_
                obtain ⟨x3, hx3, hF⟩ := hF
                refine EvK.read (v := .int .i64 x3) (w_none rfl) rfl rfl (f_load (kI .i64) ty3 rfl rfl hx3 rfl) ?_
                refine EvK.call (w_none rfl) rfl rfl (enterH Try.func22 rfl rfl rfl rfl (flow_Flow_Toward.sound hF)) ?_
                rintro _ h13 ⟨r7, rfl, hF⟩
                refine EvK.pure (v := .tuple #[.int .i64 r7.1, .int .i64 r7.2]) (w_none rfl) rfl rfl (f_move rfl rfl) ?_
                refine EvK.pure (v := .int .i64 r7.1) (w_none rfl) rfl rfl (f_extract (vs := #[.int .i64 r7.1, .int .i64 r7.2]) rfl rfl rfl) ?_
                refine EvK.pure (v := .int .i64 r7.2) (w_none rfl) rfl rfl (f_extract (vs := #[.int .i64 r7.1, .int .i64 r7.2]) rfl rfl rfl) ?_
                refine EvK.pure (v := .int .i64 r7.1) (w_none rfl) rfl rfl (f_assign rfl rfl) ?_
                refine EvK.pure (v := .int .i64 r7.2) (w_none rfl) rfl rfl (f_assign rfl rfl) ?_
                refine EvK.nil ?_
                refine WP.seq ?_
                refine WP.region ?_
                refine EvK.pure (v := .pointer r5.1) (w_none rfl) rfl rfl (f_move rfl rfl) ?_
                refine EvK.pure (v := .int .i64 r7.1) (w_none rfl) rfl rfl (f_move rfl rfl) ?_
                refine EvK.call (w_none rfl) rfl rfl (enterH Try.func23 rfl rfl rfl rfl (flow_Flow_Boxed.sound hF)) ?_
                rintro _ h14 ⟨r8, rfl, hF⟩
                refine EvK.pure (v := .int .i64 r8) (w_none rfl) rfl rfl (f_assign rfl rfl) ?_
                refine EvK.nil ?_
                refine WP.seq ?_
                refine WP.region ?_
                refine EvK.pure (v := .pointer r5.1) (w_none rfl) rfl rfl (f_move rfl rfl) ?_
                refine EvK.pure (v := .pointer (some (q2.add 1))) (w_none rfl) rfl rfl (f_fieldAddr fd35_1 rfl rfl) ?_
                obtain ⟨x4, hx4, hF⟩ := hF
                refine EvK.read (v := .int .i64 x4) (w_none rfl) rfl rfl (f_load (kI .i64) ty3 rfl rfl hx4 rfl) ?_
                refine EvK.call (w_none rfl) rfl rfl (enterH Try.func23 rfl rfl rfl rfl (flow_Flow_Boxed.sound hF)) ?_
                rintro _ h15 ⟨r9, rfl, hF⟩
                refine EvK.pure (v := .int .i64 r9) (w_none rfl) rfl rfl (f_assign rfl rfl) ?_
                refine EvK.nil ?_
                refine WP.joinF (fun (s5 : Unit) => [(1, .int .i64 r3), (2, .int .i64 r4), (3, Sl.val a3), (9, .pointer r5.1), (11, .int .i64 s3)]) hF ?_ ?_
                · intro s5 E0 h16 hF
                  refine WP.seq ?_
                  refine WP.region ?_
                  refine EvK.pure (v := .int .i64 0) (w_none rfl) rfl rfl (f_assign rfl rfl) ?_
                  refine EvK.nil ?_
                  refine WP.block ?_
                  refine WP.loopF (fun (s6 : Int) => [(25, .int .i64 s6), (1, .int .i64 r3), (2, .int .i64 r4), (3, Sl.val a3), (9, .pointer r5.1), (11, .int .i64 s3)]) hF ⟨rfl, rfl, rfl, rfl, rfl, rfl, trivial⟩ ?_
                  intro k6 s6 E0 h17 hF
                  refine WP.seq ?_
                  refine WP.seq ?_
                  refine WP.region ?_
                  refine EvK.pure (v := .int .i64 s6) (w_none rfl) rfl rfl (f_move rfl rfl) ?_
                  refine EvK.pure (v := .int .i64 r3) (w_none rfl) rfl rfl (f_move rfl rfl) ?_
                  refine EvK.pure (v := .bool (decide (s6 < r3))) (w_none rfl) rfl rfl (f_lss rfl rfl rfl) ?_
                  refine EvK.nil ?_
                  rcases ite_inv hF with ⟨c5, hF⟩ | ⟨c5, hF⟩
                  · refine WP.cond_true _ rfl c5 ?_
                    refine WP.skip ?_
                    refine WP.seq ?_
                    refine WP.block ?_
                    refine WP.seq ?_
                    refine WP.region ?_
                    refine EvK.pure (v := .pointer r5.1) (w_none rfl) rfl rfl (f_move rfl rfl) ?_
                    refine EvK.pure (v := .int .i64 s6) (w_none rfl) rfl rfl (f_move rfl rfl) ?_
                    refine EvK.call (w_none rfl) rfl rfl (enterH Try.func23 rfl rfl rfl rfl (flow_Flow_Boxed.sound hF)) ?_
                    rintro _ h18 ⟨r10, rfl, hF⟩
                    refine EvK.pure (v := .int .i64 r4) (w_none rfl) rfl rfl (f_move rfl rfl) ?_
                    refine EvK.pure (v := .bool (decide (r10 > r4))) (w_none rfl) rfl rfl (f_gtr rfl rfl rfl) ?_
                    refine EvK.nil ?_
                    rcases ite_inv hF with ⟨c6, hF⟩ | ⟨c6, hF⟩
                    · refine WP.cond_true _ rfl c6 ?_
                      refine WP.seq ?_
                      refine WP.region ?_
                      refine EvK.pure (v := .bool false) (w_none rfl) rfl rfl (f_assign rfl rfl) ?_
                      refine EvK.nil ?_
                      refine WP.ret ?_
                      exact Ret.mk (vs := [.bool false]) false ⟨rfl, trivial⟩ rfl hF
                    · refine WP.cond_false _ rfl c6 ?_
                      refine WP.skip ?_
                      refine WP.region ?_
                      refine EvK.pure (v := .int .i64 s6) (w_none rfl) rfl rfl (f_move rfl rfl) ?_
                      refine EvK.pure (v := .int .i64 (IntKind.i64.wrap (s6 + 1))) (w_none rfl) rfl rfl (f_add rfl rfl rfl) ?_
                      refine EvK.pure (v := .int .i64 (IntKind.i64.wrap (s6 + 1))) (w_none rfl) rfl rfl (f_assign rfl rfl) ?_
                      refine EvK.nil ?_
                      exact KE.mk (IntKind.i64.wrap (s6 + 1)) ⟨rfl, rfl, rfl, rfl, rfl, rfl, trivial⟩ hF
                  · refine WP.cond_false _ rfl c5 ?_
                    refine WP.exit ?_
                    exact KE.mk () ⟨rfl, rfl, rfl, rfl, rfl, trivial⟩ hF
                · intro k5 hF
                  refine WP.seq ?_
                  refine WP.region ?_
                  refine EvK.pure (v := .pointer (some (q2.add 0))) (w_none rfl) rfl rfl (f_fieldAddr fd35_0 rfl rfl) ?_
                  obtain ⟨x5, hx5, hF⟩ := hF
                  refine EvK.read (v := .int .i64 x5) (w_none rfl) rfl rfl (f_load (kI .i64) ty3 rfl rfl hx5 rfl) ?_
                  refine EvK.nil ?_
                  refine WP.block ?_
                  refine WP.seq ?_
                  refine WP.region ?_
                  refine EvK.pure (v := .bool (x5 == 1)) (w_none rfl) rfl rfl (f_eql rfl rfl rfl) ?_
                  refine EvK.pure (v := .bool (x5 == 1)) (w_none rfl) rfl rfl (f_assign rfl rfl) ?_
                  refine EvK.nil ?_
                  rcases ite_inv hF with ⟨c7, hF⟩ | ⟨c7, hF⟩
                  · refine WP.cond_true _ rfl c7 ?_
                    refine WP.seq ?_
                    refine WP.region ?_
                    refine EvK.pure (v := .pointer r5.1) (w_none rfl) rfl rfl (f_move rfl rfl) ?_
                    refine EvK.pure (v := .pointer (some (q2.add 1))) (w_none rfl) rfl rfl (f_fieldAddr fd35_1 rfl rfl) ?_
                    obtain ⟨x6, hx6, hF⟩ := hF
                    refine EvK.read (v := .int .i64 x6) (w_none rfl) rfl rfl (f_load (kI .i64) ty3 rfl rfl hx6 rfl) ?_
                    refine EvK.pure (v := .pointer (some (q2.add 2))) (w_none rfl) rfl rfl (f_fieldAddr fd35_2 rfl rfl) ?_
                    obtain ⟨x7, hx7, hF⟩ := hF
                    refine EvK.read (v := k32.val x7) (w_none rfl) rfl rfl (f_load k32 ty33 rfl rfl hx7 rfl) ?_
                    refine EvK.call (w_none rfl) rfl rfl (enterH Try.func16 rfl rfl rfl rfl (flow_Flow_Put.sound hF)) ?_
                    rintro _ h19 ⟨r13, rfl, hF⟩
                    refine EvK.pure (v := .int .i64 r13) (w_none rfl) rfl rfl (f_assign rfl rfl) ?_
                    refine EvK.nil ?_
                    refine WP.joinF (fun (s7 : Bool) => [(110, .bool s7), (1, .int .i64 r3), (2, .int .i64 r4), (3, Sl.val a3), (9, .pointer r5.1), (11, .int .i64 s3)]) hF ?_ ?_
                    · intro s7 E0 h20 hF
                      rcases ite_inv hF with ⟨c8, hF⟩ | ⟨c8, hF⟩
                      · refine WP.cond_true _ rfl c8 ?_
                        refine WP.seq ?_
                        refine WP.region ?_
                        refine EvK.pure (v := .bool false) (w_none rfl) rfl rfl (f_assign rfl rfl) ?_
                        refine EvK.nil ?_
                        refine WP.ret ?_
                        exact Ret.mk (vs := [.bool false]) false ⟨rfl, trivial⟩ rfl hF
                      · refine WP.cond_false _ rfl c8 ?_
                        refine WP.skip ?_
                        exact KE.mk () ⟨rfl, rfl, rfl, rfl, rfl, trivial⟩ hF
                    · intro k7 hF
                      refine WP.region ?_
                      refine EvK.pure (v := .pointer r5.1) (w_none rfl) rfl rfl (f_move rfl rfl) ?_
                      refine EvK.pure (v := .pointer (some (q2.add 1))) (w_none rfl) rfl rfl (f_fieldAddr fd35_1 rfl rfl) ?_
                      obtain ⟨x8, hx8, hF⟩ := hF
                      refine EvK.read (v := .int .i64 x8) (w_none rfl) rfl rfl (f_load (kI .i64) ty3 rfl rfl hx8 rfl) ?_
                      refine EvK.call (w_none rfl) rfl rfl (enterH Try.func21 rfl rfl rfl rfl (flow_Flow_Queued.sound hF)) ?_
                      rintro _ h21 ⟨r14, rfl, hF⟩
                      refine EvK.pure (v := .int .i64 r6) (w_none rfl) rfl rfl (f_move rfl rfl) ?_
                      refine EvK.pure (v := .bool (r14 != r6)) (w_none rfl) rfl rfl (f_neq rfl rfl rfl) ?_
                      refine EvK.pure (v := .bool (r14 != r6)) (w_none rfl) rfl rfl (f_move rfl rfl) ?_
                      rcases ite_inv hF with ⟨c9, hF⟩ | ⟨c9, hF⟩
                      · refine EvK.pure (v := .int .i64 r13) (w_some rfl rfl c9) rfl rfl (f_move rfl rfl) ?_
                        refine EvK.pure (v := .bool (r13 != 0)) (w_some rfl rfl c9) rfl rfl (f_neq rfl rfl rfl) ?_
                        refine EvK.pure (v := .bool (r13 != 0)) (w_none rfl) rfl rfl (f_pickT rfl rfl c9 rfl) ?_
                        refine EvK.pure (v := .bool (r13 != 0)) (w_none rfl) rfl rfl (f_move rfl rfl) ?_
                        rcases ite_inv hF with ⟨c10, hF⟩ | ⟨c10, hF⟩
                        · refine EvK.not (w_not rfl rfl c10) rfl rfl ?_
                          refine EvK.not (w_not rfl rfl c10) rfl rfl ?_
                          refine EvK.not (w_not rfl rfl c10) rfl rfl ?_
                          refine EvK.not (w_undef rfl rfl) rfl rfl ?_
                          refine EvK.not (w_undef rfl rfl) rfl rfl ?_
                          refine EvK.not (w_undef rfl rfl) rfl rfl ?_
                          refine EvK.not (w_undef rfl rfl) rfl rfl ?_
                          refine EvK.not (w_undef rfl rfl) rfl rfl ?_
                          refine EvK.not (w_undef rfl rfl) rfl rfl ?_
                          refine EvK.not (w_undef rfl rfl) rfl rfl ?_
                          refine EvK.not (w_not rfl rfl c10) rfl rfl ?_
                          refine EvK.pure (v := .bool true) (w_none rfl) rfl rfl (f_pickT rfl rfl c10 rfl) ?_
                          refine EvK.nil ?_
                          exact KE.mk true ⟨rfl, rfl, rfl, rfl, rfl, rfl, trivial⟩ hF
                        · refine EvK.pure (v := .int .i64 r13) (w_some rfl rfl c10) rfl rfl (f_move rfl rfl) ?_
                          refine EvK.pure (v := .bool (r13 == 0)) (w_some rfl rfl c10) rfl rfl (f_eql rfl rfl rfl) ?_
                          refine EvK.pure (v := .bool (r13 == 0)) (w_some rfl rfl c10) rfl rfl (f_move rfl rfl) ?_
                          rcases ite_inv hF with ⟨c11, hF⟩ | ⟨c11, hF⟩
                          · refine EvK.pure (v := .pointer r5.1) (w_some rfl rfl c11) rfl rfl (f_move rfl rfl) ?_
                            refine EvK.pure (v := .pointer (some (q2.add 1))) (w_some rfl rfl c11) rfl rfl (f_fieldAddr fd35_1 rfl rfl) ?_
                            obtain ⟨x9, hx9, hF⟩ := hF
                            refine EvK.read (v := .int .i64 x9) (w_some rfl rfl c11) rfl rfl (f_load (kI .i64) ty3 rfl rfl hx9 rfl) ?_
                            refine EvK.call (w_some rfl rfl c11) rfl rfl (enterH Try.func21 rfl rfl rfl rfl (flow_Flow_Queued.sound hF)) ?_
                            rintro _ h22 ⟨r15, rfl, hF⟩
                            refine EvK.pure (v := .int .i64 r6) (w_some rfl rfl c11) rfl rfl (f_move rfl rfl) ?_
                            refine EvK.pure (v := .int .i64 (IntKind.i64.wrap (r6 + 1))) (w_some rfl rfl c11) rfl rfl (f_add rfl rfl rfl) ?_
                            refine EvK.pure (v := .bool (r15 != (IntKind.i64.wrap (r6 + 1)))) (w_some rfl rfl c11) rfl rfl (f_neq rfl rfl rfl) ?_
                            refine EvK.pure (v := .bool (r15 != (IntKind.i64.wrap (r6 + 1)))) (w_some rfl rfl c10) rfl rfl (f_pickT rfl rfl c11 rfl) ?_
                            refine EvK.pure (v := .bool (r15 != (IntKind.i64.wrap (r6 + 1)))) (w_none rfl) rfl rfl (f_pickF rfl rfl c10 rfl) ?_
                            refine EvK.nil ?_
                            exact KE.mk (r15 != (IntKind.i64.wrap (r6 + 1))) ⟨rfl, rfl, rfl, rfl, rfl, rfl, trivial⟩ hF
                          · refine EvK.not (w_not rfl rfl c11) rfl rfl ?_
                            refine EvK.not (w_not rfl rfl c11) rfl rfl ?_
                            refine EvK.not (w_not rfl rfl c11) rfl rfl ?_
                            refine EvK.not (w_not rfl rfl c11) rfl rfl ?_
                            refine EvK.not (w_not rfl rfl c11) rfl rfl ?_
                            refine EvK.not (w_not rfl rfl c11) rfl rfl ?_
                            refine EvK.not (w_not rfl rfl c11) rfl rfl ?_
                            refine EvK.pure (v := .bool false) (w_some rfl rfl c10) rfl rfl (f_pickF rfl rfl c11 rfl) ?_
                            refine EvK.pure (v := .bool false) (w_none rfl) rfl rfl (f_pickF rfl rfl c10 rfl) ?_
                            refine EvK.nil ?_
                            exact KE.mk false ⟨rfl, rfl, rfl, rfl, rfl, rfl, trivial⟩ hF
                      · refine EvK.not (w_not rfl rfl c9) rfl rfl ?_
                        refine EvK.not (w_not rfl rfl c9) rfl rfl ?_
                        refine EvK.pure (v := .bool false) (w_none rfl) rfl rfl (f_pickF rfl rfl c9 rfl) ?_
                        refine EvK.pure (v := .bool false) (w_none rfl) rfl rfl (f_move rfl rfl) ?_
                        refine EvK.pure (v := .int .i64 r13) (w_some rfl rfl rfl) rfl rfl (f_move rfl rfl) ?_
                        refine EvK.pure (v := .bool (r13 == 0)) (w_some rfl rfl rfl) rfl rfl (f_eql rfl rfl rfl) ?_
                        refine EvK.pure (v := .bool (r13 == 0)) (w_some rfl rfl rfl) rfl rfl (f_move rfl rfl) ?_
                        rcases ite_inv hF with ⟨c12, hF⟩ | ⟨c12, hF⟩
                        · refine EvK.pure (v := .pointer r5.1) (w_some rfl rfl c12) rfl rfl (f_move rfl rfl) ?_
                          refine EvK.pure (v := .pointer (some (q2.add 1))) (w_some rfl rfl c12) rfl rfl (f_fieldAddr fd35_1 rfl rfl) ?_
                          obtain ⟨x10, hx10, hF⟩ := hF
                          refine EvK.read (v := .int .i64 x10) (w_some rfl rfl c12) rfl rfl (f_load (kI .i64) ty3 rfl rfl hx10 rfl) ?_
                          refine EvK.call (w_some rfl rfl c12) rfl rfl (enterH Try.func21 rfl rfl rfl rfl (flow_Flow_Queued.sound hF)) ?_
                          rintro _ h23 ⟨r16, rfl, hF⟩
                          refine EvK.pure (v := .int .i64 r6) (w_some rfl rfl c12) rfl rfl (f_move rfl rfl) ?_
                          refine EvK.pure (v := .int .i64 (IntKind.i64.wrap (r6 + 1))) (w_some rfl rfl c12) rfl rfl (f_add rfl rfl rfl) ?_
                          refine EvK.pure (v := .bool (r16 != (IntKind.i64.wrap (r6 + 1)))) (w_some rfl rfl c12) rfl rfl (f_neq rfl rfl rfl) ?_
                          refine EvK.pure (v := .bool (r16 != (IntKind.i64.wrap (r6 + 1)))) (w_some rfl rfl rfl) rfl rfl (f_pickT rfl rfl c12 rfl) ?_
                          refine EvK.pure (v := .bool (r16 != (IntKind.i64.wrap (r6 + 1)))) (w_none rfl) rfl rfl (f_pickF rfl rfl rfl rfl) ?_
                          refine EvK.nil ?_
                          exact KE.mk (r16 != (IntKind.i64.wrap (r6 + 1))) ⟨rfl, rfl, rfl, rfl, rfl, rfl, trivial⟩ hF
                        · refine EvK.not (w_not rfl rfl c12) rfl rfl ?_
                          refine EvK.not (w_not rfl rfl c12) rfl rfl ?_
                          refine EvK.not (w_not rfl rfl c12) rfl rfl ?_
                          refine EvK.not (w_not rfl rfl c12) rfl rfl ?_
                          refine EvK.not (w_not rfl rfl c12) rfl rfl ?_
                          refine EvK.not (w_not rfl rfl c12) rfl rfl ?_
                          refine EvK.not (w_not rfl rfl c12) rfl rfl ?_
                          refine EvK.pure (v := .bool false) (w_some rfl rfl rfl) rfl rfl (f_pickF rfl rfl c12 rfl) ?_
                          refine EvK.pure (v := .bool false) (w_none rfl) rfl rfl (f_pickF rfl rfl rfl rfl) ?_
                          refine EvK.nil ?_
                          exact KE.mk false ⟨rfl, rfl, rfl, rfl, rfl, rfl, trivial⟩ hF
                  · refine WP.cond_false _ rfl c7 ?_
                    refine WP.seq ?_
                    refine WP.region ?_
                    refine EvK.pure (v := .bool (x5 == 2)) (w_none rfl) rfl rfl (f_eql rfl rfl rfl) ?_
                    refine EvK.pure (v := .bool (x5 == 2)) (w_none rfl) rfl rfl (f_assign rfl rfl) ?_
                    refine EvK.nil ?_
                    rcases ite_inv hF with ⟨c13, hF⟩ | ⟨c13, hF⟩
                    · refine WP.cond_true _ rfl c13 ?_
                      refine WP.seq ?_
                      refine WP.region ?_
                      refine EvK.pure (v := .pointer r5.1) (w_none rfl) rfl rfl (f_move rfl rfl) ?_
                      refine EvK.pure (v := .pointer (some (q2.add 1))) (w_none rfl) rfl rfl (f_fieldAddr fd35_1 rfl rfl) ?_
                      obtain ⟨x11, hx11, hF⟩ := hF
                      refine EvK.read (v := .int .i64 x11) (w_none rfl) rfl rfl (f_load (kI .i64) ty3 rfl rfl hx11 rfl) ?_
                      refine EvK.call (w_none rfl) rfl rfl (enterH Try.func17 rfl rfl rfl rfl (flow_Flow_Pass.sound hF)) ?_
                      rintro _ h24 ⟨r17, rfl, hF⟩
                      refine EvK.pure (v := .tuple #[.int .i64 r17.1, .int .i64 r17.2]) (w_none rfl) rfl rfl (f_move rfl rfl) ?_
                      refine EvK.pure (v := .int .i64 r17.1) (w_none rfl) rfl rfl (f_extract (vs := #[.int .i64 r17.1, .int .i64 r17.2]) rfl rfl rfl) ?_
                      refine EvK.pure (v := .int .i64 r17.2) (w_none rfl) rfl rfl (f_extract (vs := #[.int .i64 r17.1, .int .i64 r17.2]) rfl rfl rfl) ?_
                      refine EvK.pure (v := .int .i64 r17.1) (w_none rfl) rfl rfl (f_assign rfl rfl) ?_
                      refine EvK.pure (v := .int .i64 r17.2) (w_none rfl) rfl rfl (f_assign rfl rfl) ?_
                      refine EvK.nil ?_
                      refine WP.seq ?_
                      refine WP.seq ?_
                      refine WP.region ?_
                      refine EvK.pure (v := .int .i64 r7.2) (w_none rfl) rfl rfl (f_move rfl rfl) ?_
                      refine EvK.pure (v := .bool (r7.2 != 0)) (w_none rfl) rfl rfl (f_neq rfl rfl rfl) ?_
                      refine EvK.nil ?_
                      rcases ite_inv hF with ⟨c14, hF⟩ | ⟨c14, hF⟩
                      · refine WP.cond_true _ rfl c14 ?_
                        refine WP.seq ?_
                        refine WP.seq ?_
                        refine WP.region ?_
                        refine EvK.pure (v := .int .i64 r17.2) (w_none rfl) rfl rfl (f_move rfl rfl) ?_
                        refine EvK.pure (v := .int .i64 r7.2) (w_none rfl) rfl rfl (f_move rfl rfl) ?_
                        refine EvK.pure (v := .bool (r17.2 != r7.2)) (w_none rfl) rfl rfl (f_neq rfl rfl rfl) ?_
                        refine EvK.nil ?_
                        rcases ite_inv hF with ⟨c15, hF⟩ | ⟨c15, hF⟩
                        · refine WP.cond_true _ rfl c15 ?_
                          refine WP.seq ?_
                          refine WP.region ?_
                          refine EvK.pure (v := .bool false) (w_none rfl) rfl rfl (f_assign rfl rfl) ?_
                          refine EvK.nil ?_
                          refine WP.ret ?_
                          exact Ret.mk (vs := [.bool false]) false ⟨rfl, trivial⟩ rfl hF
                        · refine WP.cond_false _ rfl c15 ?_
                          refine WP.skip ?_
                          refine WP.exit ?_
                          exact KE.mk () ⟨rfl, rfl, rfl, rfl, rfl, trivial⟩ hF
                      · refine WP.cond_false _ rfl c14 ?_
                        refine WP.skip ?_
                        refine WP.seq ?_
                        refine WP.region ?_
                        refine EvK.pure (v := .int .i64 r8) (w_none rfl) rfl rfl (f_move rfl rfl) ?_
                        refine EvK.pure (v := .int .i64 r4) (w_none rfl) rfl rfl (f_move rfl rfl) ?_
                        refine EvK.pure (v := .bool (decide (r8 ≥ r4))) (w_none rfl) rfl rfl (f_geq rfl rfl rfl) ?_
                        refine EvK.pure (v := .bool (decide (r8 ≥ r4))) (w_none rfl) rfl rfl (f_assign rfl rfl) ?_
                        refine EvK.nil ?_
                        refine WP.joinF (fun (s8 : Bool) => [(165, .bool s8), (1, .int .i64 r3), (2, .int .i64 r4), (3, Sl.val a3), (9, .pointer r5.1), (11, .int .i64 s3)]) hF ?_ ?_
                        · intro s8 E0 h25 hF
                          rcases ite_inv hF with ⟨c16, hF⟩ | ⟨c16, hF⟩
                          · refine WP.cond_true _ rfl c16 ?_
                            refine WP.seq ?_
                            refine WP.region ?_
                            refine EvK.pure (v := .bool false) (w_none rfl) rfl rfl (f_assign rfl rfl) ?_
                            refine EvK.nil ?_
                            refine WP.ret ?_
                            exact Ret.mk (vs := [.bool false]) false ⟨rfl, trivial⟩ rfl hF
                          · refine WP.cond_false _ rfl c16 ?_
                            refine WP.skip ?_
                            exact KE.mk () ⟨rfl, rfl, rfl, rfl, rfl, trivial⟩ hF
                        · intro k8 hF
                          refine WP.region ?_
                          refine EvK.pure (v := .bool (decide (r8 ≥ r4))) (w_none rfl) rfl rfl (f_move rfl rfl) ?_
                          refine EvK.pure (v := .int .i64 r17.2) (w_none rfl) rfl rfl (f_move rfl rfl) ?_
                          refine EvK.pure (v := .bool (r17.2 != 0)) (w_none rfl) rfl rfl (f_neq rfl rfl rfl) ?_
                          refine EvK.pure (v := .bool (!((decide (r8 ≥ r4)) == (r17.2 != 0)))) (w_none rfl) rfl rfl (f_bneq Try.underlying4 rfl rfl rfl) ?_
                          refine EvK.pure (v := .bool (!((decide (r8 ≥ r4)) == (r17.2 != 0)))) (w_none rfl) rfl rfl (f_move rfl rfl) ?_
                          rcases ite_inv hF with ⟨c17, hF⟩ | ⟨c17, hF⟩
                          · refine EvK.not (w_not rfl rfl c17) rfl rfl ?_
                            refine EvK.not (w_not rfl rfl c17) rfl rfl ?_
                            refine EvK.not (w_undef rfl rfl) rfl rfl ?_
                            refine EvK.not (w_undef rfl rfl) rfl rfl ?_
                            refine EvK.not (w_not rfl rfl c17) rfl rfl ?_
                            refine EvK.pure (v := .bool true) (w_none rfl) rfl rfl (f_pickT rfl rfl c17 rfl) ?_
                            refine EvK.pure (v := .bool true) (w_none rfl) rfl rfl (f_move rfl rfl) ?_
                            refine EvK.not (w_not rfl rfl rfl) rfl rfl ?_
                            refine EvK.not (w_not rfl rfl rfl) rfl rfl ?_
                            refine EvK.not (w_not rfl rfl rfl) rfl rfl ?_
                            refine EvK.not (w_undef rfl rfl) rfl rfl ?_
                            refine EvK.not (w_undef rfl rfl) rfl rfl ?_
                            refine EvK.not (w_undef rfl rfl) rfl rfl ?_
                            refine EvK.not (w_undef rfl rfl) rfl rfl ?_
                            refine EvK.not (w_undef rfl rfl) rfl rfl ?_
                            refine EvK.not (w_undef rfl rfl) rfl rfl ?_
                            refine EvK.not (w_undef rfl rfl) rfl rfl ?_
                            refine EvK.not (w_undef rfl rfl) rfl rfl ?_
                            refine EvK.not (w_undef rfl rfl) rfl rfl ?_
                            refine EvK.not (w_undef rfl rfl) rfl rfl ?_
                            refine EvK.not (w_undef rfl rfl) rfl rfl ?_
                            refine EvK.not (w_not rfl rfl rfl) rfl rfl ?_
                            refine EvK.pure (v := .bool true) (w_none rfl) rfl rfl (f_pickT rfl rfl rfl rfl) ?_
                            refine EvK.pure (v := .bool true) (w_none rfl) rfl rfl (f_move rfl rfl) ?_
                            refine EvK.not (w_not rfl rfl rfl) rfl rfl ?_
                            refine EvK.not (w_not rfl rfl rfl) rfl rfl ?_
                            refine EvK.not (w_undef rfl rfl) rfl rfl ?_
                            refine EvK.not (w_undef rfl rfl) rfl rfl ?_
                            refine EvK.not (w_undef rfl rfl) rfl rfl ?_
                            refine EvK.not (w_undef rfl rfl) rfl rfl ?_
                            refine EvK.not (w_undef rfl rfl) rfl rfl ?_
                            refine EvK.not (w_not rfl rfl rfl) rfl rfl ?_
                            refine EvK.pure (v := .bool true) (w_none rfl) rfl rfl (f_pickT rfl rfl rfl rfl) ?_
                            refine EvK.nil ?_
                            exact KE.mk true ⟨rfl, rfl, rfl, rfl, rfl, rfl, trivial⟩ hF
                          · refine EvK.pure (v := .bool (decide (r8 ≥ r4))) (w_some rfl rfl c17) rfl rfl (f_move rfl rfl) ?_
                            refine EvK.pure (v := .bool (decide (r8 ≥ r4))) (w_some rfl rfl c17) rfl rfl (f_move rfl rfl) ?_
                            rcases ite_inv hF with ⟨c18, hF⟩ | ⟨c18, hF⟩
                            · refine EvK.pure (v := .int .i64 r17.2) (w_some rfl rfl c18) rfl rfl (f_move rfl rfl) ?_
                              refine EvK.pure (v := .bool (r17.2 != 45)) (w_some rfl rfl c18) rfl rfl (f_neq rfl rfl rfl) ?_
                              refine EvK.pure (v := .bool (r17.2 != 45)) (w_some rfl rfl c17) rfl rfl (f_pickT rfl rfl c18 rfl) ?_
                              refine EvK.pure (v := .bool (r17.2 != 45)) (w_none rfl) rfl rfl (f_pickF rfl rfl c17 rfl) ?_
                              refine EvK.pure (v := .bool (r17.2 != 45)) (w_none rfl) rfl rfl (f_move rfl rfl) ?_
                              rcases ite_inv hF with ⟨c19, hF⟩ | ⟨c19, hF⟩
                              · refine EvK.not (w_not rfl rfl c19) rfl rfl ?_
                                refine EvK.not (w_not rfl rfl c19) rfl rfl ?_
                                refine EvK.not (w_not rfl rfl c19) rfl rfl ?_
                                refine EvK.not (w_undef rfl rfl) rfl rfl ?_
                                refine EvK.not (w_undef rfl rfl) rfl rfl ?_
                                refine EvK.not (w_undef rfl rfl) rfl rfl ?_
                                refine EvK.not (w_undef rfl rfl) rfl rfl ?_
                                refine EvK.not (w_undef rfl rfl) rfl rfl ?_
                                refine EvK.not (w_undef rfl rfl) rfl rfl ?_
                                refine EvK.not (w_undef rfl rfl) rfl rfl ?_
                                refine EvK.not (w_undef rfl rfl) rfl rfl ?_
                                refine EvK.not (w_undef rfl rfl) rfl rfl ?_
                                refine EvK.not (w_undef rfl rfl) rfl rfl ?_
                                refine EvK.not (w_undef rfl rfl) rfl rfl ?_
                                refine EvK.not (w_not rfl rfl c19) rfl rfl ?_
                                refine EvK.pure (v := .bool true) (w_none rfl) rfl rfl (f_pickT rfl rfl c19 rfl) ?_
                                refine EvK.pure (v := .bool true) (w_none rfl) rfl rfl (f_move rfl rfl) ?_
                                refine EvK.not (w_not rfl rfl rfl) rfl rfl ?_
                                refine EvK.not (w_not rfl rfl rfl) rfl rfl ?_
                                refine EvK.not (w_undef rfl rfl) rfl rfl ?_
                                refine EvK.not (w_undef rfl rfl) rfl rfl ?_
                                refine EvK.not (w_undef rfl rfl) rfl rfl ?_
                                refine EvK.not (w_undef rfl rfl) rfl rfl ?_
                                refine EvK.not (w_undef rfl rfl) rfl rfl ?_
                                refine EvK.not (w_not rfl rfl rfl) rfl rfl ?_
                                refine EvK.pure (v := .bool true) (w_none rfl) rfl rfl (f_pickT rfl rfl rfl rfl) ?_
                                refine EvK.nil ?_
                                exact KE.mk true ⟨rfl, rfl, rfl, rfl, rfl, rfl, trivial⟩ hF
                              · refine EvK.pure (v := .bool (decide (r8 ≥ r4))) (w_some rfl rfl c19) rfl rfl (f_move rfl rfl) ?_
                                refine EvK.pure (v := .bool (!(decide (r8 ≥ r4)))) (w_some rfl rfl c19) rfl rfl (f_not rfl rfl) ?_
                                refine EvK.pure (v := .bool (!(decide (r8 ≥ r4)))) (w_some rfl rfl c19) rfl rfl (f_move rfl rfl) ?_
                                rcases ite_inv hF with ⟨c20, hF⟩ | ⟨c20, hF⟩
                                · refine EvK.pure (v := .int .i64 r17.1) (w_some rfl rfl c20) rfl rfl (f_move rfl rfl) ?_
                                  refine EvK.pure (v := .int .i64 r7.1) (w_some rfl rfl c20) rfl rfl (f_move rfl rfl) ?_
                                  refine EvK.pure (v := .bool (r17.1 != r7.1)) (w_some rfl rfl c20) rfl rfl (f_neq rfl rfl rfl) ?_
                                  refine EvK.pure (v := .bool (r17.1 != r7.1)) (w_some rfl rfl c20) rfl rfl (f_move rfl rfl) ?_
                                  rcases ite_inv hF with ⟨c21, hF⟩ | ⟨c21, hF⟩
                                  · refine EvK.not (w_not rfl rfl c21) rfl rfl ?_
                                    refine EvK.not (w_not rfl rfl c21) rfl rfl ?_
                                    refine EvK.not (w_not rfl rfl c21) rfl rfl ?_
                                    refine EvK.not (w_not rfl rfl c21) rfl rfl ?_
                                    refine EvK.not (w_not rfl rfl c21) rfl rfl ?_
                                    refine EvK.not (w_not rfl rfl c21) rfl rfl ?_
                                    refine EvK.pure (v := .bool true) (w_some rfl rfl c20) rfl rfl (f_pickT rfl rfl c21 rfl) ?_
                                    refine EvK.pure (v := .bool true) (w_some rfl rfl c19) rfl rfl (f_pickT rfl rfl c20 rfl) ?_
                                    refine EvK.pure (v := .bool true) (w_none rfl) rfl rfl (f_pickF rfl rfl c19 rfl) ?_
                                    refine EvK.pure (v := .bool true) (w_none rfl) rfl rfl (f_move rfl rfl) ?_
                                    refine EvK.not (w_not rfl rfl rfl) rfl rfl ?_
                                    refine EvK.not (w_not rfl rfl rfl) rfl rfl ?_
                                    refine EvK.not (w_undef rfl rfl) rfl rfl ?_
                                    refine EvK.not (w_undef rfl rfl) rfl rfl ?_
                                    refine EvK.not (w_undef rfl rfl) rfl rfl ?_
                                    refine EvK.not (w_undef rfl rfl) rfl rfl ?_
                                    refine EvK.not (w_undef rfl rfl) rfl rfl ?_
                                    refine EvK.not (w_not rfl rfl rfl) rfl rfl ?_
                                    refine EvK.pure (v := .bool true) (w_none rfl) rfl rfl (f_pickT rfl rfl rfl rfl) ?_
                                    refine EvK.nil ?_
                                    exact KE.mk true ⟨rfl, rfl, rfl, rfl, rfl, rfl, trivial⟩ hF
                                  · refine EvK.pure (v := .pointer r5.1) (w_some rfl rfl c21) rfl rfl (f_move rfl rfl) ?_
                                    refine EvK.pure (v := .int .i64 r17.1) (w_some rfl rfl c21) rfl rfl (f_move rfl rfl) ?_
                                    refine EvK.call (w_some rfl rfl c21) rfl rfl (enterH Try.func23 rfl rfl rfl rfl (flow_Flow_Boxed.sound hF)) ?_
                                    rintro _ h26 ⟨r18, rfl, hF⟩
                                    refine EvK.pure (v := .int .i64 r8) (w_some rfl rfl c21) rfl rfl (f_move rfl rfl) ?_
                                    refine EvK.pure (v := .int .i64 (IntKind.i64.wrap (r8 + 1))) (w_some rfl rfl c21) rfl rfl (f_add rfl rfl rfl) ?_
                                    refine EvK.pure (v := .bool (r18 != (IntKind.i64.wrap (r8 + 1)))) (w_some rfl rfl c21) rfl rfl (f_neq rfl rfl rfl) ?_
                                    refine EvK.pure (v := .bool (r18 != (IntKind.i64.wrap (r8 + 1)))) (w_some rfl rfl c20) rfl rfl (f_pickF rfl rfl c21 rfl) ?_
                                    refine EvK.pure (v := .bool (r18 != (IntKind.i64.wrap (r8 + 1)))) (w_some rfl rfl c19) rfl rfl (f_pickT rfl rfl c20 rfl) ?_
                                    refine EvK.pure (v := .bool (r18 != (IntKind.i64.wrap (r8 + 1)))) (w_none rfl) rfl rfl (f_pickF rfl rfl c19 rfl) ?_
                                    refine EvK.pure (v := .bool (r18 != (IntKind.i64.wrap (r8 + 1)))) (w_none rfl) rfl rfl (f_move rfl rfl) ?_
                                    rcases ite_inv hF with ⟨c22, hF⟩ | ⟨c22, hF⟩
                                    · refine EvK.not (w_not rfl rfl c22) rfl rfl ?_
                                      refine EvK.not (w_not rfl rfl c22) rfl rfl ?_
                                      refine EvK.not (w_undef rfl rfl) rfl rfl ?_
                                      refine EvK.not (w_undef rfl rfl) rfl rfl ?_
                                      refine EvK.not (w_undef rfl rfl) rfl rfl ?_
                                      refine EvK.not (w_undef rfl rfl) rfl rfl ?_
                                      refine EvK.not (w_undef rfl rfl) rfl rfl ?_
                                      refine EvK.not (w_not rfl rfl c22) rfl rfl ?_
                                      refine EvK.pure (v := .bool true) (w_none rfl) rfl rfl (f_pickT rfl rfl c22 rfl) ?_
                                      refine EvK.nil ?_
                                      exact KE.mk true ⟨rfl, rfl, rfl, rfl, rfl, rfl, trivial⟩ hF
                                    · refine EvK.pure (v := .bool (decide (r8 ≥ r4))) (w_some rfl rfl c22) rfl rfl (f_move rfl rfl) ?_
                                      refine EvK.pure (v := .bool (decide (r8 ≥ r4))) (w_some rfl rfl c22) rfl rfl (f_move rfl rfl) ?_
                                      refine EvK.pure (v := .pointer r5.1) (w_some rfl rfl c18) rfl rfl (f_move rfl rfl) ?_
                                      refine EvK.pure (v := .int .i64 r7.1) (w_some rfl rfl c18) rfl rfl (f_move rfl rfl) ?_
                                      refine EvK.call (w_some rfl rfl c18) rfl rfl (enterH Try.func23 rfl rfl rfl rfl (flow_Flow_Boxed.sound hF)) ?_
                                      rintro _ h27 ⟨r19, rfl, hF⟩
                                      refine EvK.pure (v := .int .i64 r8) (w_some rfl rfl c18) rfl rfl (f_move rfl rfl) ?_
                                      refine EvK.pure (v := .bool (r19 != r8)) (w_some rfl rfl c18) rfl rfl (f_neq rfl rfl rfl) ?_
                                      refine EvK.pure (v := .bool (r19 != r8)) (w_some rfl rfl c22) rfl rfl (f_pickT rfl rfl c18 rfl) ?_
                                      refine EvK.pure (v := .bool (r19 != r8)) (w_none rfl) rfl rfl (f_pickF rfl rfl c22 rfl) ?_
                                      refine EvK.nil ?_
                                      exact KE.mk (r19 != r8) ⟨rfl, rfl, rfl, rfl, rfl, rfl, trivial⟩ hF
                                · refine EvK.not (w_not rfl rfl c20) rfl rfl ?_
                                  refine EvK.not (w_not rfl rfl c20) rfl rfl ?_
                                  refine EvK.not (w_not rfl rfl c20) rfl rfl ?_
                                  refine EvK.not (w_not rfl rfl c20) rfl rfl ?_
                                  refine EvK.not (w_undef rfl rfl) rfl rfl ?_
                                  refine EvK.not (w_undef rfl rfl) rfl rfl ?_
                                  refine EvK.not (w_undef rfl rfl) rfl rfl ?_
                                  refine EvK.not (w_undef rfl rfl) rfl rfl ?_
                                  refine EvK.not (w_undef rfl rfl) rfl rfl ?_
                                  refine EvK.not (w_undef rfl rfl) rfl rfl ?_
                                  refine EvK.not (w_not rfl rfl c20) rfl rfl ?_
                                  refine EvK.pure (v := .bool false) (w_some rfl rfl c19) rfl rfl (f_pickF rfl rfl c20 rfl) ?_
                                  refine EvK.pure (v := .bool false) (w_none rfl) rfl rfl (f_pickF rfl rfl c19 rfl) ?_
                                  refine EvK.pure (v := .bool false) (w_none rfl) rfl rfl (f_move rfl rfl) ?_
                                  refine EvK.pure (v := .bool (decide (r8 ≥ r4))) (w_some rfl rfl rfl) rfl rfl (f_move rfl rfl) ?_
                                  refine EvK.pure (v := .bool (decide (r8 ≥ r4))) (w_some rfl rfl rfl) rfl rfl (f_move rfl rfl) ?_
                                  refine EvK.pure (v := .pointer r5.1) (w_some rfl rfl c18) rfl rfl (f_move rfl rfl) ?_
                                  refine EvK.pure (v := .int .i64 r7.1) (w_some rfl rfl c18) rfl rfl (f_move rfl rfl) ?_
                                  refine EvK.call (w_some rfl rfl c18) rfl rfl (enterH Try.func23 rfl rfl rfl rfl (flow_Flow_Boxed.sound hF)) ?_
                                  rintro _ h28 ⟨r20, rfl, hF⟩
                                  refine EvK.pure (v := .int .i64 r8) (w_some rfl rfl c18) rfl rfl (f_move rfl rfl) ?_
                                  refine EvK.pure (v := .bool (r20 != r8)) (w_some rfl rfl c18) rfl rfl (f_neq rfl rfl rfl) ?_
                                  refine EvK.pure (v := .bool (r20 != r8)) (w_some rfl rfl rfl) rfl rfl (f_pickT rfl rfl c18 rfl) ?_
                                  refine EvK.pure (v := .bool (r20 != r8)) (w_none rfl) rfl rfl (f_pickF rfl rfl rfl rfl) ?_
                                  refine EvK.nil ?_
                                  exact KE.mk (r20 != r8) ⟨rfl, rfl, rfl, rfl, rfl, rfl, trivial⟩ hF
                            · refine EvK.not (w_not rfl rfl c18) rfl rfl ?_
                              refine EvK.not (w_not rfl rfl c18) rfl rfl ?_
                              refine EvK.pure (v := .bool false) (w_some rfl rfl c17) rfl rfl (f_pickF rfl rfl c18 rfl) ?_
                              refine EvK.pure (v := .bool false) (w_none rfl) rfl rfl (f_pickF rfl rfl c17 rfl) ?_
                              refine EvK.pure (v := .bool false) (w_none rfl) rfl rfl (f_move rfl rfl) ?_
                              refine EvK.pure (v := .bool (decide (r8 ≥ r4))) (w_some rfl rfl rfl) rfl rfl (f_move rfl rfl) ?_
                              refine EvK.pure (v := .bool (!(decide (r8 ≥ r4)))) (w_some rfl rfl rfl) rfl rfl (f_not rfl rfl) ?_
                              refine EvK.pure (v := .bool (!(decide (r8 ≥ r4)))) (w_some rfl rfl rfl) rfl rfl (f_move rfl rfl) ?_
                              rcases ite_inv hF with ⟨c23, hF⟩ | ⟨c23, hF⟩
                              · refine EvK.pure (v := .int .i64 r17.1) (w_some rfl rfl c23) rfl rfl (f_move rfl rfl) ?_
                                refine EvK.pure (v := .int .i64 r7.1) (w_some rfl rfl c23) rfl rfl (f_move rfl rfl) ?_
                                refine EvK.pure (v := .bool (r17.1 != r7.1)) (w_some rfl rfl c23) rfl rfl (f_neq rfl rfl rfl) ?_
                                refine EvK.pure (v := .bool (r17.1 != r7.1)) (w_some rfl rfl c23) rfl rfl (f_move rfl rfl) ?_
                                rcases ite_inv hF with ⟨c24, hF⟩ | ⟨c24, hF⟩
                                · refine EvK.not (w_not rfl rfl c24) rfl rfl ?_
                                  refine EvK.not (w_not rfl rfl c24) rfl rfl ?_
                                  refine EvK.not (w_not rfl rfl c24) rfl rfl ?_
                                  refine EvK.not (w_not rfl rfl c24) rfl rfl ?_
                                  refine EvK.not (w_not rfl rfl c24) rfl rfl ?_
                                  refine EvK.not (w_not rfl rfl c24) rfl rfl ?_
                                  refine EvK.pure (v := .bool true) (w_some rfl rfl c23) rfl rfl (f_pickT rfl rfl c24 rfl) ?_
                                  refine EvK.pure (v := .bool true) (w_some rfl rfl rfl) rfl rfl (f_pickT rfl rfl c23 rfl) ?_
                                  refine EvK.pure (v := .bool true) (w_none rfl) rfl rfl (f_pickF rfl rfl rfl rfl) ?_
                                  refine EvK.pure (v := .bool true) (w_none rfl) rfl rfl (f_move rfl rfl) ?_
                                  refine EvK.not (w_not rfl rfl rfl) rfl rfl ?_
                                  refine EvK.not (w_not rfl rfl rfl) rfl rfl ?_
                                  refine EvK.not (w_undef rfl rfl) rfl rfl ?_
                                  refine EvK.not (w_undef rfl rfl) rfl rfl ?_
                                  refine EvK.not (w_undef rfl rfl) rfl rfl ?_
                                  refine EvK.not (w_undef rfl rfl) rfl rfl ?_
                                  refine EvK.not (w_undef rfl rfl) rfl rfl ?_
                                  refine EvK.not (w_not rfl rfl rfl) rfl rfl ?_
                                  refine EvK.pure (v := .bool true) (w_none rfl) rfl rfl (f_pickT rfl rfl rfl rfl) ?_
                                  refine EvK.nil ?_
                                  exact KE.mk true ⟨rfl, rfl, rfl, rfl, rfl, rfl, trivial⟩ hF
                                · refine EvK.pure (v := .pointer r5.1) (w_some rfl rfl c24) rfl rfl (f_move rfl rfl) ?_
                                  refine EvK.pure (v := .int .i64 r17.1) (w_some rfl rfl c24) rfl rfl (f_move rfl rfl) ?_
                                  refine EvK.call (w_some rfl rfl c24) rfl rfl (enterH Try.func23 rfl rfl rfl rfl (flow_Flow_Boxed.sound hF)) ?_
                                  rintro _ h29 ⟨r21, rfl, hF⟩
                                  refine EvK.pure (v := .int .i64 r8) (w_some rfl rfl c24) rfl rfl (f_move rfl rfl) ?_
                                  refine EvK.pure (v := .int .i64 (IntKind.i64.wrap (r8 + 1))) (w_some rfl rfl c24) rfl rfl (f_add rfl rfl rfl) ?_
                                  refine EvK.pure (v := .bool (r21 != (IntKind.i64.wrap (r8 + 1)))) (w_some rfl rfl c24) rfl rfl (f_neq rfl rfl rfl) ?_
                                  refine EvK.pure (v := .bool (r21 != (IntKind.i64.wrap (r8 + 1)))) (w_some rfl rfl c23) rfl rfl (f_pickF rfl rfl c24 rfl) ?_
                                  refine EvK.pure (v := .bool (r21 != (IntKind.i64.wrap (r8 + 1)))) (w_some rfl rfl rfl) rfl rfl (f_pickT rfl rfl c23 rfl) ?_
                                  refine EvK.pure (v := .bool (r21 != (IntKind.i64.wrap (r8 + 1)))) (w_none rfl) rfl rfl (f_pickF rfl rfl rfl rfl) ?_
                                  refine EvK.pure (v := .bool (r21 != (IntKind.i64.wrap (r8 + 1)))) (w_none rfl) rfl rfl (f_move rfl rfl) ?_
                                  rcases ite_inv hF with ⟨c25, hF⟩ | ⟨c25, hF⟩
                                  · refine EvK.not (w_not rfl rfl c25) rfl rfl ?_
                                    refine EvK.not (w_not rfl rfl c25) rfl rfl ?_
                                    refine EvK.not (w_undef rfl rfl) rfl rfl ?_
                                    refine EvK.not (w_undef rfl rfl) rfl rfl ?_
                                    refine EvK.not (w_undef rfl rfl) rfl rfl ?_
                                    refine EvK.not (w_undef rfl rfl) rfl rfl ?_
                                    refine EvK.not (w_undef rfl rfl) rfl rfl ?_
                                    refine EvK.not (w_not rfl rfl c25) rfl rfl ?_
                                    refine EvK.pure (v := .bool true) (w_none rfl) rfl rfl (f_pickT rfl rfl c25 rfl) ?_
                                    refine EvK.nil ?_
                                    exact KE.mk true ⟨rfl, rfl, rfl, rfl, rfl, rfl, trivial⟩ hF
                                  · refine EvK.pure (v := .bool (decide (r8 ≥ r4))) (w_some rfl rfl c25) rfl rfl (f_move rfl rfl) ?_
                                    refine EvK.pure (v := .bool (decide (r8 ≥ r4))) (w_some rfl rfl c25) rfl rfl (f_move rfl rfl) ?_
                                    refine EvK.not (w_not rfl rfl c18) rfl rfl ?_
                                    refine EvK.not (w_not rfl rfl c18) rfl rfl ?_
                                    refine EvK.not (w_not rfl rfl c18) rfl rfl ?_
                                    refine EvK.not (w_not rfl rfl c18) rfl rfl ?_
                                    refine EvK.not (w_not rfl rfl c18) rfl rfl ?_
                                    refine EvK.pure (v := .bool false) (w_some rfl rfl c25) rfl rfl (f_pickF rfl rfl c18 rfl) ?_
                                    refine EvK.pure (v := .bool false) (w_none rfl) rfl rfl (f_pickF rfl rfl c25 rfl) ?_
                                    refine EvK.nil ?_
                                    exact KE.mk false ⟨rfl, rfl, rfl, rfl, rfl, rfl, trivial⟩ hF
                              · refine EvK.not (w_not rfl rfl c23) rfl rfl ?_
                                refine EvK.not (w_not rfl rfl c23) rfl rfl ?_
                                refine EvK.not (w_not rfl rfl c23) rfl rfl ?_
                                refine EvK.not (w_not rfl rfl c23) rfl rfl ?_
                                refine EvK.not (w_undef rfl rfl) rfl rfl ?_
                                refine EvK.not (w_undef rfl rfl) rfl rfl ?_
                                refine EvK.not (w_undef rfl rfl) rfl rfl ?_
                                refine EvK.not (w_undef rfl rfl) rfl rfl ?_
                                refine EvK.not (w_undef rfl rfl) rfl rfl ?_
                                refine EvK.not (w_undef rfl rfl) rfl rfl ?_
                                refine EvK.not (w_not rfl rfl c23) rfl rfl ?_
                                refine EvK.pure (v := .bool false) (w_some rfl rfl rfl) rfl rfl (f_pickF rfl rfl c23 rfl) ?_
                                refine EvK.pure (v := .bool false) (w_none rfl) rfl rfl (f_pickF rfl rfl rfl rfl) ?_
                                refine EvK.pure (v := .bool false) (w_none rfl) rfl rfl (f_move rfl rfl) ?_
                                refine EvK.pure (v := .bool (decide (r8 ≥ r4))) (w_some rfl rfl rfl) rfl rfl (f_move rfl rfl) ?_
                                refine EvK.pure (v := .bool (decide (r8 ≥ r4))) (w_some rfl rfl rfl) rfl rfl (f_move rfl rfl) ?_
                                refine EvK.not (w_not rfl rfl c18) rfl rfl ?_
                                refine EvK.not (w_not rfl rfl c18) rfl rfl ?_
                                refine EvK.not (w_not rfl rfl c18) rfl rfl ?_
                                refine EvK.not (w_not rfl rfl c18) rfl rfl ?_
                                refine EvK.not (w_not rfl rfl c18) rfl rfl ?_
                                refine EvK.pure (v := .bool false) (w_some rfl rfl rfl) rfl rfl (f_pickF rfl rfl c18 rfl) ?_
                                refine EvK.pure (v := .bool false) (w_none rfl) rfl rfl (f_pickF rfl rfl rfl rfl) ?_
                                refine EvK.nil ?_
                                exact KE.mk false ⟨rfl, rfl, rfl, rfl, rfl, rfl, trivial⟩ hF
                    · refine WP.cond_false _ rfl c13 ?_
                      refine WP.seq ?_
                      refine WP.region ?_
                      refine EvK.pure (v := .bool (x5 == 3)) (w_none rfl) rfl rfl (f_eql rfl rfl rfl) ?_
                      refine EvK.pure (v := .bool (x5 == 3)) (w_none rfl) rfl rfl (f_assign rfl rfl) ?_
                      refine EvK.nil ?_
                      rcases ite_inv hF with ⟨c26, hF⟩ | ⟨c26, hF⟩
                      · refine WP.cond_true _ rfl c26 ?_
                        refine WP.seq ?_
                        refine WP.region ?_
                        refine EvK.pure (v := .pointer r5.1) (w_none rfl) rfl rfl (f_move rfl rfl) ?_
                        refine EvK.pure (v := .pointer (some (q2.add 1))) (w_none rfl) rfl rfl (f_fieldAddr fd35_1 rfl rfl) ?_
                        obtain ⟨x12, hx12, hF⟩ := hF
                        refine EvK.read (v := .int .i64 x12) (w_none rfl) rfl rfl (f_load (kI .i64) ty3 rfl rfl hx12 rfl) ?_
                        refine EvK.call (w_none rfl) rfl rfl (enterH Try.func18 rfl rfl rfl rfl (flow_Flow_Take.sound hF)) ?_
                        rintro _ h30 ⟨r22, rfl, hF⟩
                        refine EvK.pure (v := .tuple #[.int .i64 r22.1, k32.val r22.2.1, .int .i64 r22.2.2]) (w_none rfl) rfl rfl (f_move rfl rfl) ?_
                        refine EvK.pure (v := .int .i64 r22.1) (w_none rfl) rfl rfl (f_extract (vs := #[.int .i64 r22.1, k32.val r22.2.1, .int .i64 r22.2.2]) rfl rfl rfl) ?_
                        refine EvK.pure (v := k32.val r22.2.1) (w_none rfl) rfl rfl (f_extract (vs := #[.int .i64 r22.1, k32.val r22.2.1, .int .i64 r22.2.2]) rfl rfl rfl) ?_
                        refine EvK.pure (v := .int .i64 r22.2.2) (w_none rfl) rfl rfl (f_extract (vs := #[.int .i64 r22.1, k32.val r22.2.1, .int .i64 r22.2.2]) rfl rfl rfl) ?_
                        refine EvK.alloc (w_none rfl) rfl rfl (f_allocF zero33 rfl rfl hF) ?_
                        rintro _ h31 ⟨q3, rfl, hF⟩
                        refine EvK.pure (v := .int .i64 r22.1) (w_none rfl) rfl rfl (f_assign rfl rfl) ?_
                        obtain ⟨h32, hs2, hF⟩ := hF
                        refine EvK.runN (w_none rfl) rfl (f_store k32 ty33.size (z := r22.2.1) rfl rfl rfl hs2) ?_
                        rintro _ _ ⟨rfl, rfl⟩
                        refine EvK.pure (v := .int .i64 r22.2.2) (w_none rfl) rfl rfl (f_assign rfl rfl) ?_
                        refine EvK.nil ?_
                        refine WP.joinF (fun (s9 : Bool) => [(193, .bool s9), (1, .int .i64 r3), (2, .int .i64 r4), (3, Sl.val a3), (9, .pointer r5.1), (11, .int .i64 s3)]) hF ?_ ?_
                        · intro s9 E0 h33 hF
                          rcases ite_inv hF with ⟨c27, hF⟩ | ⟨c27, hF⟩
                          · refine WP.cond_true _ rfl c27 ?_
                            refine WP.seq ?_
                            refine WP.region ?_
                            refine EvK.pure (v := .bool false) (w_none rfl) rfl rfl (f_assign rfl rfl) ?_
                            refine EvK.nil ?_
                            refine WP.ret ?_
                            exact Ret.mk (vs := [.bool false]) false ⟨rfl, trivial⟩ rfl hF
                          · refine WP.cond_false _ rfl c27 ?_
                            refine WP.skip ?_
                            exact KE.mk () ⟨rfl, rfl, rfl, rfl, rfl, trivial⟩ hF
                        · intro k9 hF
                          refine WP.region ?_
                          refine EvK.pure (v := .int .i64 r22.2.2) (w_none rfl) rfl rfl (f_move rfl rfl) ?_
                          refine EvK.pure (v := .bool (r22.2.2 == 0)) (w_none rfl) rfl rfl (f_eql rfl rfl rfl) ?_
                          refine EvK.pure (v := .int .i64 r9) (w_none rfl) rfl rfl (f_move rfl rfl) ?_
                          refine EvK.pure (v := .bool (decide (r9 > 0))) (w_none rfl) rfl rfl (f_gtr rfl rfl rfl) ?_
                          refine EvK.pure (v := .bool (!((r22.2.2 == 0) == (decide (r9 > 0))))) (w_none rfl) rfl rfl (f_bneq Try.underlying4 rfl rfl rfl) ?_
                          refine EvK.pure (v := .bool (!((r22.2.2 == 0) == (decide (r9 > 0))))) (w_none rfl) rfl rfl (f_move rfl rfl) ?_
                          rcases ite_inv hF with ⟨c28, hF⟩ | ⟨c28, hF⟩
                          · refine EvK.not (w_not rfl rfl c28) rfl rfl ?_
                            refine EvK.not (w_not rfl rfl c28) rfl rfl ?_
                            refine EvK.not (w_not rfl rfl c28) rfl rfl ?_
                            refine EvK.not (w_undef rfl rfl) rfl rfl ?_
                            refine EvK.not (w_undef rfl rfl) rfl rfl ?_
                            refine EvK.not (w_undef rfl rfl) rfl rfl ?_
                            refine EvK.not (w_undef rfl rfl) rfl rfl ?_
                            refine EvK.not (w_undef rfl rfl) rfl rfl ?_
                            refine EvK.not (w_undef rfl rfl) rfl rfl ?_
                            refine EvK.not (w_undef rfl rfl) rfl rfl ?_
                            refine EvK.not (w_not rfl rfl c28) rfl rfl ?_
                            refine EvK.pure (v := .bool true) (w_none rfl) rfl rfl (f_pickT rfl rfl c28 rfl) ?_
                            refine EvK.nil ?_
                            exact KE.mk true ⟨rfl, rfl, rfl, rfl, rfl, rfl, trivial⟩ hF
                          · refine EvK.pure (v := .int .i64 r9) (w_some rfl rfl c28) rfl rfl (f_move rfl rfl) ?_
                            refine EvK.pure (v := .bool (decide (r9 > 0))) (w_some rfl rfl c28) rfl rfl (f_gtr rfl rfl rfl) ?_
                            refine EvK.pure (v := .bool (decide (r9 > 0))) (w_some rfl rfl c28) rfl rfl (f_move rfl rfl) ?_
                            rcases ite_inv hF with ⟨c29, hF⟩ | ⟨c29, hF⟩
                            · refine EvK.pure (v := .pointer r5.1) (w_some rfl rfl c29) rfl rfl (f_move rfl rfl) ?_
                              refine EvK.pure (v := .pointer (some (q2.add 1))) (w_some rfl rfl c29) rfl rfl (f_fieldAddr fd35_1 rfl rfl) ?_
                              obtain ⟨x13, hx13, hF⟩ := hF
                              refine EvK.read (v := .int .i64 x13) (w_some rfl rfl c29) rfl rfl (f_load (kI .i64) ty3 rfl rfl hx13 rfl) ?_
                              refine EvK.call (w_some rfl rfl c29) rfl rfl (enterH Try.func23 rfl rfl rfl rfl (flow_Flow_Boxed.sound hF)) ?_
                              rintro _ h34 ⟨r23, rfl, hF⟩
                              refine EvK.pure (v := .int .i64 r9) (w_some rfl rfl c29) rfl rfl (f_move rfl rfl) ?_
                              refine EvK.pure (v := .int .i64 (IntKind.i64.wrap (r9 - 1))) (w_some rfl rfl c29) rfl rfl (f_sub rfl rfl rfl) ?_
                              refine EvK.pure (v := .bool (r23 != (IntKind.i64.wrap (r9 - 1)))) (w_some rfl rfl c29) rfl rfl (f_neq rfl rfl rfl) ?_
                              refine EvK.pure (v := .bool (r23 != (IntKind.i64.wrap (r9 - 1)))) (w_some rfl rfl c28) rfl rfl (f_pickT rfl rfl c29 rfl) ?_
                              refine EvK.pure (v := .bool (r23 != (IntKind.i64.wrap (r9 - 1)))) (w_none rfl) rfl rfl (f_pickF rfl rfl c28 rfl) ?_
                              refine EvK.nil ?_
                              exact KE.mk (r23 != (IntKind.i64.wrap (r9 - 1))) ⟨rfl, rfl, rfl, rfl, rfl, rfl, trivial⟩ hF
                            · refine EvK.not (w_not rfl rfl c29) rfl rfl ?_
                              refine EvK.not (w_not rfl rfl c29) rfl rfl ?_
                              refine EvK.not (w_not rfl rfl c29) rfl rfl ?_
                              refine EvK.not (w_not rfl rfl c29) rfl rfl ?_
                              refine EvK.not (w_not rfl rfl c29) rfl rfl ?_
                              refine EvK.not (w_not rfl rfl c29) rfl rfl ?_
                              refine EvK.not (w_not rfl rfl c29) rfl rfl ?_
                              refine EvK.pure (v := .bool false) (w_some rfl rfl c28) rfl rfl (f_pickF rfl rfl c29 rfl) ?_
                              refine EvK.pure (v := .bool false) (w_none rfl) rfl rfl (f_pickF rfl rfl c28 rfl) ?_
                              refine EvK.nil ?_
                              exact KE.mk false ⟨rfl, rfl, rfl, rfl, rfl, rfl, trivial⟩ hF
                      · refine WP.cond_false _ rfl c26 ?_
                        refine WP.skip ?_
                        exact KE.mk () ⟨rfl, rfl, rfl, rfl, rfl, trivial⟩ hF
            · refine WP.cond_false _ rfl c4 ?_
              refine WP.exit ?_
              exact KE.mk () trivial hF
      · intro k1 hF
        refine WP.region ?_
        refine EvK.pure (v := .int .i64 r5.2) (w_none rfl) rfl rfl (f_move rfl rfl) ?_
        refine EvK.pure (v := .bool (r5.2 != 0)) (w_none rfl) rfl rfl (f_neq rfl rfl rfl) ?_
        refine EvK.pure (v := .bool (r5.2 != 0)) (w_none rfl) rfl rfl (f_move rfl rfl) ?_
        rcases ite_inv hF with ⟨c30, hF⟩ | ⟨c30, hF⟩
        · refine EvK.not (w_not rfl rfl c30) rfl rfl ?_
          refine EvK.not (w_not rfl rfl c30) rfl rfl ?_
          refine EvK.pure (v := .bool true) (w_none rfl) rfl rfl (f_pickT rfl rfl c30 rfl) ?_
          refine EvK.nil ?_
          exact KE.mk true ⟨rfl, rfl, rfl, rfl, rfl, trivial⟩ hF
        · refine EvK.pure (v := .pointer r5.1) (w_some rfl rfl c30) rfl rfl (f_move rfl rfl) ?_
          refine EvK.pure (v := .bool r5.1.isNone) (w_some rfl rfl c30) rfl rfl (f_peqln Try.underlying24 rfl rfl rfl) ?_
          refine EvK.pure (v := .bool r5.1.isNone) (w_none rfl) rfl rfl (f_pickF rfl rfl c30 rfl) ?_
          refine EvK.nil ?_
          exact KE.mk r5.1.isNone ⟨rfl, rfl, rfl, rfl, rfl, trivial⟩ hF
end Go.Proofs.Ytanpaamamfabkaa
