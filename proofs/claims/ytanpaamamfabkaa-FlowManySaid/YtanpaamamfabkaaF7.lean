/- spate/spatelaw15.FlowMany, as a predicate over the heap, and that the code comes to it. Printed by gen.py. -/
import Derived.Test.YtanpaamamfabkaaTy
import Derived.Test.YtanpaamamfabkaaF8
import Derived.Test.YtanpaamamfabkaaF9
import Derived.Test.YtanpaamamfabkaaF15
import Derived.Test.YtanpaamamfabkaaF16
import Derived.Test.YtanpaamamfabkaaF17
import Derived.Test.YtanpaamamfabkaaF18
import Derived.Test.YtanpaamamfabkaaF21
namespace Go.Proofs.Ytanpaamamfabkaa
open Go Go.Tr
set_option linter.unusedVariables false
set_option maxRecDepth 100000
set_option maxHeartbeats 400000
def spatelaw15_FlowMany.b1 (p0 : ByteArray) (p1 : Int) (p5 : Option Addr) (s : Int) (h : H) (K : Int ⊕ (Unit ⊕ Bool) → H → Prop) : Prop :=
  spatelaw15_small p1 9 h fun r3 h8 =>
  if (decide (s < (IntKind.i64.wrap (1 + r3)))) = true then
    flow_Flow_Pass p5 0 h8 fun r4 h9 =>
    flow_Flow_Take p5 0 h9 fun r5 h10 =>
    al 33 (k32.enc z32) h10 fun q1 h11 =>
    rd (st k32 q1 r5.2.1 h11) fun h12 =>
    jn (fun (k6 : Bool → H → Prop) =>
      if (r5.2.2 != 0) = true then
        k6 true h12
      else
        rd (ld (kI .i64) (q1.add 3) h12) fun x1 =>
        if (x1 != s) = true then
          k6 true h12
        else
          flow_Flow_Put p5 0 (S32.mk false p0 0 0) h12 fun r6 h14 =>
          if (r6 != 0) = true then
            k6 true h14
          else
            flow_Flow_Put p5 0 (S32.mk false p0 0 0) h14 fun r7 h15 =>
            k6 (r7 != 2) h15) fun s6 h13 =>
    if s6 = true then
      K (.inr (.inr false)) h13
    else
      K (.inl (IntKind.i64.wrap (s + 1))) h13
  else
    K (.inr (.inl ())) h8
def spatelaw15_FlowMany.b2 (p0 : ByteArray) (p1 : Int) (p5 : Option Addr) (s : Int) (h : H) (K : Int ⊕ (Unit ⊕ Bool) → H → Prop) : Prop :=
  if (decide (s < 65536)) = true then
    flow_Flow_Put p5 0 (S32.mk false p0 0 s) h fun r14 h21 =>
    if (r14 != 0) = true then
      K (.inr (.inr false)) h21
    else
      K (.inl (IntKind.i64.wrap (s + 1))) h21
  else
    K (.inr (.inl ())) h
/-- spate/spatelaw15.FlowMany -/
def spatelaw15_FlowMany (a0 : ByteArray) (a1 : Int) (h : H) (Q : Bool → H → Prop) : Prop :=
  spatelaw15_known  h fun r1 h1 =>
  if (!r1) = true then
    Q false h1
  else
    jn (fun (k1 : Bool → H → Prop) =>
      if (decide ((a0.size : Int) < 1)) = true then
        k1 true h1
      else
        k1 (decide ((a0.size : Int) > 32)) h1) fun s1 h2 =>
    if s1 = true then
      Q true h2
    else
      flow_New 2 1 1 h2 fun r2 h3 =>
      jn (fun (k2 : Bool → H → Prop) =>
        if (r2.2 != 0) = true then
          k2 true h3
        else
          k2 r2.1.isNone h3) fun s2 h4 =>
      if s2 = true then
        Q false h4
      else
        jn (fun (k3 : Unit → H → Prop) =>
          loopE (spatelaw15_FlowMany.b2 a0 a1 r2.1) 0 h4 (sumK (fun r15 hh => k3 r15 hh) (fun r16 hh => Q r16 hh))) fun s3 h5 =>
        jn (fun (k4 : Bool → H → Prop) =>
          flow_Flow_Put r2.1 0 (S32.mk false a0 0 0) h5 fun r10 h17 =>
          if (r10 != 2) = true then
            k4 true h17
          else
            flow_Flow_Put r2.1 0 (S32.mk true ⟨#[]⟩ 0 0) h17 fun r11 h18 =>
            if (r11 != 2) = true then
              k4 true h18
            else
              flow_Flow_Put r2.1 1 (S32.mk true ⟨#[]⟩ 0 0) h18 fun r12 h19 =>
              if (r12 != 0) = true then
                k4 true h19
              else
                flow_Flow_Queued r2.1 0 h19 fun r13 h20 =>
                k4 (r13 != 65536) h20) fun s4 h6 =>
        if s4 = true then
          Q false h6
        else
          jn (fun (k5 : Unit → H → Prop) =>
            loopE (spatelaw15_FlowMany.b1 a0 a1 r2.1) 0 h6 (sumK (fun r8 hh => k5 r8 hh) (fun r9 hh => Q r9 hh))) fun s5 h7 =>
          Q true h7
theorem spatelaw15_FlowMany.sound {a0 : ByteArray} {a1 : Int} {h : H} {Q : Bool → H → Prop} (hF : spatelaw15_FlowMany a0 a1 h Q) :
    CallsH Try.prog 7 (List.toArray (α := Value) [.string a0, .int .i64 a1]) h fun v h' => ∃ x : Bool, v = .bool x ∧ Q x h' := by
  refine CallsH.of_body Try.func7 rfl 101 rfl rfl ?_
  refine WP.seq ?_
  refine WP.region ?_
  refine EvK.pure (v := .bool false) (w_none rfl) rfl rfl (f_assign rfl rfl) ?_
  refine EvK.nil ?_
  refine WP.seq ?_
  refine WP.seq ?_
  refine WP.region ?_
  refine EvK.call (w_none rfl) rfl rfl (enterH Try.func8 rfl rfl rfl rfl (spatelaw15_known.sound hF)) ?_
  rintro _ h1 ⟨r1, rfl, hF⟩
  refine EvK.pure (v := .bool (!r1)) (w_none rfl) rfl rfl (f_not rfl rfl) ?_
  refine EvK.nil ?_
  rcases ite_inv hF with ⟨c1, hF⟩ | ⟨c1, hF⟩
  · refine WP.cond_true _ rfl c1 ?_
    refine WP.seq ?_
    refine WP.region ?_
    refine EvK.pure (v := .bool false) (w_none rfl) rfl rfl (f_assign rfl rfl) ?_
    refine EvK.nil ?_
    refine WP.ret ?_
    exact Ret.mk (vs := [.bool false]) false ⟨rfl, trivial⟩ rfl hF
  · refine WP.cond_false _ rfl c1 ?_
    refine WP.skip ?_
    refine WP.seq ?_
    refine WP.joinF (fun (s1 : Bool) => [(21, .bool s1), (0, .string a0), (1, .int .i64 a1)]) hF ?_ ?_
    · intro s1 E0 h2 hF
      rcases ite_inv hF with ⟨c2, hF⟩ | ⟨c2, hF⟩
      · refine WP.cond_true _ rfl c2 ?_
        refine WP.seq ?_
        refine WP.region ?_
        refine EvK.pure (v := .bool true) (w_none rfl) rfl rfl (f_assign rfl rfl) ?_
        refine EvK.nil ?_
        refine WP.ret ?_
        exact Ret.mk (vs := [.bool true]) true ⟨rfl, trivial⟩ rfl hF
      · refine WP.cond_false _ rfl c2 ?_
        refine WP.skip ?_
        refine WP.seq ?_
        refine WP.region ?_
        refine EvK.call (w_none rfl) rfl rfl (enterH Try.func9 rfl rfl rfl rfl (flow_New.sound hF)) ?_
        rintro _ h3 ⟨r2, rfl, hF⟩
        refine EvK.pure (v := .tuple #[.pointer r2.1, .int .i64 r2.2]) (w_none rfl) rfl rfl (f_move rfl rfl) ?_
        refine EvK.pure (v := .pointer r2.1) (w_none rfl) rfl rfl (f_extract (vs := #[.pointer r2.1, .int .i64 r2.2]) rfl rfl rfl) ?_
        refine EvK.pure (v := .int .i64 r2.2) (w_none rfl) rfl rfl (f_extract (vs := #[.pointer r2.1, .int .i64 r2.2]) rfl rfl rfl) ?_
        refine EvK.pure (v := .pointer r2.1) (w_none rfl) rfl rfl (f_assign rfl rfl) ?_
        refine EvK.pure (v := .int .i64 r2.2) (w_none rfl) rfl rfl (f_assign rfl rfl) ?_
        refine EvK.nil ?_
        refine WP.seq ?_
        refine WP.joinF (fun (s2 : Bool) => [(31, .bool s2), (0, .string a0), (1, .int .i64 a1), (5, .pointer r2.1)]) hF ?_ ?_
        · intro s2 E0 h4 hF
          rcases ite_inv hF with ⟨c3, hF⟩ | ⟨c3, hF⟩
          · refine WP.cond_true _ rfl c3 ?_
            refine WP.seq ?_
            refine WP.region ?_
            refine EvK.pure (v := .bool false) (w_none rfl) rfl rfl (f_assign rfl rfl) ?_
            refine EvK.nil ?_
            refine WP.ret ?_
            exact Ret.mk (vs := [.bool false]) false ⟨rfl, trivial⟩ rfl hF
          · refine WP.cond_false _ rfl c3 ?_
            refine WP.skip ?_
            refine WP.joinF (fun (s3 : Unit) => [(0, .string a0), (1, .int .i64 a1), (5, .pointer r2.1)]) hF ?_ ?_
            · intro s3 E0 h5 hF
              refine WP.seq ?_
              refine WP.joinF (fun (s4 : Bool) => [(63, .bool s4), (0, .string a0), (1, .int .i64 a1), (5, .pointer r2.1)]) hF ?_ ?_
              · intro s4 E0 h6 hF
                rcases ite_inv hF with ⟨c4, hF⟩ | ⟨c4, hF⟩
                · refine WP.cond_true _ rfl c4 ?_
                  refine WP.seq ?_
                  refine WP.region ?_
                  refine EvK.pure (v := .bool false) (w_none rfl) rfl rfl (f_assign rfl rfl) ?_
                  refine EvK.nil ?_
                  refine WP.ret ?_
                  exact Ret.mk (vs := [.bool false]) false ⟨rfl, trivial⟩ rfl hF
                · refine WP.cond_false _ rfl c4 ?_
                  refine WP.skip ?_
                  refine WP.joinF (fun (s5 : Unit) => []) hF ?_ ?_
                  · intro s5 E0 h7 hF
                    refine WP.seq ?_
                    refine WP.region ?_
                    refine EvK.pure (v := .bool true) (w_none rfl) rfl rfl (f_assign rfl rfl) ?_
                    refine EvK.nil ?_
                    refine WP.ret ?_
                    exact Ret.mk (vs := [.bool true]) true ⟨rfl, trivial⟩ rfl hF
                  · intro k5 hF
                    refine WP.seq ?_
                    refine WP.region ?_
                    refine EvK.pure (v := .int .i64 0) (w_none rfl) rfl rfl (f_assign rfl rfl) ?_
                    refine EvK.nil ?_
                    refine WP.block ?_
                    refine WP.loopF (fun (s6 : Int) => [(8, .int .i64 s6), (0, .string a0), (1, .int .i64 a1), (5, .pointer r2.1)]) hF ⟨rfl, rfl, rfl, rfl, trivial⟩ ?_
                    intro k6 s6 E0 h8 hF
                    refine WP.seq ?_
                    refine WP.seq ?_
                    refine WP.region ?_
                    refine EvK.pure (v := .int .i64 s6) (w_none rfl) rfl rfl (f_move rfl rfl) ?_
                    refine EvK.pure (v := .int .i64 a1) (w_none rfl) rfl rfl (f_move rfl rfl) ?_
                    refine EvK.call (w_none rfl) rfl rfl (enterH Try.func15 rfl rfl rfl rfl (spatelaw15_small.sound hF)) ?_
                    rintro _ h9 ⟨r3, rfl, hF⟩
                    refine EvK.pure (v := .int .i64 (IntKind.i64.wrap (1 + r3))) (w_none rfl) rfl rfl (f_add rfl rfl rfl) ?_
                    refine EvK.pure (v := .bool (decide (s6 < (IntKind.i64.wrap (1 + r3))))) (w_none rfl) rfl rfl (f_lss rfl rfl rfl) ?_
                    refine EvK.nil ?_
                    rcases ite_inv hF with ⟨c5, hF⟩ | ⟨c5, hF⟩
                    · refine WP.cond_true _ rfl c5 ?_
                      refine WP.skip ?_
                      refine WP.seq ?_
                      refine WP.block ?_
                      refine WP.seq ?_
                      refine WP.region ?_
                      refine EvK.pure (v := .pointer r2.1) (w_none rfl) rfl rfl (f_move rfl rfl) ?_
                      refine EvK.call (w_none rfl) rfl rfl (enterH Try.func17 rfl rfl rfl rfl (flow_Flow_Pass.sound hF)) ?_
                      rintro _ h10 ⟨r4, rfl, hF⟩
                      refine EvK.nil ?_
                      refine WP.seq ?_
                      refine WP.region ?_
                      refine EvK.pure (v := .pointer r2.1) (w_none rfl) rfl rfl (f_move rfl rfl) ?_
                      refine EvK.call (w_none rfl) rfl rfl (enterH Try.func18 rfl rfl rfl rfl (flow_Flow_Take.sound hF)) ?_
                      rintro _ h11 ⟨r5, rfl, hF⟩
                      refine EvK.pure (v := .tuple #[.int .i64 r5.1, k32.val r5.2.1, .int .i64 r5.2.2]) (w_none rfl) rfl rfl (f_move rfl rfl) ?_
                      refine EvK.pure (v := .int .i64 r5.1) (w_none rfl) rfl rfl (f_extract (vs := #[.int .i64 r5.1, k32.val r5.2.1, .int .i64 r5.2.2]) rfl rfl rfl) ?_
                      refine EvK.pure (v := k32.val r5.2.1) (w_none rfl) rfl rfl (f_extract (vs := #[.int .i64 r5.1, k32.val r5.2.1, .int .i64 r5.2.2]) rfl rfl rfl) ?_
                      refine EvK.pure (v := .int .i64 r5.2.2) (w_none rfl) rfl rfl (f_extract (vs := #[.int .i64 r5.1, k32.val r5.2.1, .int .i64 r5.2.2]) rfl rfl rfl) ?_
                      refine EvK.alloc (w_none rfl) rfl rfl (f_allocF zero33 rfl rfl hF) ?_
                      rintro _ h12 ⟨q1, rfl, hF⟩
                      refine EvK.pure (v := .int .i64 r5.1) (w_none rfl) rfl rfl (f_assign rfl rfl) ?_
                      obtain ⟨h13, hs1, hF⟩ := hF
                      refine EvK.runN (w_none rfl) rfl (f_store k32 ty33.size (z := r5.2.1) rfl rfl rfl hs1) ?_
                      rintro _ _ ⟨rfl, rfl⟩
                      refine EvK.pure (v := .int .i64 r5.2.2) (w_none rfl) rfl rfl (f_assign rfl rfl) ?_
                      refine EvK.nil ?_
                      refine WP.joinF (fun (s7 : Bool) => [(100, .bool s7), (0, .string a0), (1, .int .i64 a1), (5, .pointer r2.1), (8, .int .i64 s6)]) hF ?_ ?_
                      · intro s7 E0 h14 hF
                        rcases ite_inv hF with ⟨c6, hF⟩ | ⟨c6, hF⟩
                        · refine WP.cond_true _ rfl c6 ?_
                          refine WP.seq ?_
                          refine WP.region ?_
                          refine EvK.pure (v := .bool false) (w_none rfl) rfl rfl (f_assign rfl rfl) ?_
                          refine EvK.nil ?_
                          refine WP.ret ?_
                          exact Ret.mk (vs := [.bool false]) false ⟨rfl, trivial⟩ rfl hF
                        · refine WP.cond_false _ rfl c6 ?_
                          refine WP.skip ?_
                          refine WP.region ?_
                          refine EvK.pure (v := .int .i64 s6) (w_none rfl) rfl rfl (f_move rfl rfl) ?_
                          refine EvK.pure (v := .int .i64 (IntKind.i64.wrap (s6 + 1))) (w_none rfl) rfl rfl (f_add rfl rfl rfl) ?_
                          refine EvK.pure (v := .int .i64 (IntKind.i64.wrap (s6 + 1))) (w_none rfl) rfl rfl (f_assign rfl rfl) ?_
                          refine EvK.nil ?_
                          exact KE.mk (IntKind.i64.wrap (s6 + 1)) ⟨rfl, rfl, rfl, rfl, trivial⟩ hF
                      · intro k7 hF
                        refine WP.region ?_
                        refine EvK.pure (v := .int .i64 r5.2.2) (w_none rfl) rfl rfl (f_move rfl rfl) ?_
                        refine EvK.pure (v := .bool (r5.2.2 != 0)) (w_none rfl) rfl rfl (f_neq rfl rfl rfl) ?_
                        refine EvK.pure (v := .bool (r5.2.2 != 0)) (w_none rfl) rfl rfl (f_move rfl rfl) ?_
                        rcases ite_inv hF with ⟨c7, hF⟩ | ⟨c7, hF⟩
                        · refine EvK.not (w_not rfl rfl c7) rfl rfl ?_
                          refine EvK.not (w_not rfl rfl c7) rfl rfl ?_
                          refine EvK.not (w_not rfl rfl c7) rfl rfl ?_
                          refine EvK.not (w_not rfl rfl c7) rfl rfl ?_
                          refine EvK.pure (v := .bool true) (w_none rfl) rfl rfl (f_pickT rfl rfl c7 rfl) ?_
                          refine EvK.pure (v := .bool true) (w_none rfl) rfl rfl (f_move rfl rfl) ?_
                          refine EvK.not (w_not rfl rfl rfl) rfl rfl ?_
                          refine EvK.not (w_not rfl rfl rfl) rfl rfl ?_
                          refine EvK.not (w_not rfl rfl rfl) rfl rfl ?_
                          refine EvK.not (w_not rfl rfl rfl) rfl rfl ?_
                          refine EvK.not (w_not rfl rfl rfl) rfl rfl ?_
                          refine EvK.pure (v := .bool true) (w_none rfl) rfl rfl (f_pickT rfl rfl rfl rfl) ?_
                          refine EvK.pure (v := .bool true) (w_none rfl) rfl rfl (f_move rfl rfl) ?_
                          refine EvK.not (w_not rfl rfl rfl) rfl rfl ?_
                          refine EvK.not (w_not rfl rfl rfl) rfl rfl ?_
                          refine EvK.not (w_not rfl rfl rfl) rfl rfl ?_
                          refine EvK.not (w_not rfl rfl rfl) rfl rfl ?_
                          refine EvK.not (w_not rfl rfl rfl) rfl rfl ?_
                          refine EvK.pure (v := .bool true) (w_none rfl) rfl rfl (f_pickT rfl rfl rfl rfl) ?_
                          refine EvK.nil ?_
                          exact KE.mk true ⟨rfl, rfl, rfl, rfl, rfl, trivial⟩ hF
                        · refine EvK.pure (v := .pointer (some (q1.add 3))) (w_some rfl rfl c7) rfl rfl (f_fieldAddr fd33_3 rfl rfl) ?_
                          obtain ⟨x1, hx1, hF⟩ := hF
                          refine EvK.read (v := .int .i64 x1) (w_some rfl rfl c7) rfl rfl (f_load (kI .i64) ty2 rfl rfl hx1 rfl) ?_
                          refine EvK.pure (v := .int .i64 s6) (w_some rfl rfl c7) rfl rfl (f_move rfl rfl) ?_
                          refine EvK.pure (v := .bool (x1 != s6)) (w_some rfl rfl c7) rfl rfl (f_neq rfl rfl rfl) ?_
                          refine EvK.pure (v := .bool (x1 != s6)) (w_none rfl) rfl rfl (f_pickF rfl rfl c7 rfl) ?_
                          refine EvK.pure (v := .bool (x1 != s6)) (w_none rfl) rfl rfl (f_move rfl rfl) ?_
                          rcases ite_inv hF with ⟨c8, hF⟩ | ⟨c8, hF⟩
                          · refine EvK.not (w_not rfl rfl c8) rfl rfl ?_
                            refine EvK.not (w_not rfl rfl c8) rfl rfl ?_
                            refine EvK.not (w_not rfl rfl c8) rfl rfl ?_
                            refine EvK.not (w_not rfl rfl c8) rfl rfl ?_
                            refine EvK.not (w_not rfl rfl c8) rfl rfl ?_
                            refine EvK.pure (v := .bool true) (w_none rfl) rfl rfl (f_pickT rfl rfl c8 rfl) ?_
                            refine EvK.pure (v := .bool true) (w_none rfl) rfl rfl (f_move rfl rfl) ?_
                            refine EvK.not (w_not rfl rfl rfl) rfl rfl ?_
                            refine EvK.not (w_not rfl rfl rfl) rfl rfl ?_
                            refine EvK.not (w_not rfl rfl rfl) rfl rfl ?_
                            refine EvK.not (w_not rfl rfl rfl) rfl rfl ?_
                            refine EvK.not (w_not rfl rfl rfl) rfl rfl ?_
                            refine EvK.pure (v := .bool true) (w_none rfl) rfl rfl (f_pickT rfl rfl rfl rfl) ?_
                            refine EvK.nil ?_
                            exact KE.mk true ⟨rfl, rfl, rfl, rfl, rfl, trivial⟩ hF
                          · refine EvK.pure (v := .pointer r2.1) (w_some rfl rfl c8) rfl rfl (f_move rfl rfl) ?_
                            refine EvK.pure (v := .string a0) (w_some rfl rfl c8) rfl rfl (f_move rfl rfl) ?_
                            refine EvK.pure (v := k32.val (S32.mk false a0 0 0)) (w_some rfl rfl c8) rfl rfl (f_build (cells := k32.enc (S32.mk false a0 0 0)) st33 rfl rfl rfl) ?_
                            refine EvK.call (w_some rfl rfl c8) rfl rfl (enterH Try.func16 rfl rfl rfl rfl (flow_Flow_Put.sound hF)) ?_
                            rintro _ h15 ⟨r6, rfl, hF⟩
                            refine EvK.pure (v := .bool (r6 != 0)) (w_some rfl rfl c8) rfl rfl (f_neq rfl rfl rfl) ?_
                            refine EvK.pure (v := .bool (r6 != 0)) (w_none rfl) rfl rfl (f_pickF rfl rfl c8 rfl) ?_
                            refine EvK.pure (v := .bool (r6 != 0)) (w_none rfl) rfl rfl (f_move rfl rfl) ?_
                            rcases ite_inv hF with ⟨c9, hF⟩ | ⟨c9, hF⟩
                            · refine EvK.not (w_not rfl rfl c9) rfl rfl ?_
                              refine EvK.not (w_not rfl rfl c9) rfl rfl ?_
                              refine EvK.not (w_not rfl rfl c9) rfl rfl ?_
                              refine EvK.not (w_not rfl rfl c9) rfl rfl ?_
                              refine EvK.not (w_not rfl rfl c9) rfl rfl ?_
                              refine EvK.pure (v := .bool true) (w_none rfl) rfl rfl (f_pickT rfl rfl c9 rfl) ?_
                              refine EvK.nil ?_
                              exact KE.mk true ⟨rfl, rfl, rfl, rfl, rfl, trivial⟩ hF
                            · refine EvK.pure (v := .pointer r2.1) (w_some rfl rfl c9) rfl rfl (f_move rfl rfl) ?_
                              refine EvK.pure (v := .string a0) (w_some rfl rfl c9) rfl rfl (f_move rfl rfl) ?_
                              refine EvK.pure (v := k32.val (S32.mk false a0 0 0)) (w_some rfl rfl c9) rfl rfl (f_build (cells := k32.enc (S32.mk false a0 0 0)) st33 rfl rfl rfl) ?_
                              refine EvK.call (w_some rfl rfl c9) rfl rfl (enterH Try.func16 rfl rfl rfl rfl (flow_Flow_Put.sound hF)) ?_
                              rintro _ h16 ⟨r7, rfl, hF⟩
                              refine EvK.pure (v := .bool (r7 != 2)) (w_some rfl rfl c9) rfl rfl (f_neq rfl rfl rfl) ?_
                              refine EvK.pure (v := .bool (r7 != 2)) (w_none rfl) rfl rfl (f_pickF rfl rfl c9 rfl) ?_
                              refine EvK.nil ?_
                              exact KE.mk (r7 != 2) ⟨rfl, rfl, rfl, rfl, rfl, trivial⟩ hF
                    · refine WP.cond_false _ rfl c5 ?_
                      refine WP.exit ?_
                      exact KE.mk () trivial hF
              · intro k4 hF
                refine WP.region ?_
                refine EvK.pure (v := .pointer r2.1) (w_none rfl) rfl rfl (f_move rfl rfl) ?_
                refine EvK.pure (v := .string a0) (w_none rfl) rfl rfl (f_move rfl rfl) ?_
                refine EvK.pure (v := k32.val (S32.mk false a0 0 0)) (w_none rfl) rfl rfl (f_build (cells := k32.enc (S32.mk false a0 0 0)) st33 rfl rfl rfl) ?_
                refine EvK.call (w_none rfl) rfl rfl (enterH Try.func16 rfl rfl rfl rfl (flow_Flow_Put.sound hF)) ?_
                rintro _ h17 ⟨r10, rfl, hF⟩
                refine EvK.pure (v := .bool (r10 != 2)) (w_none rfl) rfl rfl (f_neq rfl rfl rfl) ?_
                refine EvK.pure (v := .bool (r10 != 2)) (w_none rfl) rfl rfl (f_move rfl rfl) ?_
                rcases ite_inv hF with ⟨c10, hF⟩ | ⟨c10, hF⟩
                · refine EvK.not (w_not rfl rfl c10) rfl rfl ?_
                  refine EvK.not (w_not rfl rfl c10) rfl rfl ?_
                  refine EvK.not (w_not rfl rfl c10) rfl rfl ?_
                  refine EvK.not (w_not rfl rfl c10) rfl rfl ?_
                  refine EvK.pure (v := .bool true) (w_none rfl) rfl rfl (f_pickT rfl rfl c10 rfl) ?_
                  refine EvK.pure (v := .bool true) (w_none rfl) rfl rfl (f_move rfl rfl) ?_
                  refine EvK.not (w_not rfl rfl rfl) rfl rfl ?_
                  refine EvK.not (w_not rfl rfl rfl) rfl rfl ?_
                  refine EvK.not (w_not rfl rfl rfl) rfl rfl ?_
                  refine EvK.not (w_not rfl rfl rfl) rfl rfl ?_
                  refine EvK.pure (v := .bool true) (w_none rfl) rfl rfl (f_pickT rfl rfl rfl rfl) ?_
                  refine EvK.pure (v := .bool true) (w_none rfl) rfl rfl (f_move rfl rfl) ?_
                  refine EvK.not (w_not rfl rfl rfl) rfl rfl ?_
                  refine EvK.not (w_not rfl rfl rfl) rfl rfl ?_
                  refine EvK.not (w_not rfl rfl rfl) rfl rfl ?_
                  refine EvK.pure (v := .bool true) (w_none rfl) rfl rfl (f_pickT rfl rfl rfl rfl) ?_
                  refine EvK.nil ?_
                  exact KE.mk true ⟨rfl, rfl, rfl, rfl, trivial⟩ hF
                · refine EvK.pure (v := .pointer r2.1) (w_some rfl rfl c10) rfl rfl (f_move rfl rfl) ?_
                  refine EvK.pure (v := k32.val (S32.mk true ⟨#[]⟩ 0 0)) (w_some rfl rfl c10) rfl rfl (f_build (cells := k32.enc (S32.mk true ⟨#[]⟩ 0 0)) st33 rfl rfl rfl) ?_
                  refine EvK.call (w_some rfl rfl c10) rfl rfl (enterH Try.func16 rfl rfl rfl rfl (flow_Flow_Put.sound hF)) ?_
                  rintro _ h18 ⟨r11, rfl, hF⟩
                  refine EvK.pure (v := .bool (r11 != 2)) (w_some rfl rfl c10) rfl rfl (f_neq rfl rfl rfl) ?_
                  refine EvK.pure (v := .bool (r11 != 2)) (w_none rfl) rfl rfl (f_pickF rfl rfl c10 rfl) ?_
                  refine EvK.pure (v := .bool (r11 != 2)) (w_none rfl) rfl rfl (f_move rfl rfl) ?_
                  rcases ite_inv hF with ⟨c11, hF⟩ | ⟨c11, hF⟩
                  · refine EvK.not (w_not rfl rfl c11) rfl rfl ?_
                    refine EvK.not (w_not rfl rfl c11) rfl rfl ?_
                    refine EvK.not (w_not rfl rfl c11) rfl rfl ?_
                    refine EvK.not (w_not rfl rfl c11) rfl rfl ?_
                    refine EvK.pure (v := .bool true) (w_none rfl) rfl rfl (f_pickT rfl rfl c11 rfl) ?_
                    refine EvK.pure (v := .bool true) (w_none rfl) rfl rfl (f_move rfl rfl) ?_
                    refine EvK.not (w_not rfl rfl rfl) rfl rfl ?_
                    refine EvK.not (w_not rfl rfl rfl) rfl rfl ?_
                    refine EvK.not (w_not rfl rfl rfl) rfl rfl ?_
                    refine EvK.pure (v := .bool true) (w_none rfl) rfl rfl (f_pickT rfl rfl rfl rfl) ?_
                    refine EvK.nil ?_
                    exact KE.mk true ⟨rfl, rfl, rfl, rfl, trivial⟩ hF
                  · refine EvK.pure (v := .pointer r2.1) (w_some rfl rfl c11) rfl rfl (f_move rfl rfl) ?_
                    refine EvK.pure (v := k32.val (S32.mk true ⟨#[]⟩ 0 0)) (w_some rfl rfl c11) rfl rfl (f_build (cells := k32.enc (S32.mk true ⟨#[]⟩ 0 0)) st33 rfl rfl rfl) ?_
                    refine EvK.call (w_some rfl rfl c11) rfl rfl (enterH Try.func16 rfl rfl rfl rfl (flow_Flow_Put.sound hF)) ?_
                    rintro _ h19 ⟨r12, rfl, hF⟩
                    refine EvK.pure (v := .bool (r12 != 0)) (w_some rfl rfl c11) rfl rfl (f_neq rfl rfl rfl) ?_
                    refine EvK.pure (v := .bool (r12 != 0)) (w_none rfl) rfl rfl (f_pickF rfl rfl c11 rfl) ?_
                    refine EvK.pure (v := .bool (r12 != 0)) (w_none rfl) rfl rfl (f_move rfl rfl) ?_
                    rcases ite_inv hF with ⟨c12, hF⟩ | ⟨c12, hF⟩
                    · refine EvK.not (w_not rfl rfl c12) rfl rfl ?_
                      refine EvK.not (w_not rfl rfl c12) rfl rfl ?_
                      refine EvK.not (w_not rfl rfl c12) rfl rfl ?_
                      refine EvK.pure (v := .bool true) (w_none rfl) rfl rfl (f_pickT rfl rfl c12 rfl) ?_
                      refine EvK.nil ?_
                      exact KE.mk true ⟨rfl, rfl, rfl, rfl, trivial⟩ hF
                    · refine EvK.pure (v := .pointer r2.1) (w_some rfl rfl c12) rfl rfl (f_move rfl rfl) ?_
                      refine EvK.call (w_some rfl rfl c12) rfl rfl (enterH Try.func21 rfl rfl rfl rfl (flow_Flow_Queued.sound hF)) ?_
                      rintro _ h20 ⟨r13, rfl, hF⟩
                      refine EvK.pure (v := .bool (r13 != 65536)) (w_some rfl rfl c12) rfl rfl (f_neq rfl rfl rfl) ?_
                      refine EvK.pure (v := .bool (r13 != 65536)) (w_none rfl) rfl rfl (f_pickF rfl rfl c12 rfl) ?_
                      refine EvK.nil ?_
                      exact KE.mk (r13 != 65536) ⟨rfl, rfl, rfl, rfl, trivial⟩ hF
            · intro k3 hF
              refine WP.seq ?_
              refine WP.region ?_
              refine EvK.pure (v := .int .i64 0) (w_none rfl) rfl rfl (f_assign rfl rfl) ?_
              refine EvK.nil ?_
              refine WP.block ?_
              refine WP.loopF (fun (s8 : Int) => [(7, .int .i64 s8), (0, .string a0), (1, .int .i64 a1), (5, .pointer r2.1)]) hF ⟨rfl, rfl, rfl, rfl, trivial⟩ ?_
              intro k8 s8 E0 h21 hF
              refine WP.seq ?_
              refine WP.seq ?_
              refine WP.region ?_
              refine EvK.pure (v := .int .i64 s8) (w_none rfl) rfl rfl (f_move rfl rfl) ?_
              refine EvK.pure (v := .bool (decide (s8 < 65536))) (w_none rfl) rfl rfl (f_lss rfl rfl rfl) ?_
              refine EvK.nil ?_
              rcases ite_inv hF with ⟨c13, hF⟩ | ⟨c13, hF⟩
              · refine WP.cond_true _ rfl c13 ?_
                refine WP.skip ?_
                refine WP.seq ?_
                refine WP.block ?_
                refine WP.seq ?_
                refine WP.region ?_
                refine EvK.pure (v := .pointer r2.1) (w_none rfl) rfl rfl (f_move rfl rfl) ?_
                refine EvK.pure (v := .string a0) (w_none rfl) rfl rfl (f_move rfl rfl) ?_
                refine EvK.pure (v := .int .i64 s8) (w_none rfl) rfl rfl (f_move rfl rfl) ?_
                refine EvK.pure (v := k32.val (S32.mk false a0 0 s8)) (w_none rfl) rfl rfl (f_build (cells := k32.enc (S32.mk false a0 0 s8)) st33 rfl rfl rfl) ?_
                refine EvK.call (w_none rfl) rfl rfl (enterH Try.func16 rfl rfl rfl rfl (flow_Flow_Put.sound hF)) ?_
                rintro _ h22 ⟨r14, rfl, hF⟩
                refine EvK.pure (v := .bool (r14 != 0)) (w_none rfl) rfl rfl (f_neq rfl rfl rfl) ?_
                refine EvK.nil ?_
                rcases ite_inv hF with ⟨c14, hF⟩ | ⟨c14, hF⟩
                · refine WP.cond_true _ rfl c14 ?_
                  refine WP.seq ?_
                  refine WP.region ?_
                  refine EvK.pure (v := .bool false) (w_none rfl) rfl rfl (f_assign rfl rfl) ?_
                  refine EvK.nil ?_
                  refine WP.ret ?_
                  exact Ret.mk (vs := [.bool false]) false ⟨rfl, trivial⟩ rfl hF
                · refine WP.cond_false _ rfl c14 ?_
                  refine WP.skip ?_
                  refine WP.region ?_
                  refine EvK.pure (v := .int .i64 s8) (w_none rfl) rfl rfl (f_move rfl rfl) ?_
                  refine EvK.pure (v := .int .i64 (IntKind.i64.wrap (s8 + 1))) (w_none rfl) rfl rfl (f_add rfl rfl rfl) ?_
                  refine EvK.pure (v := .int .i64 (IntKind.i64.wrap (s8 + 1))) (w_none rfl) rfl rfl (f_assign rfl rfl) ?_
                  refine EvK.nil ?_
                  exact KE.mk (IntKind.i64.wrap (s8 + 1)) ⟨rfl, rfl, rfl, rfl, trivial⟩ hF
              · refine WP.cond_false _ rfl c13 ?_
                refine WP.exit ?_
                exact KE.mk () ⟨rfl, rfl, rfl, trivial⟩ hF
        · intro k2 hF
          refine WP.region ?_
          refine EvK.pure (v := .int .i64 r2.2) (w_none rfl) rfl rfl (f_move rfl rfl) ?_
          refine EvK.pure (v := .bool (r2.2 != 0)) (w_none rfl) rfl rfl (f_neq rfl rfl rfl) ?_
          refine EvK.pure (v := .bool (r2.2 != 0)) (w_none rfl) rfl rfl (f_move rfl rfl) ?_
          rcases ite_inv hF with ⟨c15, hF⟩ | ⟨c15, hF⟩
          · refine EvK.not (w_not rfl rfl c15) rfl rfl ?_
            refine EvK.not (w_not rfl rfl c15) rfl rfl ?_
            refine EvK.pure (v := .bool true) (w_none rfl) rfl rfl (f_pickT rfl rfl c15 rfl) ?_
            refine EvK.nil ?_
            exact KE.mk true ⟨rfl, rfl, rfl, rfl, trivial⟩ hF
          · refine EvK.pure (v := .pointer r2.1) (w_some rfl rfl c15) rfl rfl (f_move rfl rfl) ?_
            refine EvK.pure (v := .bool r2.1.isNone) (w_some rfl rfl c15) rfl rfl (f_peqln Try.underlying24 rfl rfl rfl) ?_
            refine EvK.pure (v := .bool r2.1.isNone) (w_none rfl) rfl rfl (f_pickF rfl rfl c15 rfl) ?_
            refine EvK.nil ?_
            exact KE.mk r2.1.isNone ⟨rfl, rfl, rfl, rfl, trivial⟩ hF
    · intro k1 hF
      refine WP.region ?_
      refine EvK.pure (v := .string a0) (w_none rfl) rfl rfl (f_move rfl rfl) ?_
      refine EvK.pure (v := .int .i64 (a0.size : Int)) (w_none rfl) rfl rfl (f_lenS Try.underlying9 rfl rfl) ?_
      refine EvK.pure (v := .bool (decide ((a0.size : Int) < 1))) (w_none rfl) rfl rfl (f_lss rfl rfl rfl) ?_
      refine EvK.pure (v := .bool (decide ((a0.size : Int) < 1))) (w_none rfl) rfl rfl (f_move rfl rfl) ?_
      rcases ite_inv hF with ⟨c16, hF⟩ | ⟨c16, hF⟩
      · refine EvK.not (w_not rfl rfl c16) rfl rfl ?_
        refine EvK.not (w_not rfl rfl c16) rfl rfl ?_
        refine EvK.not (w_not rfl rfl c16) rfl rfl ?_
        refine EvK.pure (v := .bool true) (w_none rfl) rfl rfl (f_pickT rfl rfl c16 rfl) ?_
        refine EvK.nil ?_
        exact KE.mk true ⟨rfl, rfl, rfl, trivial⟩ hF
      · refine EvK.pure (v := .string a0) (w_some rfl rfl c16) rfl rfl (f_move rfl rfl) ?_
        refine EvK.pure (v := .int .i64 (a0.size : Int)) (w_some rfl rfl c16) rfl rfl (f_lenS Try.underlying9 rfl rfl) ?_
        refine EvK.pure (v := .bool (decide ((a0.size : Int) > 32))) (w_some rfl rfl c16) rfl rfl (f_gtr rfl rfl rfl) ?_
        refine EvK.pure (v := .bool (decide ((a0.size : Int) > 32))) (w_none rfl) rfl rfl (f_pickF rfl rfl c16 rfl) ?_
        refine EvK.nil ?_
        exact KE.mk (decide ((a0.size : Int) > 32)) ⟨rfl, rfl, rfl, trivial⟩ hF
end Go.Proofs.Ytanpaamamfabkaa
