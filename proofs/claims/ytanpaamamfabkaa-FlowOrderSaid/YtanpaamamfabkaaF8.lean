/- spate/spatelaw15.known, as a predicate over the heap, and that the code comes to it. Printed by gen.py. -/
import Derived.Test.YtanpaamamfabkaaTy
import Derived.Test.YtanpaamamfabkaaF9
import Derived.Test.YtanpaamamfabkaaF13
import Derived.Test.YtanpaamamfabkaaF16
import Derived.Test.YtanpaamamfabkaaF17
import Derived.Test.YtanpaamamfabkaaF18
import Derived.Test.YtanpaamamfabkaaF19
import Derived.Test.YtanpaamamfabkaaF21
import Derived.Test.YtanpaamamfabkaaF23
namespace Go.Proofs.Ytanpaamamfabkaa
open Go Go.Tr
set_option linter.unusedVariables false
set_option maxRecDepth 100000
set_option maxHeartbeats 400000
/-- spate/spatelaw15.known -/
def spatelaw15_known  (h : H) (Q : Bool → H → Prop) : Prop :=
  flow_New 1 2 1 h fun r1 h1 =>
  flow_New 0 1 1 h1 fun r2 h2 =>
  jn (fun (k1 : Bool → H → Prop) =>
    if (r1.2 != 0) = true then
      k1 true h2
    else
      if r1.1.isNone = true then
        k1 true h2
      else
        if (!r2.1.isNone) = true then
          k1 true h2
        else
          k1 (r2.2 != 1) h2) fun s1 h3 =>
  if s1 = true then
    Q false h3
  else
    jn (fun (k2 : Bool → H → Prop) =>
      flow_Flow_Put r1.1 0 (S32.mk false (⟨#[99]⟩ : ByteArray) 0 3) h3 fun r8 h13 =>
      if (r8 == 0) = true then
        flow_Flow_Put r1.1 0 (S32.mk true ⟨#[]⟩ 5 0) h13 fun r9 h14 =>
        if (r9 == 0) = true then
          flow_Flow_Queued r1.1 0 h14 fun r10 h15 =>
          if (r10 == 2) = true then
            flow_Flow_Route r1.1 (⟨#[99]⟩ : ByteArray) h15 fun r11 h16 =>
            if (r11 == 0) = true then
              flow_Flow_Route r1.1 (⟨#[97]⟩ : ByteArray) h16 fun r12 h17 =>
              k2 (r12 == 1) h17
            else
              k2 false h16
          else
            k2 false h15
        else
          k2 false h14
      else
        k2 false h13) fun s2 h4 =>
    flow_Flow_Pass r1.1 0 h4 fun r3 h5 =>
    flow_Flow_Pass r1.1 0 h5 fun r4 h6 =>
    flow_Flow_Take r1.1 0 h6 fun r5 h7 =>
    al 33 (k32.enc z32) h7 fun q1 h8 =>
    rd (st k32 q1 r5.2.1 h8) fun h9 =>
    jn (fun (k3 : Bool → H → Prop) =>
      if s2 = true then
        if (r3.1 == 0) = true then
          if (r3.2 == 0) = true then
            if (r4.2 == 45) = true then
              if (r5.1 == 0) = true then
                rd (ld k32 q1 h9) fun x1 =>
                if (eq33 x1 (S32.mk false (⟨#[99]⟩ : ByteArray) 0 3)) = true then
                  if (r5.2.2 == 0) = true then
                    flow_Flow_Boxed r1.1 0 h9 fun r6 h11 =>
                    if (r6 == 0) = true then
                      flow_Flow_Empty r1.1 h11 fun r7 h12 =>
                      k3 (!r7) h12
                    else
                      k3 false h11
                  else
                    k3 false h9
                else
                  k3 false h9
              else
                k3 false h9
            else
              k3 false h9
          else
            k3 false h9
        else
          k3 false h9
      else
        k3 false h9) fun s3 h10 =>
    Q s3 h10
theorem spatelaw15_known.sound  {h : H} {Q : Bool → H → Prop} (hF : spatelaw15_known  h Q) :
    CallsH Try.prog 8 (List.toArray (α := Value) []) h fun v h' => ∃ x : Bool, v = .bool x ∧ Q x h' := by
  refine CallsH.of_body Try.func8 rfl 111 rfl rfl ?_
  refine WP.seq ?_
  refine WP.region ?_
  refine EvK.pure (v := .bool false) (w_none rfl) rfl rfl (f_assign rfl rfl) ?_
  refine EvK.nil ?_
  refine WP.seq ?_
  refine WP.region ?_
  refine EvK.call (w_none rfl) rfl rfl (enterH Try.func9 rfl rfl rfl rfl (flow_New.sound hF)) ?_
  rintro _ h1 ⟨r1, rfl, hF⟩
  refine EvK.pure (v := .tuple #[.pointer r1.1, .int .i64 r1.2]) (w_none rfl) rfl rfl (f_move rfl rfl) ?_
  refine EvK.pure (v := .pointer r1.1) (w_none rfl) rfl rfl (f_extract (vs := #[.pointer r1.1, .int .i64 r1.2]) rfl rfl rfl) ?_
  refine EvK.pure (v := .int .i64 r1.2) (w_none rfl) rfl rfl (f_extract (vs := #[.pointer r1.1, .int .i64 r1.2]) rfl rfl rfl) ?_
  refine EvK.pure (v := .pointer r1.1) (w_none rfl) rfl rfl (f_assign rfl rfl) ?_
  refine EvK.pure (v := .int .i64 r1.2) (w_none rfl) rfl rfl (f_assign rfl rfl) ?_
  refine EvK.nil ?_
  refine WP.seq ?_
  refine WP.region ?_
  refine EvK.call (w_none rfl) rfl rfl (enterH Try.func9 rfl rfl rfl rfl (flow_New.sound hF)) ?_
  rintro _ h2 ⟨r2, rfl, hF⟩
  refine EvK.pure (v := .tuple #[.pointer r2.1, .int .i64 r2.2]) (w_none rfl) rfl rfl (f_move rfl rfl) ?_
  refine EvK.pure (v := .pointer r2.1) (w_none rfl) rfl rfl (f_extract (vs := #[.pointer r2.1, .int .i64 r2.2]) rfl rfl rfl) ?_
  refine EvK.pure (v := .int .i64 r2.2) (w_none rfl) rfl rfl (f_extract (vs := #[.pointer r2.1, .int .i64 r2.2]) rfl rfl rfl) ?_
  refine EvK.pure (v := .pointer r2.1) (w_none rfl) rfl rfl (f_assign rfl rfl) ?_
  refine EvK.pure (v := .int .i64 r2.2) (w_none rfl) rfl rfl (f_assign rfl rfl) ?_
  refine EvK.nil ?_
  refine WP.seq ?_
  refine WP.joinF (fun (s1 : Bool) => [(33, .bool s1), (1, .pointer r1.1)]) hF ?_ ?_
  · intro s1 E0 h3 hF
    rcases ite_inv hF with ⟨c1, hF⟩ | ⟨c1, hF⟩
    · refine WP.cond_true _ rfl c1 ?_
      refine WP.seq ?_
      refine WP.region ?_
      refine EvK.pure (v := .bool false) (w_none rfl) rfl rfl (f_assign rfl rfl) ?_
      refine EvK.nil ?_
      refine WP.ret ?_
      exact Ret.mk (vs := [.bool false]) false ⟨rfl, trivial⟩ rfl hF
    · refine WP.cond_false _ rfl c1 ?_
      refine WP.skip ?_
      refine WP.joinF (fun (s2 : Bool) => [(5, .bool s2), (1, .pointer r1.1)]) hF ?_ ?_
      · intro s2 E0 h4 hF
        refine WP.seq ?_
        refine WP.region ?_
        refine EvK.pure (v := .pointer r1.1) (w_none rfl) rfl rfl (f_move rfl rfl) ?_
        refine EvK.call (w_none rfl) rfl rfl (enterH Try.func17 rfl rfl rfl rfl (flow_Flow_Pass.sound hF)) ?_
        rintro _ h5 ⟨r3, rfl, hF⟩
        refine EvK.pure (v := .tuple #[.int .i64 r3.1, .int .i64 r3.2]) (w_none rfl) rfl rfl (f_move rfl rfl) ?_
        refine EvK.pure (v := .int .i64 r3.1) (w_none rfl) rfl rfl (f_extract (vs := #[.int .i64 r3.1, .int .i64 r3.2]) rfl rfl rfl) ?_
        refine EvK.pure (v := .int .i64 r3.2) (w_none rfl) rfl rfl (f_extract (vs := #[.int .i64 r3.1, .int .i64 r3.2]) rfl rfl rfl) ?_
        refine EvK.pure (v := .int .i64 r3.1) (w_none rfl) rfl rfl (f_assign rfl rfl) ?_
        refine EvK.pure (v := .int .i64 r3.2) (w_none rfl) rfl rfl (f_assign rfl rfl) ?_
        refine EvK.nil ?_
        refine WP.seq ?_
        refine WP.region ?_
        refine EvK.pure (v := .pointer r1.1) (w_none rfl) rfl rfl (f_move rfl rfl) ?_
        refine EvK.call (w_none rfl) rfl rfl (enterH Try.func17 rfl rfl rfl rfl (flow_Flow_Pass.sound hF)) ?_
        rintro _ h6 ⟨r4, rfl, hF⟩
        refine EvK.pure (v := .tuple #[.int .i64 r4.1, .int .i64 r4.2]) (w_none rfl) rfl rfl (f_move rfl rfl) ?_
        refine EvK.pure (v := .int .i64 r4.1) (w_none rfl) rfl rfl (f_extract (vs := #[.int .i64 r4.1, .int .i64 r4.2]) rfl rfl rfl) ?_
        refine EvK.pure (v := .int .i64 r4.2) (w_none rfl) rfl rfl (f_extract (vs := #[.int .i64 r4.1, .int .i64 r4.2]) rfl rfl rfl) ?_
        refine EvK.pure (v := .int .i64 r4.1) (w_none rfl) rfl rfl (f_assign rfl rfl) ?_
        refine EvK.pure (v := .int .i64 r4.2) (w_none rfl) rfl rfl (f_assign rfl rfl) ?_
        refine EvK.nil ?_
        refine WP.seq ?_
        refine WP.region ?_
        refine EvK.pure (v := .pointer r1.1) (w_none rfl) rfl rfl (f_move rfl rfl) ?_
        refine EvK.call (w_none rfl) rfl rfl (enterH Try.func18 rfl rfl rfl rfl (flow_Flow_Take.sound hF)) ?_
        rintro _ h7 ⟨r5, rfl, hF⟩
        refine EvK.pure (v := .tuple #[.int .i64 r5.1, k32.val r5.2.1, .int .i64 r5.2.2]) (w_none rfl) rfl rfl (f_move rfl rfl) ?_
        refine EvK.pure (v := .int .i64 r5.1) (w_none rfl) rfl rfl (f_extract (vs := #[.int .i64 r5.1, k32.val r5.2.1, .int .i64 r5.2.2]) rfl rfl rfl) ?_
        refine EvK.pure (v := k32.val r5.2.1) (w_none rfl) rfl rfl (f_extract (vs := #[.int .i64 r5.1, k32.val r5.2.1, .int .i64 r5.2.2]) rfl rfl rfl) ?_
        refine EvK.pure (v := .int .i64 r5.2.2) (w_none rfl) rfl rfl (f_extract (vs := #[.int .i64 r5.1, k32.val r5.2.1, .int .i64 r5.2.2]) rfl rfl rfl) ?_
        refine EvK.alloc (w_none rfl) rfl rfl (f_allocF zero33 rfl rfl hF) ?_
        rintro _ h8 ⟨q1, rfl, hF⟩
        refine EvK.pure (v := .int .i64 r5.1) (w_none rfl) rfl rfl (f_assign rfl rfl) ?_
        obtain ⟨h9, hs1, hF⟩ := hF
        refine EvK.runN (w_none rfl) rfl (f_store k32 ty33.size (z := r5.2.1) rfl rfl rfl hs1) ?_
        rintro _ _ ⟨rfl, rfl⟩
        refine EvK.pure (v := .int .i64 r5.2.2) (w_none rfl) rfl rfl (f_assign rfl rfl) ?_
        refine EvK.nil ?_
        refine WP.joinF (fun (s3 : Bool) => [(0, .bool s3)]) hF ?_ ?_
        · intro s3 E0 h10 hF
          refine WP.ret ?_
          exact Ret.mk (vs := [.bool s3]) s3 ⟨rfl, trivial⟩ rfl hF
        · intro k3 hF
          refine WP.region ?_
          refine EvK.pure (v := .bool s2) (w_none rfl) rfl rfl (f_move rfl rfl) ?_
          refine EvK.pure (v := .bool s2) (w_none rfl) rfl rfl (f_move rfl rfl) ?_
          rcases ite_inv hF with ⟨c2, hF⟩ | ⟨c2, hF⟩
          · refine EvK.pure (v := .int .i64 r3.1) (w_some rfl rfl c2) rfl rfl (f_move rfl rfl) ?_
            refine EvK.pure (v := .bool (r3.1 == 0)) (w_some rfl rfl c2) rfl rfl (f_eql rfl rfl rfl) ?_
            refine EvK.pure (v := .bool (r3.1 == 0)) (w_none rfl) rfl rfl (f_pickT rfl rfl c2 rfl) ?_
            refine EvK.pure (v := .bool (r3.1 == 0)) (w_none rfl) rfl rfl (f_move rfl rfl) ?_
            rcases ite_inv hF with ⟨c3, hF⟩ | ⟨c3, hF⟩
            · refine EvK.pure (v := .int .i64 r3.2) (w_some rfl rfl c3) rfl rfl (f_move rfl rfl) ?_
              refine EvK.pure (v := .bool (r3.2 == 0)) (w_some rfl rfl c3) rfl rfl (f_eql rfl rfl rfl) ?_
              refine EvK.pure (v := .bool (r3.2 == 0)) (w_none rfl) rfl rfl (f_pickT rfl rfl c3 rfl) ?_
              refine EvK.pure (v := .bool (r3.2 == 0)) (w_none rfl) rfl rfl (f_move rfl rfl) ?_
              rcases ite_inv hF with ⟨c4, hF⟩ | ⟨c4, hF⟩
              · refine EvK.pure (v := .int .i64 r4.2) (w_some rfl rfl c4) rfl rfl (f_move rfl rfl) ?_
                refine EvK.pure (v := .bool (r4.2 == 45)) (w_some rfl rfl c4) rfl rfl (f_eql rfl rfl rfl) ?_
                refine EvK.pure (v := .bool (r4.2 == 45)) (w_none rfl) rfl rfl (f_pickT rfl rfl c4 rfl) ?_
                refine EvK.pure (v := .bool (r4.2 == 45)) (w_none rfl) rfl rfl (f_move rfl rfl) ?_
                rcases ite_inv hF with ⟨c5, hF⟩ | ⟨c5, hF⟩
                · refine EvK.pure (v := .int .i64 r5.1) (w_some rfl rfl c5) rfl rfl (f_move rfl rfl) ?_
                  refine EvK.pure (v := .bool (r5.1 == 0)) (w_some rfl rfl c5) rfl rfl (f_eql rfl rfl rfl) ?_
                  refine EvK.pure (v := .bool (r5.1 == 0)) (w_none rfl) rfl rfl (f_pickT rfl rfl c5 rfl) ?_
                  refine EvK.pure (v := .bool (r5.1 == 0)) (w_none rfl) rfl rfl (f_move rfl rfl) ?_
                  rcases ite_inv hF with ⟨c6, hF⟩ | ⟨c6, hF⟩
                  · obtain ⟨x1, hx1, hF⟩ := hF
                    refine EvK.read (v := k32.val x1) (w_some rfl rfl c6) rfl rfl (f_load k32 ty33 rfl rfl hx1 rfl) ?_
                    refine EvK.pure (v := k32.val (S32.mk false (⟨#[99]⟩ : ByteArray) 0 3)) (w_some rfl rfl c6) rfl rfl (f_build (cells := k32.enc (S32.mk false (⟨#[99]⟩ : ByteArray) 0 3)) st33 rfl rfl rfl) ?_
                    refine EvK.pure (v := .bool (eq33 x1 (S32.mk false (⟨#[99]⟩ : ByteArray) 0 3))) (w_some rfl rfl c6) rfl rfl (f_eqlOf rfl rfl rfl (guard33 _ _) rfl (eqIn33 _ _)) ?_
                    refine EvK.pure (v := .bool (eq33 x1 (S32.mk false (⟨#[99]⟩ : ByteArray) 0 3))) (w_none rfl) rfl rfl (f_pickT rfl rfl c6 rfl) ?_
                    refine EvK.pure (v := .bool (eq33 x1 (S32.mk false (⟨#[99]⟩ : ByteArray) 0 3))) (w_none rfl) rfl rfl (f_move rfl rfl) ?_
                    rcases ite_inv hF with ⟨c7, hF⟩ | ⟨c7, hF⟩
                    · refine EvK.pure (v := .int .i64 r5.2.2) (w_some rfl rfl c7) rfl rfl (f_move rfl rfl) ?_
                      refine EvK.pure (v := .bool (r5.2.2 == 0)) (w_some rfl rfl c7) rfl rfl (f_eql rfl rfl rfl) ?_
                      refine EvK.pure (v := .bool (r5.2.2 == 0)) (w_none rfl) rfl rfl (f_pickT rfl rfl c7 rfl) ?_
                      refine EvK.pure (v := .bool (r5.2.2 == 0)) (w_none rfl) rfl rfl (f_move rfl rfl) ?_
                      rcases ite_inv hF with ⟨c8, hF⟩ | ⟨c8, hF⟩
                      · refine EvK.pure (v := .pointer r1.1) (w_some rfl rfl c8) rfl rfl (f_move rfl rfl) ?_
                        refine EvK.call (w_some rfl rfl c8) rfl rfl (enterH Try.func23 rfl rfl rfl rfl (flow_Flow_Boxed.sound hF)) ?_
                        rintro _ h11 ⟨r6, rfl, hF⟩
                        refine EvK.pure (v := .bool (r6 == 0)) (w_some rfl rfl c8) rfl rfl (f_eql rfl rfl rfl) ?_
                        refine EvK.pure (v := .bool (r6 == 0)) (w_none rfl) rfl rfl (f_pickT rfl rfl c8 rfl) ?_
                        refine EvK.pure (v := .bool (r6 == 0)) (w_none rfl) rfl rfl (f_move rfl rfl) ?_
                        rcases ite_inv hF with ⟨c9, hF⟩ | ⟨c9, hF⟩
                        · refine EvK.pure (v := .pointer r1.1) (w_some rfl rfl c9) rfl rfl (f_move rfl rfl) ?_
                          refine EvK.call (w_some rfl rfl c9) rfl rfl (enterH Try.func19 rfl rfl rfl rfl (flow_Flow_Empty.sound hF)) ?_
                          rintro _ h12 ⟨r7, rfl, hF⟩
                          refine EvK.pure (v := .bool (!r7)) (w_some rfl rfl c9) rfl rfl (f_not rfl rfl) ?_
                          refine EvK.pure (v := .bool (!r7)) (w_none rfl) rfl rfl (f_pickT rfl rfl c9 rfl) ?_
                          refine EvK.pure (v := .bool (!r7)) (w_none rfl) rfl rfl (f_assign rfl rfl) ?_
                          refine EvK.nil ?_
                          exact KE.mk (!r7) ⟨rfl, trivial⟩ hF
                        · refine EvK.not (w_not rfl rfl c9) rfl rfl ?_
                          refine EvK.not (w_not rfl rfl c9) rfl rfl ?_
                          refine EvK.not (w_not rfl rfl c9) rfl rfl ?_
                          refine EvK.pure (v := .bool false) (w_none rfl) rfl rfl (f_pickF rfl rfl c9 rfl) ?_
                          refine EvK.pure (v := .bool false) (w_none rfl) rfl rfl (f_assign rfl rfl) ?_
                          refine EvK.nil ?_
                          exact KE.mk false ⟨rfl, trivial⟩ hF
                      · refine EvK.not (w_not rfl rfl c8) rfl rfl ?_
                        refine EvK.not (w_not rfl rfl c8) rfl rfl ?_
                        refine EvK.not (w_not rfl rfl c8) rfl rfl ?_
                        refine EvK.pure (v := .bool false) (w_none rfl) rfl rfl (f_pickF rfl rfl c8 rfl) ?_
                        refine EvK.pure (v := .bool false) (w_none rfl) rfl rfl (f_move rfl rfl) ?_
                        refine EvK.not (w_not rfl rfl rfl) rfl rfl ?_
                        refine EvK.not (w_not rfl rfl rfl) rfl rfl ?_
                        refine EvK.not (w_not rfl rfl rfl) rfl rfl ?_
                        refine EvK.pure (v := .bool false) (w_none rfl) rfl rfl (f_pickF rfl rfl rfl rfl) ?_
                        refine EvK.pure (v := .bool false) (w_none rfl) rfl rfl (f_assign rfl rfl) ?_
                        refine EvK.nil ?_
                        exact KE.mk false ⟨rfl, trivial⟩ hF
                    · refine EvK.not (w_not rfl rfl c7) rfl rfl ?_
                      refine EvK.not (w_not rfl rfl c7) rfl rfl ?_
                      refine EvK.pure (v := .bool false) (w_none rfl) rfl rfl (f_pickF rfl rfl c7 rfl) ?_
                      refine EvK.pure (v := .bool false) (w_none rfl) rfl rfl (f_move rfl rfl) ?_
                      refine EvK.not (w_not rfl rfl rfl) rfl rfl ?_
                      refine EvK.not (w_not rfl rfl rfl) rfl rfl ?_
                      refine EvK.not (w_not rfl rfl rfl) rfl rfl ?_
                      refine EvK.pure (v := .bool false) (w_none rfl) rfl rfl (f_pickF rfl rfl rfl rfl) ?_
                      refine EvK.pure (v := .bool false) (w_none rfl) rfl rfl (f_move rfl rfl) ?_
                      refine EvK.not (w_not rfl rfl rfl) rfl rfl ?_
                      refine EvK.not (w_not rfl rfl rfl) rfl rfl ?_
                      refine EvK.not (w_not rfl rfl rfl) rfl rfl ?_
                      refine EvK.pure (v := .bool false) (w_none rfl) rfl rfl (f_pickF rfl rfl rfl rfl) ?_
                      refine EvK.pure (v := .bool false) (w_none rfl) rfl rfl (f_assign rfl rfl) ?_
                      refine EvK.nil ?_
                      exact KE.mk false ⟨rfl, trivial⟩ hF
                  · refine EvK.not (w_not rfl rfl c6) rfl rfl ?_
                    refine EvK.not (w_not rfl rfl c6) rfl rfl ?_
                    refine EvK.not (w_not rfl rfl c6) rfl rfl ?_
                    refine EvK.pure (v := .bool false) (w_none rfl) rfl rfl (f_pickF rfl rfl c6 rfl) ?_
                    refine EvK.pure (v := .bool false) (w_none rfl) rfl rfl (f_move rfl rfl) ?_
                    refine EvK.not (w_not rfl rfl rfl) rfl rfl ?_
                    refine EvK.not (w_not rfl rfl rfl) rfl rfl ?_
                    refine EvK.pure (v := .bool false) (w_none rfl) rfl rfl (f_pickF rfl rfl rfl rfl) ?_
                    refine EvK.pure (v := .bool false) (w_none rfl) rfl rfl (f_move rfl rfl) ?_
                    refine EvK.not (w_not rfl rfl rfl) rfl rfl ?_
                    refine EvK.not (w_not rfl rfl rfl) rfl rfl ?_
                    refine EvK.not (w_not rfl rfl rfl) rfl rfl ?_
                    refine EvK.pure (v := .bool false) (w_none rfl) rfl rfl (f_pickF rfl rfl rfl rfl) ?_
                    refine EvK.pure (v := .bool false) (w_none rfl) rfl rfl (f_move rfl rfl) ?_
                    refine EvK.not (w_not rfl rfl rfl) rfl rfl ?_
                    refine EvK.not (w_not rfl rfl rfl) rfl rfl ?_
                    refine EvK.not (w_not rfl rfl rfl) rfl rfl ?_
                    refine EvK.pure (v := .bool false) (w_none rfl) rfl rfl (f_pickF rfl rfl rfl rfl) ?_
                    refine EvK.pure (v := .bool false) (w_none rfl) rfl rfl (f_assign rfl rfl) ?_
                    refine EvK.nil ?_
                    exact KE.mk false ⟨rfl, trivial⟩ hF
                · refine EvK.not (w_not rfl rfl c5) rfl rfl ?_
                  refine EvK.not (w_not rfl rfl c5) rfl rfl ?_
                  refine EvK.pure (v := .bool false) (w_none rfl) rfl rfl (f_pickF rfl rfl c5 rfl) ?_
                  refine EvK.pure (v := .bool false) (w_none rfl) rfl rfl (f_move rfl rfl) ?_
                  refine EvK.not (w_not rfl rfl rfl) rfl rfl ?_
                  refine EvK.not (w_not rfl rfl rfl) rfl rfl ?_
                  refine EvK.not (w_not rfl rfl rfl) rfl rfl ?_
                  refine EvK.pure (v := .bool false) (w_none rfl) rfl rfl (f_pickF rfl rfl rfl rfl) ?_
                  refine EvK.pure (v := .bool false) (w_none rfl) rfl rfl (f_move rfl rfl) ?_
                  refine EvK.not (w_not rfl rfl rfl) rfl rfl ?_
                  refine EvK.not (w_not rfl rfl rfl) rfl rfl ?_
                  refine EvK.pure (v := .bool false) (w_none rfl) rfl rfl (f_pickF rfl rfl rfl rfl) ?_
                  refine EvK.pure (v := .bool false) (w_none rfl) rfl rfl (f_move rfl rfl) ?_
                  refine EvK.not (w_not rfl rfl rfl) rfl rfl ?_
                  refine EvK.not (w_not rfl rfl rfl) rfl rfl ?_
                  refine EvK.not (w_not rfl rfl rfl) rfl rfl ?_
                  refine EvK.pure (v := .bool false) (w_none rfl) rfl rfl (f_pickF rfl rfl rfl rfl) ?_
                  refine EvK.pure (v := .bool false) (w_none rfl) rfl rfl (f_move rfl rfl) ?_
                  refine EvK.not (w_not rfl rfl rfl) rfl rfl ?_
                  refine EvK.not (w_not rfl rfl rfl) rfl rfl ?_
                  refine EvK.not (w_not rfl rfl rfl) rfl rfl ?_
                  refine EvK.pure (v := .bool false) (w_none rfl) rfl rfl (f_pickF rfl rfl rfl rfl) ?_
                  refine EvK.pure (v := .bool false) (w_none rfl) rfl rfl (f_assign rfl rfl) ?_
                  refine EvK.nil ?_
                  exact KE.mk false ⟨rfl, trivial⟩ hF
              · refine EvK.not (w_not rfl rfl c4) rfl rfl ?_
                refine EvK.not (w_not rfl rfl c4) rfl rfl ?_
                refine EvK.pure (v := .bool false) (w_none rfl) rfl rfl (f_pickF rfl rfl c4 rfl) ?_
                refine EvK.pure (v := .bool false) (w_none rfl) rfl rfl (f_move rfl rfl) ?_
                refine EvK.not (w_not rfl rfl rfl) rfl rfl ?_
                refine EvK.not (w_not rfl rfl rfl) rfl rfl ?_
                refine EvK.pure (v := .bool false) (w_none rfl) rfl rfl (f_pickF rfl rfl rfl rfl) ?_
                refine EvK.pure (v := .bool false) (w_none rfl) rfl rfl (f_move rfl rfl) ?_
                refine EvK.not (w_not rfl rfl rfl) rfl rfl ?_
                refine EvK.not (w_not rfl rfl rfl) rfl rfl ?_
                refine EvK.not (w_not rfl rfl rfl) rfl rfl ?_
                refine EvK.pure (v := .bool false) (w_none rfl) rfl rfl (f_pickF rfl rfl rfl rfl) ?_
                refine EvK.pure (v := .bool false) (w_none rfl) rfl rfl (f_move rfl rfl) ?_
                refine EvK.not (w_not rfl rfl rfl) rfl rfl ?_
                refine EvK.not (w_not rfl rfl rfl) rfl rfl ?_
                refine EvK.pure (v := .bool false) (w_none rfl) rfl rfl (f_pickF rfl rfl rfl rfl) ?_
                refine EvK.pure (v := .bool false) (w_none rfl) rfl rfl (f_move rfl rfl) ?_
                refine EvK.not (w_not rfl rfl rfl) rfl rfl ?_
                refine EvK.not (w_not rfl rfl rfl) rfl rfl ?_
                refine EvK.not (w_not rfl rfl rfl) rfl rfl ?_
                refine EvK.pure (v := .bool false) (w_none rfl) rfl rfl (f_pickF rfl rfl rfl rfl) ?_
                refine EvK.pure (v := .bool false) (w_none rfl) rfl rfl (f_move rfl rfl) ?_
                refine EvK.not (w_not rfl rfl rfl) rfl rfl ?_
                refine EvK.not (w_not rfl rfl rfl) rfl rfl ?_
                refine EvK.not (w_not rfl rfl rfl) rfl rfl ?_
                refine EvK.pure (v := .bool false) (w_none rfl) rfl rfl (f_pickF rfl rfl rfl rfl) ?_
                refine EvK.pure (v := .bool false) (w_none rfl) rfl rfl (f_assign rfl rfl) ?_
                refine EvK.nil ?_
                exact KE.mk false ⟨rfl, trivial⟩ hF
            · refine EvK.not (w_not rfl rfl c3) rfl rfl ?_
              refine EvK.not (w_not rfl rfl c3) rfl rfl ?_
              refine EvK.pure (v := .bool false) (w_none rfl) rfl rfl (f_pickF rfl rfl c3 rfl) ?_
              refine EvK.pure (v := .bool false) (w_none rfl) rfl rfl (f_move rfl rfl) ?_
              refine EvK.not (w_not rfl rfl rfl) rfl rfl ?_
              refine EvK.not (w_not rfl rfl rfl) rfl rfl ?_
              refine EvK.pure (v := .bool false) (w_none rfl) rfl rfl (f_pickF rfl rfl rfl rfl) ?_
              refine EvK.pure (v := .bool false) (w_none rfl) rfl rfl (f_move rfl rfl) ?_
              refine EvK.not (w_not rfl rfl rfl) rfl rfl ?_
              refine EvK.not (w_not rfl rfl rfl) rfl rfl ?_
              refine EvK.pure (v := .bool false) (w_none rfl) rfl rfl (f_pickF rfl rfl rfl rfl) ?_
              refine EvK.pure (v := .bool false) (w_none rfl) rfl rfl (f_move rfl rfl) ?_
              refine EvK.not (w_not rfl rfl rfl) rfl rfl ?_
              refine EvK.not (w_not rfl rfl rfl) rfl rfl ?_
              refine EvK.not (w_not rfl rfl rfl) rfl rfl ?_
              refine EvK.pure (v := .bool false) (w_none rfl) rfl rfl (f_pickF rfl rfl rfl rfl) ?_
              refine EvK.pure (v := .bool false) (w_none rfl) rfl rfl (f_move rfl rfl) ?_
              refine EvK.not (w_not rfl rfl rfl) rfl rfl ?_
              refine EvK.not (w_not rfl rfl rfl) rfl rfl ?_
              refine EvK.pure (v := .bool false) (w_none rfl) rfl rfl (f_pickF rfl rfl rfl rfl) ?_
              refine EvK.pure (v := .bool false) (w_none rfl) rfl rfl (f_move rfl rfl) ?_
              refine EvK.not (w_not rfl rfl rfl) rfl rfl ?_
              refine EvK.not (w_not rfl rfl rfl) rfl rfl ?_
              refine EvK.not (w_not rfl rfl rfl) rfl rfl ?_
              refine EvK.pure (v := .bool false) (w_none rfl) rfl rfl (f_pickF rfl rfl rfl rfl) ?_
              refine EvK.pure (v := .bool false) (w_none rfl) rfl rfl (f_move rfl rfl) ?_
              refine EvK.not (w_not rfl rfl rfl) rfl rfl ?_
              refine EvK.not (w_not rfl rfl rfl) rfl rfl ?_
              refine EvK.not (w_not rfl rfl rfl) rfl rfl ?_
              refine EvK.pure (v := .bool false) (w_none rfl) rfl rfl (f_pickF rfl rfl rfl rfl) ?_
              refine EvK.pure (v := .bool false) (w_none rfl) rfl rfl (f_assign rfl rfl) ?_
              refine EvK.nil ?_
              exact KE.mk false ⟨rfl, trivial⟩ hF
          · refine EvK.not (w_not rfl rfl c2) rfl rfl ?_
            refine EvK.not (w_not rfl rfl c2) rfl rfl ?_
            refine EvK.pure (v := .bool false) (w_none rfl) rfl rfl (f_pickF rfl rfl c2 rfl) ?_
            refine EvK.pure (v := .bool false) (w_none rfl) rfl rfl (f_move rfl rfl) ?_
            refine EvK.not (w_not rfl rfl rfl) rfl rfl ?_
            refine EvK.not (w_not rfl rfl rfl) rfl rfl ?_
            refine EvK.pure (v := .bool false) (w_none rfl) rfl rfl (f_pickF rfl rfl rfl rfl) ?_
            refine EvK.pure (v := .bool false) (w_none rfl) rfl rfl (f_move rfl rfl) ?_
            refine EvK.not (w_not rfl rfl rfl) rfl rfl ?_
            refine EvK.not (w_not rfl rfl rfl) rfl rfl ?_
            refine EvK.pure (v := .bool false) (w_none rfl) rfl rfl (f_pickF rfl rfl rfl rfl) ?_
            refine EvK.pure (v := .bool false) (w_none rfl) rfl rfl (f_move rfl rfl) ?_
            refine EvK.not (w_not rfl rfl rfl) rfl rfl ?_
            refine EvK.not (w_not rfl rfl rfl) rfl rfl ?_
            refine EvK.pure (v := .bool false) (w_none rfl) rfl rfl (f_pickF rfl rfl rfl rfl) ?_
            refine EvK.pure (v := .bool false) (w_none rfl) rfl rfl (f_move rfl rfl) ?_
            refine EvK.not (w_not rfl rfl rfl) rfl rfl ?_
            refine EvK.not (w_not rfl rfl rfl) rfl rfl ?_
            refine EvK.not (w_not rfl rfl rfl) rfl rfl ?_
            refine EvK.pure (v := .bool false) (w_none rfl) rfl rfl (f_pickF rfl rfl rfl rfl) ?_
            refine EvK.pure (v := .bool false) (w_none rfl) rfl rfl (f_move rfl rfl) ?_
            refine EvK.not (w_not rfl rfl rfl) rfl rfl ?_
            refine EvK.not (w_not rfl rfl rfl) rfl rfl ?_
            refine EvK.pure (v := .bool false) (w_none rfl) rfl rfl (f_pickF rfl rfl rfl rfl) ?_
            refine EvK.pure (v := .bool false) (w_none rfl) rfl rfl (f_move rfl rfl) ?_
            refine EvK.not (w_not rfl rfl rfl) rfl rfl ?_
            refine EvK.not (w_not rfl rfl rfl) rfl rfl ?_
            refine EvK.not (w_not rfl rfl rfl) rfl rfl ?_
            refine EvK.pure (v := .bool false) (w_none rfl) rfl rfl (f_pickF rfl rfl rfl rfl) ?_
            refine EvK.pure (v := .bool false) (w_none rfl) rfl rfl (f_move rfl rfl) ?_
            refine EvK.not (w_not rfl rfl rfl) rfl rfl ?_
            refine EvK.not (w_not rfl rfl rfl) rfl rfl ?_
            refine EvK.not (w_not rfl rfl rfl) rfl rfl ?_
            refine EvK.pure (v := .bool false) (w_none rfl) rfl rfl (f_pickF rfl rfl rfl rfl) ?_
            refine EvK.pure (v := .bool false) (w_none rfl) rfl rfl (f_assign rfl rfl) ?_
            refine EvK.nil ?_
            exact KE.mk false ⟨rfl, trivial⟩ hF
      · intro k2 hF
        refine WP.region ?_
        refine EvK.pure (v := .pointer r1.1) (w_none rfl) rfl rfl (f_move rfl rfl) ?_
        refine EvK.pure (v := k32.val (S32.mk false (⟨#[99]⟩ : ByteArray) 0 3)) (w_none rfl) rfl rfl (f_build (cells := k32.enc (S32.mk false (⟨#[99]⟩ : ByteArray) 0 3)) st33 rfl rfl rfl) ?_
        refine EvK.call (w_none rfl) rfl rfl (enterH Try.func16 rfl rfl rfl rfl (flow_Flow_Put.sound hF)) ?_
        rintro _ h13 ⟨r8, rfl, hF⟩
        refine EvK.pure (v := .bool (r8 == 0)) (w_none rfl) rfl rfl (f_eql rfl rfl rfl) ?_
        refine EvK.pure (v := .bool (r8 == 0)) (w_none rfl) rfl rfl (f_move rfl rfl) ?_
        rcases ite_inv hF with ⟨c10, hF⟩ | ⟨c10, hF⟩
        · refine EvK.pure (v := .pointer r1.1) (w_some rfl rfl c10) rfl rfl (f_move rfl rfl) ?_
          refine EvK.pure (v := k32.val (S32.mk true ⟨#[]⟩ 5 0)) (w_some rfl rfl c10) rfl rfl (f_build (cells := k32.enc (S32.mk true ⟨#[]⟩ 5 0)) st33 rfl rfl rfl) ?_
          refine EvK.call (w_some rfl rfl c10) rfl rfl (enterH Try.func16 rfl rfl rfl rfl (flow_Flow_Put.sound hF)) ?_
          rintro _ h14 ⟨r9, rfl, hF⟩
          refine EvK.pure (v := .bool (r9 == 0)) (w_some rfl rfl c10) rfl rfl (f_eql rfl rfl rfl) ?_
          refine EvK.pure (v := .bool (r9 == 0)) (w_none rfl) rfl rfl (f_pickT rfl rfl c10 rfl) ?_
          refine EvK.pure (v := .bool (r9 == 0)) (w_none rfl) rfl rfl (f_move rfl rfl) ?_
          rcases ite_inv hF with ⟨c11, hF⟩ | ⟨c11, hF⟩
          · refine EvK.pure (v := .pointer r1.1) (w_some rfl rfl c11) rfl rfl (f_move rfl rfl) ?_
            refine EvK.call (w_some rfl rfl c11) rfl rfl (enterH Try.func21 rfl rfl rfl rfl (flow_Flow_Queued.sound hF)) ?_
            rintro _ h15 ⟨r10, rfl, hF⟩
            refine EvK.pure (v := .bool (r10 == 2)) (w_some rfl rfl c11) rfl rfl (f_eql rfl rfl rfl) ?_
            refine EvK.pure (v := .bool (r10 == 2)) (w_none rfl) rfl rfl (f_pickT rfl rfl c11 rfl) ?_
            refine EvK.pure (v := .bool (r10 == 2)) (w_none rfl) rfl rfl (f_move rfl rfl) ?_
            rcases ite_inv hF with ⟨c12, hF⟩ | ⟨c12, hF⟩
            · refine EvK.pure (v := .pointer r1.1) (w_some rfl rfl c12) rfl rfl (f_move rfl rfl) ?_
              refine EvK.call (w_some rfl rfl c12) rfl rfl (enterH Try.func13 rfl rfl rfl rfl (flow_Flow_Route.sound hF)) ?_
              rintro _ h16 ⟨r11, rfl, hF⟩
              refine EvK.pure (v := .bool (r11 == 0)) (w_some rfl rfl c12) rfl rfl (f_eql rfl rfl rfl) ?_
              refine EvK.pure (v := .bool (r11 == 0)) (w_none rfl) rfl rfl (f_pickT rfl rfl c12 rfl) ?_
              refine EvK.pure (v := .bool (r11 == 0)) (w_none rfl) rfl rfl (f_move rfl rfl) ?_
              rcases ite_inv hF with ⟨c13, hF⟩ | ⟨c13, hF⟩
              · refine EvK.pure (v := .pointer r1.1) (w_some rfl rfl c13) rfl rfl (f_move rfl rfl) ?_
                refine EvK.call (w_some rfl rfl c13) rfl rfl (enterH Try.func13 rfl rfl rfl rfl (flow_Flow_Route.sound hF)) ?_
                rintro _ h17 ⟨r12, rfl, hF⟩
                refine EvK.pure (v := .bool (r12 == 1)) (w_some rfl rfl c13) rfl rfl (f_eql rfl rfl rfl) ?_
                refine EvK.pure (v := .bool (r12 == 1)) (w_none rfl) rfl rfl (f_pickT rfl rfl c13 rfl) ?_
                refine EvK.pure (v := .bool (r12 == 1)) (w_none rfl) rfl rfl (f_assign rfl rfl) ?_
                refine EvK.nil ?_
                exact KE.mk (r12 == 1) ⟨rfl, rfl, trivial⟩ hF
              · refine EvK.not (w_not rfl rfl c13) rfl rfl ?_
                refine EvK.not (w_not rfl rfl c13) rfl rfl ?_
                refine EvK.not (w_not rfl rfl c13) rfl rfl ?_
                refine EvK.pure (v := .bool false) (w_none rfl) rfl rfl (f_pickF rfl rfl c13 rfl) ?_
                refine EvK.pure (v := .bool false) (w_none rfl) rfl rfl (f_assign rfl rfl) ?_
                refine EvK.nil ?_
                exact KE.mk false ⟨rfl, rfl, trivial⟩ hF
            · refine EvK.not (w_not rfl rfl c12) rfl rfl ?_
              refine EvK.not (w_not rfl rfl c12) rfl rfl ?_
              refine EvK.not (w_not rfl rfl c12) rfl rfl ?_
              refine EvK.pure (v := .bool false) (w_none rfl) rfl rfl (f_pickF rfl rfl c12 rfl) ?_
              refine EvK.pure (v := .bool false) (w_none rfl) rfl rfl (f_move rfl rfl) ?_
              refine EvK.not (w_not rfl rfl rfl) rfl rfl ?_
              refine EvK.not (w_not rfl rfl rfl) rfl rfl ?_
              refine EvK.not (w_not rfl rfl rfl) rfl rfl ?_
              refine EvK.pure (v := .bool false) (w_none rfl) rfl rfl (f_pickF rfl rfl rfl rfl) ?_
              refine EvK.pure (v := .bool false) (w_none rfl) rfl rfl (f_assign rfl rfl) ?_
              refine EvK.nil ?_
              exact KE.mk false ⟨rfl, rfl, trivial⟩ hF
          · refine EvK.not (w_not rfl rfl c11) rfl rfl ?_
            refine EvK.not (w_not rfl rfl c11) rfl rfl ?_
            refine EvK.not (w_not rfl rfl c11) rfl rfl ?_
            refine EvK.pure (v := .bool false) (w_none rfl) rfl rfl (f_pickF rfl rfl c11 rfl) ?_
            refine EvK.pure (v := .bool false) (w_none rfl) rfl rfl (f_move rfl rfl) ?_
            refine EvK.not (w_not rfl rfl rfl) rfl rfl ?_
            refine EvK.not (w_not rfl rfl rfl) rfl rfl ?_
            refine EvK.not (w_not rfl rfl rfl) rfl rfl ?_
            refine EvK.pure (v := .bool false) (w_none rfl) rfl rfl (f_pickF rfl rfl rfl rfl) ?_
            refine EvK.pure (v := .bool false) (w_none rfl) rfl rfl (f_move rfl rfl) ?_
            refine EvK.not (w_not rfl rfl rfl) rfl rfl ?_
            refine EvK.not (w_not rfl rfl rfl) rfl rfl ?_
            refine EvK.not (w_not rfl rfl rfl) rfl rfl ?_
            refine EvK.pure (v := .bool false) (w_none rfl) rfl rfl (f_pickF rfl rfl rfl rfl) ?_
            refine EvK.pure (v := .bool false) (w_none rfl) rfl rfl (f_assign rfl rfl) ?_
            refine EvK.nil ?_
            exact KE.mk false ⟨rfl, rfl, trivial⟩ hF
        · refine EvK.not (w_not rfl rfl c10) rfl rfl ?_
          refine EvK.not (w_not rfl rfl c10) rfl rfl ?_
          refine EvK.not (w_not rfl rfl c10) rfl rfl ?_
          refine EvK.not (w_not rfl rfl c10) rfl rfl ?_
          refine EvK.pure (v := .bool false) (w_none rfl) rfl rfl (f_pickF rfl rfl c10 rfl) ?_
          refine EvK.pure (v := .bool false) (w_none rfl) rfl rfl (f_move rfl rfl) ?_
          refine EvK.not (w_not rfl rfl rfl) rfl rfl ?_
          refine EvK.not (w_not rfl rfl rfl) rfl rfl ?_
          refine EvK.not (w_not rfl rfl rfl) rfl rfl ?_
          refine EvK.pure (v := .bool false) (w_none rfl) rfl rfl (f_pickF rfl rfl rfl rfl) ?_
          refine EvK.pure (v := .bool false) (w_none rfl) rfl rfl (f_move rfl rfl) ?_
          refine EvK.not (w_not rfl rfl rfl) rfl rfl ?_
          refine EvK.not (w_not rfl rfl rfl) rfl rfl ?_
          refine EvK.not (w_not rfl rfl rfl) rfl rfl ?_
          refine EvK.pure (v := .bool false) (w_none rfl) rfl rfl (f_pickF rfl rfl rfl rfl) ?_
          refine EvK.pure (v := .bool false) (w_none rfl) rfl rfl (f_move rfl rfl) ?_
          refine EvK.not (w_not rfl rfl rfl) rfl rfl ?_
          refine EvK.not (w_not rfl rfl rfl) rfl rfl ?_
          refine EvK.not (w_not rfl rfl rfl) rfl rfl ?_
          refine EvK.pure (v := .bool false) (w_none rfl) rfl rfl (f_pickF rfl rfl rfl rfl) ?_
          refine EvK.pure (v := .bool false) (w_none rfl) rfl rfl (f_assign rfl rfl) ?_
          refine EvK.nil ?_
          exact KE.mk false ⟨rfl, rfl, trivial⟩ hF
  · intro k1 hF
    refine WP.region ?_
    refine EvK.pure (v := .int .i64 r1.2) (w_none rfl) rfl rfl (f_move rfl rfl) ?_
    refine EvK.pure (v := .bool (r1.2 != 0)) (w_none rfl) rfl rfl (f_neq rfl rfl rfl) ?_
    refine EvK.pure (v := .bool (r1.2 != 0)) (w_none rfl) rfl rfl (f_move rfl rfl) ?_
    rcases ite_inv hF with ⟨c14, hF⟩ | ⟨c14, hF⟩
    · refine EvK.not (w_not rfl rfl c14) rfl rfl ?_
      refine EvK.not (w_not rfl rfl c14) rfl rfl ?_
      refine EvK.pure (v := .bool true) (w_none rfl) rfl rfl (f_pickT rfl rfl c14 rfl) ?_
      refine EvK.pure (v := .bool true) (w_none rfl) rfl rfl (f_move rfl rfl) ?_
      refine EvK.not (w_not rfl rfl rfl) rfl rfl ?_
      refine EvK.not (w_not rfl rfl rfl) rfl rfl ?_
      refine EvK.pure (v := .bool true) (w_none rfl) rfl rfl (f_pickT rfl rfl rfl rfl) ?_
      refine EvK.pure (v := .bool true) (w_none rfl) rfl rfl (f_move rfl rfl) ?_
      refine EvK.not (w_not rfl rfl rfl) rfl rfl ?_
      refine EvK.not (w_not rfl rfl rfl) rfl rfl ?_
      refine EvK.pure (v := .bool true) (w_none rfl) rfl rfl (f_pickT rfl rfl rfl rfl) ?_
      refine EvK.nil ?_
      exact KE.mk true ⟨rfl, rfl, trivial⟩ hF
    · refine EvK.pure (v := .pointer r1.1) (w_some rfl rfl c14) rfl rfl (f_move rfl rfl) ?_
      refine EvK.pure (v := .bool r1.1.isNone) (w_some rfl rfl c14) rfl rfl (f_peqln Try.underlying24 rfl rfl rfl) ?_
      refine EvK.pure (v := .bool r1.1.isNone) (w_none rfl) rfl rfl (f_pickF rfl rfl c14 rfl) ?_
      refine EvK.pure (v := .bool r1.1.isNone) (w_none rfl) rfl rfl (f_move rfl rfl) ?_
      rcases ite_inv hF with ⟨c15, hF⟩ | ⟨c15, hF⟩
      · refine EvK.not (w_not rfl rfl c15) rfl rfl ?_
        refine EvK.not (w_not rfl rfl c15) rfl rfl ?_
        refine EvK.pure (v := .bool true) (w_none rfl) rfl rfl (f_pickT rfl rfl c15 rfl) ?_
        refine EvK.pure (v := .bool true) (w_none rfl) rfl rfl (f_move rfl rfl) ?_
        refine EvK.not (w_not rfl rfl rfl) rfl rfl ?_
        refine EvK.not (w_not rfl rfl rfl) rfl rfl ?_
        refine EvK.pure (v := .bool true) (w_none rfl) rfl rfl (f_pickT rfl rfl rfl rfl) ?_
        refine EvK.nil ?_
        exact KE.mk true ⟨rfl, rfl, trivial⟩ hF
      · refine EvK.pure (v := .pointer r2.1) (w_some rfl rfl c15) rfl rfl (f_move rfl rfl) ?_
        refine EvK.pure (v := .bool (!r2.1.isNone)) (w_some rfl rfl c15) rfl rfl (f_pneqn Try.underlying24 rfl rfl rfl) ?_
        refine EvK.pure (v := .bool (!r2.1.isNone)) (w_none rfl) rfl rfl (f_pickF rfl rfl c15 rfl) ?_
        refine EvK.pure (v := .bool (!r2.1.isNone)) (w_none rfl) rfl rfl (f_move rfl rfl) ?_
        rcases ite_inv hF with ⟨c16, hF⟩ | ⟨c16, hF⟩
        · refine EvK.not (w_not rfl rfl c16) rfl rfl ?_
          refine EvK.not (w_not rfl rfl c16) rfl rfl ?_
          refine EvK.pure (v := .bool true) (w_none rfl) rfl rfl (f_pickT rfl rfl c16 rfl) ?_
          refine EvK.nil ?_
          exact KE.mk true ⟨rfl, rfl, trivial⟩ hF
        · refine EvK.pure (v := .int .i64 r2.2) (w_some rfl rfl c16) rfl rfl (f_move rfl rfl) ?_
          refine EvK.pure (v := .bool (r2.2 != 1)) (w_some rfl rfl c16) rfl rfl (f_neq rfl rfl rfl) ?_
          refine EvK.pure (v := .bool (r2.2 != 1)) (w_none rfl) rfl rfl (f_pickF rfl rfl c16 rfl) ?_
          refine EvK.nil ?_
          exact KE.mk (r2.2 != 1) ⟨rfl, rfl, trivial⟩ hF
end Go.Proofs.Ytanpaamamfabkaa
