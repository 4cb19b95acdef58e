/- Functions as predicates over the heap, and that the code comes to them. Printed by gen.py, merged by group.py. -/
import Derived.Test.YtanpaamamfabkaaG0
import Derived.Test.YtanpaamamfabkaaG1
import Derived.Test.YtanpaamamfabkaaG2
import Derived.Test.YtanpaamamfabkaaG3
import Derived.Test.YtanpaamamfabkaaG4
import Derived.Test.YtanpaamamfabkaaTy
namespace Go.Proofs.Ytanpaamamfabkaa
open Go Go.Tr
set_option linter.unusedVariables false
set_option maxRecDepth 100000
set_option maxHeartbeats 400000
def spatelaw15_sizes.b1 (p0 : Option Addr) (p1 : Option Addr) (s : Int) (h : H) (K : Int ⊕ (Unit ⊕ Bool) → H → Prop) : Prop :=
  if (decide (s ≤ 9)) = true then
    jn (fun (k2 : Bool → H → Prop) =>
      flow_Flow_Queued p0 s h fun r3 h5 =>
      spateref15_Flow_Queued p1 s h5 fun r4 h6 =>
      if (r3 != r4) = true then
        k2 true h6
      else
        flow_Flow_Boxed p0 s h6 fun r5 h7 =>
        spateref15_Flow_Boxed p1 s h7 fun r6 h8 =>
        k2 (r5 != r6) h8) fun s2 h4 =>
    if s2 = true then
      K (.inr (.inr false)) h4
    else
      K (.inl (IntKind.i64.wrap (s + 1))) h4
  else
    K (.inr (.inl ())) h
/-- spate/spatelaw15.sizes -/
def spatelaw15_sizes (a0 : Option Addr) (a1 : Option Addr) (h : H) (Q : Bool → H → Prop) : Prop :=
  jn (fun (k1 : Unit → H → Prop) =>
    loopE (spatelaw15_sizes.b1 a0 a1) (-1) h (sumK (fun r7 hh => k1 r7 hh) (fun r8 hh => Q r8 hh))) fun s1 h1 =>
  flow_Flow_Empty a0 h1 fun r1 h2 =>
  spateref15_Flow_Empty a1 h2 fun r2 h3 =>
  Q (r1 == r2) h3
theorem spatelaw15_sizes.sound {a0 : Option Addr} {a1 : Option Addr} {h : H} {Q : Bool → H → Prop} (hF : spatelaw15_sizes a0 a1 h Q) :
    CallsH Try.prog 12 (List.toArray (α := Value) [.pointer a0, .pointer a1]) h fun v h' => ∃ x : Bool, v = .bool x ∧ Q x h' := by
  refine CallsH.of_body Try.func12 rfl 31 rfl rfl ?_
  refine WP.seq ?_
  refine WP.region ?_
  refine EvK.pure (v := .bool false) (w_none rfl) rfl rfl (f_assign rfl rfl) ?_
  refine EvK.nil ?_
  refine WP.joinF (fun (s1 : Unit) => [(0, .pointer a0), (1, .pointer a1)]) hF ?_ ?_
  · intro s1 E0 h1 hF
    refine WP.seq ?_
    refine WP.region ?_
    refine EvK.pure (v := .pointer a0) (w_none rfl) rfl rfl (f_move rfl rfl) ?_
    refine EvK.call (w_none rfl) rfl rfl (enterH Try.func19 rfl rfl rfl rfl (flow_Flow_Empty.sound hF)) ?_
    rintro _ h2 ⟨r1, rfl, hF⟩
    refine EvK.pure (v := .pointer a1) (w_none rfl) rfl rfl (f_move rfl rfl) ?_
    refine EvK.call (w_none rfl) rfl rfl (enterH Try.func30 rfl rfl rfl rfl (spateref15_Flow_Empty.sound hF)) ?_
    rintro _ h3 ⟨r2, rfl, hF⟩
    refine EvK.pure (v := .bool (r1 == r2)) (w_none rfl) rfl rfl (f_beql Try.underlying4 rfl rfl rfl) ?_
    refine EvK.pure (v := .bool (r1 == r2)) (w_none rfl) rfl rfl (f_assign rfl rfl) ?_
    refine EvK.nil ?_
    refine WP.ret ?_
    exact Ret.mk (vs := [.bool (r1 == r2)]) (r1 == r2) ⟨rfl, trivial⟩ rfl hF
  · intro k1 hF
    refine WP.seq ?_
    refine WP.region ?_
    refine EvK.pure (v := .int .i64 (-1)) (w_none rfl) rfl rfl (f_assign rfl rfl) ?_
    refine EvK.nil ?_
    refine WP.block ?_
    refine WP.loopF (fun (s2 : Int) => [(5, .int .i64 s2), (0, .pointer a0), (1, .pointer a1)]) hF ⟨rfl, rfl, rfl, trivial⟩ ?_
    intro k2 s2 E0 h4 hF
    refine WP.seq ?_
    refine WP.seq ?_
    refine WP.region ?_
    refine EvK.pure (v := .int .i64 s2) (w_none rfl) rfl rfl (f_move rfl rfl) ?_
    refine EvK.pure (v := .bool (decide (s2 ≤ 9))) (w_none rfl) rfl rfl (f_leq rfl rfl rfl) ?_
    refine EvK.nil ?_
    rcases ite_inv hF with ⟨c1, hF⟩ | ⟨c1, hF⟩
    · refine WP.cond_true _ rfl c1 ?_
      refine WP.skip ?_
      refine WP.seq ?_
      refine WP.block ?_
      refine WP.joinF (fun (s3 : Bool) => [(25, .bool s3), (0, .pointer a0), (1, .pointer a1), (5, .int .i64 s2)]) hF ?_ ?_
      · intro s3 E0 h5 hF
        rcases ite_inv hF with ⟨c2, hF⟩ | ⟨c2, hF⟩
        · refine WP.cond_true _ rfl c2 ?_
          refine WP.seq ?_
          refine WP.region ?_
          refine EvK.pure (v := .bool false) (w_none rfl) rfl rfl (f_assign rfl rfl) ?_
          refine EvK.nil ?_
          refine WP.ret ?_
          exact Ret.mk (vs := [.bool false]) false ⟨rfl, trivial⟩ rfl hF
        · refine WP.cond_false _ rfl c2 ?_
          refine WP.skip ?_
          refine WP.region ?_
          refine EvK.pure (v := .int .i64 s2) (w_none rfl) rfl rfl (f_move rfl rfl) ?_
          refine EvK.pure (v := .int .i64 (IntKind.i64.wrap (s2 + 1))) (w_none rfl) rfl rfl (f_add rfl rfl rfl) ?_
          refine EvK.pure (v := .int .i64 (IntKind.i64.wrap (s2 + 1))) (w_none rfl) rfl rfl (f_assign rfl rfl) ?_
          refine EvK.nil ?_
          exact KE.mk (IntKind.i64.wrap (s2 + 1)) ⟨rfl, rfl, rfl, trivial⟩ hF
      · intro k3 hF
        refine WP.region ?_
        refine EvK.pure (v := .pointer a0) (w_none rfl) rfl rfl (f_move rfl rfl) ?_
        refine EvK.pure (v := .int .i64 s2) (w_none rfl) rfl rfl (f_move rfl rfl) ?_
        refine EvK.call (w_none rfl) rfl rfl (enterH Try.func21 rfl rfl rfl rfl (flow_Flow_Queued.sound hF)) ?_
        rintro _ h6 ⟨r3, rfl, hF⟩
        refine EvK.pure (v := .pointer a1) (w_none rfl) rfl rfl (f_move rfl rfl) ?_
        refine EvK.pure (v := .int .i64 s2) (w_none rfl) rfl rfl (f_move rfl rfl) ?_
        refine EvK.call (w_none rfl) rfl rfl (enterH Try.func28 rfl rfl rfl rfl (spateref15_Flow_Queued.sound hF)) ?_
        rintro _ h7 ⟨r4, rfl, hF⟩
        refine EvK.pure (v := .bool (r3 != r4)) (w_none rfl) rfl rfl (f_neq rfl rfl rfl) ?_
        refine EvK.pure (v := .bool (r3 != r4)) (w_none rfl) rfl rfl (f_move rfl rfl) ?_
        rcases ite_inv hF with ⟨c3, hF⟩ | ⟨c3, hF⟩
        · refine EvK.not (w_not rfl rfl c3) rfl rfl ?_
          refine EvK.not (w_not rfl rfl c3) rfl rfl ?_
          refine EvK.not (w_not rfl rfl c3) rfl rfl ?_
          refine EvK.not (w_not rfl rfl c3) rfl rfl ?_
          refine EvK.not (w_not rfl rfl c3) rfl rfl ?_
          refine EvK.not (w_not rfl rfl c3) rfl rfl ?_
          refine EvK.not (w_not rfl rfl c3) rfl rfl ?_
          refine EvK.pure (v := .bool true) (w_none rfl) rfl rfl (f_pickT rfl rfl c3 rfl) ?_
          refine EvK.nil ?_
          exact KE.mk true ⟨rfl, rfl, rfl, rfl, trivial⟩ hF
        · refine EvK.pure (v := .pointer a0) (w_some rfl rfl c3) rfl rfl (f_move rfl rfl) ?_
          refine EvK.pure (v := .int .i64 s2) (w_some rfl rfl c3) rfl rfl (f_move rfl rfl) ?_
          refine EvK.call (w_some rfl rfl c3) rfl rfl (enterH Try.func23 rfl rfl rfl rfl (flow_Flow_Boxed.sound hF)) ?_
          rintro _ h8 ⟨r5, rfl, hF⟩
          refine EvK.pure (v := .pointer a1) (w_some rfl rfl c3) rfl rfl (f_move rfl rfl) ?_
          refine EvK.pure (v := .int .i64 s2) (w_some rfl rfl c3) rfl rfl (f_move rfl rfl) ?_
          refine EvK.call (w_some rfl rfl c3) rfl rfl (enterH Try.func29 rfl rfl rfl rfl (spateref15_Flow_Boxed.sound hF)) ?_
          rintro _ h9 ⟨r6, rfl, hF⟩
          refine EvK.pure (v := .bool (r5 != r6)) (w_some rfl rfl c3) rfl rfl (f_neq rfl rfl rfl) ?_
          refine EvK.pure (v := .bool (r5 != r6)) (w_none rfl) rfl rfl (f_pickF rfl rfl c3 rfl) ?_
          refine EvK.nil ?_
          exact KE.mk (r5 != r6) ⟨rfl, rfl, rfl, rfl, trivial⟩ hF
    · refine WP.cond_false _ rfl c1 ?_
      refine WP.exit ?_
      exact KE.mk () ⟨rfl, rfl, trivial⟩ hF
end Go.Proofs.Ytanpaamamfabkaa

namespace Go.Proofs.Ytanpaamamfabkaa
open Go Go.Tr
set_option linter.unusedVariables false
set_option maxRecDepth 100000
set_option maxHeartbeats 400000
def spatelaw15_FlowPlays.b1 (p3 : Sl) (p9 : Option Addr) (p11 : Option Addr) (s : Int) (h : H) (K : Int ⊕ (Unit ⊕ Bool) → H → Prop) : Prop :=
  if (decide (s < (p3.len : Int))) = true then
    jn (fun (k3 : Bool → H → Prop) =>
      rd (ixA 6 p3 s) fun q1 =>
      rd (ld k34 q1 h) fun x1 =>
      spatelaw15_told p9 p11 x1 h fun r4 h7 =>
      if (!r4) = true then
        k3 true h7
      else
        spatelaw15_sizes p9 p11 h7 fun r5 h8 =>
        k3 (!r5) h8) fun s3 h6 =>
    if s3 = true then
      K (.inr (.inr false)) h6
    else
      K (.inl (IntKind.i64.wrap (s + 1))) h6
  else
    K (.inr (.inl ())) h
/-- spate/spatelaw15.FlowPlays -/
def spatelaw15_FlowPlays (a0 : Int) (a1 : Int) (a2 : Int) (a3 : Sl) (h : H) (Q : Bool → H → Prop) : Prop :=
  spatelaw15_known  h fun r1 h1 =>
  if (!r1) = true then
    Q false h1
  else
    if (decide ((a3.len : Int) > 5000)) = true then
      Q true h1
    else
      flow_New a0 a1 a2 h1 fun r2 h2 =>
      spateref15_New a0 a1 a2 h2 fun r3 h3 =>
      jn (fun (k1 : Bool → H → Prop) =>
        if (r2.2 != r3.2) = true then
          k1 true h3
        else
          k1 (!(r2.1.isNone == r3.1.isNone)) h3) fun s1 h4 =>
      if s1 = true then
        Q false h4
      else
        if r2.1.isNone = true then
          Q true h4
        else
          jn (fun (k2 : Unit → H → Prop) =>
            loopE (spatelaw15_FlowPlays.b1 a3 r2.1 r3.1) 0 h4 (sumK (fun r6 hh => k2 r6 hh) (fun r7 hh => Q r7 hh))) fun s2 h5 =>
          Q true h5
theorem spatelaw15_FlowPlays.sound {a0 : Int} {a1 : Int} {a2 : Int} {a3 : Sl} {h : H} {Q : Bool → H → Prop} (hF : spatelaw15_FlowPlays a0 a1 a2 a3 h Q) :
    CallsH Try.prog 3 (List.toArray (α := Value) [.int .i64 a0, .int .i64 a1, .int .i64 a2, Sl.val a3]) h fun v h' => ∃ x : Bool, v = .bool x ∧ Q x h' := by
  refine CallsH.of_body Try.func3 rfl 65 rfl rfl ?_
  refine WP.seq ?_
  refine WP.region ?_
  refine EvK.pure (v := .bool false) (w_none rfl) rfl rfl (f_assign rfl rfl) ?_
  refine EvK.nil ?_
  refine WP.seq ?_
  refine WP.seq ?_
  refine WP.region ?_
  refine EvK.call (w_none rfl) rfl rfl (enterH Try.func8 rfl rfl rfl rfl (spatelaw15_known.sound hF)) ?_
  rintro _ h1 ⟨r1, rfl, hF⟩
  refine EvK.pure (v := .bool (!r1)) (w_none rfl) rfl rfl (f_not rfl rfl) ?_
  refine EvK.nil ?_
  rcases ite_inv hF with ⟨c1, hF⟩ | ⟨c1, hF⟩
  · refine WP.cond_true _ rfl c1 ?_
    refine WP.seq ?_
    refine WP.region ?_
    refine EvK.pure (v := .bool false) (w_none rfl) rfl rfl (f_assign rfl rfl) ?_
    refine EvK.nil ?_
    refine WP.ret ?_
    exact Ret.mk (vs := [.bool false]) false ⟨rfl, trivial⟩ rfl hF
  · refine WP.cond_false _ rfl c1 ?_
    refine WP.skip ?_
    refine WP.seq ?_
    refine WP.seq ?_
    refine WP.region ?_
    refine EvK.pure (v := Sl.val a3) (w_none rfl) rfl rfl (f_move rfl rfl) ?_
    refine EvK.pure (v := .int .i64 (a3.len : Int)) (w_none rfl) rfl rfl (f_lenL (s := a3) Try.underlying22 rfl rfl) ?_
    refine EvK.pure (v := .bool (decide ((a3.len : Int) > 5000))) (w_none rfl) rfl rfl (f_gtr rfl rfl rfl) ?_
    refine EvK.nil ?_
    rcases ite_inv hF with ⟨c2, hF⟩ | ⟨c2, hF⟩
    · refine WP.cond_true _ rfl c2 ?_
      refine WP.seq ?_
      refine WP.region ?_
      refine EvK.pure (v := .bool true) (w_none rfl) rfl rfl (f_assign rfl rfl) ?_
      refine EvK.nil ?_
      refine WP.ret ?_
      exact Ret.mk (vs := [.bool true]) true ⟨rfl, trivial⟩ rfl hF
    · refine WP.cond_false _ rfl c2 ?_
      refine WP.skip ?_
      refine WP.seq ?_
      refine WP.region ?_
      refine EvK.pure (v := .int .i64 a0) (w_none rfl) rfl rfl (f_move rfl rfl) ?_
      refine EvK.pure (v := .int .i64 a1) (w_none rfl) rfl rfl (f_move rfl rfl) ?_
      refine EvK.pure (v := .int .i64 a2) (w_none rfl) rfl rfl (f_move rfl rfl) ?_
      refine EvK.call (w_none rfl) rfl rfl (enterH Try.func9 rfl rfl rfl rfl (flow_New.sound hF)) ?_
      rintro _ h2 ⟨r2, rfl, hF⟩
      refine EvK.pure (v := .tuple #[.pointer r2.1, .int .i64 r2.2]) (w_none rfl) rfl rfl (f_move rfl rfl) ?_
      refine EvK.pure (v := .pointer r2.1) (w_none rfl) rfl rfl (f_extract (vs := #[.pointer r2.1, .int .i64 r2.2]) rfl rfl rfl) ?_
      refine EvK.pure (v := .int .i64 r2.2) (w_none rfl) rfl rfl (f_extract (vs := #[.pointer r2.1, .int .i64 r2.2]) rfl rfl rfl) ?_
      refine EvK.pure (v := .pointer r2.1) (w_none rfl) rfl rfl (f_assign rfl rfl) ?_
      refine EvK.pure (v := .int .i64 r2.2) (w_none rfl) rfl rfl (f_assign rfl rfl) ?_
      refine EvK.nil ?_
      refine WP.seq ?_
      refine WP.region ?_
      refine EvK.pure (v := .int .i64 a0) (w_none rfl) rfl rfl (f_move rfl rfl) ?_
      refine EvK.pure (v := .int .i64 a1) (w_none rfl) rfl rfl (f_move rfl rfl) ?_
      refine EvK.pure (v := .int .i64 a2) (w_none rfl) rfl rfl (f_move rfl rfl) ?_
      refine EvK.call (w_none rfl) rfl rfl (enterH Try.func10 rfl rfl rfl rfl (spateref15_New.sound hF)) ?_
      rintro _ h3 ⟨r3, rfl, hF⟩
      refine EvK.pure (v := .tuple #[.pointer r3.1, .int .i64 r3.2]) (w_none rfl) rfl rfl (f_move rfl rfl) ?_
      refine EvK.pure (v := .pointer r3.1) (w_none rfl) rfl rfl (f_extract (vs := #[.pointer r3.1, .int .i64 r3.2]) rfl rfl rfl) ?_
      refine EvK.pure (v := .int .i64 r3.2) (w_none rfl) rfl rfl (f_extract (vs := #[.pointer r3.1, .int .i64 r3.2]) rfl rfl rfl) ?_
      refine EvK.pure (v := .pointer r3.1) (w_none rfl) rfl rfl (f_assign rfl rfl) ?_
      refine EvK.pure (v := .int .i64 r3.2) (w_none rfl) rfl rfl (f_assign rfl rfl) ?_
      refine EvK.nil ?_
      refine WP.seq ?_
      refine WP.joinF (fun (s1 : Bool) => [(42, .bool s1), (3, Sl.val a3), (9, .pointer r2.1), (11, .pointer r3.1)]) hF ?_ ?_
      · intro s1 E0 h4 hF
        rcases ite_inv hF with ⟨c3, hF⟩ | ⟨c3, hF⟩
        · refine WP.cond_true _ rfl c3 ?_
          refine WP.seq ?_
          refine WP.region ?_
          refine EvK.pure (v := .bool false) (w_none rfl) rfl rfl (f_assign rfl rfl) ?_
          refine EvK.nil ?_
          refine WP.ret ?_
          exact Ret.mk (vs := [.bool false]) false ⟨rfl, trivial⟩ rfl hF
        · refine WP.cond_false _ rfl c3 ?_
          refine WP.skip ?_
          refine WP.seq ?_
          refine WP.seq ?_
          refine WP.region ?_
          refine EvK.pure (v := .pointer r2.1) (w_none rfl) rfl rfl (f_move rfl rfl) ?_
          refine EvK.pure (v := .bool r2.1.isNone) (w_none rfl) rfl rfl (f_peqln Try.underlying24 rfl rfl rfl) ?_
          refine EvK.nil ?_
          rcases ite_inv hF with ⟨c4, hF⟩ | ⟨c4, hF⟩
          · refine WP.cond_true _ rfl c4 ?_
            refine WP.seq ?_
            refine WP.region ?_
            refine EvK.pure (v := .bool true) (w_none rfl) rfl rfl (f_assign rfl rfl) ?_
            refine EvK.nil ?_
            refine WP.ret ?_
            exact Ret.mk (vs := [.bool true]) true ⟨rfl, trivial⟩ rfl hF
          · refine WP.cond_false _ rfl c4 ?_
            refine WP.skip ?_
            refine WP.joinF (fun (s2 : Unit) => []) hF ?_ ?_
            · intro s2 E0 h5 hF
              refine WP.seq ?_
              refine WP.region ?_
              refine EvK.pure (v := .bool true) (w_none rfl) rfl rfl (f_assign rfl rfl) ?_
              refine EvK.nil ?_
              refine WP.ret ?_
              exact Ret.mk (vs := [.bool true]) true ⟨rfl, trivial⟩ rfl hF
            · intro k2 hF
              refine WP.seq ?_
              refine WP.region ?_
              refine EvK.pure (v := .int .i64 0) (w_none rfl) rfl rfl (f_assign rfl rfl) ?_
              refine EvK.nil ?_
              refine WP.block ?_
              refine WP.loopF (fun (s3 : Int) => [(13, .int .i64 s3), (3, Sl.val a3), (9, .pointer r2.1), (11, .pointer r3.1)]) hF ⟨rfl, rfl, rfl, rfl, trivial⟩ ?_
              intro k3 s3 E0 h6 hF
              refine WP.seq ?_
              refine WP.seq ?_
              refine WP.region ?_
              refine EvK.pure (v := .int .i64 s3) (w_none rfl) rfl rfl (f_move rfl rfl) ?_
              refine EvK.pure (v := Sl.val a3) (w_none rfl) rfl rfl (f_move rfl rfl) ?_
              refine EvK.pure (v := .int .i64 (a3.len : Int)) (w_none rfl) rfl rfl (f_lenL (s := a3) Try.underlying22 rfl rfl) ?_
              refine EvK.pure (v := .bool (decide (s3 < (a3.len : Int)))) (w_none rfl) rfl rfl (f_lss rfl rfl rfl) ?_
              refine EvK.nil ?_
              rcases ite_inv hF with ⟨c5, hF⟩ | ⟨c5, hF⟩
              · refine WP.cond_true _ rfl c5 ?_
                refine WP.skip ?_
                refine WP.seq ?_
                refine WP.block ?_
                refine WP.joinF (fun (s4 : Bool) => [(64, .bool s4), (3, Sl.val a3), (9, .pointer r2.1), (11, .pointer r3.1), (13, .int .i64 s3)]) hF ?_ ?_
                · intro s4 E0 h7 hF
                  rcases ite_inv hF with ⟨c6, hF⟩ | ⟨c6, hF⟩
                  · refine WP.cond_true _ rfl c6 ?_
                    refine WP.seq ?_
                    refine WP.region ?_
                    refine EvK.pure (v := .bool false) (w_none rfl) rfl rfl (f_assign rfl rfl) ?_
                    refine EvK.nil ?_
                    refine WP.ret ?_
                    exact Ret.mk (vs := [.bool false]) false ⟨rfl, trivial⟩ rfl hF
                  · refine WP.cond_false _ rfl c6 ?_
                    refine WP.skip ?_
                    refine WP.region ?_
                    refine EvK.pure (v := .int .i64 s3) (w_none rfl) rfl rfl (f_move rfl rfl) ?_
                    refine EvK.pure (v := .int .i64 (IntKind.i64.wrap (s3 + 1))) (w_none rfl) rfl rfl (f_add rfl rfl rfl) ?_
                    refine EvK.pure (v := .int .i64 (IntKind.i64.wrap (s3 + 1))) (w_none rfl) rfl rfl (f_assign rfl rfl) ?_
                    refine EvK.nil ?_
                    exact KE.mk (IntKind.i64.wrap (s3 + 1)) ⟨rfl, rfl, rfl, rfl, trivial⟩ hF
                · intro k4 hF
                  refine WP.region ?_
                  refine EvK.pure (v := .pointer r2.1) (w_none rfl) rfl rfl (f_move rfl rfl) ?_
                  refine EvK.pure (v := .pointer r3.1) (w_none rfl) rfl rfl (f_move rfl rfl) ?_
                  refine EvK.pure (v := Sl.val a3) (w_none rfl) rfl rfl (f_move rfl rfl) ?_
                  refine EvK.pure (v := .int .i64 s3) (w_none rfl) rfl rfl (f_move rfl rfl) ?_
                  obtain ⟨q1, hq1, hF⟩ := hF
                  refine EvK.pure (v := .pointer (some q1)) (w_none rfl) rfl rfl (f_indexAddr (s := a3) Try.underlying22 ty35.size rfl rfl rfl hq1) ?_
                  obtain ⟨x1, hx1, hF⟩ := hF
                  refine EvK.read (v := k34.val x1) (w_none rfl) rfl rfl (f_load k34 ty35 rfl rfl hx1 rfl) ?_
                  refine EvK.call (w_none rfl) rfl rfl (enterH Try.func11 rfl rfl rfl rfl (spatelaw15_told.sound hF)) ?_
                  rintro _ h8 ⟨r4, rfl, hF⟩
                  refine EvK.pure (v := .bool (!r4)) (w_none rfl) rfl rfl (f_not rfl rfl) ?_
                  refine EvK.pure (v := .bool (!r4)) (w_none rfl) rfl rfl (f_move rfl rfl) ?_
                  rcases ite_inv hF with ⟨c7, hF⟩ | ⟨c7, hF⟩
                  · refine EvK.not (w_not rfl rfl c7) rfl rfl ?_
                    refine EvK.not (w_not rfl rfl c7) rfl rfl ?_
                    refine EvK.not (w_not rfl rfl c7) rfl rfl ?_
                    refine EvK.not (w_not rfl rfl c7) rfl rfl ?_
                    refine EvK.pure (v := .bool true) (w_none rfl) rfl rfl (f_pickT rfl rfl c7 rfl) ?_
                    refine EvK.nil ?_
                    exact KE.mk true ⟨rfl, rfl, rfl, rfl, rfl, trivial⟩ hF
                  · refine EvK.pure (v := .pointer r2.1) (w_some rfl rfl c7) rfl rfl (f_move rfl rfl) ?_
                    refine EvK.pure (v := .pointer r3.1) (w_some rfl rfl c7) rfl rfl (f_move rfl rfl) ?_
                    refine EvK.call (w_some rfl rfl c7) rfl rfl (enterH Try.func12 rfl rfl rfl rfl (spatelaw15_sizes.sound hF)) ?_
                    rintro _ h9 ⟨r5, rfl, hF⟩
                    refine EvK.pure (v := .bool (!r5)) (w_some rfl rfl c7) rfl rfl (f_not rfl rfl) ?_
                    refine EvK.pure (v := .bool (!r5)) (w_none rfl) rfl rfl (f_pickF rfl rfl c7 rfl) ?_
                    refine EvK.nil ?_
                    exact KE.mk (!r5) ⟨rfl, rfl, rfl, rfl, rfl, trivial⟩ hF
              · refine WP.cond_false _ rfl c5 ?_
                refine WP.exit ?_
                exact KE.mk () trivial hF
      · intro k1 hF
        refine WP.region ?_
        refine EvK.pure (v := .int .i64 r2.2) (w_none rfl) rfl rfl (f_move rfl rfl) ?_
        refine EvK.pure (v := .int .i64 r3.2) (w_none rfl) rfl rfl (f_move rfl rfl) ?_
        refine EvK.pure (v := .bool (r2.2 != r3.2)) (w_none rfl) rfl rfl (f_neq rfl rfl rfl) ?_
        refine EvK.pure (v := .bool (r2.2 != r3.2)) (w_none rfl) rfl rfl (f_move rfl rfl) ?_
        rcases ite_inv hF with ⟨c8, hF⟩ | ⟨c8, hF⟩
        · refine EvK.not (w_not rfl rfl c8) rfl rfl ?_
          refine EvK.not (w_not rfl rfl c8) rfl rfl ?_
          refine EvK.not (w_not rfl rfl c8) rfl rfl ?_
          refine EvK.not (w_not rfl rfl c8) rfl rfl ?_
          refine EvK.not (w_not rfl rfl c8) rfl rfl ?_
          refine EvK.pure (v := .bool true) (w_none rfl) rfl rfl (f_pickT rfl rfl c8 rfl) ?_
          refine EvK.nil ?_
          exact KE.mk true ⟨rfl, rfl, rfl, rfl, trivial⟩ hF
        · refine EvK.pure (v := .pointer r2.1) (w_some rfl rfl c8) rfl rfl (f_move rfl rfl) ?_
          refine EvK.pure (v := .bool r2.1.isNone) (w_some rfl rfl c8) rfl rfl (f_peqln Try.underlying24 rfl rfl rfl) ?_
          refine EvK.pure (v := .pointer r3.1) (w_some rfl rfl c8) rfl rfl (f_move rfl rfl) ?_
          refine EvK.pure (v := .bool r3.1.isNone) (w_some rfl rfl c8) rfl rfl (f_peqln Try.underlying28 rfl rfl rfl) ?_
          refine EvK.pure (v := .bool (!(r2.1.isNone == r3.1.isNone))) (w_some rfl rfl c8) rfl rfl (f_bneq Try.underlying4 rfl rfl rfl) ?_
          refine EvK.pure (v := .bool (!(r2.1.isNone == r3.1.isNone))) (w_none rfl) rfl rfl (f_pickF rfl rfl c8 rfl) ?_
          refine EvK.nil ?_
          exact KE.mk (!(r2.1.isNone == r3.1.isNone)) ⟨rfl, rfl, rfl, rfl, trivial⟩ hF
end Go.Proofs.Ytanpaamamfabkaa

namespace Go.Proofs.Ytanpaamamfabkaa
open Go Go.Tr
set_option linter.unusedVariables false
set_option maxRecDepth 100000
set_option maxHeartbeats 400000
/-- spate/spatelaw15.FlowRoutes -/
def spatelaw15_FlowRoutes (a0 : Int) (a1 : ByteArray) (h : H) (Q : Bool → H → Prop) : Prop :=
  spatelaw15_known  h fun r1 h1 =>
  if (!r1) = true then
    Q false h1
  else
    flow_New 1 a0 1 h1 fun r2 h2 =>
    jn (fun (k1 : Bool → H → Prop) =>
      if (r2.2 != 0) = true then
        k1 true h2
      else
        if r2.1.isNone = true then
          k1 true h2
        else
          k1 (decide ((a1.size : Int) > 1048576)) h2) fun s1 h3 =>
    if s1 = true then
      jn (fun (k2 : Bool → H → Prop) =>
        if (decide (a0 < 1)) = true then
          k2 true h3
        else
          if (decide (a0 > 8)) = true then
            k2 true h3
          else
            k2 (decide ((a1.size : Int) > 1048576)) h3) fun s2 h4 =>
      Q s2 h4
    else
      flow_Flow_Route r2.1 a1 h3 fun r3 h5 =>
      spateref15_Operator a1 a0 h5 fun r4 h6 =>
      Q (r3 == r4) h6
theorem spatelaw15_FlowRoutes.sound {a0 : Int} {a1 : ByteArray} {h : H} {Q : Bool → H → Prop} (hF : spatelaw15_FlowRoutes a0 a1 h Q) :
    CallsH Try.prog 4 (List.toArray (α := Value) [.int .i64 a0, .string a1]) h fun v h' => ∃ x : Bool, v = .bool x ∧ Q x h' := by
  refine CallsH.of_body Try.func4 rfl 43 rfl rfl ?_
  refine WP.seq ?_
  refine WP.region ?_
  refine EvK.pure (v := .bool false) (w_none rfl) rfl rfl (f_assign rfl rfl) ?_
  refine EvK.nil ?_
  refine WP.seq ?_
  refine WP.seq ?_
  refine WP.region ?_
  refine EvK.call (w_none rfl) rfl rfl (enterH Try.func8 rfl rfl rfl rfl (spatelaw15_known.sound hF)) ?_
  rintro _ h1 ⟨r1, rfl, hF⟩
  refine EvK.pure (v := .bool (!r1)) (w_none rfl) rfl rfl (f_not rfl rfl) ?_
  refine EvK.nil ?_
  rcases ite_inv hF with ⟨c1, hF⟩ | ⟨c1, hF⟩
  · refine WP.cond_true _ rfl c1 ?_
    refine WP.seq ?_
    refine WP.region ?_
    refine EvK.pure (v := .bool false) (w_none rfl) rfl rfl (f_assign rfl rfl) ?_
    refine EvK.nil ?_
    refine WP.ret ?_
    exact Ret.mk (vs := [.bool false]) false ⟨rfl, trivial⟩ rfl hF
  · refine WP.cond_false _ rfl c1 ?_
    refine WP.skip ?_
    refine WP.seq ?_
    refine WP.region ?_
    refine EvK.pure (v := .int .i64 a0) (w_none rfl) rfl rfl (f_move rfl rfl) ?_
    refine EvK.call (w_none rfl) rfl rfl (enterH Try.func9 rfl rfl rfl rfl (flow_New.sound hF)) ?_
    rintro _ h2 ⟨r2, rfl, hF⟩
    refine EvK.pure (v := .tuple #[.pointer r2.1, .int .i64 r2.2]) (w_none rfl) rfl rfl (f_move rfl rfl) ?_
    refine EvK.pure (v := .pointer r2.1) (w_none rfl) rfl rfl (f_extract (vs := #[.pointer r2.1, .int .i64 r2.2]) rfl rfl rfl) ?_
    refine EvK.pure (v := .int .i64 r2.2) (w_none rfl) rfl rfl (f_extract (vs := #[.pointer r2.1, .int .i64 r2.2]) rfl rfl rfl) ?_
    refine EvK.pure (v := .pointer r2.1) (w_none rfl) rfl rfl (f_assign rfl rfl) ?_
    refine EvK.pure (v := .int .i64 r2.2) (w_none rfl) rfl rfl (f_assign rfl rfl) ?_
    refine EvK.nil ?_
    refine WP.seq ?_
    refine WP.joinF (fun (s1 : Bool) => [(24, .bool s1), (0, .int .i64 a0), (1, .string a1), (5, .pointer r2.1)]) hF ?_ ?_
    · intro s1 E0 h3 hF
      rcases ite_inv hF with ⟨c2, hF⟩ | ⟨c2, hF⟩
      · refine WP.cond_true _ rfl c2 ?_
        refine WP.joinF (fun (s2 : Bool) => [(4, .bool s2)]) hF ?_ ?_
        · intro s2 E0 h4 hF
          refine WP.ret ?_
          exact Ret.mk (vs := [.bool s2]) s2 ⟨rfl, trivial⟩ rfl hF
        · intro k2 hF
          refine WP.region ?_
          refine EvK.pure (v := .int .i64 a0) (w_none rfl) rfl rfl (f_move rfl rfl) ?_
          refine EvK.pure (v := .bool (decide (a0 < 1))) (w_none rfl) rfl rfl (f_lss rfl rfl rfl) ?_
          refine EvK.pure (v := .bool (decide (a0 < 1))) (w_none rfl) rfl rfl (f_move rfl rfl) ?_
          rcases ite_inv hF with ⟨c3, hF⟩ | ⟨c3, hF⟩
          · refine EvK.not (w_not rfl rfl c3) rfl rfl ?_
            refine EvK.not (w_not rfl rfl c3) rfl rfl ?_
            refine EvK.pure (v := .bool true) (w_none rfl) rfl rfl (f_pickT rfl rfl c3 rfl) ?_
            refine EvK.pure (v := .bool true) (w_none rfl) rfl rfl (f_move rfl rfl) ?_
            refine EvK.not (w_not rfl rfl rfl) rfl rfl ?_
            refine EvK.not (w_not rfl rfl rfl) rfl rfl ?_
            refine EvK.not (w_not rfl rfl rfl) rfl rfl ?_
            refine EvK.pure (v := .bool true) (w_none rfl) rfl rfl (f_pickT rfl rfl rfl rfl) ?_
            refine EvK.pure (v := .bool true) (w_none rfl) rfl rfl (f_assign rfl rfl) ?_
            refine EvK.nil ?_
            exact KE.mk true ⟨rfl, trivial⟩ hF
          · refine EvK.pure (v := .int .i64 a0) (w_some rfl rfl c3) rfl rfl (f_move rfl rfl) ?_
            refine EvK.pure (v := .bool (decide (a0 > 8))) (w_some rfl rfl c3) rfl rfl (f_gtr rfl rfl rfl) ?_
            refine EvK.pure (v := .bool (decide (a0 > 8))) (w_none rfl) rfl rfl (f_pickF rfl rfl c3 rfl) ?_
            refine EvK.pure (v := .bool (decide (a0 > 8))) (w_none rfl) rfl rfl (f_move rfl rfl) ?_
            rcases ite_inv hF with ⟨c4, hF⟩ | ⟨c4, hF⟩
            · refine EvK.not (w_not rfl rfl c4) rfl rfl ?_
              refine EvK.not (w_not rfl rfl c4) rfl rfl ?_
              refine EvK.not (w_not rfl rfl c4) rfl rfl ?_
              refine EvK.pure (v := .bool true) (w_none rfl) rfl rfl (f_pickT rfl rfl c4 rfl) ?_
              refine EvK.pure (v := .bool true) (w_none rfl) rfl rfl (f_assign rfl rfl) ?_
              refine EvK.nil ?_
              exact KE.mk true ⟨rfl, trivial⟩ hF
            · refine EvK.pure (v := .string a1) (w_some rfl rfl c4) rfl rfl (f_move rfl rfl) ?_
              refine EvK.pure (v := .int .i64 (a1.size : Int)) (w_some rfl rfl c4) rfl rfl (f_lenS Try.underlying9 rfl rfl) ?_
              refine EvK.pure (v := .bool (decide ((a1.size : Int) > 1048576))) (w_some rfl rfl c4) rfl rfl (f_gtr rfl rfl rfl) ?_
              refine EvK.pure (v := .bool (decide ((a1.size : Int) > 1048576))) (w_none rfl) rfl rfl (f_pickF rfl rfl c4 rfl) ?_
              refine EvK.pure (v := .bool (decide ((a1.size : Int) > 1048576))) (w_none rfl) rfl rfl (f_assign rfl rfl) ?_
              refine EvK.nil ?_
              exact KE.mk (decide ((a1.size : Int) > 1048576)) ⟨rfl, trivial⟩ hF
      · refine WP.cond_false _ rfl c2 ?_
        refine WP.skip ?_
        refine WP.seq ?_
        refine WP.region ?_
        refine EvK.pure (v := .pointer r2.1) (w_none rfl) rfl rfl (f_move rfl rfl) ?_
        refine EvK.pure (v := .string a1) (w_none rfl) rfl rfl (f_move rfl rfl) ?_
        refine EvK.call (w_none rfl) rfl rfl (enterH Try.func13 rfl rfl rfl rfl (flow_Flow_Route.sound hF)) ?_
        rintro _ h5 ⟨r3, rfl, hF⟩
        refine EvK.pure (v := .string a1) (w_none rfl) rfl rfl (f_move rfl rfl) ?_
        refine EvK.pure (v := .int .i64 a0) (w_none rfl) rfl rfl (f_move rfl rfl) ?_
        refine EvK.call (w_none rfl) rfl rfl (enterH Try.func14 rfl rfl rfl rfl (spateref15_Operator.sound hF)) ?_
        rintro _ h6 ⟨r4, rfl, hF⟩
        refine EvK.pure (v := .bool (r3 == r4)) (w_none rfl) rfl rfl (f_eql rfl rfl rfl) ?_
        refine EvK.pure (v := .bool (r3 == r4)) (w_none rfl) rfl rfl (f_assign rfl rfl) ?_
        refine EvK.nil ?_
        refine WP.ret ?_
        exact Ret.mk (vs := [.bool (r3 == r4)]) (r3 == r4) ⟨rfl, trivial⟩ rfl hF
    · intro k1 hF
      refine WP.region ?_
      refine EvK.pure (v := .int .i64 r2.2) (w_none rfl) rfl rfl (f_move rfl rfl) ?_
      refine EvK.pure (v := .bool (r2.2 != 0)) (w_none rfl) rfl rfl (f_neq rfl rfl rfl) ?_
      refine EvK.pure (v := .bool (r2.2 != 0)) (w_none rfl) rfl rfl (f_move rfl rfl) ?_
      rcases ite_inv hF with ⟨c5, hF⟩ | ⟨c5, hF⟩
      · refine EvK.not (w_not rfl rfl c5) rfl rfl ?_
        refine EvK.not (w_not rfl rfl c5) rfl rfl ?_
        refine EvK.pure (v := .bool true) (w_none rfl) rfl rfl (f_pickT rfl rfl c5 rfl) ?_
        refine EvK.pure (v := .bool true) (w_none rfl) rfl rfl (f_move rfl rfl) ?_
        refine EvK.not (w_not rfl rfl rfl) rfl rfl ?_
        refine EvK.not (w_not rfl rfl rfl) rfl rfl ?_
        refine EvK.not (w_not rfl rfl rfl) rfl rfl ?_
        refine EvK.pure (v := .bool true) (w_none rfl) rfl rfl (f_pickT rfl rfl rfl rfl) ?_
        refine EvK.nil ?_
        exact KE.mk true ⟨rfl, rfl, rfl, rfl, trivial⟩ hF
      · refine EvK.pure (v := .pointer r2.1) (w_some rfl rfl c5) rfl rfl (f_move rfl rfl) ?_
        refine EvK.pure (v := .bool r2.1.isNone) (w_some rfl rfl c5) rfl rfl (f_peqln Try.underlying24 rfl rfl rfl) ?_
        refine EvK.pure (v := .bool r2.1.isNone) (w_none rfl) rfl rfl (f_pickF rfl rfl c5 rfl) ?_
        refine EvK.pure (v := .bool r2.1.isNone) (w_none rfl) rfl rfl (f_move rfl rfl) ?_
        rcases ite_inv hF with ⟨c6, hF⟩ | ⟨c6, hF⟩
        · refine EvK.not (w_not rfl rfl c6) rfl rfl ?_
          refine EvK.not (w_not rfl rfl c6) rfl rfl ?_
          refine EvK.not (w_not rfl rfl c6) rfl rfl ?_
          refine EvK.pure (v := .bool true) (w_none rfl) rfl rfl (f_pickT rfl rfl c6 rfl) ?_
          refine EvK.nil ?_
          exact KE.mk true ⟨rfl, rfl, rfl, rfl, trivial⟩ hF
        · refine EvK.pure (v := .string a1) (w_some rfl rfl c6) rfl rfl (f_move rfl rfl) ?_
          refine EvK.pure (v := .int .i64 (a1.size : Int)) (w_some rfl rfl c6) rfl rfl (f_lenS Try.underlying9 rfl rfl) ?_
          refine EvK.pure (v := .bool (decide ((a1.size : Int) > 1048576))) (w_some rfl rfl c6) rfl rfl (f_gtr rfl rfl rfl) ?_
          refine EvK.pure (v := .bool (decide ((a1.size : Int) > 1048576))) (w_none rfl) rfl rfl (f_pickF rfl rfl c6 rfl) ?_
          refine EvK.nil ?_
          exact KE.mk (decide ((a1.size : Int) > 1048576)) ⟨rfl, rfl, rfl, rfl, trivial⟩ hF
end Go.Proofs.Ytanpaamamfabkaa

namespace Go.Proofs.Ytanpaamamfabkaa
open Go Go.Tr
set_option linter.unusedVariables false
set_option maxRecDepth 100000
set_option maxHeartbeats 400000
/-- spate/spatelaw15.small -/
def spatelaw15_small (a0 : Int) (a1 : Int) (h : H) (Q : Int → H → Prop) : Prop :=
  rd (remI a0 a1) fun x1 =>
  jn (fun (k1 : Int → H → Prop) =>
    if (decide (x1 < 0)) = true then
      k1 (IntKind.i64.wrap (x1 + a1)) h
    else
      k1 x1 h) fun s1 h1 =>
  Q (IntKind.i64.wrap (s1 + 1)) h1
theorem spatelaw15_small.sound {a0 : Int} {a1 : Int} {h : H} {Q : Int → H → Prop} (hF : spatelaw15_small a0 a1 h Q) :
    CallsH Try.prog 15 (List.toArray (α := Value) [.int .i64 a0, .int .i64 a1]) h fun v h' => ∃ x : Int, v = .int .i64 x ∧ Q x h' := by
  refine CallsH.of_body Try.func15 rfl 15 rfl rfl ?_
  refine WP.seq ?_
  refine WP.region ?_
  refine EvK.pure (v := .int .i64 0) (w_none rfl) rfl rfl (f_assign rfl rfl) ?_
  refine EvK.nil ?_
  refine WP.seq ?_
  refine WP.region ?_
  refine EvK.pure (v := .int .i64 a0) (w_none rfl) rfl rfl (f_move rfl rfl) ?_
  refine EvK.pure (v := .int .i64 a1) (w_none rfl) rfl rfl (f_move rfl rfl) ?_
  obtain ⟨x1, hx1, hF⟩ := hF
  refine EvK.pure (v := .int .i64 x1) (w_none rfl) rfl rfl (f_rem rfl rfl rfl hx1) ?_
  refine EvK.pure (v := .int .i64 x1) (w_none rfl) rfl rfl (f_assign rfl rfl) ?_
  refine EvK.nil ?_
  refine WP.joinF (fun (s1 : Int) => [(0, .int .i64 s1)]) hF ?_ ?_
  · intro s1 E0 h1 hF
    refine WP.seq ?_
    refine WP.region ?_
    refine EvK.pure (v := .int .i64 s1) (w_none rfl) rfl rfl (f_move rfl rfl) ?_
    refine EvK.pure (v := .int .i64 (IntKind.i64.wrap (s1 + 1))) (w_none rfl) rfl rfl (f_add rfl rfl rfl) ?_
    refine EvK.pure (v := .int .i64 (IntKind.i64.wrap (s1 + 1))) (w_none rfl) rfl rfl (f_assign rfl rfl) ?_
    refine EvK.nil ?_
    refine WP.ret ?_
    exact Ret.mk (vs := [.int .i64 (IntKind.i64.wrap (s1 + 1))]) (IntKind.i64.wrap (s1 + 1)) ⟨rfl, trivial⟩ rfl hF
  · intro k1 hF
    refine WP.seq ?_
    refine WP.region ?_
    refine EvK.pure (v := .int .i64 x1) (w_none rfl) rfl rfl (f_move rfl rfl) ?_
    refine EvK.pure (v := .bool (decide (x1 < 0))) (w_none rfl) rfl rfl (f_lss rfl rfl rfl) ?_
    refine EvK.nil ?_
    rcases ite_inv hF with ⟨c1, hF⟩ | ⟨c1, hF⟩
    · refine WP.cond_true _ rfl c1 ?_
      refine WP.region ?_
      refine EvK.pure (v := .int .i64 x1) (w_none rfl) rfl rfl (f_move rfl rfl) ?_
      refine EvK.pure (v := .int .i64 a1) (w_none rfl) rfl rfl (f_move rfl rfl) ?_
      refine EvK.pure (v := .int .i64 (IntKind.i64.wrap (x1 + a1))) (w_none rfl) rfl rfl (f_add rfl rfl rfl) ?_
      refine EvK.pure (v := .int .i64 (IntKind.i64.wrap (x1 + a1))) (w_none rfl) rfl rfl (f_assign rfl rfl) ?_
      refine EvK.nil ?_
      exact KE.mk (IntKind.i64.wrap (x1 + a1)) ⟨rfl, trivial⟩ hF
    · refine WP.cond_false _ rfl c1 ?_
      refine WP.skip ?_
      exact KE.mk x1 ⟨rfl, trivial⟩ hF
end Go.Proofs.Ytanpaamamfabkaa

namespace Go.Proofs.Ytanpaamamfabkaa
open Go Go.Tr
set_option linter.unusedVariables false
set_option maxRecDepth 100000
set_option maxHeartbeats 400000
def spatelaw15_inOrder.b1 (p0 : Sl) (p3 : Int) (p4 : Option Addr) (s : Int) (h : H) (K : Int ⊕ (Unit ⊕ Bool) → H → Prop) : Prop :=
  if (decide (s < (p0.len : Int))) = true then
    jn (fun (k3 : Bool → H → Prop) =>
      rd (ixA 4 p0 s) fun q1 =>
      rd (ld kB (q1.add 0) h) fun x1 =>
      if x1 = true then
        k3 true h
      else
        rd (ixA 4 p0 s) fun q2 =>
        rd (ld kS (q2.add 1) h) fun x2 =>
        flow_Flow_Route p4 x2 h fun r1 h4 =>
        k3 (r1 == p3) h4) fun s3 h3 =>
    if s3 = true then
      K (.inr (.inr false)) h3
    else
      K (.inl (IntKind.i64.wrap (s + 1))) h3
  else
    K (.inr (.inl ())) h
def spatelaw15_inOrder.b3 (p0 : Sl) (p1 : Sl) (p2 : Int) (p3 : Int) (p4 : Option Addr) (p12 : Int) (s : Int) (h : H) (K : Int ⊕ Int → H → Prop) : Prop :=
  jn (fun (k8 : Bool → H → Prop) =>
    if (decide (s < (p0.len : Int))) = true then
      rd (ixA 4 p0 s) fun q6 =>
      rd (ld kB (q6.add 0) h) fun x6 =>
      if (!x6) = true then
        rd (ixA 4 p0 s) fun q7 =>
        rd (ld kS (q7.add 1) h) fun x7 =>
        flow_Flow_Route p4 x7 h fun r4 h10 =>
        k8 (r4 != p3) h10
      else
        k8 false h
    else
      k8 false h) fun s8 h9 =>
  if s8 = true then
    K (.inl (IntKind.i64.wrap (s + 1))) h9
  else
    K (.inr s) h9
def spatelaw15_inOrder.b2 (p0 : Sl) (p1 : Sl) (p2 : Int) (p3 : Int) (p4 : Option Addr) (s : Int × Int) (h : H) (K : (Int × Int) ⊕ (Int ⊕ Bool) → H → Prop) : Prop :=
  if (decide (s.2 < (p1.len : Int))) = true then
    jn (fun (k5 : Int → H → Prop) =>
      rd (ixA 5 p1 s.2) fun q3 =>
      rd (ld (kI .i64) (q3.add 0) h) fun x3 =>
      if (x3 != p2) = true then
        k5 s.1 h
      else
        jn (fun (k6 : Int → H → Prop) =>
          loopE (spatelaw15_inOrder.b3 p0 p1 p2 p3 p4 s.2) s.1 h (fun r5 hh => k6 r5 hh)) fun s6 h7 =>
        jn (fun (k7 : Bool → H → Prop) =>
          if (s6 == (p0.len : Int)) = true then
            k7 true h7
          else
            rd (ixA 4 p0 s6) fun q4 =>
            rd (ld k32 q4 h7) fun x4 =>
            rd (ixA 5 p1 s.2) fun q5 =>
            rd (ld k32 (q5.add 1) h7) fun x5 =>
            k7 (!(eq33 x4 x5)) h7) fun s7 h8 =>
        if s7 = true then
          K (.inr (.inr false)) h8
        else
          k5 (IntKind.i64.wrap (s6 + 1)) h8) fun s5 h6 =>
    K (.inl (s5, IntKind.i64.wrap (s.2 + 1))) h6
  else
    K (.inr (.inl s.1)) h
/-- spate/spatelaw15.inOrder -/
def spatelaw15_inOrder (a0 : Sl) (a1 : Sl) (a2 : Int) (a3 : Int) (a4 : Option Addr) (h : H) (Q : Bool → H → Prop) : Prop :=
  jn (fun (k1 : Int → H → Prop) =>
    loopE (spatelaw15_inOrder.b2 a0 a1 a2 a3 a4) (0, 0) h (sumK (fun r6 hh => k1 r6 hh) (fun r7 hh => Q r7 hh))) fun s1 h1 =>
  jn (fun (k2 : Unit → H → Prop) =>
    loopE (spatelaw15_inOrder.b1 a0 a3 a4) s1 h1 (sumK (fun r2 hh => k2 r2 hh) (fun r3 hh => Q r3 hh))) fun s2 h2 =>
  Q true h2
theorem spatelaw15_inOrder.sound {a0 : Sl} {a1 : Sl} {a2 : Int} {a3 : Int} {a4 : Option Addr} {h : H} {Q : Bool → H → Prop} (hF : spatelaw15_inOrder a0 a1 a2 a3 a4 h Q) :
    CallsH Try.prog 20 (List.toArray (α := Value) [Sl.val a0, Sl.val a1, .int .i64 a2, .int .i64 a3, .pointer a4]) h fun v h' => ∃ x : Bool, v = .bool x ∧ Q x h' := by
  refine CallsH.of_body Try.func20 rfl 91 rfl rfl ?_
  refine WP.seq ?_
  refine WP.region ?_
  refine EvK.pure (v := .bool false) (w_none rfl) rfl rfl (f_assign rfl rfl) ?_
  refine EvK.nil ?_
  refine WP.seq ?_
  refine WP.region ?_
  refine EvK.pure (v := .int .i64 0) (w_none rfl) rfl rfl (f_assign rfl rfl) ?_
  refine EvK.nil ?_
  refine WP.joinF (fun (s1 : Int) => [(11, .int .i64 s1), (0, Sl.val a0), (3, .int .i64 a3), (4, .pointer a4)]) hF ?_ ?_
  · intro s1 E0 h1 hF
    refine WP.joinF (fun (s2 : Unit) => []) hF ?_ ?_
    · intro s2 E0 h2 hF
      refine WP.seq ?_
      refine WP.region ?_
      refine EvK.pure (v := .bool true) (w_none rfl) rfl rfl (f_assign rfl rfl) ?_
      refine EvK.nil ?_
      refine WP.ret ?_
      exact Ret.mk (vs := [.bool true]) true ⟨rfl, trivial⟩ rfl hF
    · intro k2 hF
      refine WP.block ?_
      refine WP.loopF (fun (s3 : Int) => [(11, .int .i64 s3), (0, Sl.val a0), (3, .int .i64 a3), (4, .pointer a4)]) hF ⟨rfl, rfl, rfl, rfl, trivial⟩ ?_
      intro k3 s3 E0 h3 hF
      refine WP.seq ?_
      refine WP.seq ?_
      refine WP.region ?_
      refine EvK.pure (v := .int .i64 s3) (w_none rfl) rfl rfl (f_move rfl rfl) ?_
      refine EvK.pure (v := Sl.val a0) (w_none rfl) rfl rfl (f_move rfl rfl) ?_
      refine EvK.pure (v := .int .i64 (a0.len : Int)) (w_none rfl) rfl rfl (f_lenL (s := a0) Try.underlying45 rfl rfl) ?_
      refine EvK.pure (v := .bool (decide (s3 < (a0.len : Int)))) (w_none rfl) rfl rfl (f_lss rfl rfl rfl) ?_
      refine EvK.nil ?_
      rcases ite_inv hF with ⟨c1, hF⟩ | ⟨c1, hF⟩
      · refine WP.cond_true _ rfl c1 ?_
        refine WP.skip ?_
        refine WP.block ?_
        refine WP.seq ?_
        refine WP.joinF (fun (s4 : Bool) => [(88, .bool s4), (0, Sl.val a0), (3, .int .i64 a3), (4, .pointer a4), (11, .int .i64 s3)]) hF ?_ ?_
        · intro s4 E0 h4 hF
          rcases ite_inv hF with ⟨c2, hF⟩ | ⟨c2, hF⟩
          · refine WP.cond_true _ rfl c2 ?_
            refine WP.seq ?_
            refine WP.region ?_
            refine EvK.pure (v := .bool false) (w_none rfl) rfl rfl (f_assign rfl rfl) ?_
            refine EvK.nil ?_
            refine WP.ret ?_
            exact Ret.mk (vs := [.bool false]) false ⟨rfl, trivial⟩ rfl hF
          · refine WP.cond_false _ rfl c2 ?_
            refine WP.skip ?_
            refine WP.region ?_
            refine EvK.pure (v := .int .i64 s3) (w_none rfl) rfl rfl (f_move rfl rfl) ?_
            refine EvK.pure (v := .int .i64 (IntKind.i64.wrap (s3 + 1))) (w_none rfl) rfl rfl (f_add rfl rfl rfl) ?_
            refine EvK.pure (v := .int .i64 (IntKind.i64.wrap (s3 + 1))) (w_none rfl) rfl rfl (f_assign rfl rfl) ?_
            refine EvK.nil ?_
            exact KE.mk (IntKind.i64.wrap (s3 + 1)) ⟨rfl, rfl, rfl, rfl, trivial⟩ hF
        · intro k4 hF
          refine WP.region ?_
          refine EvK.pure (v := Sl.val a0) (w_none rfl) rfl rfl (f_move rfl rfl) ?_
          refine EvK.pure (v := .int .i64 s3) (w_none rfl) rfl rfl (f_move rfl rfl) ?_
          obtain ⟨q1, hq1, hF⟩ := hF
          refine EvK.pure (v := .pointer (some q1)) (w_none rfl) rfl rfl (f_indexAddr (s := a0) Try.underlying45 ty33.size rfl rfl rfl hq1) ?_
          refine EvK.pure (v := .pointer (some (q1.add 0))) (w_none rfl) rfl rfl (f_fieldAddr fd33_0 rfl rfl) ?_
          obtain ⟨x1, hx1, hF⟩ := hF
          refine EvK.read (v := .bool x1) (w_none rfl) rfl rfl (f_load kB ty4 rfl rfl hx1 rfl) ?_
          refine EvK.pure (v := .bool x1) (w_none rfl) rfl rfl (f_move rfl rfl) ?_
          rcases ite_inv hF with ⟨c3, hF⟩ | ⟨c3, hF⟩
          · refine EvK.not (w_not rfl rfl c3) rfl rfl ?_
            refine EvK.not (w_not rfl rfl c3) rfl rfl ?_
            refine EvK.not (w_not rfl rfl c3) rfl rfl ?_
            refine EvK.not (w_not rfl rfl c3) rfl rfl ?_
            refine EvK.not (w_not rfl rfl c3) rfl rfl ?_
            refine EvK.not (w_not rfl rfl c3) rfl rfl ?_
            refine EvK.not (w_not rfl rfl c3) rfl rfl ?_
            refine EvK.not (w_not rfl rfl c3) rfl rfl ?_
            refine EvK.not (w_not rfl rfl c3) rfl rfl ?_
            refine EvK.pure (v := .bool true) (w_none rfl) rfl rfl (f_pickT rfl rfl c3 rfl) ?_
            refine EvK.nil ?_
            exact KE.mk true ⟨rfl, rfl, rfl, rfl, rfl, trivial⟩ hF
          · refine EvK.pure (v := .pointer a4) (w_some rfl rfl c3) rfl rfl (f_move rfl rfl) ?_
            refine EvK.pure (v := Sl.val a0) (w_some rfl rfl c3) rfl rfl (f_move rfl rfl) ?_
            refine EvK.pure (v := .int .i64 s3) (w_some rfl rfl c3) rfl rfl (f_move rfl rfl) ?_
            obtain ⟨q2, hq2, hF⟩ := hF
            refine EvK.pure (v := .pointer (some q2)) (w_some rfl rfl c3) rfl rfl (f_indexAddr (s := a0) Try.underlying45 ty33.size rfl rfl rfl hq2) ?_
            refine EvK.pure (v := .pointer (some (q2.add 1))) (w_some rfl rfl c3) rfl rfl (f_fieldAddr fd33_1 rfl rfl) ?_
            obtain ⟨x2, hx2, hF⟩ := hF
            refine EvK.read (v := .string x2) (w_some rfl rfl c3) rfl rfl (f_load kS ty9 rfl rfl hx2 rfl) ?_
            refine EvK.call (w_some rfl rfl c3) rfl rfl (enterH Try.func13 rfl rfl rfl rfl (flow_Flow_Route.sound hF)) ?_
            rintro _ h5 ⟨r1, rfl, hF⟩
            refine EvK.pure (v := .int .i64 a3) (w_some rfl rfl c3) rfl rfl (f_move rfl rfl) ?_
            refine EvK.pure (v := .bool (r1 == a3)) (w_some rfl rfl c3) rfl rfl (f_eql rfl rfl rfl) ?_
            refine EvK.pure (v := .bool (r1 == a3)) (w_none rfl) rfl rfl (f_pickF rfl rfl c3 rfl) ?_
            refine EvK.nil ?_
            exact KE.mk (r1 == a3) ⟨rfl, rfl, rfl, rfl, rfl, trivial⟩ hF
      · refine WP.cond_false _ rfl c1 ?_
        refine WP.exit ?_
        exact KE.mk () trivial hF
  · intro k1 hF
    refine WP.seq ?_
    refine WP.region ?_
    refine EvK.pure (v := .int .i64 0) (w_none rfl) rfl rfl (f_assign rfl rfl) ?_
    refine EvK.nil ?_
    refine WP.block ?_
    refine WP.loopF (fun (s5 : Int × Int) => [(11, .int .i64 s5.1), (12, .int .i64 s5.2), (0, Sl.val a0), (1, Sl.val a1), (2, .int .i64 a2), (3, .int .i64 a3), (4, .pointer a4)]) hF ⟨rfl, rfl, rfl, rfl, rfl, rfl, rfl, trivial⟩ ?_
    intro k5 s5 E0 h6 hF
    refine WP.seq ?_
    refine WP.seq ?_
    refine WP.region ?_
    refine EvK.pure (v := .int .i64 s5.2) (w_none rfl) rfl rfl (f_move rfl rfl) ?_
    refine EvK.pure (v := Sl.val a1) (w_none rfl) rfl rfl (f_move rfl rfl) ?_
    refine EvK.pure (v := .int .i64 (a1.len : Int)) (w_none rfl) rfl rfl (f_lenL (s := a1) Try.underlying50 rfl rfl) ?_
    refine EvK.pure (v := .bool (decide (s5.2 < (a1.len : Int)))) (w_none rfl) rfl rfl (f_lss rfl rfl rfl) ?_
    refine EvK.nil ?_
    rcases ite_inv hF with ⟨c4, hF⟩ | ⟨c4, hF⟩
    · refine WP.cond_true _ rfl c4 ?_
      refine WP.skip ?_
      refine WP.joinF (fun (s6 : Int) => [(11, .int .i64 s6), (0, Sl.val a0), (1, Sl.val a1), (2, .int .i64 a2), (3, .int .i64 a3), (4, .pointer a4), (12, .int .i64 s5.2)]) hF ?_ ?_
      · intro s6 E0 h7 hF
        refine WP.region ?_
        refine EvK.pure (v := .int .i64 s5.2) (w_none rfl) rfl rfl (f_move rfl rfl) ?_
        refine EvK.pure (v := .int .i64 (IntKind.i64.wrap (s5.2 + 1))) (w_none rfl) rfl rfl (f_add rfl rfl rfl) ?_
        refine EvK.pure (v := .int .i64 (IntKind.i64.wrap (s5.2 + 1))) (w_none rfl) rfl rfl (f_assign rfl rfl) ?_
        refine EvK.nil ?_
        exact KE.mk (s6, IntKind.i64.wrap (s5.2 + 1)) ⟨rfl, rfl, rfl, rfl, rfl, rfl, rfl, trivial⟩ hF
      · intro k6 hF
        refine WP.block ?_
        refine WP.seq ?_
        refine WP.seq ?_
        refine WP.region ?_
        refine EvK.pure (v := Sl.val a1) (w_none rfl) rfl rfl (f_move rfl rfl) ?_
        refine EvK.pure (v := .int .i64 s5.2) (w_none rfl) rfl rfl (f_move rfl rfl) ?_
        obtain ⟨q3, hq3, hF⟩ := hF
        refine EvK.pure (v := .pointer (some q3)) (w_none rfl) rfl rfl (f_indexAddr (s := a1) Try.underlying50 ty52.size rfl rfl rfl hq3) ?_
        refine EvK.pure (v := .pointer (some (q3.add 0))) (w_none rfl) rfl rfl (f_fieldAddr fd52_0 rfl rfl) ?_
        obtain ⟨x3, hx3, hF⟩ := hF
        refine EvK.read (v := .int .i64 x3) (w_none rfl) rfl rfl (f_load (kI .i64) ty3 rfl rfl hx3 rfl) ?_
        refine EvK.pure (v := .int .i64 a2) (w_none rfl) rfl rfl (f_move rfl rfl) ?_
        refine EvK.pure (v := .bool (x3 != a2)) (w_none rfl) rfl rfl (f_neq rfl rfl rfl) ?_
        refine EvK.nil ?_
        rcases ite_inv hF with ⟨c5, hF⟩ | ⟨c5, hF⟩
        · refine WP.cond_true _ rfl c5 ?_
          refine WP.exit ?_
          exact KE.mk s5.1 ⟨rfl, rfl, rfl, rfl, rfl, rfl, rfl, trivial⟩ hF
        · refine WP.cond_false _ rfl c5 ?_
          refine WP.skip ?_
          refine WP.joinF (fun (s7 : Int) => [(11, .int .i64 s7), (0, Sl.val a0), (1, Sl.val a1), (2, .int .i64 a2), (3, .int .i64 a3), (4, .pointer a4), (12, .int .i64 s5.2)]) hF ?_ ?_
          · intro s7 E0 h8 hF
            refine WP.seq ?_
            refine WP.joinF (fun (s8 : Bool) => [(66, .bool s8), (0, Sl.val a0), (1, Sl.val a1), (2, .int .i64 a2), (3, .int .i64 a3), (4, .pointer a4), (11, .int .i64 s7), (12, .int .i64 s5.2)]) hF ?_ ?_
            · intro s8 E0 h9 hF
              rcases ite_inv hF with ⟨c6, hF⟩ | ⟨c6, hF⟩
              · refine WP.cond_true _ rfl c6 ?_
                refine WP.seq ?_
                refine WP.region ?_
                refine EvK.pure (v := .bool false) (w_none rfl) rfl rfl (f_assign rfl rfl) ?_
                refine EvK.nil ?_
                refine WP.ret ?_
                exact Ret.mk (vs := [.bool false]) false ⟨rfl, trivial⟩ rfl hF
              · refine WP.cond_false _ rfl c6 ?_
                refine WP.skip ?_
                refine WP.region ?_
                refine EvK.pure (v := .int .i64 s7) (w_none rfl) rfl rfl (f_move rfl rfl) ?_
                refine EvK.pure (v := .int .i64 (IntKind.i64.wrap (s7 + 1))) (w_none rfl) rfl rfl (f_add rfl rfl rfl) ?_
                refine EvK.pure (v := .int .i64 (IntKind.i64.wrap (s7 + 1))) (w_none rfl) rfl rfl (f_assign rfl rfl) ?_
                refine EvK.nil ?_
                exact KE.mk (IntKind.i64.wrap (s7 + 1)) ⟨rfl, rfl, rfl, rfl, rfl, rfl, rfl, trivial⟩ hF
            · intro k8 hF
              refine WP.draw mixed [.pure, .pure, .pure, .pure, .pure, .pure, .pure, .pure, .read, .pure, .pure, .pure, .pure, .read, .pure, .pure] [[], [], [1], [0, 1, 2], [0, 1, 2, 3], [0, 1, 2, 3, 4], [0, 1, 2, 3, 4], [0, 1, 2, 3, 4, 5, 6], [0, 1, 2, 3, 4, 5, 6, 7], [0, 1, 2, 3, 4], [0, 1, 2, 3, 4], [0, 1, 2, 3, 4, 9, 10], [0, 1, 2, 3, 4, 9, 10, 11], [0, 1, 2, 3, 4, 9, 10, 11, 12], [0, 1, 2, 3, 4, 5, 6, 7, 8, 9, 10, 11, 12, 13], [0, 1, 2, 3, 4, 5, 6, 7, 8, 9, 10, 11, 12, 13, 14]] [0, 1, 2, 3, 4, 5, 6, 7, 8, 9, 10, 11, 12, 13, 14, 15] (by kernel_rfl) (by kernel_rfl) ?_
              refine EvI.pure (v := .int .i64 s7) rfl rfl (w_none rfl) rfl (f_move rfl rfl) ?_
              refine EvI.pure (v := Sl.val a0) rfl rfl (w_none rfl) rfl (f_move rfl rfl) ?_
              refine EvI.pure (v := .int .i64 (a0.len : Int)) rfl rfl (w_none rfl) rfl (f_lenL (s := a0) Try.underlying45 rfl rfl) ?_
              refine EvI.pure (v := .bool (s7 == (a0.len : Int))) rfl rfl (w_none rfl) rfl (f_eql rfl rfl rfl) ?_
              refine EvI.pure (v := .bool (s7 == (a0.len : Int))) rfl rfl (w_none rfl) rfl (f_move rfl rfl) ?_
              rcases ite_inv hF with ⟨c7, hF⟩ | ⟨c7, hF⟩
              · refine EvI.not rfl (w_not rfl rfl c7) rfl ?_
                refine EvI.not rfl (w_not rfl rfl c7) rfl ?_
                refine EvI.not rfl (w_not rfl rfl c7) rfl ?_
                refine EvI.not rfl (w_not rfl rfl c7) rfl ?_
                refine EvI.not rfl (w_not rfl rfl c7) rfl ?_
                refine EvI.not rfl (w_not rfl rfl c7) rfl ?_
                refine EvI.not rfl (w_not rfl rfl c7) rfl ?_
                refine EvI.not rfl (w_not rfl rfl c7) rfl ?_
                refine EvI.not rfl (w_not rfl rfl c7) rfl ?_
                refine EvI.not rfl (w_not rfl rfl c7) rfl ?_
                refine EvI.pure (v := .bool true) rfl rfl (w_none rfl) rfl (f_pickT rfl rfl c7 rfl) ?_
                refine EvI.nil ?_
                exact KE.mk true ⟨rfl, rfl, rfl, rfl, rfl, rfl, rfl, rfl, trivial⟩ hF
              · refine EvI.pure (v := Sl.val a0) rfl rfl (w_some rfl rfl c7) rfl (f_move rfl rfl) ?_
                refine EvI.pure (v := .int .i64 s7) rfl rfl (w_some rfl rfl c7) rfl (f_move rfl rfl) ?_
                obtain ⟨q4, hq4, hF⟩ := hF
                refine EvI.pure (v := .pointer (some q4)) rfl rfl (w_some rfl rfl c7) rfl (f_indexAddr (s := a0) Try.underlying45 ty33.size rfl rfl rfl hq4) ?_
                obtain ⟨x4, hx4, hF⟩ := hF
                refine EvI.read (v := k32.val x4) rfl rfl (w_some rfl rfl c7) rfl (f_load k32 ty33 rfl rfl hx4 rfl) ?_
                refine EvI.pure (v := Sl.val a1) rfl rfl (w_some rfl rfl c7) rfl (f_move rfl rfl) ?_
                refine EvI.pure (v := .int .i64 s5.2) rfl rfl (w_some rfl rfl c7) rfl (f_move rfl rfl) ?_
                obtain ⟨q5, hq5, hF⟩ := hF
                refine EvI.pure (v := .pointer (some q5)) rfl rfl (w_some rfl rfl c7) rfl (f_indexAddr (s := a1) Try.underlying50 ty52.size rfl rfl rfl hq5) ?_
                refine EvI.pure (v := .pointer (some (q5.add 1))) rfl rfl (w_some rfl rfl c7) rfl (f_fieldAddr fd52_1 rfl rfl) ?_
                obtain ⟨x5, hx5, hF⟩ := hF
                refine EvI.read (v := k32.val x5) rfl rfl (w_some rfl rfl c7) rfl (f_load k32 ty33 rfl rfl hx5 rfl) ?_
                refine EvI.pure (v := .bool (!(eq33 x4 x5))) rfl rfl (w_some rfl rfl c7) rfl (f_neqOf rfl rfl rfl (guard33 _ _) rfl (eqIn33 _ _)) ?_
                refine EvI.pure (v := .bool (!(eq33 x4 x5))) rfl rfl (w_none rfl) rfl (f_pickF rfl rfl c7 rfl) ?_
                refine EvI.nil ?_
                exact KE.mk (!(eq33 x4 x5)) ⟨rfl, rfl, rfl, rfl, rfl, rfl, rfl, rfl, trivial⟩ hF
          · intro k7 hF
            refine WP.block ?_
            refine WP.loopF (fun (s9 : Int) => [(11, .int .i64 s9), (0, Sl.val a0), (1, Sl.val a1), (2, .int .i64 a2), (3, .int .i64 a3), (4, .pointer a4), (12, .int .i64 s5.2)]) hF ⟨rfl, rfl, rfl, rfl, rfl, rfl, rfl, trivial⟩ ?_
            intro k9 s9 E0 h10 hF
            refine WP.seq ?_
            refine WP.joinF (fun (s10 : Bool) => [(48, .bool s10), (0, Sl.val a0), (1, Sl.val a1), (2, .int .i64 a2), (3, .int .i64 a3), (4, .pointer a4), (11, .int .i64 s9), (12, .int .i64 s5.2)]) hF ?_ ?_
            · intro s10 E0 h11 hF
              rcases ite_inv hF with ⟨c8, hF⟩ | ⟨c8, hF⟩
              · refine WP.cond_true _ rfl c8 ?_
                refine WP.skip ?_
                refine WP.block ?_
                refine WP.region ?_
                refine EvK.pure (v := .int .i64 s9) (w_none rfl) rfl rfl (f_move rfl rfl) ?_
                refine EvK.pure (v := .int .i64 (IntKind.i64.wrap (s9 + 1))) (w_none rfl) rfl rfl (f_add rfl rfl rfl) ?_
                refine EvK.pure (v := .int .i64 (IntKind.i64.wrap (s9 + 1))) (w_none rfl) rfl rfl (f_assign rfl rfl) ?_
                refine EvK.nil ?_
                exact KE.mk (IntKind.i64.wrap (s9 + 1)) ⟨rfl, rfl, rfl, rfl, rfl, rfl, rfl, trivial⟩ hF
              · refine WP.cond_false _ rfl c8 ?_
                refine WP.exit ?_
                exact KE.mk s9 ⟨rfl, rfl, rfl, rfl, rfl, rfl, rfl, trivial⟩ hF
            · intro k10 hF
              refine WP.region ?_
              refine EvK.pure (v := .int .i64 s9) (w_none rfl) rfl rfl (f_move rfl rfl) ?_
              refine EvK.pure (v := Sl.val a0) (w_none rfl) rfl rfl (f_move rfl rfl) ?_
              refine EvK.pure (v := .int .i64 (a0.len : Int)) (w_none rfl) rfl rfl (f_lenL (s := a0) Try.underlying45 rfl rfl) ?_
              refine EvK.pure (v := .bool (decide (s9 < (a0.len : Int)))) (w_none rfl) rfl rfl (f_lss rfl rfl rfl) ?_
              refine EvK.pure (v := .bool (decide (s9 < (a0.len : Int)))) (w_none rfl) rfl rfl (f_move rfl rfl) ?_
              rcases ite_inv hF with ⟨c9, hF⟩ | ⟨c9, hF⟩
              · refine EvK.pure (v := Sl.val a0) (w_some rfl rfl c9) rfl rfl (f_move rfl rfl) ?_
                refine EvK.pure (v := .int .i64 s9) (w_some rfl rfl c9) rfl rfl (f_move rfl rfl) ?_
                obtain ⟨q6, hq6, hF⟩ := hF
                refine EvK.pure (v := .pointer (some q6)) (w_some rfl rfl c9) rfl rfl (f_indexAddr (s := a0) Try.underlying45 ty33.size rfl rfl rfl hq6) ?_
                refine EvK.pure (v := .pointer (some (q6.add 0))) (w_some rfl rfl c9) rfl rfl (f_fieldAddr fd33_0 rfl rfl) ?_
                obtain ⟨x6, hx6, hF⟩ := hF
                refine EvK.read (v := .bool x6) (w_some rfl rfl c9) rfl rfl (f_load kB ty4 rfl rfl hx6 rfl) ?_
                refine EvK.pure (v := .bool (!x6)) (w_some rfl rfl c9) rfl rfl (f_not rfl rfl) ?_
                refine EvK.pure (v := .bool (!x6)) (w_none rfl) rfl rfl (f_pickT rfl rfl c9 rfl) ?_
                refine EvK.pure (v := .bool (!x6)) (w_none rfl) rfl rfl (f_move rfl rfl) ?_
                rcases ite_inv hF with ⟨c10, hF⟩ | ⟨c10, hF⟩
                · refine EvK.pure (v := .pointer a4) (w_some rfl rfl c10) rfl rfl (f_move rfl rfl) ?_
                  refine EvK.pure (v := Sl.val a0) (w_some rfl rfl c10) rfl rfl (f_move rfl rfl) ?_
                  refine EvK.pure (v := .int .i64 s9) (w_some rfl rfl c10) rfl rfl (f_move rfl rfl) ?_
                  obtain ⟨q7, hq7, hF⟩ := hF
                  refine EvK.pure (v := .pointer (some q7)) (w_some rfl rfl c10) rfl rfl (f_indexAddr (s := a0) Try.underlying45 ty33.size rfl rfl rfl hq7) ?_
                  refine EvK.pure (v := .pointer (some (q7.add 1))) (w_some rfl rfl c10) rfl rfl (f_fieldAddr fd33_1 rfl rfl) ?_
                  obtain ⟨x7, hx7, hF⟩ := hF
                  refine EvK.read (v := .string x7) (w_some rfl rfl c10) rfl rfl (f_load kS ty9 rfl rfl hx7 rfl) ?_
                  refine EvK.call (w_some rfl rfl c10) rfl rfl (enterH Try.func13 rfl rfl rfl rfl (flow_Flow_Route.sound hF)) ?_
                  rintro _ h12 ⟨r4, rfl, hF⟩
                  refine EvK.pure (v := .int .i64 a3) (w_some rfl rfl c10) rfl rfl (f_move rfl rfl) ?_
                  refine EvK.pure (v := .bool (r4 != a3)) (w_some rfl rfl c10) rfl rfl (f_neq rfl rfl rfl) ?_
                  refine EvK.pure (v := .bool (r4 != a3)) (w_none rfl) rfl rfl (f_pickT rfl rfl c10 rfl) ?_
                  refine EvK.nil ?_
                  exact KE.mk (r4 != a3) ⟨rfl, rfl, rfl, rfl, rfl, rfl, rfl, rfl, trivial⟩ hF
                · refine EvK.not (w_not rfl rfl c10) rfl rfl ?_
                  refine EvK.not (w_not rfl rfl c10) rfl rfl ?_
                  refine EvK.not (w_not rfl rfl c10) rfl rfl ?_
                  refine EvK.not (w_not rfl rfl c10) rfl rfl ?_
                  refine EvK.not (w_not rfl rfl c10) rfl rfl ?_
                  refine EvK.not (w_not rfl rfl c10) rfl rfl ?_
                  refine EvK.not (w_not rfl rfl c10) rfl rfl ?_
                  refine EvK.not (w_not rfl rfl c10) rfl rfl ?_
                  refine EvK.not (w_not rfl rfl c10) rfl rfl ?_
                  refine EvK.pure (v := .bool false) (w_none rfl) rfl rfl (f_pickF rfl rfl c10 rfl) ?_
                  refine EvK.nil ?_
                  exact KE.mk false ⟨rfl, rfl, rfl, rfl, rfl, rfl, rfl, rfl, trivial⟩ hF
              · refine EvK.not (w_not rfl rfl c9) rfl rfl ?_
                refine EvK.not (w_not rfl rfl c9) rfl rfl ?_
                refine EvK.not (w_not rfl rfl c9) rfl rfl ?_
                refine EvK.not (w_not rfl rfl c9) rfl rfl ?_
                refine EvK.not (w_not rfl rfl c9) rfl rfl ?_
                refine EvK.not (w_not rfl rfl c9) rfl rfl ?_
                refine EvK.pure (v := .bool false) (w_none rfl) rfl rfl (f_pickF rfl rfl c9 rfl) ?_
                refine EvK.pure (v := .bool false) (w_none rfl) rfl rfl (f_move rfl rfl) ?_
                refine EvK.not (w_not rfl rfl rfl) rfl rfl ?_
                refine EvK.not (w_not rfl rfl rfl) rfl rfl ?_
                refine EvK.not (w_not rfl rfl rfl) rfl rfl ?_
                refine EvK.not (w_not rfl rfl rfl) rfl rfl ?_
                refine EvK.not (w_not rfl rfl rfl) rfl rfl ?_
                refine EvK.not (w_not rfl rfl rfl) rfl rfl ?_
                refine EvK.not (w_not rfl rfl rfl) rfl rfl ?_
                refine EvK.not (w_not rfl rfl rfl) rfl rfl ?_
                refine EvK.not (w_not rfl rfl rfl) rfl rfl ?_
                refine EvK.pure (v := .bool false) (w_none rfl) rfl rfl (f_pickF rfl rfl rfl rfl) ?_
                refine EvK.nil ?_
                exact KE.mk false ⟨rfl, rfl, rfl, rfl, rfl, rfl, rfl, rfl, trivial⟩ hF
    · refine WP.cond_false _ rfl c4 ?_
      refine WP.exit ?_
      exact KE.mk s5.1 ⟨rfl, rfl, rfl, rfl, trivial⟩ hF
end Go.Proofs.Ytanpaamamfabkaa

namespace Go.Proofs.Ytanpaamamfabkaa
open Go Go.Tr
set_option linter.unusedVariables false
set_option maxRecDepth 100000
set_option maxHeartbeats 400000
def spatelaw15_FlowOrder.b2 (p0 : Int) (p1 : Int) (p9 : Option Addr) (p11 : Sl) (p12 : Sl) (p24 : Int) (s : Int) (h : H) (K : Int ⊕ (Unit ⊕ Bool) → H → Prop) : Prop :=
  if (decide (s < p0)) = true then
    rd (ixA 1 p11 s) fun q1 =>
    rd (ld kL q1 h) fun x3 =>
    rd (ixA 1 p12 p24) fun q2 =>
    rd (ld kL q2 h) fun x4 =>
    spatelaw15_inOrder x3 x4 s p24 p9 h fun r6 h13 =>
    if (!r6) = true then
      K (.inr (.inr false)) h13
    else
      K (.inl (IntKind.i64.wrap (s + 1))) h13
  else
    K (.inr (.inl ())) h
def spatelaw15_FlowOrder.b1 (p0 : Int) (p1 : Int) (p9 : Option Addr) (p11 : Sl) (p12 : Sl) (s : Int) (h : H) (K : Int ⊕ (Unit ⊕ Bool) → H → Prop) : Prop :=
  if (decide (s < p1)) = true then
    jn (fun (k5 : Unit → H → Prop) =>
      loopE (spatelaw15_FlowOrder.b2 p0 p1 p9 p11 p12 s) 0 h (sumK (fun r7 hh => k5 r7 hh) (fun r8 hh => K (.inr (.inr r8)) hh))) fun s5 h12 =>
    K (.inl (IntKind.i64.wrap (s + 1))) h12
  else
    K (.inr (.inl ())) h
def spatelaw15_FlowOrder.b4 (p0 : Int) (p1 : Int) (p3 : Sl) (p9 : Option Addr) (p11 : Sl) (p12 : Sl) (p18 : Int) (s : Int) (h : H) (K : Int ⊕ Unit → H → Prop) : Prop :=
  if (decide (s < p1)) = true then
    jn (fun (k10 : Unit → H → Prop) =>
      flow_Flow_Take p9 s h fun r12 h20 =>
      al 33 (k32.enc z32) h20 fun q3 h21 =>
      rd (st k32 q3 r12.2.1 h21) fun h22 =>
      if (r12.2.2 == 0) = true then
        rd (ixA 1 p12 s) fun q4 =>
        rd (ld kL q4 h22) fun x5 =>
        rd (ld k32 q3 h22) fun x6 =>
        bs 52 1 (k51.enc (S51.mk r12.1 x6)) h22 fun x7 h23 =>
        ap k51.n 48 52 (k51.enc z51) x5 x7 h23 fun x8 h24 =>
        rd (ixA 1 p12 s) fun q5 =>
        rd (st kL q5 x8 h24) fun h25 =>
        k10 () h25
      else
        k10 () h22) fun s10 h19 =>
    K (.inl (IntKind.i64.wrap (s + 1))) h19
  else
    K (.inr ()) h
def spatelaw15_FlowOrder.b5 (p0 : Int) (p1 : Int) (p3 : Sl) (p9 : Option Addr) (p11 : Sl) (p12 : Sl) (p18 : Int) (s : Int) (h : H) (K : Int ⊕ Unit → H → Prop) : Prop :=
  if (decide (s < p0)) = true then
    flow_Flow_Pass p9 s h fun r14 h27 =>
    K (.inl (IntKind.i64.wrap (s + 1))) h27
  else
    K (.inr ()) h
def spatelaw15_FlowOrder.b3 (p0 : Int) (p1 : Int) (p3 : Sl) (p9 : Option Addr) (p11 : Sl) (p12 : Sl) (s : Int) (h : H) (K : Int ⊕ (Unit ⊕ Bool) → H → Prop) : Prop :=
  flow_Flow_Empty p9 h fun r11 h16 =>
  if (!r11) = true then
    jn (fun (k8 : Unit → H → Prop) =>
      if (decide (s > (IntKind.i64.wrap ((IntKind.i64.wrap (20 * (p3.len : Int))) + 100)))) = true then
        K (.inr (.inr false)) h16
      else
        jn (fun (k9 : Unit → H → Prop) =>
          loopE (spatelaw15_FlowOrder.b5 p0 p1 p3 p9 p11 p12 s) 0 h16 (fun r15 hh => k9 r15 hh)) fun s9 h18 =>
        loopE (spatelaw15_FlowOrder.b4 p0 p1 p3 p9 p11 p12 s) 0 h18 (fun r13 hh => k8 r13 hh)) fun s8 h17 =>
    K (.inl (IntKind.i64.wrap (s + 1))) h17
  else
    K (.inr (.inl ())) h16
def spatelaw15_FlowOrder.b6 (p0 : Int) (p1 : Int) (p3 : Sl) (p9 : Option Addr) (p11 : Sl) (p12 : Sl) (s : Int) (h : H) (K : Int ⊕ Unit → H → Prop) : Prop :=
  if (decide (s < (p3.len : Int))) = true then
    jn (fun (k14 : Unit → H → Prop) =>
      rd (ixA 6 p3 s) fun q6 =>
      rd (ld k34 q6 h) fun x9 =>
      al 35 (k34.enc z34) h fun q7 h31 =>
      rd (st k34 q7 x9 h31) fun h32 =>
      rd (ld (kI .i64) (q7.add 0) h32) fun x10 =>
      if (x10 == 1) = true then
        rd (ld (kI .i64) (q7.add 1) h32) fun x11 =>
        rd (ld k32 (q7.add 2) h32) fun x12 =>
        flow_Flow_Put p9 x11 x12 h32 fun r18 h33 =>
        if (r18 == 0) = true then
          rd (ld (kI .i64) (q7.add 1) h33) fun x13 =>
          rd (ld (kI .i64) (q7.add 1) h33) fun x14 =>
          rd (ixA 1 p11 x14) fun q8 =>
          rd (ld kL q8 h33) fun x15 =>
          rd (ld k32 (q7.add 2) h33) fun x16 =>
          bs 33 1 (k32.enc x16) h33 fun x17 h34 =>
          ap k32.n 40 33 (k32.enc z32) x15 x17 h34 fun x18 h35 =>
          ld (kI .i64) (q7.add 1) h35 = some x13 ∧
          rd (ixA 1 p11 x13) fun q9 =>
          rd (st kL q9 x18 h35) fun h36 =>
          k14 () h36
        else
          k14 () h33
      else
        if (x10 == 2) = true then
          rd (ld (kI .i64) (q7.add 1) h32) fun x19 =>
          flow_Flow_Pass p9 x19 h32 fun r19 h37 =>
          k14 () h37
        else
          if (x10 == 3) = true then
            rd (ld (kI .i64) (q7.add 1) h32) fun x20 =>
            flow_Flow_Take p9 x20 h32 fun r20 h38 =>
            al 33 (k32.enc z32) h38 fun q10 h39 =>
            rd (st k32 q10 r20.2.1 h39) fun h40 =>
            if (r20.2.2 == 0) = true then
              rd (ld (kI .i64) (q7.add 1) h40) fun x21 =>
              rd (ld (kI .i64) (q7.add 1) h40) fun x22 =>
              rd (ixA 1 p12 x22) fun q11 =>
              rd (ld kL q11 h40) fun x23 =>
              rd (ld k32 q10 h40) fun x24 =>
              bs 52 1 (k51.enc (S51.mk r20.1 x24)) h40 fun x25 h41 =>
              ap k51.n 48 52 (k51.enc z51) x23 x25 h41 fun x26 h42 =>
              ld (kI .i64) (q7.add 1) h42 = some x21 ∧
              rd (ixA 1 p12 x21) fun q12 =>
              rd (st kL q12 x26 h42) fun h43 =>
              k14 () h43
            else
              k14 () h40
          else
            k14 () h32) fun s14 h30 =>
    K (.inl (IntKind.i64.wrap (s + 1))) h30
  else
    K (.inr ()) h
/-- spate/spatelaw15.FlowOrder -/
def spatelaw15_FlowOrder (a0 : Int) (a1 : Int) (a2 : Int) (a3 : Sl) (h : H) (Q : Bool → H → Prop) : Prop :=
  spatelaw15_known  h fun r1 h1 =>
  if (!r1) = true then
    Q false h1
  else
    if (decide ((a3.len : Int) > 5000)) = true then
      Q true h1
    else
      spatelaw15_small a0 8 h1 fun r2 h2 =>
      spatelaw15_small a1 8 h2 fun r3 h3 =>
      spatelaw15_small a2 64 h3 fun r4 h4 =>
      flow_New r2 r3 r4 h4 fun r5 h5 =>
      jn (fun (k1 : Bool → H → Prop) =>
        if (r5.2 != 0) = true then
          k1 true h5
        else
          k1 r5.1.isNone h5) fun s1 h6 =>
      if s1 = true then
        Q false h6
      else
        mk kL.n 24 45 (kL.enc Sl.nil) r2 r2 h6 fun x1 h7 =>
        mk kL.n 24 50 (kL.enc Sl.nil) r3 r3 h7 fun x2 h8 =>
        jn (fun (k2 : Unit → H → Prop) =>
          loopE (spatelaw15_FlowOrder.b6 r2 r3 a3 r5.1 x1 x2) 0 h8 (fun r21 hh => k2 r21 hh)) fun s2 h9 =>
        jn (fun (k3 : Unit → H → Prop) =>
          loopE (spatelaw15_FlowOrder.b3 r2 r3 a3 r5.1 x1 x2) 0 h9 (sumK (fun r16 hh => k3 r16 hh) (fun r17 hh => Q r17 hh))) fun s3 h10 =>
        jn (fun (k4 : Unit → H → Prop) =>
          loopE (spatelaw15_FlowOrder.b1 r2 r3 r5.1 x1 x2) 0 h10 (sumK (fun r9 hh => k4 r9 hh) (fun r10 hh => Q r10 hh))) fun s4 h11 =>
        Q true h11
theorem spatelaw15_FlowOrder.sound {a0 : Int} {a1 : Int} {a2 : Int} {a3 : Sl} {h : H} {Q : Bool → H → Prop} (hF : spatelaw15_FlowOrder a0 a1 a2 a3 h Q) :
    CallsH Try.prog 5 (List.toArray (α := Value) [.int .i64 a0, .int .i64 a1, .int .i64 a2, Sl.val a3]) h fun v h' => ∃ x : Bool, v = .bool x ∧ Q x h' := by
  refine CallsH.of_body Try.func5 rfl 188 rfl rfl ?_
  refine WP.seq ?_
  refine WP.region ?_
  refine EvK.pure (v := .bool false) (w_none rfl) rfl rfl (f_assign rfl rfl) ?_
  refine EvK.nil ?_
  refine WP.seq ?_
  refine WP.seq ?_
  refine WP.region ?_
  refine EvK.call (w_none rfl) rfl rfl (enterH Try.func8 rfl rfl rfl rfl (spatelaw15_known.sound hF)) ?_
  rintro _ h1 ⟨r1, rfl, hF⟩
  refine EvK.pure (v := .bool (!r1)) (w_none rfl) rfl rfl (f_not rfl rfl) ?_
  refine EvK.nil ?_
  rcases ite_inv hF with ⟨c1, hF⟩ | ⟨c1, hF⟩
  · refine WP.cond_true _ rfl c1 ?_
    refine WP.seq ?_
    refine WP.region ?_
    refine EvK.pure (v := .bool false) (w_none rfl) rfl rfl (f_assign rfl rfl) ?_
    refine EvK.nil ?_
    refine WP.ret ?_
    exact Ret.mk (vs := [.bool false]) false ⟨rfl, trivial⟩ rfl hF
  · refine WP.cond_false _ rfl c1 ?_
    refine WP.skip ?_
    refine WP.seq ?_
    refine WP.seq ?_
    refine WP.region ?_
    refine EvK.pure (v := Sl.val a3) (w_none rfl) rfl rfl (f_move rfl rfl) ?_
    refine EvK.pure (v := .int .i64 (a3.len : Int)) (w_none rfl) rfl rfl (f_lenL (s := a3) Try.underlying22 rfl rfl) ?_
    refine EvK.pure (v := .bool (decide ((a3.len : Int) > 5000))) (w_none rfl) rfl rfl (f_gtr rfl rfl rfl) ?_
    refine EvK.nil ?_
    rcases ite_inv hF with ⟨c2, hF⟩ | ⟨c2, hF⟩
    · refine WP.cond_true _ rfl c2 ?_
      refine WP.seq ?_
      refine WP.region ?_
      refine EvK.pure (v := .bool true) (w_none rfl) rfl rfl (f_assign rfl rfl) ?_
      refine EvK.nil ?_
      refine WP.ret ?_
      exact Ret.mk (vs := [.bool true]) true ⟨rfl, trivial⟩ rfl hF
    · refine WP.cond_false _ rfl c2 ?_
      refine WP.skip ?_
      refine WP.seq ?_
      refine WP.region ?_
      refine EvK.pure (v := .int .i64 a0) (w_none rfl) rfl rfl (f_move rfl rfl) ?_
      refine EvK.call (w_none rfl) rfl rfl (enterH Try.func15 rfl rfl rfl rfl (spatelaw15_small.sound hF)) ?_
      rintro _ h2 ⟨r2, rfl, hF⟩
      refine EvK.pure (v := .int .i64 r2) (w_none rfl) rfl rfl (f_assign rfl rfl) ?_
      refine EvK.nil ?_
      refine WP.seq ?_
      refine WP.region ?_
      refine EvK.pure (v := .int .i64 a1) (w_none rfl) rfl rfl (f_move rfl rfl) ?_
      refine EvK.call (w_none rfl) rfl rfl (enterH Try.func15 rfl rfl rfl rfl (spatelaw15_small.sound hF)) ?_
      rintro _ h3 ⟨r3, rfl, hF⟩
      refine EvK.pure (v := .int .i64 r3) (w_none rfl) rfl rfl (f_assign rfl rfl) ?_
      refine EvK.nil ?_
      refine WP.seq ?_
      refine WP.region ?_
      refine EvK.pure (v := .int .i64 a2) (w_none rfl) rfl rfl (f_move rfl rfl) ?_
      refine EvK.call (w_none rfl) rfl rfl (enterH Try.func15 rfl rfl rfl rfl (spatelaw15_small.sound hF)) ?_
      rintro _ h4 ⟨r4, rfl, hF⟩
      refine EvK.pure (v := .int .i64 r4) (w_none rfl) rfl rfl (f_assign rfl rfl) ?_
      refine EvK.nil ?_
      refine WP.seq ?_
      refine WP.region ?_
      refine EvK.pure (v := .int .i64 r2) (w_none rfl) rfl rfl (f_move rfl rfl) ?_
      refine EvK.pure (v := .int .i64 r3) (w_none rfl) rfl rfl (f_move rfl rfl) ?_
      refine EvK.pure (v := .int .i64 r4) (w_none rfl) rfl rfl (f_move rfl rfl) ?_
      refine EvK.call (w_none rfl) rfl rfl (enterH Try.func9 rfl rfl rfl rfl (flow_New.sound hF)) ?_
      rintro _ h5 ⟨r5, rfl, hF⟩
      refine EvK.pure (v := .tuple #[.pointer r5.1, .int .i64 r5.2]) (w_none rfl) rfl rfl (f_move rfl rfl) ?_
      refine EvK.pure (v := .pointer r5.1) (w_none rfl) rfl rfl (f_extract (vs := #[.pointer r5.1, .int .i64 r5.2]) rfl rfl rfl) ?_
      refine EvK.pure (v := .int .i64 r5.2) (w_none rfl) rfl rfl (f_extract (vs := #[.pointer r5.1, .int .i64 r5.2]) rfl rfl rfl) ?_
      refine EvK.pure (v := .pointer r5.1) (w_none rfl) rfl rfl (f_assign rfl rfl) ?_
      refine EvK.pure (v := .int .i64 r5.2) (w_none rfl) rfl rfl (f_assign rfl rfl) ?_
      refine EvK.nil ?_
      refine WP.seq ?_
      refine WP.joinF (fun (s1 : Bool) => [(49, .bool s1), (0, .int .i64 r2), (1, .int .i64 r3), (3, Sl.val a3), (9, .pointer r5.1)]) hF ?_ ?_
      · intro s1 E0 h6 hF
        rcases ite_inv hF with ⟨c3, hF⟩ | ⟨c3, hF⟩
        · refine WP.cond_true _ rfl c3 ?_
          refine WP.seq ?_
          refine WP.region ?_
          refine EvK.pure (v := .bool false) (w_none rfl) rfl rfl (f_assign rfl rfl) ?_
          refine EvK.nil ?_
          refine WP.ret ?_
          exact Ret.mk (vs := [.bool false]) false ⟨rfl, trivial⟩ rfl hF
        · refine WP.cond_false _ rfl c3 ?_
          refine WP.skip ?_
          refine WP.seq ?_
          refine WP.region ?_
          refine EvK.pure (v := .int .i64 r2) (w_none rfl) rfl rfl (f_move rfl rfl) ?_
          refine EvK.alloc (w_none rfl) rfl rfl (f_makeSlice Try.underlying42 el45 rfl rfl rfl hF) ?_
          rintro _ h7 ⟨x1, rfl, hF⟩
          refine EvK.pure (v := Sl.val x1) (w_none rfl) rfl rfl (f_assign rfl rfl) ?_
          refine EvK.nil ?_
          refine WP.seq ?_
          refine WP.region ?_
          refine EvK.pure (v := .int .i64 r3) (w_none rfl) rfl rfl (f_move rfl rfl) ?_
          refine EvK.alloc (w_none rfl) rfl rfl (f_makeSlice Try.underlying43 el50 rfl rfl rfl hF) ?_
          rintro _ h8 ⟨x2, rfl, hF⟩
          refine EvK.pure (v := Sl.val x2) (w_none rfl) rfl rfl (f_assign rfl rfl) ?_
          refine EvK.nil ?_
          refine WP.joinF (fun (s2 : Unit) => [(0, .int .i64 r2), (1, .int .i64 r3), (3, Sl.val a3), (9, .pointer r5.1), (11, Sl.val x1), (12, Sl.val x2)]) hF ?_ ?_
          · intro s2 E0 h9 hF
            refine WP.joinF (fun (s3 : Unit) => [(0, .int .i64 r2), (1, .int .i64 r3), (9, .pointer r5.1), (11, Sl.val x1), (12, Sl.val x2)]) hF ?_ ?_
            · intro s3 E0 h10 hF
              refine WP.joinF (fun (s4 : Unit) => []) hF ?_ ?_
              · intro s4 E0 h11 hF
                refine WP.seq ?_
                refine WP.region ?_
                refine EvK.pure (v := .bool true) (w_none rfl) rfl rfl (f_assign rfl rfl) ?_
                refine EvK.nil ?_
                refine WP.ret ?_
                exact Ret.mk (vs := [.bool true]) true ⟨rfl, trivial⟩ rfl hF
              · intro k4 hF
                refine WP.seq ?_
                refine WP.region ?_
                refine EvK.pure (v := .int .i64 0) (w_none rfl) rfl rfl (f_assign rfl rfl) ?_
                refine EvK.nil ?_
                refine WP.block ?_
                refine WP.loopF (fun (s5 : Int) => [(24, .int .i64 s5), (0, .int .i64 r2), (1, .int .i64 r3), (9, .pointer r5.1), (11, Sl.val x1), (12, Sl.val x2)]) hF ⟨rfl, rfl, rfl, rfl, rfl, rfl, trivial⟩ ?_
                intro k5 s5 E0 h12 hF
                refine WP.seq ?_
                refine WP.seq ?_
                refine WP.region ?_
                refine EvK.pure (v := .int .i64 s5) (w_none rfl) rfl rfl (f_move rfl rfl) ?_
                refine EvK.pure (v := .int .i64 r3) (w_none rfl) rfl rfl (f_move rfl rfl) ?_
                refine EvK.pure (v := .bool (decide (s5 < r3))) (w_none rfl) rfl rfl (f_lss rfl rfl rfl) ?_
                refine EvK.nil ?_
                rcases ite_inv hF with ⟨c4, hF⟩ | ⟨c4, hF⟩
                · refine WP.cond_true _ rfl c4 ?_
                  refine WP.skip ?_
                  refine WP.joinF (fun (s6 : Unit) => [(0, .int .i64 r2), (1, .int .i64 r3), (9, .pointer r5.1), (11, Sl.val x1), (12, Sl.val x2), (24, .int .i64 s5)]) hF ?_ ?_
                  · intro s6 E0 h13 hF
                    refine WP.region ?_
                    refine EvK.pure (v := .int .i64 s5) (w_none rfl) rfl rfl (f_move rfl rfl) ?_
                    refine EvK.pure (v := .int .i64 (IntKind.i64.wrap (s5 + 1))) (w_none rfl) rfl rfl (f_add rfl rfl rfl) ?_
                    refine EvK.pure (v := .int .i64 (IntKind.i64.wrap (s5 + 1))) (w_none rfl) rfl rfl (f_assign rfl rfl) ?_
                    refine EvK.nil ?_
                    exact KE.mk (IntKind.i64.wrap (s5 + 1)) ⟨rfl, rfl, rfl, rfl, rfl, rfl, trivial⟩ hF
                  · intro k6 hF
                    refine WP.block ?_
                    refine WP.seq ?_
                    refine WP.region ?_
                    refine EvK.pure (v := .int .i64 0) (w_none rfl) rfl rfl (f_assign rfl rfl) ?_
                    refine EvK.nil ?_
                    refine WP.block ?_
                    refine WP.loopF (fun (s7 : Int) => [(25, .int .i64 s7), (0, .int .i64 r2), (1, .int .i64 r3), (9, .pointer r5.1), (11, Sl.val x1), (12, Sl.val x2), (24, .int .i64 s5)]) hF ⟨rfl, rfl, rfl, rfl, rfl, rfl, rfl, trivial⟩ ?_
                    intro k7 s7 E0 h14 hF
                    refine WP.seq ?_
                    refine WP.seq ?_
                    refine WP.region ?_
                    refine EvK.pure (v := .int .i64 s7) (w_none rfl) rfl rfl (f_move rfl rfl) ?_
                    refine EvK.pure (v := .int .i64 r2) (w_none rfl) rfl rfl (f_move rfl rfl) ?_
                    refine EvK.pure (v := .bool (decide (s7 < r2))) (w_none rfl) rfl rfl (f_lss rfl rfl rfl) ?_
                    refine EvK.nil ?_
                    rcases ite_inv hF with ⟨c5, hF⟩ | ⟨c5, hF⟩
                    · refine WP.cond_true _ rfl c5 ?_
                      refine WP.skip ?_
                      refine WP.seq ?_
                      refine WP.block ?_
                      refine WP.seq ?_
                      refine WP.draw mixed [.pure, .pure, .pure, .read, .pure, .pure, .pure, .read, .pure, .pure, .pure, .eff [], .pure] [[], [], [0, 1], [0, 1, 2], [], [], [4, 5], [4, 5, 6], [], [], [], [0, 1, 2, 3, 4, 5, 6, 7, 8, 9, 10], [0, 1, 2, 3, 4, 5, 6, 7, 8, 9, 10, 11]] [0, 1, 2, 3, 4, 5, 6, 7, 8, 9, 10, 11, 12] (by kernel_rfl) (by kernel_rfl) ?_
                      refine EvI.pure (v := Sl.val x1) rfl rfl (w_none rfl) rfl (f_move rfl rfl) ?_
                      refine EvI.pure (v := .int .i64 s7) rfl rfl (w_none rfl) rfl (f_move rfl rfl) ?_
                      obtain ⟨q1, hq1, hF⟩ := hF
                      refine EvI.pure (v := .pointer (some q1)) rfl rfl (w_none rfl) rfl (f_indexAddr (s := x1) Try.underlying42 ty45.size rfl rfl rfl hq1) ?_
                      obtain ⟨x3, hx1, hF⟩ := hF
                      refine EvI.read (v := Sl.val x3) rfl rfl (w_none rfl) rfl (f_load kL ty45 rfl rfl hx1 rfl) ?_
                      refine EvI.pure (v := Sl.val x2) rfl rfl (w_none rfl) rfl (f_move rfl rfl) ?_
                      refine EvI.pure (v := .int .i64 s5) rfl rfl (w_none rfl) rfl (f_move rfl rfl) ?_
                      obtain ⟨q2, hq2, hF⟩ := hF
                      refine EvI.pure (v := .pointer (some q2)) rfl rfl (w_none rfl) rfl (f_indexAddr (s := x2) Try.underlying43 ty50.size rfl rfl rfl hq2) ?_
                      obtain ⟨x4, hx2, hF⟩ := hF
                      refine EvI.read (v := Sl.val x4) rfl rfl (w_none rfl) rfl (f_load kL ty50 rfl rfl hx2 rfl) ?_
                      refine EvI.pure (v := .int .i64 s7) rfl rfl (w_none rfl) rfl (f_move rfl rfl) ?_
                      refine EvI.pure (v := .int .i64 s5) rfl rfl (w_none rfl) rfl (f_move rfl rfl) ?_
                      refine EvI.pure (v := .pointer r5.1) rfl rfl (w_none rfl) rfl (f_move rfl rfl) ?_
                      refine EvI.call rfl rfl (w_none rfl) rfl (enterH Try.func20 rfl rfl rfl rfl (spatelaw15_inOrder.sound hF)) ?_
                      rintro _ h15 ⟨r6, rfl, hF⟩
                      refine ⟨⟨chk_no rfl, chk_no rfl, trivial⟩, ?_⟩
                      refine EvI.pure (v := .bool (!r6)) rfl rfl (w_none rfl) rfl (f_not rfl rfl) ?_
                      refine EvI.nil ?_
                      rcases ite_inv hF with ⟨c6, hF⟩ | ⟨c6, hF⟩
                      · refine WP.cond_true _ rfl c6 ?_
                        refine WP.seq ?_
                        refine WP.region ?_
                        refine EvK.pure (v := .bool false) (w_none rfl) rfl rfl (f_assign rfl rfl) ?_
                        refine EvK.nil ?_
                        refine WP.ret ?_
                        exact Ret.mk (vs := [.bool false]) false ⟨rfl, trivial⟩ rfl hF
                      · refine WP.cond_false _ rfl c6 ?_
                        refine WP.skip ?_
                        refine WP.region ?_
                        refine EvK.pure (v := .int .i64 s7) (w_none rfl) rfl rfl (f_move rfl rfl) ?_
                        refine EvK.pure (v := .int .i64 (IntKind.i64.wrap (s7 + 1))) (w_none rfl) rfl rfl (f_add rfl rfl rfl) ?_
                        refine EvK.pure (v := .int .i64 (IntKind.i64.wrap (s7 + 1))) (w_none rfl) rfl rfl (f_assign rfl rfl) ?_
                        refine EvK.nil ?_
                        exact KE.mk (IntKind.i64.wrap (s7 + 1)) ⟨rfl, rfl, rfl, rfl, rfl, rfl, rfl, trivial⟩ hF
                    · refine WP.cond_false _ rfl c5 ?_
                      refine WP.exit ?_
                      exact KE.mk () ⟨rfl, rfl, rfl, rfl, rfl, rfl, trivial⟩ hF
                · refine WP.cond_false _ rfl c4 ?_
                  refine WP.exit ?_
                  exact KE.mk () trivial hF
            · intro k3 hF
              refine WP.seq ?_
              refine WP.region ?_
              refine EvK.pure (v := .int .i64 0) (w_none rfl) rfl rfl (f_assign rfl rfl) ?_
              refine EvK.nil ?_
              refine WP.block ?_
              refine WP.loopF (fun (s8 : Int) => [(18, .int .i64 s8), (0, .int .i64 r2), (1, .int .i64 r3), (3, Sl.val a3), (9, .pointer r5.1), (11, Sl.val x1), (12, Sl.val x2)]) hF ⟨rfl, rfl, rfl, rfl, rfl, rfl, rfl, trivial⟩ ?_
              intro k8 s8 E0 h16 hF
              refine WP.seq ?_
              refine WP.seq ?_
              refine WP.region ?_
              refine EvK.pure (v := .pointer r5.1) (w_none rfl) rfl rfl (f_move rfl rfl) ?_
              refine EvK.call (w_none rfl) rfl rfl (enterH Try.func19 rfl rfl rfl rfl (flow_Flow_Empty.sound hF)) ?_
              rintro _ h17 ⟨r11, rfl, hF⟩
              refine EvK.pure (v := .bool (!r11)) (w_none rfl) rfl rfl (f_not rfl rfl) ?_
              refine EvK.nil ?_
              rcases ite_inv hF with ⟨c7, hF⟩ | ⟨c7, hF⟩
              · refine WP.cond_true _ rfl c7 ?_
                refine WP.skip ?_
                refine WP.joinF (fun (s9 : Unit) => [(0, .int .i64 r2), (1, .int .i64 r3), (3, Sl.val a3), (9, .pointer r5.1), (11, Sl.val x1), (12, Sl.val x2), (18, .int .i64 s8)]) hF ?_ ?_
                · intro s9 E0 h18 hF
                  refine WP.region ?_
                  refine EvK.pure (v := .int .i64 s8) (w_none rfl) rfl rfl (f_move rfl rfl) ?_
                  refine EvK.pure (v := .int .i64 (IntKind.i64.wrap (s8 + 1))) (w_none rfl) rfl rfl (f_add rfl rfl rfl) ?_
                  refine EvK.pure (v := .int .i64 (IntKind.i64.wrap (s8 + 1))) (w_none rfl) rfl rfl (f_assign rfl rfl) ?_
                  refine EvK.nil ?_
                  exact KE.mk (IntKind.i64.wrap (s8 + 1)) ⟨rfl, rfl, rfl, rfl, rfl, rfl, rfl, trivial⟩ hF
                · intro k9 hF
                  refine WP.block ?_
                  refine WP.seq ?_
                  refine WP.seq ?_
                  refine WP.region ?_
                  refine EvK.pure (v := .int .i64 s8) (w_none rfl) rfl rfl (f_move rfl rfl) ?_
                  refine EvK.pure (v := Sl.val a3) (w_none rfl) rfl rfl (f_move rfl rfl) ?_
                  refine EvK.pure (v := .int .i64 (a3.len : Int)) (w_none rfl) rfl rfl (f_lenL (s := a3) Try.underlying22 rfl rfl) ?_
                  refine EvK.pure (v := .int .i64 (IntKind.i64.wrap (20 * (a3.len : Int)))) (w_none rfl) rfl rfl (f_mul rfl rfl rfl) ?_
                  refine EvK.pure (v := .int .i64 (IntKind.i64.wrap ((IntKind.i64.wrap (20 * (a3.len : Int))) + 100))) (w_none rfl) rfl rfl (f_add rfl rfl rfl) ?_
                  refine EvK.pure (v := .bool (decide (s8 > (IntKind.i64.wrap ((IntKind.i64.wrap (20 * (a3.len : Int))) + 100))))) (w_none rfl) rfl rfl (f_gtr rfl rfl rfl) ?_
                  refine EvK.nil ?_
                  rcases ite_inv hF with ⟨c8, hF⟩ | ⟨c8, hF⟩
                  · refine WP.cond_true _ rfl c8 ?_
                    refine WP.seq ?_
                    refine WP.region ?_
                    refine EvK.pure (v := .bool false) (w_none rfl) rfl rfl (f_assign rfl rfl) ?_
                    refine EvK.nil ?_
                    refine WP.ret ?_
                    exact Ret.mk (vs := [.bool false]) false ⟨rfl, trivial⟩ rfl hF
                  · refine WP.cond_false _ rfl c8 ?_
                    refine WP.skip ?_
                    refine WP.joinF (fun (s10 : Unit) => [(0, .int .i64 r2), (1, .int .i64 r3), (3, Sl.val a3), (9, .pointer r5.1), (11, Sl.val x1), (12, Sl.val x2), (18, .int .i64 s8)]) hF ?_ ?_
                    · intro s10 E0 h19 hF
                      refine WP.seq ?_
                      refine WP.region ?_
                      refine EvK.pure (v := .int .i64 0) (w_none rfl) rfl rfl (f_assign rfl rfl) ?_
                      refine EvK.nil ?_
                      refine WP.block ?_
                      refine WP.loopF (fun (s11 : Int) => [(20, .int .i64 s11), (0, .int .i64 r2), (1, .int .i64 r3), (3, Sl.val a3), (9, .pointer r5.1), (11, Sl.val x1), (12, Sl.val x2), (18, .int .i64 s8)]) hF ⟨rfl, rfl, rfl, rfl, rfl, rfl, rfl, rfl, trivial⟩ ?_
                      intro k11 s11 E0 h20 hF
                      refine WP.seq ?_
                      refine WP.seq ?_
                      refine WP.region ?_
                      refine EvK.pure (v := .int .i64 s11) (w_none rfl) rfl rfl (f_move rfl rfl) ?_
                      refine EvK.pure (v := .int .i64 r3) (w_none rfl) rfl rfl (f_move rfl rfl) ?_
                      refine EvK.pure (v := .bool (decide (s11 < r3))) (w_none rfl) rfl rfl (f_lss rfl rfl rfl) ?_
                      refine EvK.nil ?_
                      rcases ite_inv hF with ⟨c9, hF⟩ | ⟨c9, hF⟩
                      · refine WP.cond_true _ rfl c9 ?_
                        refine WP.skip ?_
                        refine WP.joinF (fun (s12 : Unit) => [(0, .int .i64 r2), (1, .int .i64 r3), (3, Sl.val a3), (9, .pointer r5.1), (11, Sl.val x1), (12, Sl.val x2), (18, .int .i64 s8), (20, .int .i64 s11)]) hF ?_ ?_
                        · intro s12 E0 h21 hF
                          refine WP.region ?_
                          refine EvK.pure (v := .int .i64 s11) (w_none rfl) rfl rfl (f_move rfl rfl) ?_
                          refine EvK.pure (v := .int .i64 (IntKind.i64.wrap (s11 + 1))) (w_none rfl) rfl rfl (f_add rfl rfl rfl) ?_
                          refine EvK.pure (v := .int .i64 (IntKind.i64.wrap (s11 + 1))) (w_none rfl) rfl rfl (f_assign rfl rfl) ?_
                          refine EvK.nil ?_
                          exact KE.mk (IntKind.i64.wrap (s11 + 1)) ⟨rfl, rfl, rfl, rfl, rfl, rfl, rfl, rfl, trivial⟩ hF
                        · intro k12 hF
                          refine WP.block ?_
                          refine WP.seq ?_
                          refine WP.region ?_
                          refine EvK.pure (v := .pointer r5.1) (w_none rfl) rfl rfl (f_move rfl rfl) ?_
                          refine EvK.pure (v := .int .i64 s11) (w_none rfl) rfl rfl (f_move rfl rfl) ?_
                          refine EvK.call (w_none rfl) rfl rfl (enterH Try.func18 rfl rfl rfl rfl (flow_Flow_Take.sound hF)) ?_
                          rintro _ h22 ⟨r12, rfl, hF⟩
                          refine EvK.pure (v := .tuple #[.int .i64 r12.1, k32.val r12.2.1, .int .i64 r12.2.2]) (w_none rfl) rfl rfl (f_move rfl rfl) ?_
                          refine EvK.pure (v := .int .i64 r12.1) (w_none rfl) rfl rfl (f_extract (vs := #[.int .i64 r12.1, k32.val r12.2.1, .int .i64 r12.2.2]) rfl rfl rfl) ?_
                          refine EvK.pure (v := k32.val r12.2.1) (w_none rfl) rfl rfl (f_extract (vs := #[.int .i64 r12.1, k32.val r12.2.1, .int .i64 r12.2.2]) rfl rfl rfl) ?_
                          refine EvK.pure (v := .int .i64 r12.2.2) (w_none rfl) rfl rfl (f_extract (vs := #[.int .i64 r12.1, k32.val r12.2.1, .int .i64 r12.2.2]) rfl rfl rfl) ?_
                          refine EvK.alloc (w_none rfl) rfl rfl (f_allocF zero33 rfl rfl hF) ?_
                          rintro _ h23 ⟨q3, rfl, hF⟩
                          refine EvK.pure (v := .int .i64 r12.1) (w_none rfl) rfl rfl (f_assign rfl rfl) ?_
                          obtain ⟨h24, hs1, hF⟩ := hF
                          refine EvK.runN (w_none rfl) rfl (f_store k32 ty33.size (z := r12.2.1) rfl rfl rfl hs1) ?_
                          rintro _ _ ⟨rfl, rfl⟩
                          refine EvK.pure (v := .int .i64 r12.2.2) (w_none rfl) rfl rfl (f_assign rfl rfl) ?_
                          refine EvK.nil ?_
                          refine WP.seq ?_
                          refine WP.region ?_
                          refine EvK.pure (v := .int .i64 r12.2.2) (w_none rfl) rfl rfl (f_move rfl rfl) ?_
                          refine EvK.pure (v := .bool (r12.2.2 == 0)) (w_none rfl) rfl rfl (f_eql rfl rfl rfl) ?_
                          refine EvK.nil ?_
                          rcases ite_inv hF with ⟨c10, hF⟩ | ⟨c10, hF⟩
                          · refine WP.cond_true _ rfl c10 ?_
                            refine WP.draw mixed [.pure, .pure, .pure, .pure, .pure, .read, .pure, .read, .pure, .alloc, .eff [], .pure, .eff []] [[], [], [], [], [2, 3], [2, 3, 4], [], [], [6, 7], [6, 7, 8], [2, 3, 4, 5, 6, 7, 8, 9], [0, 1, 2, 3, 4, 5, 6, 7, 8, 9, 10], [0, 1, 2, 3, 4, 5, 6, 7, 8, 9, 10, 11]] [0, 1, 2, 3, 4, 5, 6, 7, 8, 9, 10, 11, 12] (by kernel_rfl) (by kernel_rfl) ?_
                            refine EvI.pure (v := Sl.val x2) rfl rfl (w_none rfl) rfl (f_move rfl rfl) ?_
                            refine EvI.pure (v := .int .i64 s11) rfl rfl (w_none rfl) rfl (f_move rfl rfl) ?_
                            refine EvI.pure (v := Sl.val x2) rfl rfl (w_none rfl) rfl (f_move rfl rfl) ?_
                            refine EvI.pure (v := .int .i64 s11) rfl rfl (w_none rfl) rfl (f_move rfl rfl) ?_
                            obtain ⟨q4, hq3, hF⟩ := hF
                            refine EvI.pure (v := .pointer (some q4)) rfl rfl (w_none rfl) rfl (f_indexAddr (s := x2) Try.underlying43 ty50.size rfl rfl rfl hq3) ?_
                            obtain ⟨x5, hx3, hF⟩ := hF
                            refine EvI.read (v := Sl.val x5) rfl rfl (w_none rfl) rfl (f_load kL ty50 rfl rfl hx3 rfl) ?_
                            refine EvI.pure (v := .int .i64 r12.1) rfl rfl (w_none rfl) rfl (f_move rfl rfl) ?_
                            obtain ⟨x6, hx4, hF⟩ := hF
                            refine EvI.read (v := k32.val x6) rfl rfl (w_none rfl) rfl (f_load k32 ty33 rfl rfl hx4 rfl) ?_
                            refine EvI.pure (v := k51.val (S51.mk r12.1 x6)) rfl rfl (w_none rfl) rfl (f_build (cells := k51.enc (S51.mk r12.1 x6)) st52 rfl rfl rfl) ?_
                            refine EvI.alloc rfl rfl (w_none rfl) rfl (f_buildSliceF Try.underlying50 el52 (by decide) rfl rfl rfl hF) ?_
                            rintro _ h25 ⟨x7, rfl, hF⟩
                            refine EvI.run rfl rfl (w_none rfl) rfl (f_appendE (s := x5) (x := x7) Try.underlying50 el52 rfl rfl rfl hF) ?_
                            rintro _ h26 ⟨x8, rfl, hF⟩
                            refine ⟨⟨chk_no rfl, chk_no rfl, trivial⟩, ?_⟩
                            obtain ⟨q5, hq4, hF⟩ := hF
                            refine EvI.pure (v := .pointer (some q5)) rfl rfl (w_none rfl) rfl (f_indexAddr (s := x2) Try.underlying43 ty50.size rfl rfl rfl hq4) ?_
                            obtain ⟨h27, hs2, hF⟩ := hF
                            refine EvI.runN rfl rfl (w_none rfl) rfl (f_store kL ty50.size (z := x8) rfl rfl rfl hs2) ?_
                            rintro _ _ ⟨rfl, rfl⟩
                            refine ⟨⟨chk_no rfl, chk_no rfl, trivial⟩, ?_⟩
                            refine EvI.nil ?_
                            exact KE.mk () ⟨rfl, rfl, rfl, rfl, rfl, rfl, rfl, rfl, trivial⟩ hF
                          · refine WP.cond_false _ rfl c10 ?_
                            refine WP.skip ?_
                            exact KE.mk () ⟨rfl, rfl, rfl, rfl, rfl, rfl, rfl, rfl, trivial⟩ hF
                      · refine WP.cond_false _ rfl c9 ?_
                        refine WP.exit ?_
                        exact KE.mk () ⟨rfl, rfl, rfl, rfl, rfl, rfl, rfl, trivial⟩ hF
                    · intro k10 hF
                      refine WP.seq ?_
                      refine WP.region ?_
                      refine EvK.pure (v := .int .i64 0) (w_none rfl) rfl rfl (f_assign rfl rfl) ?_
                      refine EvK.nil ?_
                      refine WP.block ?_
                      refine WP.loopF (fun (s13 : Int) => [(19, .int .i64 s13), (0, .int .i64 r2), (1, .int .i64 r3), (3, Sl.val a3), (9, .pointer r5.1), (11, Sl.val x1), (12, Sl.val x2), (18, .int .i64 s8)]) hF ⟨rfl, rfl, rfl, rfl, rfl, rfl, rfl, rfl, trivial⟩ ?_
                      intro k13 s13 E0 h28 hF
                      refine WP.seq ?_
                      refine WP.seq ?_
                      refine WP.region ?_
                      refine EvK.pure (v := .int .i64 s13) (w_none rfl) rfl rfl (f_move rfl rfl) ?_
                      refine EvK.pure (v := .int .i64 r2) (w_none rfl) rfl rfl (f_move rfl rfl) ?_
                      refine EvK.pure (v := .bool (decide (s13 < r2))) (w_none rfl) rfl rfl (f_lss rfl rfl rfl) ?_
                      refine EvK.nil ?_
                      rcases ite_inv hF with ⟨c11, hF⟩ | ⟨c11, hF⟩
                      · refine WP.cond_true _ rfl c11 ?_
                        refine WP.skip ?_
                        refine WP.seq ?_
                        refine WP.block ?_
                        refine WP.region ?_
                        refine EvK.pure (v := .pointer r5.1) (w_none rfl) rfl rfl (f_move rfl rfl) ?_
                        refine EvK.pure (v := .int .i64 s13) (w_none rfl) rfl rfl (f_move rfl rfl) ?_
                        refine EvK.call (w_none rfl) rfl rfl (enterH Try.func17 rfl rfl rfl rfl (flow_Flow_Pass.sound hF)) ?_
                        rintro _ h29 ⟨r14, rfl, hF⟩
                        refine EvK.nil ?_
                        refine WP.region ?_
                        refine EvK.pure (v := .int .i64 s13) (w_none rfl) rfl rfl (f_move rfl rfl) ?_
                        refine EvK.pure (v := .int .i64 (IntKind.i64.wrap (s13 + 1))) (w_none rfl) rfl rfl (f_add rfl rfl rfl) ?_
                        refine EvK.pure (v := .int .i64 (IntKind.i64.wrap (s13 + 1))) (w_none rfl) rfl rfl (f_assign rfl rfl) ?_
                        refine EvK.nil ?_
                        exact KE.mk (IntKind.i64.wrap (s13 + 1)) ⟨rfl, rfl, rfl, rfl, rfl, rfl, rfl, rfl, trivial⟩ hF
                      · refine WP.cond_false _ rfl c11 ?_
                        refine WP.exit ?_
                        exact KE.mk () ⟨rfl, rfl, rfl, rfl, rfl, rfl, rfl, trivial⟩ hF
              · refine WP.cond_false _ rfl c7 ?_
                refine WP.exit ?_
                exact KE.mk () ⟨rfl, rfl, rfl, rfl, rfl, trivial⟩ hF
          · intro k2 hF
            refine WP.seq ?_
            refine WP.region ?_
            refine EvK.pure (v := .int .i64 0) (w_none rfl) rfl rfl (f_assign rfl rfl) ?_
            refine EvK.nil ?_
            refine WP.block ?_
            refine WP.loopF (fun (s14 : Int) => [(13, .int .i64 s14), (0, .int .i64 r2), (1, .int .i64 r3), (3, Sl.val a3), (9, .pointer r5.1), (11, Sl.val x1), (12, Sl.val x2)]) hF ⟨rfl, rfl, rfl, rfl, rfl, rfl, rfl, trivial⟩ ?_
            intro k14 s14 E0 h30 hF
            refine WP.seq ?_
            refine WP.seq ?_
            refine WP.region ?_
            refine EvK.pure (v := .int .i64 s14) (w_none rfl) rfl rfl (f_move rfl rfl) ?_
            refine EvK.pure (v := Sl.val a3) (w_none rfl) rfl rfl (f_move rfl rfl) ?_
            refine EvK.pure (v := .int .i64 (a3.len : Int)) (w_none rfl) rfl rfl (f_lenL (s := a3) Try.underlying22 rfl rfl) ?_
            refine EvK.pure (v := .bool (decide (s14 < (a3.len : Int)))) (w_none rfl) rfl rfl (f_lss rfl rfl rfl) ?_
            refine EvK.nil ?_
            rcases ite_inv hF with ⟨c12, hF⟩ | ⟨c12, hF⟩
            · refine WP.cond_true _ rfl c12 ?_
              refine WP.skip ?_
              refine WP.joinF (fun (s15 : Unit) => [(0, .int .i64 r2), (1, .int .i64 r3), (3, Sl.val a3), (9, .pointer r5.1), (11, Sl.val x1), (12, Sl.val x2), (13, .int .i64 s14)]) hF ?_ ?_
              · intro s15 E0 h31 hF
                refine WP.region ?_
                refine EvK.pure (v := .int .i64 s14) (w_none rfl) rfl rfl (f_move rfl rfl) ?_
                refine EvK.pure (v := .int .i64 (IntKind.i64.wrap (s14 + 1))) (w_none rfl) rfl rfl (f_add rfl rfl rfl) ?_
                refine EvK.pure (v := .int .i64 (IntKind.i64.wrap (s14 + 1))) (w_none rfl) rfl rfl (f_assign rfl rfl) ?_
                refine EvK.nil ?_
                exact KE.mk (IntKind.i64.wrap (s14 + 1)) ⟨rfl, rfl, rfl, rfl, rfl, rfl, rfl, trivial⟩ hF
              · intro k15 hF
                refine WP.block ?_
                refine WP.seq ?_
                refine WP.region ?_
                refine EvK.pure (v := Sl.val a3) (w_none rfl) rfl rfl (f_move rfl rfl) ?_
                refine EvK.pure (v := .int .i64 s14) (w_none rfl) rfl rfl (f_move rfl rfl) ?_
                obtain ⟨q6, hq5, hF⟩ := hF
                refine EvK.pure (v := .pointer (some q6)) (w_none rfl) rfl rfl (f_indexAddr (s := a3) Try.underlying22 ty35.size rfl rfl rfl hq5) ?_
                obtain ⟨x9, hx5, hF⟩ := hF
                refine EvK.read (v := k34.val x9) (w_none rfl) rfl rfl (f_load k34 ty35 rfl rfl hx5 rfl) ?_
                refine EvK.alloc (w_none rfl) rfl rfl (f_allocF zero35 rfl rfl hF) ?_
                rintro _ h32 ⟨q7, rfl, hF⟩
                obtain ⟨h33, hs3, hF⟩ := hF
                refine EvK.runN (w_none rfl) rfl (f_store k34 ty35.size (z := x9) rfl rfl rfl hs3) ?_
                rintro _ _ ⟨rfl, rfl⟩
                refine EvK.nil ?_
                refine WP.seq ?_
                refine WP.region ?_
                refine EvK.pure (v := .pointer (some (q7.add 0))) (w_none rfl) rfl rfl (f_fieldAddr fd35_0 rfl rfl) ?_
                obtain ⟨x10, hx6, hF⟩ := hF
                refine EvK.read (v := .int .i64 x10) (w_none rfl) rfl rfl (f_load (kI .i64) ty3 rfl rfl hx6 rfl) ?_
                refine EvK.nil ?_
                refine WP.block ?_
                refine WP.seq ?_
                refine WP.region ?_
                refine EvK.pure (v := .bool (x10 == 1)) (w_none rfl) rfl rfl (f_eql rfl rfl rfl) ?_
                refine EvK.pure (v := .bool (x10 == 1)) (w_none rfl) rfl rfl (f_assign rfl rfl) ?_
                refine EvK.nil ?_
                rcases ite_inv hF with ⟨c13, hF⟩ | ⟨c13, hF⟩
                · refine WP.cond_true _ rfl c13 ?_
                  refine WP.seq ?_
                  refine WP.region ?_
                  refine EvK.pure (v := .pointer r5.1) (w_none rfl) rfl rfl (f_move rfl rfl) ?_
                  refine EvK.pure (v := .pointer (some (q7.add 1))) (w_none rfl) rfl rfl (f_fieldAddr fd35_1 rfl rfl) ?_
                  obtain ⟨x11, hx7, hF⟩ := hF
                  refine EvK.read (v := .int .i64 x11) (w_none rfl) rfl rfl (f_load (kI .i64) ty3 rfl rfl hx7 rfl) ?_
                  refine EvK.pure (v := .pointer (some (q7.add 2))) (w_none rfl) rfl rfl (f_fieldAddr fd35_2 rfl rfl) ?_
                  obtain ⟨x12, hx8, hF⟩ := hF
                  refine EvK.read (v := k32.val x12) (w_none rfl) rfl rfl (f_load k32 ty33 rfl rfl hx8 rfl) ?_
                  refine EvK.call (w_none rfl) rfl rfl (enterH Try.func16 rfl rfl rfl rfl (flow_Flow_Put.sound hF)) ?_
                  rintro _ h34 ⟨r18, rfl, hF⟩
                  refine EvK.pure (v := .bool (r18 == 0)) (w_none rfl) rfl rfl (f_eql rfl rfl rfl) ?_
                  refine EvK.nil ?_
                  rcases ite_inv hF with ⟨c14, hF⟩ | ⟨c14, hF⟩
                  · refine WP.cond_true _ rfl c14 ?_
                    refine WP.draw mixed [.pure, .pure, .read, .pure, .pure, .read, .pure, .read, .pure, .read, .alloc, .eff [2], .pure, .eff []] [[], [], [1], [], [], [4], [3, 4, 5], [3, 4, 5, 6], [], [8], [8, 9], [3, 4, 5, 6, 7, 8, 9, 10], [0, 1, 2, 3, 4, 5, 6, 7, 8, 9, 10, 11], [0, 1, 2, 3, 4, 5, 6, 7, 8, 9, 10, 11, 12]] [0, 1, 2, 3, 4, 5, 6, 7, 8, 9, 10, 11, 12, 13] (by kernel_rfl) (by kernel_rfl) ?_
                    refine EvI.pure (v := Sl.val x1) rfl rfl (w_none rfl) rfl (f_move rfl rfl) ?_
                    refine EvI.pure (v := .pointer (some (q7.add 1))) rfl rfl (w_none rfl) rfl (f_fieldAddr fd35_1 rfl rfl) ?_
                    obtain ⟨x13, hx9, hF⟩ := hF
                    refine EvI.read (v := .int .i64 x13) rfl rfl (w_none rfl) rfl (f_load (kI .i64) ty3 rfl rfl hx9 rfl) ?_
                    refine EvI.pure (v := Sl.val x1) rfl rfl (w_none rfl) rfl (f_move rfl rfl) ?_
                    refine EvI.pure (v := .pointer (some (q7.add 1))) rfl rfl (w_none rfl) rfl (f_fieldAddr fd35_1 rfl rfl) ?_
                    obtain ⟨x14, hx10, hF⟩ := hF
                    refine EvI.read (v := .int .i64 x14) rfl rfl (w_none rfl) rfl (f_load (kI .i64) ty3 rfl rfl hx10 rfl) ?_
                    obtain ⟨q8, hq6, hF⟩ := hF
                    refine EvI.pure (v := .pointer (some q8)) rfl rfl (w_none rfl) rfl (f_indexAddr (s := x1) Try.underlying42 ty45.size rfl rfl rfl hq6) ?_
                    obtain ⟨x15, hx11, hF⟩ := hF
                    refine EvI.read (v := Sl.val x15) rfl rfl (w_none rfl) rfl (f_load kL ty45 rfl rfl hx11 rfl) ?_
                    refine EvI.pure (v := .pointer (some (q7.add 2))) rfl rfl (w_none rfl) rfl (f_fieldAddr fd35_2 rfl rfl) ?_
                    obtain ⟨x16, hx12, hF⟩ := hF
                    refine EvI.read (v := k32.val x16) rfl rfl (w_none rfl) rfl (f_load k32 ty33 rfl rfl hx12 rfl) ?_
                    refine EvI.alloc rfl rfl (w_none rfl) rfl (f_buildSliceF Try.underlying45 el33 (by decide) rfl rfl rfl hF) ?_
                    rintro _ h35 ⟨x17, rfl, hF⟩
                    refine EvI.run rfl rfl (w_none rfl) rfl (f_appendE (s := x15) (x := x17) Try.underlying45 el33 rfl rfl rfl hF) ?_
                    rintro _ h36 ⟨x18, rfl, hF⟩
                    obtain ⟨hy1, hF⟩ := hF
                    refine ⟨⟨chk_no rfl, chk_no rfl, chk_no rfl, chk_yes rfl (f_load (kI .i64) ty3 rfl rfl hy1 rfl), trivial⟩, ?_⟩
                    obtain ⟨q9, hq7, hF⟩ := hF
                    refine EvI.pure (v := .pointer (some q9)) rfl rfl (w_none rfl) rfl (f_indexAddr (s := x1) Try.underlying42 ty45.size rfl rfl rfl hq7) ?_
                    obtain ⟨h37, hs4, hF⟩ := hF
                    refine EvI.runN rfl rfl (w_none rfl) rfl (f_store kL ty45.size (z := x18) rfl rfl rfl hs4) ?_
                    rintro _ _ ⟨rfl, rfl⟩
                    refine ⟨⟨chk_no rfl, chk_no rfl, chk_no rfl, chk_no rfl, trivial⟩, ?_⟩
                    refine EvI.nil ?_
                    exact KE.mk () ⟨rfl, rfl, rfl, rfl, rfl, rfl, rfl, trivial⟩ hF
                  · refine WP.cond_false _ rfl c14 ?_
                    refine WP.skip ?_
                    exact KE.mk () ⟨rfl, rfl, rfl, rfl, rfl, rfl, rfl, trivial⟩ hF
                · refine WP.cond_false _ rfl c13 ?_
                  refine WP.seq ?_
                  refine WP.region ?_
                  refine EvK.pure (v := .bool (x10 == 2)) (w_none rfl) rfl rfl (f_eql rfl rfl rfl) ?_
                  refine EvK.pure (v := .bool (x10 == 2)) (w_none rfl) rfl rfl (f_assign rfl rfl) ?_
                  refine EvK.nil ?_
                  rcases ite_inv hF with ⟨c15, hF⟩ | ⟨c15, hF⟩
                  · refine WP.cond_true _ rfl c15 ?_
                    refine WP.region ?_
                    refine EvK.pure (v := .pointer r5.1) (w_none rfl) rfl rfl (f_move rfl rfl) ?_
                    refine EvK.pure (v := .pointer (some (q7.add 1))) (w_none rfl) rfl rfl (f_fieldAddr fd35_1 rfl rfl) ?_
                    obtain ⟨x19, hx13, hF⟩ := hF
                    refine EvK.read (v := .int .i64 x19) (w_none rfl) rfl rfl (f_load (kI .i64) ty3 rfl rfl hx13 rfl) ?_
                    refine EvK.call (w_none rfl) rfl rfl (enterH Try.func17 rfl rfl rfl rfl (flow_Flow_Pass.sound hF)) ?_
                    rintro _ h38 ⟨r19, rfl, hF⟩
                    refine EvK.nil ?_
                    exact KE.mk () ⟨rfl, rfl, rfl, rfl, rfl, rfl, rfl, trivial⟩ hF
                  · refine WP.cond_false _ rfl c15 ?_
                    refine WP.seq ?_
                    refine WP.region ?_
                    refine EvK.pure (v := .bool (x10 == 3)) (w_none rfl) rfl rfl (f_eql rfl rfl rfl) ?_
                    refine EvK.pure (v := .bool (x10 == 3)) (w_none rfl) rfl rfl (f_assign rfl rfl) ?_
                    refine EvK.nil ?_
                    rcases ite_inv hF with ⟨c16, hF⟩ | ⟨c16, hF⟩
                    · refine WP.cond_true _ rfl c16 ?_
                      refine WP.seq ?_
                      refine WP.region ?_
                      refine EvK.pure (v := .pointer r5.1) (w_none rfl) rfl rfl (f_move rfl rfl) ?_
                      refine EvK.pure (v := .pointer (some (q7.add 1))) (w_none rfl) rfl rfl (f_fieldAddr fd35_1 rfl rfl) ?_
                      obtain ⟨x20, hx14, hF⟩ := hF
                      refine EvK.read (v := .int .i64 x20) (w_none rfl) rfl rfl (f_load (kI .i64) ty3 rfl rfl hx14 rfl) ?_
                      refine EvK.call (w_none rfl) rfl rfl (enterH Try.func18 rfl rfl rfl rfl (flow_Flow_Take.sound hF)) ?_
                      rintro _ h39 ⟨r20, rfl, hF⟩
                      refine EvK.pure (v := .tuple #[.int .i64 r20.1, k32.val r20.2.1, .int .i64 r20.2.2]) (w_none rfl) rfl rfl (f_move rfl rfl) ?_
                      refine EvK.pure (v := .int .i64 r20.1) (w_none rfl) rfl rfl (f_extract (vs := #[.int .i64 r20.1, k32.val r20.2.1, .int .i64 r20.2.2]) rfl rfl rfl) ?_
                      refine EvK.pure (v := k32.val r20.2.1) (w_none rfl) rfl rfl (f_extract (vs := #[.int .i64 r20.1, k32.val r20.2.1, .int .i64 r20.2.2]) rfl rfl rfl) ?_
                      refine EvK.pure (v := .int .i64 r20.2.2) (w_none rfl) rfl rfl (f_extract (vs := #[.int .i64 r20.1, k32.val r20.2.1, .int .i64 r20.2.2]) rfl rfl rfl) ?_
                      refine EvK.alloc (w_none rfl) rfl rfl (f_allocF zero33 rfl rfl hF) ?_
                      rintro _ h40 ⟨q10, rfl, hF⟩
                      refine EvK.pure (v := .int .i64 r20.1) (w_none rfl) rfl rfl (f_assign rfl rfl) ?_
                      obtain ⟨h41, hs5, hF⟩ := hF
                      refine EvK.runN (w_none rfl) rfl (f_store k32 ty33.size (z := r20.2.1) rfl rfl rfl hs5) ?_
                      rintro _ _ ⟨rfl, rfl⟩
                      refine EvK.pure (v := .int .i64 r20.2.2) (w_none rfl) rfl rfl (f_assign rfl rfl) ?_
                      refine EvK.nil ?_
                      refine WP.seq ?_
                      refine WP.region ?_
                      refine EvK.pure (v := .int .i64 r20.2.2) (w_none rfl) rfl rfl (f_move rfl rfl) ?_
                      refine EvK.pure (v := .bool (r20.2.2 == 0)) (w_none rfl) rfl rfl (f_eql rfl rfl rfl) ?_
                      refine EvK.nil ?_
                      rcases ite_inv hF with ⟨c17, hF⟩ | ⟨c17, hF⟩
                      · refine WP.cond_true _ rfl c17 ?_
                        refine WP.draw mixed [.pure, .pure, .read, .pure, .pure, .read, .pure, .read, .pure, .read, .pure, .alloc, .eff [2], .pure, .eff []] [[], [], [1], [], [], [4], [3, 4, 5], [3, 4, 5, 6], [], [], [8, 9], [8, 9, 10], [3, 4, 5, 6, 7, 8, 9, 10, 11], [0, 1, 2, 3, 4, 5, 6, 7, 8, 9, 10, 11, 12], [0, 1, 2, 3, 4, 5, 6, 7, 8, 9, 10, 11, 12, 13]] [0, 1, 2, 3, 4, 5, 6, 7, 8, 9, 10, 11, 12, 13, 14] (by kernel_rfl) (by kernel_rfl) ?_
                        refine EvI.pure (v := Sl.val x2) rfl rfl (w_none rfl) rfl (f_move rfl rfl) ?_
                        refine EvI.pure (v := .pointer (some (q7.add 1))) rfl rfl (w_none rfl) rfl (f_fieldAddr fd35_1 rfl rfl) ?_
                        obtain ⟨x21, hx15, hF⟩ := hF
                        refine EvI.read (v := .int .i64 x21) rfl rfl (w_none rfl) rfl (f_load (kI .i64) ty3 rfl rfl hx15 rfl) ?_
                        refine EvI.pure (v := Sl.val x2) rfl rfl (w_none rfl) rfl (f_move rfl rfl) ?_
                        refine EvI.pure (v := .pointer (some (q7.add 1))) rfl rfl (w_none rfl) rfl (f_fieldAddr fd35_1 rfl rfl) ?_
                        obtain ⟨x22, hx16, hF⟩ := hF
                        refine EvI.read (v := .int .i64 x22) rfl rfl (w_none rfl) rfl (f_load (kI .i64) ty3 rfl rfl hx16 rfl) ?_
                        obtain ⟨q11, hq8, hF⟩ := hF
                        refine EvI.pure (v := .pointer (some q11)) rfl rfl (w_none rfl) rfl (f_indexAddr (s := x2) Try.underlying43 ty50.size rfl rfl rfl hq8) ?_
                        obtain ⟨x23, hx17, hF⟩ := hF
                        refine EvI.read (v := Sl.val x23) rfl rfl (w_none rfl) rfl (f_load kL ty50 rfl rfl hx17 rfl) ?_
                        refine EvI.pure (v := .int .i64 r20.1) rfl rfl (w_none rfl) rfl (f_move rfl rfl) ?_
                        obtain ⟨x24, hx18, hF⟩ := hF
                        refine EvI.read (v := k32.val x24) rfl rfl (w_none rfl) rfl (f_load k32 ty33 rfl rfl hx18 rfl) ?_
                        refine EvI.pure (v := k51.val (S51.mk r20.1 x24)) rfl rfl (w_none rfl) rfl (f_build (cells := k51.enc (S51.mk r20.1 x24)) st52 rfl rfl rfl) ?_
                        refine EvI.alloc rfl rfl (w_none rfl) rfl (f_buildSliceF Try.underlying50 el52 (by decide) rfl rfl rfl hF) ?_
                        rintro _ h42 ⟨x25, rfl, hF⟩
                        refine EvI.run rfl rfl (w_none rfl) rfl (f_appendE (s := x23) (x := x25) Try.underlying50 el52 rfl rfl rfl hF) ?_
                        rintro _ h43 ⟨x26, rfl, hF⟩
                        obtain ⟨hy2, hF⟩ := hF
                        refine ⟨⟨chk_no rfl, chk_no rfl, chk_no rfl, chk_yes rfl (f_load (kI .i64) ty3 rfl rfl hy2 rfl), trivial⟩, ?_⟩
                        obtain ⟨q12, hq9, hF⟩ := hF
                        refine EvI.pure (v := .pointer (some q12)) rfl rfl (w_none rfl) rfl (f_indexAddr (s := x2) Try.underlying43 ty50.size rfl rfl rfl hq9) ?_
                        obtain ⟨h44, hs6, hF⟩ := hF
                        refine EvI.runN rfl rfl (w_none rfl) rfl (f_store kL ty50.size (z := x26) rfl rfl rfl hs6) ?_
                        rintro _ _ ⟨rfl, rfl⟩
                        refine ⟨⟨chk_no rfl, chk_no rfl, chk_no rfl, chk_no rfl, trivial⟩, ?_⟩
                        refine EvI.nil ?_
                        exact KE.mk () ⟨rfl, rfl, rfl, rfl, rfl, rfl, rfl, trivial⟩ hF
                      · refine WP.cond_false _ rfl c17 ?_
                        refine WP.skip ?_
                        exact KE.mk () ⟨rfl, rfl, rfl, rfl, rfl, rfl, rfl, trivial⟩ hF
                    · refine WP.cond_false _ rfl c16 ?_
                      refine WP.skip ?_
                      exact KE.mk () ⟨rfl, rfl, rfl, rfl, rfl, rfl, rfl, trivial⟩ hF
            · refine WP.cond_false _ rfl c12 ?_
              refine WP.exit ?_
              exact KE.mk () ⟨rfl, rfl, rfl, rfl, rfl, rfl, trivial⟩ hF
      · intro k1 hF
        refine WP.region ?_
        refine EvK.pure (v := .int .i64 r5.2) (w_none rfl) rfl rfl (f_move rfl rfl) ?_
        refine EvK.pure (v := .bool (r5.2 != 0)) (w_none rfl) rfl rfl (f_neq rfl rfl rfl) ?_
        refine EvK.pure (v := .bool (r5.2 != 0)) (w_none rfl) rfl rfl (f_move rfl rfl) ?_
        rcases ite_inv hF with ⟨c18, hF⟩ | ⟨c18, hF⟩
        · refine EvK.not (w_not rfl rfl c18) rfl rfl ?_
          refine EvK.not (w_not rfl rfl c18) rfl rfl ?_
          refine EvK.pure (v := .bool true) (w_none rfl) rfl rfl (f_pickT rfl rfl c18 rfl) ?_
          refine EvK.nil ?_
          exact KE.mk true ⟨rfl, rfl, rfl, rfl, rfl, trivial⟩ hF
        · refine EvK.pure (v := .pointer r5.1) (w_some rfl rfl c18) rfl rfl (f_move rfl rfl) ?_
          refine EvK.pure (v := .bool r5.1.isNone) (w_some rfl rfl c18) rfl rfl (f_peqln Try.underlying24 rfl rfl rfl) ?_
          refine EvK.pure (v := .bool r5.1.isNone) (w_none rfl) rfl rfl (f_pickF rfl rfl c18 rfl) ?_
          refine EvK.nil ?_
          exact KE.mk r5.1.isNone ⟨rfl, rfl, rfl, rfl, rfl, trivial⟩ hF
end Go.Proofs.Ytanpaamamfabkaa
