/- spate/spatelaw15.inOrder, as a predicate over the heap, and that the code comes to it. Printed by gen.py. -/
import Derived.Test.YtanpaamamfabkaaTy
import Derived.Test.YtanpaamamfabkaaF13
namespace Go.Proofs.Ytanpaamamfabkaa
open Go Go.Tr
set_option linter.unusedVariables false
set_option maxRecDepth 100000
set_option maxHeartbeats 400000
def spatelaw15_inOrder.b1 (p0 : Sl) (p3 : Int) (p4 : Option Addr) (s : Int) (h : H) (K : Int ⊕ (Unit ⊕ Bool) → H → Prop) : Prop :=
  if (decide (s < (p0.len : Int))) = true then
    jn (fun (k3 : Bool → H → Prop) =>
      rd (ixA 4 p0 s) fun q1 =>
      rd (ld kB (q1.add 0) h) fun x1 =>
      if x1 = true then
        k3 true h
      else
        rd (ixA 4 p0 s) fun q2 =>
        rd (ld kS (q2.add 1) h) fun x2 =>
        flow_Flow_Route p4 x2 h fun r1 h4 =>
        k3 (r1 == p3) h4) fun s3 h3 =>
    if s3 = true then
      K (.inr (.inr false)) h3
    else
      K (.inl (IntKind.i64.wrap (s + 1))) h3
  else
    K (.inr (.inl ())) h
def spatelaw15_inOrder.b3 (p0 : Sl) (p1 : Sl) (p2 : Int) (p3 : Int) (p4 : Option Addr) (p12 : Int) (s : Int) (h : H) (K : Int ⊕ Int → H → Prop) : Prop :=
  jn (fun (k8 : Bool → H → Prop) =>
    if (decide (s < (p0.len : Int))) = true then
      rd (ixA 4 p0 s) fun q6 =>
      rd (ld kB (q6.add 0) h) fun x6 =>
      if (!x6) = true then
        rd (ixA 4 p0 s) fun q7 =>
        rd (ld kS (q7.add 1) h) fun x7 =>
        flow_Flow_Route p4 x7 h fun r4 h10 =>
        k8 (r4 != p3) h10
      else
        k8 false h
    else
      k8 false h) fun s8 h9 =>
  if s8 = true then
    K (.inl (IntKind.i64.wrap (s + 1))) h9
  else
    K (.inr s) h9
def spatelaw15_inOrder.b2 (p0 : Sl) (p1 : Sl) (p2 : Int) (p3 : Int) (p4 : Option Addr) (s : Int × Int) (h : H) (K : (Int × Int) ⊕ (Int ⊕ Bool) → H → Prop) : Prop :=
  if (decide (s.2 < (p1.len : Int))) = true then
    jn (fun (k5 : Int → H → Prop) =>
      rd (ixA 5 p1 s.2) fun q3 =>
      rd (ld (kI .i64) (q3.add 0) h) fun x3 =>
      if (x3 != p2) = true then
        k5 s.1 h
      else
        jn (fun (k6 : Int → H → Prop) =>
          loopE (spatelaw15_inOrder.b3 p0 p1 p2 p3 p4 s.2) s.1 h (fun r5 hh => k6 r5 hh)) fun s6 h7 =>
        jn (fun (k7 : Bool → H → Prop) =>
          if (s6 == (p0.len : Int)) = true then
            k7 true h7
          else
            rd (ixA 4 p0 s6) fun q4 =>
            rd (ld k32 q4 h7) fun x4 =>
            rd (ixA 5 p1 s.2) fun q5 =>
            rd (ld k32 (q5.add 1) h7) fun x5 =>
            k7 (!(eq33 x4 x5)) h7) fun s7 h8 =>
        if s7 = true then
          K (.inr (.inr false)) h8
        else
          k5 (IntKind.i64.wrap (s6 + 1)) h8) fun s5 h6 =>
    K (.inl (s5, IntKind.i64.wrap (s.2 + 1))) h6
  else
    K (.inr (.inl s.1)) h
/-- spate/spatelaw15.inOrder -/
def spatelaw15_inOrder (a0 : Sl) (a1 : Sl) (a2 : Int) (a3 : Int) (a4 : Option Addr) (h : H) (Q : Bool → H → Prop) : Prop :=
  jn (fun (k1 : Int → H → Prop) =>
    loopE (spatelaw15_inOrder.b2 a0 a1 a2 a3 a4) (0, 0) h (sumK (fun r6 hh => k1 r6 hh) (fun r7 hh => Q r7 hh))) fun s1 h1 =>
  jn (fun (k2 : Unit → H → Prop) =>
    loopE (spatelaw15_inOrder.b1 a0 a3 a4) s1 h1 (sumK (fun r2 hh => k2 r2 hh) (fun r3 hh => Q r3 hh))) fun s2 h2 =>
  Q true h2
theorem spatelaw15_inOrder.sound {a0 : Sl} {a1 : Sl} {a2 : Int} {a3 : Int} {a4 : Option Addr} {h : H} {Q : Bool → H → Prop} (hF : spatelaw15_inOrder a0 a1 a2 a3 a4 h Q) :
    CallsH Try.prog 20 (List.toArray (α := Value) [Sl.val a0, Sl.val a1, .int .i64 a2, .int .i64 a3, .pointer a4]) h fun v h' => ∃ x : Bool, v = .bool x ∧ Q x h' := by
  refine CallsH.of_body Try.func20 rfl 91 rfl rfl ?_
  refine WP.seq ?_
  refine WP.region ?_
  refine EvK.pure (v := .bool false) (w_none rfl) rfl rfl (f_assign rfl rfl) ?_
  refine EvK.nil ?_
  refine WP.seq ?_
  refine WP.region ?_
  refine EvK.pure (v := .int .i64 0) (w_none rfl) rfl rfl (f_assign rfl rfl) ?_
  refine EvK.nil ?_
  refine WP.joinF (fun (s1 : Int) => [(11, .int .i64 s1), (0, Sl.val a0), (3, .int .i64 a3), (4, .pointer a4)]) hF ?_ ?_
  · intro s1 E0 h1 hF
    refine WP.joinF (fun (s2 : Unit) => []) hF ?_ ?_
    · intro s2 E0 h2 hF
      refine WP.seq ?_
      refine WP.region ?_
      refine EvK.pure (v := .bool true) (w_none rfl) rfl rfl (f_assign rfl rfl) ?_
      refine EvK.nil ?_
      refine WP.ret ?_
      exact Ret.mk (vs := [.bool true]) true ⟨rfl, trivial⟩ rfl hF
    · intro k2 hF
      refine WP.block ?_
      refine WP.loopF (fun (s3 : Int) => [(11, .int .i64 s3), (0, Sl.val a0), (3, .int .i64 a3), (4, .pointer a4)]) hF ⟨rfl, rfl, rfl, rfl, trivial⟩ ?_
      intro k3 s3 E0 h3 hF
      refine WP.seq ?_
      refine WP.seq ?_
      refine WP.region ?_
      refine EvK.pure (v := .int .i64 s3) (w_none rfl) rfl rfl (f_move rfl rfl) ?_
      refine EvK.pure (v := Sl.val a0) (w_none rfl) rfl rfl (f_move rfl rfl) ?_
      refine EvK.pure (v := .int .i64 (a0.len : Int)) (w_none rfl) rfl rfl (f_lenL (s := a0) Try.underlying45 rfl rfl) ?_
      refine EvK.pure (v := .bool (decide (s3 < (a0.len : Int)))) (w_none rfl) rfl rfl (f_lss rfl rfl rfl) ?_
      refine EvK.nil ?_
      rcases ite_inv hF with ⟨c1, hF⟩ | ⟨c1, hF⟩
      · refine WP.cond_true _ rfl c1 ?_
        refine WP.skip ?_
        refine WP.block ?_
        refine WP.seq ?_
        refine WP.joinF (fun (s4 : Bool) => [(88, .bool s4), (0, Sl.val a0), (3, .int .i64 a3), (4, .pointer a4), (11, .int .i64 s3)]) hF ?_ ?_
        · intro s4 E0 h4 hF
          rcases ite_inv hF with ⟨c2, hF⟩ | ⟨c2, hF⟩
          · refine WP.cond_true _ rfl c2 ?_
            refine WP.seq ?_
            refine WP.region ?_
            refine EvK.pure (v := .bool false) (w_none rfl) rfl rfl (f_assign rfl rfl) ?_
            refine EvK.nil ?_
            refine WP.ret ?_
            exact Ret.mk (vs := [.bool false]) false ⟨rfl, trivial⟩ rfl hF
          · refine WP.cond_false _ rfl c2 ?_
            refine WP.skip ?_
            refine WP.region ?_
            refine EvK.pure (v := .int .i64 s3) (w_none rfl) rfl rfl (f_move rfl rfl) ?_
            refine EvK.pure (v := .int .i64 (IntKind.i64.wrap (s3 + 1))) (w_none rfl) rfl rfl (f_add rfl rfl rfl) ?_
            refine EvK.pure (v := .int .i64 (IntKind.i64.wrap (s3 + 1))) (w_none rfl) rfl rfl (f_assign rfl rfl) ?_
            refine EvK.nil ?_
            exact KE.mk (IntKind.i64.wrap (s3 + 1)) ⟨rfl, rfl, rfl, rfl, trivial⟩ hF
        · intro k4 hF
          refine WP.region ?_
          refine EvK.pure (v := Sl.val a0) (w_none rfl) rfl rfl (f_move rfl rfl) ?_
          refine EvK.pure (v := .int .i64 s3) (w_none rfl) rfl rfl (f_move rfl rfl) ?_
          obtain ⟨q1, hq1, hF⟩ := hF
          refine EvK.pure (v := .pointer (some q1)) (w_none rfl) rfl rfl (f_indexAddr (s := a0) Try.underlying45 ty33.size rfl rfl rfl hq1) ?_
          refine EvK.pure (v := .pointer (some (q1.add 0))) (w_none rfl) rfl rfl (f_fieldAddr fd33_0 rfl rfl) ?_
          obtain ⟨x1, hx1, hF⟩ := hF
          refine EvK.read (v := .bool x1) (w_none rfl) rfl rfl (f_load kB ty4 rfl rfl hx1 rfl) ?_
          refine EvK.pure (v := .bool x1) (w_none rfl) rfl rfl (f_move rfl rfl) ?_
          rcases ite_inv hF with ⟨c3, hF⟩ | ⟨c3, hF⟩
          · refine EvK.not (w_not rfl rfl c3) rfl rfl ?_
            refine EvK.not (w_not rfl rfl c3) rfl rfl ?_
            refine EvK.not (w_not rfl rfl c3) rfl rfl ?_
            refine EvK.not (w_not rfl rfl c3) rfl rfl ?_
            refine EvK.not (w_not rfl rfl c3) rfl rfl ?_
            refine EvK.not (w_not rfl rfl c3) rfl rfl ?_
            refine EvK.not (w_not rfl rfl c3) rfl rfl ?_
            refine EvK.not (w_not rfl rfl c3) rfl rfl ?_
            refine EvK.not (w_not rfl rfl c3) rfl rfl ?_
            refine EvK.pure (v := .bool true) (w_none rfl) rfl rfl (f_pickT rfl rfl c3 rfl) ?_
            refine EvK.nil ?_
            exact KE.mk true ⟨rfl, rfl, rfl, rfl, rfl, trivial⟩ hF
          · refine EvK.pure (v := .pointer a4) (w_some rfl rfl c3) rfl rfl (f_move rfl rfl) ?_
            refine EvK.pure (v := Sl.val a0) (w_some rfl rfl c3) rfl rfl (f_move rfl rfl) ?_
            refine EvK.pure (v := .int .i64 s3) (w_some rfl rfl c3) rfl rfl (f_move rfl rfl) ?_
            obtain ⟨q2, hq2, hF⟩ := hF
            refine EvK.pure (v := .pointer (some q2)) (w_some rfl rfl c3) rfl rfl (f_indexAddr (s := a0) Try.underlying45 ty33.size rfl rfl rfl hq2) ?_
            refine EvK.pure (v := .pointer (some (q2.add 1))) (w_some rfl rfl c3) rfl rfl (f_fieldAddr fd33_1 rfl rfl) ?_
            obtain ⟨x2, hx2, hF⟩ := hF
            refine EvK.read (v := .string x2) (w_some rfl rfl c3) rfl rfl (f_load kS ty9 rfl rfl hx2 rfl) ?_
            refine EvK.call (w_some rfl rfl c3) rfl rfl (enterH Try.func13 rfl rfl rfl rfl (flow_Flow_Route.sound hF)) ?_
            rintro _ h5 ⟨r1, rfl, hF⟩
            refine EvK.pure (v := .int .i64 a3) (w_some rfl rfl c3) rfl rfl (f_move rfl rfl) ?_
            refine EvK.pure (v := .bool (r1 == a3)) (w_some rfl rfl c3) rfl rfl (f_eql rfl rfl rfl) ?_
            refine EvK.pure (v := .bool (r1 == a3)) (w_none rfl) rfl rfl (f_pickF rfl rfl c3 rfl) ?_
            refine EvK.nil ?_
            exact KE.mk (r1 == a3) ⟨rfl, rfl, rfl, rfl, rfl, trivial⟩ hF
      · refine WP.cond_false _ rfl c1 ?_
        refine WP.exit ?_
        exact KE.mk () trivial hF
  · intro k1 hF
    refine WP.seq ?_
    refine WP.region ?_
    refine EvK.pure (v := .int .i64 0) (w_none rfl) rfl rfl (f_assign rfl rfl) ?_
    refine EvK.nil ?_
    refine WP.block ?_
    refine WP.loopF (fun (s5 : Int × Int) => [(11, .int .i64 s5.1), (12, .int .i64 s5.2), (0, Sl.val a0), (1, Sl.val a1), (2, .int .i64 a2), (3, .int .i64 a3), (4, .pointer a4)]) hF ⟨rfl, rfl, rfl, rfl, rfl, rfl, rfl, trivial⟩ ?_
    intro k5 s5 E0 h6 hF
    refine WP.seq ?_
    refine WP.seq ?_
    refine WP.region ?_
    refine EvK.pure (v := .int .i64 s5.2) (w_none rfl) rfl rfl (f_move rfl rfl) ?_
    refine EvK.pure (v := Sl.val a1) (w_none rfl) rfl rfl (f_move rfl rfl) ?_
    refine EvK.pure (v := .int .i64 (a1.len : Int)) (w_none rfl) rfl rfl (f_lenL (s := a1) Try.underlying50 rfl rfl) ?_
    refine EvK.pure (v := .bool (decide (s5.2 < (a1.len : Int)))) (w_none rfl) rfl rfl (f_lss rfl rfl rfl) ?_
    refine EvK.nil ?_
    rcases ite_inv hF with ⟨c4, hF⟩ | ⟨c4, hF⟩
    · refine WP.cond_true _ rfl c4 ?_
      refine WP.skip ?_
      refine WP.joinF (fun (s6 : Int) => [(11, .int .i64 s6), (0, Sl.val a0), (1, Sl.val a1), (2, .int .i64 a2), (3, .int .i64 a3), (4, .pointer a4), (12, .int .i64 s5.2)]) hF ?_ ?_
      · intro s6 E0 h7 hF
        refine WP.region ?_
        refine EvK.pure (v := .int .i64 s5.2) (w_none rfl) rfl rfl (f_move rfl rfl) ?_
        refine EvK.pure (v := .int .i64 (IntKind.i64.wrap (s5.2 + 1))) (w_none rfl) rfl rfl (f_add rfl rfl rfl) ?_
        refine EvK.pure (v := .int .i64 (IntKind.i64.wrap (s5.2 + 1))) (w_none rfl) rfl rfl (f_assign rfl rfl) ?_
        refine EvK.nil ?_
        exact KE.mk (s6, IntKind.i64.wrap (s5.2 + 1)) ⟨rfl, rfl, rfl, rfl, rfl, rfl, rfl, trivial⟩ hF
      · intro k6 hF
        refine WP.block ?_
        refine WP.seq ?_
        refine WP.seq ?_
        refine WP.region ?_
        refine EvK.pure (v := Sl.val a1) (w_none rfl) rfl rfl (f_move rfl rfl) ?_
        refine EvK.pure (v := .int .i64 s5.2) (w_none rfl) rfl rfl (f_move rfl rfl) ?_
        obtain ⟨q3, hq3, hF⟩ := hF
        refine EvK.pure (v := .pointer (some q3)) (w_none rfl) rfl rfl (f_indexAddr (s := a1) Try.underlying50 ty52.size rfl rfl rfl hq3) ?_
        refine EvK.pure (v := .pointer (some (q3.add 0))) (w_none rfl) rfl rfl (f_fieldAddr fd52_0 rfl rfl) ?_
        obtain ⟨x3, hx3, hF⟩ := hF
        refine EvK.read (v := .int .i64 x3) (w_none rfl) rfl rfl (f_load (kI .i64) ty3 rfl rfl hx3 rfl) ?_
        refine EvK.pure (v := .int .i64 a2) (w_none rfl) rfl rfl (f_move rfl rfl) ?_
        refine EvK.pure (v := .bool (x3 != a2)) (w_none rfl) rfl rfl (f_neq rfl rfl rfl) ?_
        refine EvK.nil ?_
        rcases ite_inv hF with ⟨c5, hF⟩ | ⟨c5, hF⟩
        · refine WP.cond_true _ rfl c5 ?_
          refine WP.exit ?_
          exact KE.mk s5.1 ⟨rfl, rfl, rfl, rfl, rfl, rfl, rfl, trivial⟩ hF
        · refine WP.cond_false _ rfl c5 ?_
          refine WP.skip ?_
          refine WP.joinF (fun (s7 : Int) => [(11, .int .i64 s7), (0, Sl.val a0), (1, Sl.val a1), (2, .int .i64 a2), (3, .int .i64 a3), (4, .pointer a4), (12, .int .i64 s5.2)]) hF ?_ ?_
          · intro s7 E0 h8 hF
            refine WP.seq ?_
            refine WP.joinF (fun (s8 : Bool) => [(66, .bool s8), (0, Sl.val a0), (1, Sl.val a1), (2, .int .i64 a2), (3, .int .i64 a3), (4, .pointer a4), (11, .int .i64 s7), (12, .int .i64 s5.2)]) hF ?_ ?_
            · intro s8 E0 h9 hF
              rcases ite_inv hF with ⟨c6, hF⟩ | ⟨c6, hF⟩
              · refine WP.cond_true _ rfl c6 ?_
                refine WP.seq ?_
                refine WP.region ?_
                refine EvK.pure (v := .bool false) (w_none rfl) rfl rfl (f_assign rfl rfl) ?_
                refine EvK.nil ?_
                refine WP.ret ?_
                exact Ret.mk (vs := [.bool false]) false ⟨rfl, trivial⟩ rfl hF
              · refine WP.cond_false _ rfl c6 ?_
                refine WP.skip ?_
                refine WP.region ?_
                refine EvK.pure (v := .int .i64 s7) (w_none rfl) rfl rfl (f_move rfl rfl) ?_
                refine EvK.pure (v := .int .i64 (IntKind.i64.wrap (s7 + 1))) (w_none rfl) rfl rfl (f_add rfl rfl rfl) ?_
                refine EvK.pure (v := .int .i64 (IntKind.i64.wrap (s7 + 1))) (w_none rfl) rfl rfl (f_assign rfl rfl) ?_
                refine EvK.nil ?_
                exact KE.mk (IntKind.i64.wrap (s7 + 1)) ⟨rfl, rfl, rfl, rfl, rfl, rfl, rfl, trivial⟩ hF
            · intro k8 hF
              refine WP.draw mixed [.pure, .pure, .pure, .pure, .pure, .pure, .pure, .pure, .read, .pure, .pure, .pure, .pure, .read, .pure, .pure] [[], [], [1], [0, 1, 2], [0, 1, 2, 3], [0, 1, 2, 3, 4], [0, 1, 2, 3, 4], [0, 1, 2, 3, 4, 5, 6], [0, 1, 2, 3, 4, 5, 6, 7], [0, 1, 2, 3, 4], [0, 1, 2, 3, 4], [0, 1, 2, 3, 4, 9, 10], [0, 1, 2, 3, 4, 9, 10, 11], [0, 1, 2, 3, 4, 9, 10, 11, 12], [0, 1, 2, 3, 4, 5, 6, 7, 8, 9, 10, 11, 12, 13], [0, 1, 2, 3, 4, 5, 6, 7, 8, 9, 10, 11, 12, 13, 14]] [0, 1, 2, 3, 4, 5, 6, 7, 8, 9, 10, 11, 12, 13, 14, 15] (by kernel_rfl) (by kernel_rfl) ?_
              refine EvI.pure (v := .int .i64 s7) rfl rfl (w_none rfl) rfl (f_move rfl rfl) ?_
              refine EvI.pure (v := Sl.val a0) rfl rfl (w_none rfl) rfl (f_move rfl rfl) ?_
              refine EvI.pure (v := .int .i64 (a0.len : Int)) rfl rfl (w_none rfl) rfl (f_lenL (s := a0) Try.underlying45 rfl rfl) ?_
              refine EvI.pure (v := .bool (s7 == (a0.len : Int))) rfl rfl (w_none rfl) rfl (f_eql rfl rfl rfl) ?_
              refine EvI.pure (v := .bool (s7 == (a0.len : Int))) rfl rfl (w_none rfl) rfl (f_move rfl rfl) ?_
              rcases ite_inv hF with ⟨c7, hF⟩ | ⟨c7, hF⟩
              · refine EvI.not rfl (w_not rfl rfl c7) rfl ?_
                refine EvI.not rfl (w_not rfl rfl c7) rfl ?_
                refine EvI.not rfl (w_not rfl rfl c7) rfl ?_
                refine EvI.not rfl (w_not rfl rfl c7) rfl ?_
                refine EvI.not rfl (w_not rfl rfl c7) rfl ?_
                refine EvI.not rfl (w_not rfl rfl c7) rfl ?_
                refine EvI.not rfl (w_not rfl rfl c7) rfl ?_
                refine EvI.not rfl (w_not rfl rfl c7) rfl ?_
                refine EvI.not rfl (w_not rfl rfl c7) rfl ?_
                refine EvI.not rfl (w_not rfl rfl c7) rfl ?_
                refine EvI.pure (v := .bool true) rfl rfl (w_none rfl) rfl (f_pickT rfl rfl c7 rfl) ?_
                refine EvI.nil ?_
                exact KE.mk true ⟨rfl, rfl, rfl, rfl, rfl, rfl, rfl, rfl, trivial⟩ hF
              · refine EvI.pure (v := Sl.val a0) rfl rfl (w_some rfl rfl c7) rfl (f_move rfl rfl) ?_
                refine EvI.pure (v := .int .i64 s7) rfl rfl (w_some rfl rfl c7) rfl (f_move rfl rfl) ?_
                obtain ⟨q4, hq4, hF⟩ := hF
                refine EvI.pure (v := .pointer (some q4)) rfl rfl (w_some rfl rfl c7) rfl (f_indexAddr (s := a0) Try.underlying45 ty33.size rfl rfl rfl hq4) ?_
                obtain ⟨x4, hx4, hF⟩ := hF
                refine EvI.read (v := k32.val x4) rfl rfl (w_some rfl rfl c7) rfl (f_load k32 ty33 rfl rfl hx4 rfl) ?_
                refine EvI.pure (v := Sl.val a1) rfl rfl (w_some rfl rfl c7) rfl (f_move rfl rfl) ?_
                refine EvI.pure (v := .int .i64 s5.2) rfl rfl (w_some rfl rfl c7) rfl (f_move rfl rfl) ?_
                obtain ⟨q5, hq5, hF⟩ := hF
                refine EvI.pure (v := .pointer (some q5)) rfl rfl (w_some rfl rfl c7) rfl (f_indexAddr (s := a1) Try.underlying50 ty52.size rfl rfl rfl hq5) ?_
                refine EvI.pure (v := .pointer (some (q5.add 1))) rfl rfl (w_some rfl rfl c7) rfl (f_fieldAddr fd52_1 rfl rfl) ?_
                obtain ⟨x5, hx5, hF⟩ := hF
                refine EvI.read (v := k32.val x5) rfl rfl (w_some rfl rfl c7) rfl (f_load k32 ty33 rfl rfl hx5 rfl) ?_
                refine EvI.pure (v := .bool (!(eq33 x4 x5))) rfl rfl (w_some rfl rfl c7) rfl (f_neqOf rfl rfl rfl (guard33 _ _) rfl (eqIn33 _ _)) ?_
                refine EvI.pure (v := .bool (!(eq33 x4 x5))) rfl rfl (w_none rfl) rfl (f_pickF rfl rfl c7 rfl) ?_
                refine EvI.nil ?_
                exact KE.mk (!(eq33 x4 x5)) ⟨rfl, rfl, rfl, rfl, rfl, rfl, rfl, rfl, trivial⟩ hF
          · intro k7 hF
            refine WP.block ?_
            refine WP.loopF (fun (s9 : Int) => [(11, .int .i64 s9), (0, Sl.val a0), (1, Sl.val a1), (2, .int .i64 a2), (3, .int .i64 a3), (4, .pointer a4), (12, .int .i64 s5.2)]) hF ⟨rfl, rfl, rfl, rfl, rfl, rfl, rfl, trivial⟩ ?_
            intro k9 s9 E0 h10 hF
            refine WP.seq ?_
            refine WP.joinF (fun (s10 : Bool) => [(48, .bool s10), (0, Sl.val a0), (1, Sl.val a1), (2, .int .i64 a2), (3, .int .i64 a3), (4, .pointer a4), (11, .int .i64 s9), (12, .int .i64 s5.2)]) hF ?_ ?_
            · intro s10 E0 h11 hF
              rcases ite_inv hF with ⟨c8, hF⟩ | ⟨c8, hF⟩
              · refine WP.cond_true _ rfl c8 ?_
                refine WP.skip ?_
                refine WP.block ?_
                refine WP.region ?_
                refine EvK.pure (v := .int .i64 s9) (w_none rfl) rfl rfl (f_move rfl rfl) ?_
                refine EvK.pure (v := .int .i64 (IntKind.i64.wrap (s9 + 1))) (w_none rfl) rfl rfl (f_add rfl rfl rfl) ?_
                refine EvK.pure (v := .int .i64 (IntKind.i64.wrap (s9 + 1))) (w_none rfl) rfl rfl (f_assign rfl rfl) ?_
                refine EvK.nil ?_
                exact KE.mk (IntKind.i64.wrap (s9 + 1)) ⟨rfl, rfl, rfl, rfl, rfl, rfl, rfl, trivial⟩ hF
              · refine WP.cond_false _ rfl c8 ?_
                refine WP.exit ?_
                exact KE.mk s9 ⟨rfl, rfl, rfl, rfl, rfl, rfl, rfl, trivial⟩ hF
            · intro k10 hF
              refine WP.region ?_
              refine EvK.pure (v := .int .i64 s9) (w_none rfl) rfl rfl (f_move rfl rfl) ?_
              refine EvK.pure (v := Sl.val a0) (w_none rfl) rfl rfl (f_move rfl rfl) ?_
              refine EvK.pure (v := .int .i64 (a0.len : Int)) (w_none rfl) rfl rfl (f_lenL (s := a0) Try.underlying45 rfl rfl) ?_
              refine EvK.pure (v := .bool (decide (s9 < (a0.len : Int)))) (w_none rfl) rfl rfl (f_lss rfl rfl rfl) ?_
              refine EvK.pure (v := .bool (decide (s9 < (a0.len : Int)))) (w_none rfl) rfl rfl (f_move rfl rfl) ?_
              rcases ite_inv hF with ⟨c9, hF⟩ | ⟨c9, hF⟩
              · refine EvK.pure (v := Sl.val a0) (w_some rfl rfl c9) rfl rfl (f_move rfl rfl) ?_
                refine EvK.pure (v := .int .i64 s9) (w_some rfl rfl c9) rfl rfl (f_move rfl rfl) ?_
                obtain ⟨q6, hq6, hF⟩ := hF
                refine EvK.pure (v := .pointer (some q6)) (w_some rfl rfl c9) rfl rfl (f_indexAddr (s := a0) Try.underlying45 ty33.size rfl rfl rfl hq6) ?_
                refine EvK.pure (v := .pointer (some (q6.add 0))) (w_some rfl rfl c9) rfl rfl (f_fieldAddr fd33_0 rfl rfl) ?_
                obtain ⟨x6, hx6, hF⟩ := hF
                refine EvK.read (v := .bool x6) (w_some rfl rfl c9) rfl rfl (f_load kB ty4 rfl rfl hx6 rfl) ?_
                refine EvK.pure (v := .bool (!x6)) (w_some rfl rfl c9) rfl rfl (f_not rfl rfl) ?_
                refine EvK.pure (v := .bool (!x6)) (w_none rfl) rfl rfl (f_pickT rfl rfl c9 rfl) ?_
                refine EvK.pure (v := .bool (!x6)) (w_none rfl) rfl rfl (f_move rfl rfl) ?_
                rcases ite_inv hF with ⟨c10, hF⟩ | ⟨c10, hF⟩
                · refine EvK.pure (v := .pointer a4) (w_some rfl rfl c10) rfl rfl (f_move rfl rfl) ?_
                  refine EvK.pure (v := Sl.val a0) (w_some rfl rfl c10) rfl rfl (f_move rfl rfl) ?_
                  refine EvK.pure (v := .int .i64 s9) (w_some rfl rfl c10) rfl rfl (f_move rfl rfl) ?_
                  obtain ⟨q7, hq7, hF⟩ := hF
                  refine EvK.pure (v := .pointer (some q7)) (w_some rfl rfl c10) rfl rfl (f_indexAddr (s := a0) Try.underlying45 ty33.size rfl rfl rfl hq7) ?_
                  refine EvK.pure (v := .pointer (some (q7.add 1))) (w_some rfl rfl c10) rfl rfl (f_fieldAddr fd33_1 rfl rfl) ?_
                  obtain ⟨x7, hx7, hF⟩ := hF
                  refine EvK.read (v := .string x7) (w_some rfl rfl c10) rfl rfl (f_load kS ty9 rfl rfl hx7 rfl) ?_
                  refine EvK.call (w_some rfl rfl c10) rfl rfl (enterH Try.func13 rfl rfl rfl rfl (flow_Flow_Route.sound hF)) ?_
                  rintro _ h12 ⟨r4, rfl, hF⟩
                  refine EvK.pure (v := .int .i64 a3) (w_some rfl rfl c10) rfl rfl (f_move rfl rfl) ?_
                  refine EvK.pure (v := .bool (r4 != a3)) (w_some rfl rfl c10) rfl rfl (f_neq rfl rfl rfl) ?_
                  refine EvK.pure (v := .bool (r4 != a3)) (w_none rfl) rfl rfl (f_pickT rfl rfl c10 rfl) ?_
                  refine EvK.nil ?_
                  exact KE.mk (r4 != a3) ⟨rfl, rfl, rfl, rfl, rfl, rfl, rfl, rfl, trivial⟩ hF
                · refine EvK.not (w_not rfl rfl c10) rfl rfl ?_
                  refine EvK.not (w_not rfl rfl c10) rfl rfl ?_
                  refine EvK.not (w_not rfl rfl c10) rfl rfl ?_
                  refine EvK.not (w_not rfl rfl c10) rfl rfl ?_
                  refine EvK.not (w_not rfl rfl c10) rfl rfl ?_
                  refine EvK.not (w_not rfl rfl c10) rfl rfl ?_
                  refine EvK.not (w_not rfl rfl c10) rfl rfl ?_
                  refine EvK.not (w_not rfl rfl c10) rfl rfl ?_
                  refine EvK.not (w_not rfl rfl c10) rfl rfl ?_
                  refine EvK.pure (v := .bool false) (w_none rfl) rfl rfl (f_pickF rfl rfl c10 rfl) ?_
                  refine EvK.nil ?_
                  exact KE.mk false ⟨rfl, rfl, rfl, rfl, rfl, rfl, rfl, rfl, trivial⟩ hF
              · refine EvK.not (w_not rfl rfl c9) rfl rfl ?_
                refine EvK.not (w_not rfl rfl c9) rfl rfl ?_
                refine EvK.not (w_not rfl rfl c9) rfl rfl ?_
                refine EvK.not (w_not rfl rfl c9) rfl rfl ?_
                refine EvK.not (w_not rfl rfl c9) rfl rfl ?_
                refine EvK.not (w_not rfl rfl c9) rfl rfl ?_
                refine EvK.pure (v := .bool false) (w_none rfl) rfl rfl (f_pickF rfl rfl c9 rfl) ?_
                refine EvK.pure (v := .bool false) (w_none rfl) rfl rfl (f_move rfl rfl) ?_
                refine EvK.not (w_not rfl rfl rfl) rfl rfl ?_
                refine EvK.not (w_not rfl rfl rfl) rfl rfl ?_
                refine EvK.not (w_not rfl rfl rfl) rfl rfl ?_
                refine EvK.not (w_not rfl rfl rfl) rfl rfl ?_
                refine EvK.not (w_not rfl rfl rfl) rfl rfl ?_
                refine EvK.not (w_not rfl rfl rfl) rfl rfl ?_
                refine EvK.not (w_not rfl rfl rfl) rfl rfl ?_
                refine EvK.not (w_not rfl rfl rfl) rfl rfl ?_
                refine EvK.not (w_not rfl rfl rfl) rfl rfl ?_
                refine EvK.pure (v := .bool false) (w_none rfl) rfl rfl (f_pickF rfl rfl rfl rfl) ?_
                refine EvK.nil ?_
                exact KE.mk false ⟨rfl, rfl, rfl, rfl, rfl, rfl, rfl, rfl, trivial⟩ hF
    · refine WP.cond_false _ rfl c4 ?_
      refine WP.exit ?_
      exact KE.mk s5.1 ⟨rfl, rfl, rfl, rfl, trivial⟩ hF
end Go.Proofs.Ytanpaamamfabkaa
