/- (*spate/flow.Flow).Put, as a predicate over the heap, and that the code comes to it. Printed by gen.py. -/
import Derived.Test.YtanpaamamfabkaaTy
import Derived.Test.YtanpaamamfabkaaF33
namespace Go.Proofs.Ytanpaamamfabkaa
open Go Go.Tr
set_option linter.unusedVariables false
set_option maxRecDepth 100000
set_option maxHeartbeats 400000
/-- (*spate/flow.Flow).Put -/
def flow_Flow_Put (a0 : Option Addr) (a1 : Int) (a2 : S32) (h : H) (Q : Int → H → Prop) : Prop :=
  al 33 (k32.enc a2) h fun q1 h1 =>
  flow_Flow_of a0 a1 h1 fun r1 h2 =>
  if (r1.2 != 0) = true then
    Q r1.2 h2
  else
    jn (fun (k1 : Bool → H → Prop) =>
      rd (ld kB (q1.add 0) h2) fun x11 =>
      if (!x11) = true then
        rd (ld kS (q1.add 1) h2) fun x12 =>
        if (x12.toList == (⟨#[]⟩ : ByteArray).toList) = true then
          k1 true h2
        else
          rd (ld kS (q1.add 1) h2) fun x13 =>
          k1 (decide ((x13.size : Int) > 32)) h2
      else
        k1 false h2) fun s1 h3 =>
    if s1 = true then
      Q 21 h3
    else
      jn (fun (k2 : Bool → H → Prop) =>
        rd (ld (kI .i64) (q1.add 2) h3) fun x9 =>
        if (decide (x9 < (-1152921504606846976))) = true then
          k2 true h3
        else
          rd (ld (kI .i64) (q1.add 2) h3) fun x10 =>
          k2 (decide (x10 > 1152921504606846976)) h3) fun s2 h4 =>
      if s2 = true then
        Q 22 h4
      else
        jn (fun (k3 : Bool → H → Prop) =>
          rd (ld kB (q1.add 0) h4) fun x6 =>
          if x6 = true then
            rd (ld kS (q1.add 1) h4) fun x7 =>
            if (!(x7.toList == (⟨#[]⟩ : ByteArray).toList)) = true then
              k3 true h4
            else
              rd (ld (kI .i64) (q1.add 3) h4) fun x8 =>
              k3 (x8 != 0) h4
          else
            k3 false h4) fun s3 h5 =>
        if s3 = true then
          Q 16 h5
        else
          rd r1.1 fun q2 =>
          rd (ld kL (q2.add 0) h5) fun x1 =>
          if ((x1.len : Int) == 65536) = true then
            Q 2 h5
          else
            rd r1.1 fun q3 =>
            rd (ld kL (q3.add 0) h5) fun x2 =>
            rd (ld k32 q1 h5) fun x3 =>
            bs 33 1 (k32.enc x3) h5 fun x4 h6 =>
            ap k32.n 40 33 (k32.enc z32) x2 x4 h6 fun x5 h7 =>
            rd r1.1 fun q4 =>
            rd (st kL (q4.add 0) x5 h7) fun h8 =>
            Q 0 h8
theorem flow_Flow_Put.sound {a0 : Option Addr} {a1 : Int} {a2 : S32} {h : H} {Q : Int → H → Prop} (hF : flow_Flow_Put a0 a1 a2 h Q) :
    CallsH Try.prog 16 (List.toArray (α := Value) [.pointer a0, .int .i64 a1, k32.val a2]) h fun v h' => ∃ x : Int, v = .int .i64 x ∧ Q x h' := by
  refine CallsH.of_body Try.func16 rfl 73 rfl rfl ?_
  refine WP.seq ?_
  refine WP.region ?_
  refine EvK.alloc (w_none rfl) rfl rfl (f_boxF (v := k32.val a2) rfl rfl rfl hF) ?_
  rintro _ h1 ⟨q1, rfl, hF⟩
  refine EvK.pure (v := .int .i64 0) (w_none rfl) rfl rfl (f_assign rfl rfl) ?_
  refine EvK.nil ?_
  refine WP.seq ?_
  refine WP.region ?_
  refine EvK.pure (v := .pointer a0) (w_none rfl) rfl rfl (f_move rfl rfl) ?_
  refine EvK.pure (v := .int .i64 a1) (w_none rfl) rfl rfl (f_move rfl rfl) ?_
  refine EvK.call (w_none rfl) rfl rfl (enterH Try.func33 rfl rfl rfl rfl (flow_Flow_of.sound hF)) ?_
  rintro _ h2 ⟨r1, rfl, hF⟩
  refine EvK.pure (v := .tuple #[.pointer r1.1, .int .i64 r1.2]) (w_none rfl) rfl rfl (f_move rfl rfl) ?_
  refine EvK.pure (v := .pointer r1.1) (w_none rfl) rfl rfl (f_extract (vs := #[.pointer r1.1, .int .i64 r1.2]) rfl rfl rfl) ?_
  refine EvK.pure (v := .int .i64 r1.2) (w_none rfl) rfl rfl (f_extract (vs := #[.pointer r1.1, .int .i64 r1.2]) rfl rfl rfl) ?_
  refine EvK.pure (v := .pointer r1.1) (w_none rfl) rfl rfl (f_assign rfl rfl) ?_
  refine EvK.pure (v := .int .i64 r1.2) (w_none rfl) rfl rfl (f_assign rfl rfl) ?_
  refine EvK.nil ?_
  refine WP.seq ?_
  refine WP.block ?_
  refine WP.seq ?_
  refine WP.region ?_
  refine EvK.pure (v := .int .i64 r1.2) (w_none rfl) rfl rfl (f_move rfl rfl) ?_
  refine EvK.pure (v := .bool (r1.2 != 0)) (w_none rfl) rfl rfl (f_neq rfl rfl rfl) ?_
  refine EvK.pure (v := .bool (r1.2 != 0)) (w_none rfl) rfl rfl (f_assign rfl rfl) ?_
  refine EvK.nil ?_
  rcases ite_inv hF with ⟨c1, hF⟩ | ⟨c1, hF⟩
  · refine WP.cond_true _ rfl c1 ?_
    refine WP.seq ?_
    refine WP.region ?_
    refine EvK.pure (v := .int .i64 r1.2) (w_none rfl) rfl rfl (f_move rfl rfl) ?_
    refine EvK.pure (v := .int .i64 r1.2) (w_none rfl) rfl rfl (f_assign rfl rfl) ?_
    refine EvK.nil ?_
    refine WP.ret ?_
    exact Ret.mk (vs := [.int .i64 r1.2]) r1.2 ⟨rfl, trivial⟩ rfl hF
  · refine WP.cond_false _ rfl c1 ?_
    refine WP.joinF (fun (s1 : Bool) => [(19, .bool s1), (5, .pointer (some q1)), (7, .pointer r1.1)]) hF ?_ ?_
    · intro s1 E0 h3 hF
      rcases ite_inv hF with ⟨c2, hF⟩ | ⟨c2, hF⟩
      · refine WP.cond_true _ rfl c2 ?_
        refine WP.seq ?_
        refine WP.region ?_
        refine EvK.pure (v := .int .i64 21) (w_none rfl) rfl rfl (f_assign rfl rfl) ?_
        refine EvK.nil ?_
        refine WP.ret ?_
        exact Ret.mk (vs := [.int .i64 21]) 21 ⟨rfl, trivial⟩ rfl hF
      · refine WP.cond_false _ rfl c2 ?_
        refine WP.joinF (fun (s2 : Bool) => [(34, .bool s2), (5, .pointer (some q1)), (7, .pointer r1.1)]) hF ?_ ?_
        · intro s2 E0 h4 hF
          rcases ite_inv hF with ⟨c3, hF⟩ | ⟨c3, hF⟩
          · refine WP.cond_true _ rfl c3 ?_
            refine WP.seq ?_
            refine WP.region ?_
            refine EvK.pure (v := .int .i64 22) (w_none rfl) rfl rfl (f_assign rfl rfl) ?_
            refine EvK.nil ?_
            refine WP.ret ?_
            exact Ret.mk (vs := [.int .i64 22]) 22 ⟨rfl, trivial⟩ rfl hF
          · refine WP.cond_false _ rfl c3 ?_
            refine WP.joinF (fun (s3 : Bool) => [(43, .bool s3), (5, .pointer (some q1)), (7, .pointer r1.1)]) hF ?_ ?_
            · intro s3 E0 h5 hF
              rcases ite_inv hF with ⟨c4, hF⟩ | ⟨c4, hF⟩
              · refine WP.cond_true _ rfl c4 ?_
                refine WP.seq ?_
                refine WP.region ?_
                refine EvK.pure (v := .int .i64 16) (w_none rfl) rfl rfl (f_assign rfl rfl) ?_
                refine EvK.nil ?_
                refine WP.ret ?_
                exact Ret.mk (vs := [.int .i64 16]) 16 ⟨rfl, trivial⟩ rfl hF
              · refine WP.cond_false _ rfl c4 ?_
                refine WP.seq ?_
                refine WP.region ?_
                refine EvK.pure (v := .pointer r1.1) (w_none rfl) rfl rfl (f_move rfl rfl) ?_
                obtain ⟨q2, hq1, hF⟩ := hF
                refine EvK.pure (v := .pointer (some q2)) (w_none rfl) rfl rfl (f_nilCheck rfl (congrArg Value.pointer hq1)) ?_
                refine EvK.pure (v := .pointer (some (q2.add 0))) (w_none rfl) rfl rfl (f_fieldAddr fd79_0 rfl rfl) ?_
                obtain ⟨x1, hx1, hF⟩ := hF
                refine EvK.read (v := Sl.val x1) (w_none rfl) rfl rfl (f_load kL ty45 rfl rfl hx1 rfl) ?_
                refine EvK.pure (v := .int .i64 (x1.len : Int)) (w_none rfl) rfl rfl (f_lenL (s := x1) Try.underlying45 rfl rfl) ?_
                refine EvK.pure (v := .bool ((x1.len : Int) == 65536)) (w_none rfl) rfl rfl (f_eql rfl rfl rfl) ?_
                refine EvK.pure (v := .bool ((x1.len : Int) == 65536)) (w_none rfl) rfl rfl (f_assign rfl rfl) ?_
                refine EvK.nil ?_
                rcases ite_inv hF with ⟨c5, hF⟩ | ⟨c5, hF⟩
                · refine WP.cond_true _ rfl c5 ?_
                  refine WP.seq ?_
                  refine WP.region ?_
                  refine EvK.pure (v := .int .i64 2) (w_none rfl) rfl rfl (f_assign rfl rfl) ?_
                  refine EvK.nil ?_
                  refine WP.ret ?_
                  exact Ret.mk (vs := [.int .i64 2]) 2 ⟨rfl, trivial⟩ rfl hF
                · refine WP.cond_false _ rfl c5 ?_
                  refine WP.skip ?_
                  refine WP.seq ?_
                  refine WP.draw mixed [.pure, .pure, .pure, .pure, .read, .read, .alloc, .eff [], .pure, .pure, .eff []] [[], [], [1], [1, 2], [1, 2, 3], [], [5], [1, 2, 3, 4, 5, 6], [0, 1, 2, 3, 4, 5, 6, 7], [0, 1, 2, 3, 4, 5, 6, 7, 8], [0, 1, 2, 3, 4, 5, 6, 7, 8, 9]] [0, 1, 2, 3, 4, 5, 6, 7, 8, 9, 10] (by kernel_rfl) (by kernel_rfl) ?_
                  refine EvI.pure (v := .pointer r1.1) rfl rfl (w_none rfl) rfl (f_move rfl rfl) ?_
                  refine EvI.pure (v := .pointer r1.1) rfl rfl (w_none rfl) rfl (f_move rfl rfl) ?_
                  obtain ⟨q3, hq2, hF⟩ := hF
                  refine EvI.pure (v := .pointer (some q3)) rfl rfl (w_none rfl) rfl (f_nilCheck rfl (congrArg Value.pointer hq2)) ?_
                  refine EvI.pure (v := .pointer (some (q3.add 0))) rfl rfl (w_none rfl) rfl (f_fieldAddr fd79_0 rfl rfl) ?_
                  obtain ⟨x2, hx2, hF⟩ := hF
                  refine EvI.read (v := Sl.val x2) rfl rfl (w_none rfl) rfl (f_load kL ty45 rfl rfl hx2 rfl) ?_
                  obtain ⟨x3, hx3, hF⟩ := hF
                  refine EvI.read (v := k32.val x3) rfl rfl (w_none rfl) rfl (f_load k32 ty33 rfl rfl hx3 rfl) ?_
                  refine EvI.alloc rfl rfl (w_none rfl) rfl (f_buildSliceF Try.underlying45 el33 (by decide) rfl rfl rfl hF) ?_
                  rintro _ h6 ⟨x4, rfl, hF⟩
                  refine EvI.run rfl rfl (w_none rfl) rfl (f_appendE (s := x2) (x := x4) Try.underlying45 el33 rfl rfl rfl hF) ?_
                  rintro _ h7 ⟨x5, rfl, hF⟩
                  refine ⟨⟨chk_no rfl, chk_no rfl, trivial⟩, ?_⟩
                  obtain ⟨q4, hq3, hF⟩ := hF
                  refine EvI.pure (v := .pointer (some q4)) rfl rfl (w_none rfl) rfl (f_nilCheck rfl (congrArg Value.pointer hq3)) ?_
                  refine EvI.pure (v := .pointer (some (q4.add 0))) rfl rfl (w_none rfl) rfl (f_fieldAddr fd79_0 rfl rfl) ?_
                  obtain ⟨h8, hs1, hF⟩ := hF
                  refine EvI.runN rfl rfl (w_none rfl) rfl (f_store kL ty45.size (z := x5) rfl rfl rfl hs1) ?_
                  rintro _ _ ⟨rfl, rfl⟩
                  refine ⟨⟨chk_no rfl, chk_no rfl, trivial⟩, ?_⟩
                  refine EvI.nil ?_
                  refine WP.seq ?_
                  refine WP.region ?_
                  refine EvK.pure (v := .int .i64 0) (w_none rfl) rfl rfl (f_assign rfl rfl) ?_
                  refine EvK.nil ?_
                  refine WP.ret ?_
                  exact Ret.mk (vs := [.int .i64 0]) 0 ⟨rfl, trivial⟩ rfl hF
            · intro k3 hF
              refine WP.region ?_
              refine EvK.pure (v := .pointer (some (q1.add 0))) (w_none rfl) rfl rfl (f_fieldAddr fd33_0 rfl rfl) ?_
              obtain ⟨x6, hx4, hF⟩ := hF
              refine EvK.read (v := .bool x6) (w_none rfl) rfl rfl (f_load kB ty4 rfl rfl hx4 rfl) ?_
              refine EvK.pure (v := .bool x6) (w_none rfl) rfl rfl (f_move rfl rfl) ?_
              rcases ite_inv hF with ⟨c6, hF⟩ | ⟨c6, hF⟩
              · refine EvK.pure (v := .pointer (some (q1.add 1))) (w_some rfl rfl c6) rfl rfl (f_fieldAddr fd33_1 rfl rfl) ?_
                obtain ⟨x7, hx5, hF⟩ := hF
                refine EvK.read (v := .string x7) (w_some rfl rfl c6) rfl rfl (f_load kS ty9 rfl rfl hx5 rfl) ?_
                refine EvK.pure (v := .bool (!(x7.toList == (⟨#[]⟩ : ByteArray).toList))) (w_some rfl rfl c6) rfl rfl (f_sneq rfl rfl rfl) ?_
                refine EvK.pure (v := .bool (!(x7.toList == (⟨#[]⟩ : ByteArray).toList))) (w_some rfl rfl c6) rfl rfl (f_move rfl rfl) ?_
                rcases ite_inv hF with ⟨c7, hF⟩ | ⟨c7, hF⟩
                · refine EvK.not (w_not rfl rfl c7) rfl rfl ?_
                  refine EvK.not (w_not rfl rfl c7) rfl rfl ?_
                  refine EvK.not (w_not rfl rfl c7) rfl rfl ?_
                  refine EvK.pure (v := .bool true) (w_some rfl rfl c6) rfl rfl (f_pickT rfl rfl c7 rfl) ?_
                  refine EvK.pure (v := .bool true) (w_none rfl) rfl rfl (f_pickT rfl rfl c6 rfl) ?_
                  refine EvK.pure (v := .bool true) (w_none rfl) rfl rfl (f_assign rfl rfl) ?_
                  refine EvK.nil ?_
                  exact KE.mk true ⟨rfl, rfl, rfl, trivial⟩ hF
                · refine EvK.pure (v := .pointer (some (q1.add 3))) (w_some rfl rfl c7) rfl rfl (f_fieldAddr fd33_3 rfl rfl) ?_
                  obtain ⟨x8, hx6, hF⟩ := hF
                  refine EvK.read (v := .int .i64 x8) (w_some rfl rfl c7) rfl rfl (f_load (kI .i64) ty2 rfl rfl hx6 rfl) ?_
                  refine EvK.pure (v := .bool (x8 != 0)) (w_some rfl rfl c7) rfl rfl (f_neq rfl rfl rfl) ?_
                  refine EvK.pure (v := .bool (x8 != 0)) (w_some rfl rfl c6) rfl rfl (f_pickF rfl rfl c7 rfl) ?_
                  refine EvK.pure (v := .bool (x8 != 0)) (w_none rfl) rfl rfl (f_pickT rfl rfl c6 rfl) ?_
                  refine EvK.pure (v := .bool (x8 != 0)) (w_none rfl) rfl rfl (f_assign rfl rfl) ?_
                  refine EvK.nil ?_
                  exact KE.mk (x8 != 0) ⟨rfl, rfl, rfl, trivial⟩ hF
              · refine EvK.not (w_not rfl rfl c6) rfl rfl ?_
                refine EvK.not (w_not rfl rfl c6) rfl rfl ?_
                refine EvK.not (w_not rfl rfl c6) rfl rfl ?_
                refine EvK.not (w_not rfl rfl c6) rfl rfl ?_
                refine EvK.not (w_undef rfl rfl) rfl rfl ?_
                refine EvK.not (w_undef rfl rfl) rfl rfl ?_
                refine EvK.not (w_undef rfl rfl) rfl rfl ?_
                refine EvK.not (w_not rfl rfl c6) rfl rfl ?_
                refine EvK.pure (v := .bool false) (w_none rfl) rfl rfl (f_pickF rfl rfl c6 rfl) ?_
                refine EvK.pure (v := .bool false) (w_none rfl) rfl rfl (f_assign rfl rfl) ?_
                refine EvK.nil ?_
                exact KE.mk false ⟨rfl, rfl, rfl, trivial⟩ hF
        · intro k2 hF
          refine WP.region ?_
          refine EvK.pure (v := .pointer (some (q1.add 2))) (w_none rfl) rfl rfl (f_fieldAddr fd33_2 rfl rfl) ?_
          obtain ⟨x9, hx7, hF⟩ := hF
          refine EvK.read (v := .int .i64 x9) (w_none rfl) rfl rfl (f_load (kI .i64) ty2 rfl rfl hx7 rfl) ?_
          refine EvK.pure (v := .bool (decide (x9 < (-1152921504606846976)))) (w_none rfl) rfl rfl (f_lss rfl rfl rfl) ?_
          refine EvK.pure (v := .bool (decide (x9 < (-1152921504606846976)))) (w_none rfl) rfl rfl (f_move rfl rfl) ?_
          rcases ite_inv hF with ⟨c8, hF⟩ | ⟨c8, hF⟩
          · refine EvK.not (w_not rfl rfl c8) rfl rfl ?_
            refine EvK.not (w_not rfl rfl c8) rfl rfl ?_
            refine EvK.not (w_not rfl rfl c8) rfl rfl ?_
            refine EvK.pure (v := .bool true) (w_none rfl) rfl rfl (f_pickT rfl rfl c8 rfl) ?_
            refine EvK.pure (v := .bool true) (w_none rfl) rfl rfl (f_assign rfl rfl) ?_
            refine EvK.nil ?_
            exact KE.mk true ⟨rfl, rfl, rfl, trivial⟩ hF
          · refine EvK.pure (v := .pointer (some (q1.add 2))) (w_some rfl rfl c8) rfl rfl (f_fieldAddr fd33_2 rfl rfl) ?_
            obtain ⟨x10, hx8, hF⟩ := hF
            refine EvK.read (v := .int .i64 x10) (w_some rfl rfl c8) rfl rfl (f_load (kI .i64) ty2 rfl rfl hx8 rfl) ?_
            refine EvK.pure (v := .bool (decide (x10 > 1152921504606846976))) (w_some rfl rfl c8) rfl rfl (f_gtr rfl rfl rfl) ?_
            refine EvK.pure (v := .bool (decide (x10 > 1152921504606846976))) (w_none rfl) rfl rfl (f_pickF rfl rfl c8 rfl) ?_
            refine EvK.pure (v := .bool (decide (x10 > 1152921504606846976))) (w_none rfl) rfl rfl (f_assign rfl rfl) ?_
            refine EvK.nil ?_
            exact KE.mk (decide (x10 > 1152921504606846976)) ⟨rfl, rfl, rfl, trivial⟩ hF
    · intro k1 hF
      refine WP.region ?_
      refine EvK.pure (v := .pointer (some (q1.add 0))) (w_none rfl) rfl rfl (f_fieldAddr fd33_0 rfl rfl) ?_
      obtain ⟨x11, hx9, hF⟩ := hF
      refine EvK.read (v := .bool x11) (w_none rfl) rfl rfl (f_load kB ty4 rfl rfl hx9 rfl) ?_
      refine EvK.pure (v := .bool (!x11)) (w_none rfl) rfl rfl (f_not rfl rfl) ?_
      refine EvK.pure (v := .bool (!x11)) (w_none rfl) rfl rfl (f_move rfl rfl) ?_
      rcases ite_inv hF with ⟨c9, hF⟩ | ⟨c9, hF⟩
      · refine EvK.pure (v := .pointer (some (q1.add 1))) (w_some rfl rfl c9) rfl rfl (f_fieldAddr fd33_1 rfl rfl) ?_
        obtain ⟨x12, hx10, hF⟩ := hF
        refine EvK.read (v := .string x12) (w_some rfl rfl c9) rfl rfl (f_load kS ty9 rfl rfl hx10 rfl) ?_
        refine EvK.pure (v := .bool (x12.toList == (⟨#[]⟩ : ByteArray).toList)) (w_some rfl rfl c9) rfl rfl (f_seql rfl rfl rfl) ?_
        refine EvK.pure (v := .bool (x12.toList == (⟨#[]⟩ : ByteArray).toList)) (w_some rfl rfl c9) rfl rfl (f_move rfl rfl) ?_
        rcases ite_inv hF with ⟨c10, hF⟩ | ⟨c10, hF⟩
        · refine EvK.not (w_not rfl rfl c10) rfl rfl ?_
          refine EvK.not (w_not rfl rfl c10) rfl rfl ?_
          refine EvK.not (w_not rfl rfl c10) rfl rfl ?_
          refine EvK.not (w_not rfl rfl c10) rfl rfl ?_
          refine EvK.pure (v := .bool true) (w_some rfl rfl c9) rfl rfl (f_pickT rfl rfl c10 rfl) ?_
          refine EvK.pure (v := .bool true) (w_none rfl) rfl rfl (f_pickT rfl rfl c9 rfl) ?_
          refine EvK.pure (v := .bool true) (w_none rfl) rfl rfl (f_assign rfl rfl) ?_
          refine EvK.nil ?_
          exact KE.mk true ⟨rfl, rfl, rfl, trivial⟩ hF
        · refine EvK.pure (v := .pointer (some (q1.add 1))) (w_some rfl rfl c10) rfl rfl (f_fieldAddr fd33_1 rfl rfl) ?_
          obtain ⟨x13, hx11, hF⟩ := hF
          refine EvK.read (v := .string x13) (w_some rfl rfl c10) rfl rfl (f_load kS ty9 rfl rfl hx11 rfl) ?_
          refine EvK.pure (v := .int .i64 (x13.size : Int)) (w_some rfl rfl c10) rfl rfl (f_lenS Try.underlying9 rfl rfl) ?_
          refine EvK.pure (v := .bool (decide ((x13.size : Int) > 32))) (w_some rfl rfl c10) rfl rfl (f_gtr rfl rfl rfl) ?_
          refine EvK.pure (v := .bool (decide ((x13.size : Int) > 32))) (w_some rfl rfl c9) rfl rfl (f_pickF rfl rfl c10 rfl) ?_
          refine EvK.pure (v := .bool (decide ((x13.size : Int) > 32))) (w_none rfl) rfl rfl (f_pickT rfl rfl c9 rfl) ?_
          refine EvK.pure (v := .bool (decide ((x13.size : Int) > 32))) (w_none rfl) rfl rfl (f_assign rfl rfl) ?_
          refine EvK.nil ?_
          exact KE.mk (decide ((x13.size : Int) > 32)) ⟨rfl, rfl, rfl, trivial⟩ hF
      · refine EvK.not (w_not rfl rfl c9) rfl rfl ?_
        refine EvK.not (w_not rfl rfl c9) rfl rfl ?_
        refine EvK.not (w_not rfl rfl c9) rfl rfl ?_
        refine EvK.not (w_not rfl rfl c9) rfl rfl ?_
        refine EvK.not (w_undef rfl rfl) rfl rfl ?_
        refine EvK.not (w_undef rfl rfl) rfl rfl ?_
        refine EvK.not (w_undef rfl rfl) rfl rfl ?_
        refine EvK.not (w_undef rfl rfl) rfl rfl ?_
        refine EvK.not (w_not rfl rfl c9) rfl rfl ?_
        refine EvK.pure (v := .bool false) (w_none rfl) rfl rfl (f_pickF rfl rfl c9 rfl) ?_
        refine EvK.pure (v := .bool false) (w_none rfl) rfl rfl (f_assign rfl rfl) ?_
        refine EvK.nil ?_
        exact KE.mk false ⟨rfl, rfl, rfl, trivial⟩ hF
end Go.Proofs.Ytanpaamamfabkaa
