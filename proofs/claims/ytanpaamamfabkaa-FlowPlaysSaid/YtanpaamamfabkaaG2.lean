/- Functions as predicates over the heap, and that the code comes to them. Printed by gen.py, merged by group.py. -/
import Derived.Test.YtanpaamamfabkaaG0
import Derived.Test.YtanpaamamfabkaaG1
import Derived.Test.YtanpaamamfabkaaTy
namespace Go.Proofs.Ytanpaamamfabkaa
open Go Go.Tr
set_option linter.unusedVariables false
set_option maxRecDepth 100000
set_option maxHeartbeats 400000
/-- (*spate/flow.Flow).Queued -/
def flow_Flow_Queued (a0 : Option Addr) (a1 : Int) (h : H) (Q : Int → H → Prop) : Prop :=
  flow_Flow_of a0 a1 h fun r1 h1 =>
  if (r1.2 != 0) = true then
    Q 0 h1
  else
    rd r1.1 fun q1 =>
    rd (ld kL (q1.add 0) h1) fun x1 =>
    Q (x1.len : Int) h1
theorem flow_Flow_Queued.sound {a0 : Option Addr} {a1 : Int} {h : H} {Q : Int → H → Prop} (hF : flow_Flow_Queued a0 a1 h Q) :
    CallsH Try.prog 21 (List.toArray (α := Value) [.pointer a0, .int .i64 a1]) h fun v h' => ∃ x : Int, v = .int .i64 x ∧ Q x h' := by
  refine CallsH.of_body Try.func21 rfl 20 rfl rfl ?_
  refine WP.seq ?_
  refine WP.region ?_
  refine EvK.pure (v := .int .i64 0) (w_none rfl) rfl rfl (f_assign rfl rfl) ?_
  refine EvK.nil ?_
  refine WP.seq ?_
  refine WP.region ?_
  refine EvK.pure (v := .pointer a0) (w_none rfl) rfl rfl (f_move rfl rfl) ?_
  refine EvK.pure (v := .int .i64 a1) (w_none rfl) rfl rfl (f_move rfl rfl) ?_
  refine EvK.call (w_none rfl) rfl rfl (enterH Try.func33 rfl rfl rfl rfl (flow_Flow_of.sound hF)) ?_
  rintro _ h1 ⟨r1, rfl, hF⟩
  refine EvK.pure (v := .tuple #[.pointer r1.1, .int .i64 r1.2]) (w_none rfl) rfl rfl (f_move rfl rfl) ?_
  refine EvK.pure (v := .pointer r1.1) (w_none rfl) rfl rfl (f_extract (vs := #[.pointer r1.1, .int .i64 r1.2]) rfl rfl rfl) ?_
  refine EvK.pure (v := .int .i64 r1.2) (w_none rfl) rfl rfl (f_extract (vs := #[.pointer r1.1, .int .i64 r1.2]) rfl rfl rfl) ?_
  refine EvK.pure (v := .pointer r1.1) (w_none rfl) rfl rfl (f_assign rfl rfl) ?_
  refine EvK.pure (v := .int .i64 r1.2) (w_none rfl) rfl rfl (f_assign rfl rfl) ?_
  refine EvK.nil ?_
  refine WP.seq ?_
  refine WP.seq ?_
  refine WP.region ?_
  refine EvK.pure (v := .int .i64 r1.2) (w_none rfl) rfl rfl (f_move rfl rfl) ?_
  refine EvK.pure (v := .bool (r1.2 != 0)) (w_none rfl) rfl rfl (f_neq rfl rfl rfl) ?_
  refine EvK.nil ?_
  rcases ite_inv hF with ⟨c1, hF⟩ | ⟨c1, hF⟩
  · refine WP.cond_true _ rfl c1 ?_
    refine WP.seq ?_
    refine WP.region ?_
    refine EvK.pure (v := .int .i64 0) (w_none rfl) rfl rfl (f_assign rfl rfl) ?_
    refine EvK.nil ?_
    refine WP.ret ?_
    exact Ret.mk (vs := [.int .i64 0]) 0 ⟨rfl, trivial⟩ rfl hF
  · refine WP.cond_false _ rfl c1 ?_
    refine WP.skip ?_
    refine WP.seq ?_
    refine WP.region ?_
    refine EvK.pure (v := .pointer r1.1) (w_none rfl) rfl rfl (f_move rfl rfl) ?_
    obtain ⟨q1, hq1, hF⟩ := hF
    refine EvK.pure (v := .pointer (some q1)) (w_none rfl) rfl rfl (f_nilCheck rfl (congrArg Value.pointer hq1)) ?_
    refine EvK.pure (v := .pointer (some (q1.add 0))) (w_none rfl) rfl rfl (f_fieldAddr fd79_0 rfl rfl) ?_
    obtain ⟨x1, hx1, hF⟩ := hF
    refine EvK.read (v := Sl.val x1) (w_none rfl) rfl rfl (f_load kL ty45 rfl rfl hx1 rfl) ?_
    refine EvK.pure (v := .int .i64 (x1.len : Int)) (w_none rfl) rfl rfl (f_lenL (s := x1) Try.underlying45 rfl rfl) ?_
    refine EvK.pure (v := .int .i64 (x1.len : Int)) (w_none rfl) rfl rfl (f_assign rfl rfl) ?_
    refine EvK.nil ?_
    refine WP.ret ?_
    exact Ret.mk (vs := [.int .i64 (x1.len : Int)]) (x1.len : Int) ⟨rfl, trivial⟩ rfl hF
end Go.Proofs.Ytanpaamamfabkaa

namespace Go.Proofs.Ytanpaamamfabkaa
open Go Go.Tr
set_option linter.unusedVariables false
set_option maxRecDepth 100000
set_option maxHeartbeats 400000
/-- (*spate/flow.Flow).Boxed -/
def flow_Flow_Boxed (a0 : Option Addr) (a1 : Int) (h : H) (Q : Int → H → Prop) : Prop :=
  jn (fun (k1 : Bool → H → Prop) =>
    if (decide (a1 < 0)) = true then
      k1 true h
    else
      rd a0 fun q3 =>
      rd (ld kL (q3.add 1) h) fun x3 =>
      k1 (decide (a1 ≥ (x3.len : Int))) h) fun s1 h1 =>
  if s1 = true then
    Q 0 h1
  else
    rd a0 fun q1 =>
    rd (ld kL (q1.add 1) h1) fun x1 =>
    rd (ixA 3 x1 a1) fun q2 =>
    rd (ld (kI .i64) (q2.add 2) h1) fun x2 =>
    Q x2 h1
theorem flow_Flow_Boxed.sound {a0 : Option Addr} {a1 : Int} {h : H} {Q : Int → H → Prop} (hF : flow_Flow_Boxed a0 a1 h Q) :
    CallsH Try.prog 23 (List.toArray (α := Value) [.pointer a0, .int .i64 a1]) h fun v h' => ∃ x : Int, v = .int .i64 x ∧ Q x h' := by
  refine CallsH.of_body Try.func23 rfl 24 rfl rfl ?_
  refine WP.seq ?_
  refine WP.region ?_
  refine EvK.pure (v := .int .i64 0) (w_none rfl) rfl rfl (f_assign rfl rfl) ?_
  refine EvK.nil ?_
  refine WP.seq ?_
  refine WP.joinF (fun (s1 : Bool) => [(15, .bool s1), (0, .pointer a0), (1, .int .i64 a1)]) hF ?_ ?_
  · intro s1 E0 h1 hF
    rcases ite_inv hF with ⟨c1, hF⟩ | ⟨c1, hF⟩
    · refine WP.cond_true _ rfl c1 ?_
      refine WP.seq ?_
      refine WP.region ?_
      refine EvK.pure (v := .int .i64 0) (w_none rfl) rfl rfl (f_assign rfl rfl) ?_
      refine EvK.nil ?_
      refine WP.ret ?_
      exact Ret.mk (vs := [.int .i64 0]) 0 ⟨rfl, trivial⟩ rfl hF
    · refine WP.cond_false _ rfl c1 ?_
      refine WP.skip ?_
      refine WP.seq ?_
      refine WP.region ?_
      refine EvK.pure (v := .pointer a0) (w_none rfl) rfl rfl (f_move rfl rfl) ?_
      obtain ⟨q1, hq1, hF⟩ := hF
      refine EvK.pure (v := .pointer (some q1)) (w_none rfl) rfl rfl (f_nilCheck rfl (congrArg Value.pointer hq1)) ?_
      refine EvK.pure (v := .pointer (some (q1.add 1))) (w_none rfl) rfl rfl (f_fieldAddr fd59_1 rfl rfl) ?_
      obtain ⟨x1, hx1, hF⟩ := hF
      refine EvK.read (v := Sl.val x1) (w_none rfl) rfl rfl (f_load kL ty57 rfl rfl hx1 rfl) ?_
      refine EvK.pure (v := .int .i64 a1) (w_none rfl) rfl rfl (f_move rfl rfl) ?_
      obtain ⟨q2, hq2, hF⟩ := hF
      refine EvK.pure (v := .pointer (some q2)) (w_none rfl) rfl rfl (f_indexAddr (s := x1) Try.underlying57 ty62.size rfl rfl rfl hq2) ?_
      refine EvK.pure (v := .pointer (some (q2.add 2))) (w_none rfl) rfl rfl (f_fieldAddr fd62_2 rfl rfl) ?_
      obtain ⟨x2, hx2, hF⟩ := hF
      refine EvK.read (v := .int .i64 x2) (w_none rfl) rfl rfl (f_load (kI .i64) ty3 rfl rfl hx2 rfl) ?_
      refine EvK.pure (v := .int .i64 x2) (w_none rfl) rfl rfl (f_assign rfl rfl) ?_
      refine EvK.nil ?_
      refine WP.ret ?_
      exact Ret.mk (vs := [.int .i64 x2]) x2 ⟨rfl, trivial⟩ rfl hF
  · intro k1 hF
    refine WP.region ?_
    refine EvK.pure (v := .int .i64 a1) (w_none rfl) rfl rfl (f_move rfl rfl) ?_
    refine EvK.pure (v := .bool (decide (a1 < 0))) (w_none rfl) rfl rfl (f_lss rfl rfl rfl) ?_
    refine EvK.pure (v := .bool (decide (a1 < 0))) (w_none rfl) rfl rfl (f_move rfl rfl) ?_
    rcases ite_inv hF with ⟨c2, hF⟩ | ⟨c2, hF⟩
    · refine EvK.not (w_not rfl rfl c2) rfl rfl ?_
      refine EvK.not (w_not rfl rfl c2) rfl rfl ?_
      refine EvK.not (w_not rfl rfl c2) rfl rfl ?_
      refine EvK.not (w_not rfl rfl c2) rfl rfl ?_
      refine EvK.not (w_not rfl rfl c2) rfl rfl ?_
      refine EvK.not (w_not rfl rfl c2) rfl rfl ?_
      refine EvK.not (w_not rfl rfl c2) rfl rfl ?_
      refine EvK.pure (v := .bool true) (w_none rfl) rfl rfl (f_pickT rfl rfl c2 rfl) ?_
      refine EvK.nil ?_
      exact KE.mk true ⟨rfl, rfl, rfl, trivial⟩ hF
    · refine EvK.pure (v := .int .i64 a1) (w_some rfl rfl c2) rfl rfl (f_move rfl rfl) ?_
      refine EvK.pure (v := .pointer a0) (w_some rfl rfl c2) rfl rfl (f_move rfl rfl) ?_
      obtain ⟨q3, hq3, hF⟩ := hF
      refine EvK.pure (v := .pointer (some q3)) (w_some rfl rfl c2) rfl rfl (f_nilCheck rfl (congrArg Value.pointer hq3)) ?_
      refine EvK.pure (v := .pointer (some (q3.add 1))) (w_some rfl rfl c2) rfl rfl (f_fieldAddr fd59_1 rfl rfl) ?_
      obtain ⟨x3, hx3, hF⟩ := hF
      refine EvK.read (v := Sl.val x3) (w_some rfl rfl c2) rfl rfl (f_load kL ty57 rfl rfl hx3 rfl) ?_
      refine EvK.pure (v := .int .i64 (x3.len : Int)) (w_some rfl rfl c2) rfl rfl (f_lenL (s := x3) Try.underlying57 rfl rfl) ?_
      refine EvK.pure (v := .bool (decide (a1 ≥ (x3.len : Int)))) (w_some rfl rfl c2) rfl rfl (f_geq rfl rfl rfl) ?_
      refine EvK.pure (v := .bool (decide (a1 ≥ (x3.len : Int)))) (w_none rfl) rfl rfl (f_pickF rfl rfl c2 rfl) ?_
      refine EvK.nil ?_
      exact KE.mk (decide (a1 ≥ (x3.len : Int))) ⟨rfl, rfl, rfl, trivial⟩ hF
end Go.Proofs.Ytanpaamamfabkaa

namespace Go.Proofs.Ytanpaamamfabkaa
open Go Go.Tr
set_option linter.unusedVariables false
set_option maxRecDepth 100000
set_option maxHeartbeats 400000
/-- spate/spatelaw15.known -/
def spatelaw15_known  (h : H) (Q : Bool → H → Prop) : Prop :=
  flow_New 1 2 1 h fun r1 h1 =>
  flow_New 0 1 1 h1 fun r2 h2 =>
  jn (fun (k1 : Bool → H → Prop) =>
    if (r1.2 != 0) = true then
      k1 true h2
    else
      if r1.1.isNone = true then
        k1 true h2
      else
        if (!r2.1.isNone) = true then
          k1 true h2
        else
          k1 (r2.2 != 1) h2) fun s1 h3 =>
  if s1 = true then
    Q false h3
  else
    jn (fun (k2 : Bool → H → Prop) =>
      flow_Flow_Put r1.1 0 (S32.mk false (⟨#[99]⟩ : ByteArray) 0 3) h3 fun r8 h13 =>
      if (r8 == 0) = true then
        flow_Flow_Put r1.1 0 (S32.mk true ⟨#[]⟩ 5 0) h13 fun r9 h14 =>
        if (r9 == 0) = true then
          flow_Flow_Queued r1.1 0 h14 fun r10 h15 =>
          if (r10 == 2) = true then
            flow_Flow_Route r1.1 (⟨#[99]⟩ : ByteArray) h15 fun r11 h16 =>
            if (r11 == 0) = true then
              flow_Flow_Route r1.1 (⟨#[97]⟩ : ByteArray) h16 fun r12 h17 =>
              k2 (r12 == 1) h17
            else
              k2 false h16
          else
            k2 false h15
        else
          k2 false h14
      else
        k2 false h13) fun s2 h4 =>
    flow_Flow_Pass r1.1 0 h4 fun r3 h5 =>
    flow_Flow_Pass r1.1 0 h5 fun r4 h6 =>
    flow_Flow_Take r1.1 0 h6 fun r5 h7 =>
    al 33 (k32.enc z32) h7 fun q1 h8 =>
    rd (st k32 q1 r5.2.1 h8) fun h9 =>
    jn (fun (k3 : Bool → H → Prop) =>
      if s2 = true then
        if (r3.1 == 0) = true then
          if (r3.2 == 0) = true then
            if (r4.2 == 45) = true then
              if (r5.1 == 0) = true then
                rd (ld k32 q1 h9) fun x1 =>
                if (eq33 x1 (S32.mk false (⟨#[99]⟩ : ByteArray) 0 3)) = true then
                  if (r5.2.2 == 0) = true then
                    flow_Flow_Boxed r1.1 0 h9 fun r6 h11 =>
                    if (r6 == 0) = true then
                      flow_Flow_Empty r1.1 h11 fun r7 h12 =>
                      k3 (!r7) h12
                    else
                      k3 false h11
                  else
                    k3 false h9
                else
                  k3 false h9
              else
                k3 false h9
            else
              k3 false h9
          else
            k3 false h9
        else
          k3 false h9
      else
        k3 false h9) fun s3 h10 =>
    Q s3 h10
theorem spatelaw15_known.sound  {h : H} {Q : Bool → H → Prop} (hF : spatelaw15_known  h Q) :
    CallsH Try.prog 8 (List.toArray (α := Value) []) h fun v h' => ∃ x : Bool, v = .bool x ∧ Q x h' := by
  refine CallsH.of_body Try.func8 rfl 111 rfl rfl ?_
  refine WP.seq ?_
  refine WP.region ?_
  refine EvK.pure (v := .bool false) (w_none rfl) rfl rfl (f_assign rfl rfl) ?_
  refine EvK.nil ?_
  refine WP.seq ?_
  refine WP.region ?_
  refine EvK.call (w_none rfl) rfl rfl (enterH Try.func9 rfl rfl rfl rfl (flow_New.sound hF)) ?_
  rintro _ h1 ⟨r1, rfl, hF⟩
  refine EvK.pure (v := .tuple #[.pointer r1.1, .int .i64 r1.2]) (w_none rfl) rfl rfl (f_move rfl rfl) ?_
  refine EvK.pure (v := .pointer r1.1) (w_none rfl) rfl rfl (f_extract (vs := #[.pointer r1.1, .int .i64 r1.2]) rfl rfl rfl) ?_
  refine EvK.pure (v := .int .i64 r1.2) (w_none rfl) rfl rfl (f_extract (vs := #[.pointer r1.1, .int .i64 r1.2]) rfl rfl rfl) ?_
  refine EvK.pure (v := .pointer r1.1) (w_none rfl) rfl rfl (f_assign rfl rfl) ?_
  refine EvK.pure (v := .int .i64 r1.2) (w_none rfl) rfl rfl (f_assign rfl rfl) ?_
  refine EvK.nil ?_
  refine WP.seq ?_
  refine WP.region ?_
  refine EvK.call (w_none rfl) rfl rfl (enterH Try.func9 rfl rfl rfl rfl (flow_New.sound hF)) ?_
  rintro _ h2 ⟨r2, rfl, hF⟩
  refine EvK.pure (v := .tuple #[.pointer r2.1, .int .i64 r2.2]) (w_none rfl) rfl rfl (f_move rfl rfl) ?_
  refine EvK.pure (v := .pointer r2.1) (w_none rfl) rfl rfl (f_extract (vs := #[.pointer r2.1, .int .i64 r2.2]) rfl rfl rfl) ?_
  refine EvK.pure (v := .int .i64 r2.2) (w_none rfl) rfl rfl (f_extract (vs := #[.pointer r2.1, .int .i64 r2.2]) rfl rfl rfl) ?_
  refine EvK.pure (v := .pointer r2.1) (w_none rfl) rfl rfl (f_assign rfl rfl) ?_
  refine EvK.pure (v := .int .i64 r2.2) (w_none rfl) rfl rfl (f_assign rfl rfl) ?_
  refine EvK.nil ?_
  refine WP.seq ?_
  refine WP.joinF (fun (s1 : Bool) => [(33, .bool s1), (1, .pointer r1.1)]) hF ?_ ?_
  · intro s1 E0 h3 hF
    rcases ite_inv hF with ⟨c1, hF⟩ | ⟨c1, hF⟩
    · refine WP.cond_true _ rfl c1 ?_
      refine WP.seq ?_
      refine WP.region ?_
      refine EvK.pure (v := .bool false) (w_none rfl) rfl rfl (f_assign rfl rfl) ?_
      refine EvK.nil ?_
      refine WP.ret ?_
      exact Ret.mk (vs := [.bool false]) false ⟨rfl, trivial⟩ rfl hF
    · refine WP.cond_false _ rfl c1 ?_
      refine WP.skip ?_
      refine WP.joinF (fun (s2 : Bool) => [(5, .bool s2), (1, .pointer r1.1)]) hF ?_ ?_
      · intro s2 E0 h4 hF
        refine WP.seq ?_
        refine WP.region ?_
        refine EvK.pure (v := .pointer r1.1) (w_none rfl) rfl rfl (f_move rfl rfl) ?_
        refine EvK.call (w_none rfl) rfl rfl (enterH Try.func17 rfl rfl rfl rfl (flow_Flow_Pass.sound hF)) ?_
        rintro _ h5 ⟨r3, rfl, hF⟩
        refine EvK.pure (v := .tuple #[.int .i64 r3.1, .int .i64 r3.2]) (w_none rfl) rfl rfl (f_move rfl rfl) ?_
        refine EvK.pure (v := .int .i64 r3.1) (w_none rfl) rfl rfl (f_extract (vs := #[.int .i64 r3.1, .int .i64 r3.2]) rfl rfl rfl) ?_
        refine EvK.pure (v := .int .i64 r3.2) (w_none rfl) rfl rfl (f_extract (vs := #[.int .i64 r3.1, .int .i64 r3.2]) rfl rfl rfl) ?_
        refine EvK.pure (v := .int .i64 r3.1) (w_none rfl) rfl rfl (f_assign rfl rfl) ?_
        refine EvK.pure (v := .int .i64 r3.2) (w_none rfl) rfl rfl (f_assign rfl rfl) ?_
        refine EvK.nil ?_
        refine WP.seq ?_
        refine WP.region ?_
        refine EvK.pure (v := .pointer r1.1) (w_none rfl) rfl rfl (f_move rfl rfl) ?_
        refine EvK.call (w_none rfl) rfl rfl (enterH Try.func17 rfl rfl rfl rfl (flow_Flow_Pass.sound hF)) ?_
        rintro _ h6 ⟨r4, rfl, hF⟩
        refine EvK.pure (v := .tuple #[.int .i64 r4.1, .int .i64 r4.2]) (w_none rfl) rfl rfl (f_move rfl rfl) ?_
        refine EvK.pure (v := .int .i64 r4.1) (w_none rfl) rfl rfl (f_extract (vs := #[.int .i64 r4.1, .int .i64 r4.2]) rfl rfl rfl) ?_
        refine EvK.pure (v := .int .i64 r4.2) (w_none rfl) rfl rfl (f_extract (vs := #[.int .i64 r4.1, .int .i64 r4.2]) rfl rfl rfl) ?_
        refine EvK.pure (v := .int .i64 r4.1) (w_none rfl) rfl rfl (f_assign rfl rfl) ?_
        refine EvK.pure (v := .int .i64 r4.2) (w_none rfl) rfl rfl (f_assign rfl rfl) ?_
        refine EvK.nil ?_
        refine WP.seq ?_
        refine WP.region ?_
        refine EvK.pure (v := .pointer r1.1) (w_none rfl) rfl rfl (f_move rfl rfl) ?_
        refine EvK.call (w_none rfl) rfl rfl (enterH Try.func18 rfl rfl rfl rfl (flow_Flow_Take.sound hF)) ?_
        rintro _ h7 ⟨r5, rfl, hF⟩
        refine EvK.pure (v := .tuple #[.int .i64 r5.1, k32.val r5.2.1, .int .i64 r5.2.2]) (w_none rfl) rfl rfl (f_move rfl rfl) ?_
        refine EvK.pure (v := .int .i64 r5.1) (w_none rfl) rfl rfl (f_extract (vs := #[.int .i64 r5.1, k32.val r5.2.1, .int .i64 r5.2.2]) rfl rfl rfl) ?_
        refine EvK.pure (v := k32.val r5.2.1) (w_none rfl) rfl rfl (f_extract (vs := #[.int .i64 r5.1, k32.val r5.2.1, .int .i64 r5.2.2]) rfl rfl rfl) ?_
        refine EvK.pure (v := .int .i64 r5.2.2) (w_none rfl) rfl rfl (f_extract (vs := #[.int .i64 r5.1, k32.val r5.2.1, .int .i64 r5.2.2]) rfl rfl rfl) ?_
        refine EvK.alloc (w_none rfl) rfl rfl (f_allocF zero33 rfl rfl hF) ?_
        rintro _ h8 ⟨q1, rfl, hF⟩
        refine EvK.pure (v := .int .i64 r5.1) (w_none rfl) rfl rfl (f_assign rfl rfl) ?_
        obtain ⟨h9, hs1, hF⟩ := hF
        refine EvK.runN (w_none rfl) rfl (f_store k32 ty33.size (z := r5.2.1) rfl rfl rfl hs1) ?_
        rintro _ _ ⟨rfl, rfl⟩
        refine EvK.pure (v := .int .i64 r5.2.2) (w_none rfl) rfl rfl (f_assign rfl rfl) ?_
        refine EvK.nil ?_
        refine WP.joinF (fun (s3 : Bool) => [(0, .bool s3)]) hF ?_ ?_
        · intro s3 E0 h10 hF
          refine WP.ret ?_
          exact Ret.mk (vs := [.bool s3]) s3 ⟨rfl, trivial⟩ rfl hF
        · intro k3 hF
          refine WP.region ?_
          refine EvK.pure (v := .bool s2) (w_none rfl) rfl rfl (f_move rfl rfl) ?_
          refine EvK.pure (v := .bool s2) (w_none rfl) rfl rfl (f_move rfl rfl) ?_
          rcases ite_inv hF with ⟨c2, hF⟩ | ⟨c2, hF⟩
          · refine EvK.pure (v := .int .i64 r3.1) (w_some rfl rfl c2) rfl rfl (f_move rfl rfl) ?_
            refine EvK.pure (v := .bool (r3.1 == 0)) (w_some rfl rfl c2) rfl rfl (f_eql rfl rfl rfl) ?_
            refine EvK.pure (v := .bool (r3.1 == 0)) (w_none rfl) rfl rfl (f_pickT rfl rfl c2 rfl) ?_
            refine EvK.pure (v := .bool (r3.1 == 0)) (w_none rfl) rfl rfl (f_move rfl rfl) ?_
            rcases ite_inv hF with ⟨c3, hF⟩ | ⟨c3, hF⟩
            · refine EvK.pure (v := .int .i64 r3.2) (w_some rfl rfl c3) rfl rfl (f_move rfl rfl) ?_
              refine EvK.pure (v := .bool (r3.2 == 0)) (w_some rfl rfl c3) rfl rfl (f_eql rfl rfl rfl) ?_
              refine EvK.pure (v := .bool (r3.2 == 0)) (w_none rfl) rfl rfl (f_pickT rfl rfl c3 rfl) ?_
              refine EvK.pure (v := .bool (r3.2 == 0)) (w_none rfl) rfl rfl (f_move rfl rfl) ?_
              rcases ite_inv hF with ⟨c4, hF⟩ | ⟨c4, hF⟩
              · refine EvK.pure (v := .int .i64 r4.2) (w_some rfl rfl c4) rfl rfl (f_move rfl rfl) ?_
                refine EvK.pure (v := .bool (r4.2 == 45)) (w_some rfl rfl c4) rfl rfl (f_eql rfl rfl rfl) ?_
                refine EvK.pure (v := .bool (r4.2 == 45)) (w_none rfl) rfl rfl (f_pickT rfl rfl c4 rfl) ?_
                refine EvK.pure (v := .bool (r4.2 == 45)) (w_none rfl) rfl rfl (f_move rfl rfl) ?_
                rcases ite_inv hF with ⟨c5, hF⟩ | ⟨c5, hF⟩
                · refine EvK.pure (v := .int .i64 r5.1) (w_some rfl rfl c5) rfl rfl (f_move rfl rfl) ?_
                  refine EvK.pure (v := .bool (r5.1 == 0)) (w_some rfl rfl c5) rfl rfl (f_eql rfl rfl rfl) ?_
                  refine EvK.pure (v := .bool (r5.1 == 0)) (w_none rfl) rfl rfl (f_pickT rfl rfl c5 rfl) ?_
                  refine EvK.pure (v := .bool (r5.1 == 0)) (w_none rfl) rfl rfl (f_move rfl rfl) ?_
                  rcases ite_inv hF with ⟨c6, hF⟩ | ⟨c6, hF⟩
                  · obtain ⟨x1, hx1, hF⟩ := hF
                    refine EvK.read (v := k32.val x1) (w_some rfl rfl c6) rfl rfl (f_load k32 ty33 rfl rfl hx1 rfl) ?_
                    refine EvK.pure (v := k32.val (S32.mk false (⟨#[99]⟩ : ByteArray) 0 3)) (w_some rfl rfl c6) rfl rfl (f_build (cells := k32.enc (S32.mk false (⟨#[99]⟩ : ByteArray) 0 3)) st33 rfl rfl rfl) ?_
                    refine EvK.pure (v := .bool (eq33 x1 (S32.mk false (⟨#[99]⟩ : ByteArray) 0 3))) (w_some rfl rfl c6) rfl rfl (f_eqlOf rfl rfl rfl (guard33 _ _) rfl (eqIn33 _ _)) ?_
                    refine EvK.pure (v := .bool (eq33 x1 (S32.mk false (⟨#[99]⟩ : ByteArray) 0 3))) (w_none rfl) rfl rfl (f_pickT rfl rfl c6 rfl) ?_
                    refine EvK.pure (v := .bool (eq33 x1 (S32.mk false (⟨#[99]⟩ : ByteArray) 0 3))) (w_none rfl) rfl rfl (f_move rfl rfl) ?_
                    rcases ite_inv hF with ⟨c7, hF⟩ | ⟨c7, hF⟩
                    · refine EvK.pure (v := .int .i64 r5.2.2) (w_some rfl rfl c7) rfl rfl (f_move rfl rfl) ?_
                      refine EvK.pure (v := .bool (r5.2.2 == 0)) (w_some rfl rfl c7) rfl rfl (f_eql rfl rfl rfl) ?_
                      refine EvK.pure (v := .bool (r5.2.2 == 0)) (w_none rfl) rfl rfl (f_pickT rfl rfl c7 rfl) ?_
                      refine EvK.pure (v := .bool (r5.2.2 == 0)) (w_none rfl) rfl rfl (f_move rfl rfl) ?_
                      rcases ite_inv hF with ⟨c8, hF⟩ | ⟨c8, hF⟩
                      · refine EvK.pure (v := .pointer r1.1) (w_some rfl rfl c8) rfl rfl (f_move rfl rfl) ?_
                        refine EvK.call (w_some rfl rfl c8) rfl rfl (enterH Try.func23 rfl rfl rfl rfl (flow_Flow_Boxed.sound hF)) ?_
                        rintro _ h11 ⟨r6, rfl, hF⟩
                        refine EvK.pure (v := .bool (r6 == 0)) (w_some rfl rfl c8) rfl rfl (f_eql rfl rfl rfl) ?_
                        refine EvK.pure (v := .bool (r6 == 0)) (w_none rfl) rfl rfl (f_pickT rfl rfl c8 rfl) ?_
                        refine EvK.pure (v := .bool (r6 == 0)) (w_none rfl) rfl rfl (f_move rfl rfl) ?_
                        rcases ite_inv hF with ⟨c9, hF⟩ | ⟨c9, hF⟩
                        · refine EvK.pure (v := .pointer r1.1) (w_some rfl rfl c9) rfl rfl (f_move rfl rfl) ?_
                          refine EvK.call (w_some rfl rfl c9) rfl rfl (enterH Try.func19 rfl rfl rfl rfl (flow_Flow_Empty.sound hF)) ?_
                          rintro _ h12 ⟨r7, rfl, hF⟩
                          refine EvK.pure (v := .bool (!r7)) (w_some rfl rfl c9) rfl rfl (f_not rfl rfl) ?_
                          refine EvK.pure (v := .bool (!r7)) (w_none rfl) rfl rfl (f_pickT rfl rfl c9 rfl) ?_
                          refine EvK.pure (v := .bool (!r7)) (w_none rfl) rfl rfl (f_assign rfl rfl) ?_
                          refine EvK.nil ?_
                          exact KE.mk (!r7) ⟨rfl, trivial⟩ hF
                        · refine EvK.not (w_not rfl rfl c9) rfl rfl ?_
                          refine EvK.not (w_not rfl rfl c9) rfl rfl ?_
                          refine EvK.not (w_not rfl rfl c9) rfl rfl ?_
                          refine EvK.pure (v := .bool false) (w_none rfl) rfl rfl (f_pickF rfl rfl c9 rfl) ?_
                          refine EvK.pure (v := .bool false) (w_none rfl) rfl rfl (f_assign rfl rfl) ?_
                          refine EvK.nil ?_
                          exact KE.mk false ⟨rfl, trivial⟩ hF
                      · refine EvK.not (w_not rfl rfl c8) rfl rfl ?_
                        refine EvK.not (w_not rfl rfl c8) rfl rfl ?_
                        refine EvK.not (w_not rfl rfl c8) rfl rfl ?_
                        refine EvK.pure (v := .bool false) (w_none rfl) rfl rfl (f_pickF rfl rfl c8 rfl) ?_
                        refine EvK.pure (v := .bool false) (w_none rfl) rfl rfl (f_move rfl rfl) ?_
                        refine EvK.not (w_not rfl rfl rfl) rfl rfl ?_
                        refine EvK.not (w_not rfl rfl rfl) rfl rfl ?_
                        refine EvK.not (w_not rfl rfl rfl) rfl rfl ?_
                        refine EvK.pure (v := .bool false) (w_none rfl) rfl rfl (f_pickF rfl rfl rfl rfl) ?_
                        refine EvK.pure (v := .bool false) (w_none rfl) rfl rfl (f_assign rfl rfl) ?_
                        refine EvK.nil ?_
                        exact KE.mk false ⟨rfl, trivial⟩ hF
                    · refine EvK.not (w_not rfl rfl c7) rfl rfl ?_
                      refine EvK.not (w_not rfl rfl c7) rfl rfl ?_
                      refine EvK.pure (v := .bool false) (w_none rfl) rfl rfl (f_pickF rfl rfl c7 rfl) ?_
                      refine EvK.pure (v := .bool false) (w_none rfl) rfl rfl (f_move rfl rfl) ?_
                      refine EvK.not (w_not rfl rfl rfl) rfl rfl ?_
                      refine EvK.not (w_not rfl rfl rfl) rfl rfl ?_
                      refine EvK.not (w_not rfl rfl rfl) rfl rfl ?_
                      refine EvK.pure (v := .bool false) (w_none rfl) rfl rfl (f_pickF rfl rfl rfl rfl) ?_
                      refine EvK.pure (v := .bool false) (w_none rfl) rfl rfl (f_move rfl rfl) ?_
                      refine EvK.not (w_not rfl rfl rfl) rfl rfl ?_
                      refine EvK.not (w_not rfl rfl rfl) rfl rfl ?_
                      refine EvK.not (w_not rfl rfl rfl) rfl rfl ?_
                      refine EvK.pure (v := .bool false) (w_none rfl) rfl rfl (f_pickF rfl rfl rfl rfl) ?_
                      refine EvK.pure (v := .bool false) (w_none rfl) rfl rfl (f_assign rfl rfl) ?_
                      refine EvK.nil ?_
                      exact KE.mk false ⟨rfl, trivial⟩ hF
                  · refine EvK.not (w_not rfl rfl c6) rfl rfl ?_
                    refine EvK.not (w_not rfl rfl c6) rfl rfl ?_
                    refine EvK.not (w_not rfl rfl c6) rfl rfl ?_
                    refine EvK.pure (v := .bool false) (w_none rfl) rfl rfl (f_pickF rfl rfl c6 rfl) ?_
                    refine EvK.pure (v := .bool false) (w_none rfl) rfl rfl (f_move rfl rfl) ?_
                    refine EvK.not (w_not rfl rfl rfl) rfl rfl ?_
                    refine EvK.not (w_not rfl rfl rfl) rfl rfl ?_
                    refine EvK.pure (v := .bool false) (w_none rfl) rfl rfl (f_pickF rfl rfl rfl rfl) ?_
                    refine EvK.pure (v := .bool false) (w_none rfl) rfl rfl (f_move rfl rfl) ?_
                    refine EvK.not (w_not rfl rfl rfl) rfl rfl ?_
                    refine EvK.not (w_not rfl rfl rfl) rfl rfl ?_
                    refine EvK.not (w_not rfl rfl rfl) rfl rfl ?_
                    refine EvK.pure (v := .bool false) (w_none rfl) rfl rfl (f_pickF rfl rfl rfl rfl) ?_
                    refine EvK.pure (v := .bool false) (w_none rfl) rfl rfl (f_move rfl rfl) ?_
                    refine EvK.not (w_not rfl rfl rfl) rfl rfl ?_
                    refine EvK.not (w_not rfl rfl rfl) rfl rfl ?_
                    refine EvK.not (w_not rfl rfl rfl) rfl rfl ?_
                    refine EvK.pure (v := .bool false) (w_none rfl) rfl rfl (f_pickF rfl rfl rfl rfl) ?_
                    refine EvK.pure (v := .bool false) (w_none rfl) rfl rfl (f_assign rfl rfl) ?_
                    refine EvK.nil ?_
                    exact KE.mk false ⟨rfl, trivial⟩ hF
                · refine EvK.not (w_not rfl rfl c5) rfl rfl ?_
                  refine EvK.not (w_not rfl rfl c5) rfl rfl ?_
                  refine EvK.pure (v := .bool false) (w_none rfl) rfl rfl (f_pickF rfl rfl c5 rfl) ?_
                  refine EvK.pure (v := .bool false) (w_none rfl) rfl rfl (f_move rfl rfl) ?_
                  refine EvK.not (w_not rfl rfl rfl) rfl rfl ?_
                  refine EvK.not (w_not rfl rfl rfl) rfl rfl ?_
                  refine EvK.not (w_not rfl rfl rfl) rfl rfl ?_
                  refine EvK.pure (v := .bool false) (w_none rfl) rfl rfl (f_pickF rfl rfl rfl rfl) ?_
                  refine EvK.pure (v := .bool false) (w_none rfl) rfl rfl (f_move rfl rfl) ?_
                  refine EvK.not (w_not rfl rfl rfl) rfl rfl ?_
                  refine EvK.not (w_not rfl rfl rfl) rfl rfl ?_
                  refine EvK.pure (v := .bool false) (w_none rfl) rfl rfl (f_pickF rfl rfl rfl rfl) ?_
                  refine EvK.pure (v := .bool false) (w_none rfl) rfl rfl (f_move rfl rfl) ?_
                  refine EvK.not (w_not rfl rfl rfl) rfl rfl ?_
                  refine EvK.not (w_not rfl rfl rfl) rfl rfl ?_
                  refine EvK.not (w_not rfl rfl rfl) rfl rfl ?_
                  refine EvK.pure (v := .bool false) (w_none rfl) rfl rfl (f_pickF rfl rfl rfl rfl) ?_
                  refine EvK.pure (v := .bool false) (w_none rfl) rfl rfl (f_move rfl rfl) ?_
                  refine EvK.not (w_not rfl rfl rfl) rfl rfl ?_
                  refine EvK.not (w_not rfl rfl rfl) rfl rfl ?_
                  refine EvK.not (w_not rfl rfl rfl) rfl rfl ?_
                  refine EvK.pure (v := .bool false) (w_none rfl) rfl rfl (f_pickF rfl rfl rfl rfl) ?_
                  refine EvK.pure (v := .bool false) (w_none rfl) rfl rfl (f_assign rfl rfl) ?_
                  refine EvK.nil ?_
                  exact KE.mk false ⟨rfl, trivial⟩ hF
              · refine EvK.not (w_not rfl rfl c4) rfl rfl ?_
                refine EvK.not (w_not rfl rfl c4) rfl rfl ?_
                refine EvK.pure (v := .bool false) (w_none rfl) rfl rfl (f_pickF rfl rfl c4 rfl) ?_
                refine EvK.pure (v := .bool false) (w_none rfl) rfl rfl (f_move rfl rfl) ?_
                refine EvK.not (w_not rfl rfl rfl) rfl rfl ?_
                refine EvK.not (w_not rfl rfl rfl) rfl rfl ?_
                refine EvK.pure (v := .bool false) (w_none rfl) rfl rfl (f_pickF rfl rfl rfl rfl) ?_
                refine EvK.pure (v := .bool false) (w_none rfl) rfl rfl (f_move rfl rfl) ?_
                refine EvK.not (w_not rfl rfl rfl) rfl rfl ?_
                refine EvK.not (w_not rfl rfl rfl) rfl rfl ?_
                refine EvK.not (w_not rfl rfl rfl) rfl rfl ?_
                refine EvK.pure (v := .bool false) (w_none rfl) rfl rfl (f_pickF rfl rfl rfl rfl) ?_
                refine EvK.pure (v := .bool false) (w_none rfl) rfl rfl (f_move rfl rfl) ?_
                refine EvK.not (w_not rfl rfl rfl) rfl rfl ?_
                refine EvK.not (w_not rfl rfl rfl) rfl rfl ?_
                refine EvK.pure (v := .bool false) (w_none rfl) rfl rfl (f_pickF rfl rfl rfl rfl) ?_
                refine EvK.pure (v := .bool false) (w_none rfl) rfl rfl (f_move rfl rfl) ?_
                refine EvK.not (w_not rfl rfl rfl) rfl rfl ?_
                refine EvK.not (w_not rfl rfl rfl) rfl rfl ?_
                refine EvK.not (w_not rfl rfl rfl) rfl rfl ?_
                refine EvK.pure (v := .bool false) (w_none rfl) rfl rfl (f_pickF rfl rfl rfl rfl) ?_
                refine EvK.pure (v := .bool false) (w_none rfl) rfl rfl (f_move rfl rfl) ?_
                refine EvK.not (w_not rfl rfl rfl) rfl rfl ?_
                refine EvK.not (w_not rfl rfl rfl) rfl rfl ?_
                refine EvK.not (w_not rfl rfl rfl) rfl rfl ?_
                refine EvK.pure (v := .bool false) (w_none rfl) rfl rfl (f_pickF rfl rfl rfl rfl) ?_
                refine EvK.pure (v := .bool false) (w_none rfl) rfl rfl (f_assign rfl rfl) ?_
                refine EvK.nil ?_
                exact KE.mk false ⟨rfl, trivial⟩ hF
            · refine EvK.not (w_not rfl rfl c3) rfl rfl ?_
              refine EvK.not (w_not rfl rfl c3) rfl rfl ?_
              refine EvK.pure (v := .bool false) (w_none rfl) rfl rfl (f_pickF rfl rfl c3 rfl) ?_
              refine EvK.pure (v := .bool false) (w_none rfl) rfl rfl (f_move rfl rfl) ?_
              refine EvK.not (w_not rfl rfl rfl) rfl rfl ?_
              refine EvK.not (w_not rfl rfl rfl) rfl rfl ?_
              refine EvK.pure (v := .bool false) (w_none rfl) rfl rfl (f_pickF rfl rfl rfl rfl) ?_
              refine EvK.pure (v := .bool false) (w_none rfl) rfl rfl (f_move rfl rfl) ?_
              refine EvK.not (w_not rfl rfl rfl) rfl rfl ?_
              refine EvK.not (w_not rfl rfl rfl) rfl rfl ?_
              refine EvK.pure (v := .bool false) (w_none rfl) rfl rfl (f_pickF rfl rfl rfl rfl) ?_
              refine EvK.pure (v := .bool false) (w_none rfl) rfl rfl (f_move rfl rfl) ?_
              refine EvK.not (w_not rfl rfl rfl) rfl rfl ?_
              refine EvK.not (w_not rfl rfl rfl) rfl rfl ?_
              refine EvK.not (w_not rfl rfl rfl) rfl rfl ?_
              refine EvK.pure (v := .bool false) (w_none rfl) rfl rfl (f_pickF rfl rfl rfl rfl) ?_
              refine EvK.pure (v := .bool false) (w_none rfl) rfl rfl (f_move rfl rfl) ?_
              refine EvK.not (w_not rfl rfl rfl) rfl rfl ?_
              refine EvK.not (w_not rfl rfl rfl) rfl rfl ?_
              refine EvK.pure (v := .bool false) (w_none rfl) rfl rfl (f_pickF rfl rfl rfl rfl) ?_
              refine EvK.pure (v := .bool false) (w_none rfl) rfl rfl (f_move rfl rfl) ?_
              refine EvK.not (w_not rfl rfl rfl) rfl rfl ?_
              refine EvK.not (w_not rfl rfl rfl) rfl rfl ?_
              refine EvK.not (w_not rfl rfl rfl) rfl rfl ?_
              refine EvK.pure (v := .bool false) (w_none rfl) rfl rfl (f_pickF rfl rfl rfl rfl) ?_
              refine EvK.pure (v := .bool false) (w_none rfl) rfl rfl (f_move rfl rfl) ?_
              refine EvK.not (w_not rfl rfl rfl) rfl rfl ?_
              refine EvK.not (w_not rfl rfl rfl) rfl rfl ?_
              refine EvK.not (w_not rfl rfl rfl) rfl rfl ?_
              refine EvK.pure (v := .bool false) (w_none rfl) rfl rfl (f_pickF rfl rfl rfl rfl) ?_
              refine EvK.pure (v := .bool false) (w_none rfl) rfl rfl (f_assign rfl rfl) ?_
              refine EvK.nil ?_
              exact KE.mk false ⟨rfl, trivial⟩ hF
          · refine EvK.not (w_not rfl rfl c2) rfl rfl ?_
            refine EvK.not (w_not rfl rfl c2) rfl rfl ?_
            refine EvK.pure (v := .bool false) (w_none rfl) rfl rfl (f_pickF rfl rfl c2 rfl) ?_
            refine EvK.pure (v := .bool false) (w_none rfl) rfl rfl (f_move rfl rfl) ?_
            refine EvK.not (w_not rfl rfl rfl) rfl rfl ?_
            refine EvK.not (w_not rfl rfl rfl) rfl rfl ?_
            refine EvK.pure (v := .bool false) (w_none rfl) rfl rfl (f_pickF rfl rfl rfl rfl) ?_
            refine EvK.pure (v := .bool false) (w_none rfl) rfl rfl (f_move rfl rfl) ?_
            refine EvK.not (w_not rfl rfl rfl) rfl rfl ?_
            refine EvK.not (w_not rfl rfl rfl) rfl rfl ?_
            refine EvK.pure (v := .bool false) (w_none rfl) rfl rfl (f_pickF rfl rfl rfl rfl) ?_
            refine EvK.pure (v := .bool false) (w_none rfl) rfl rfl (f_move rfl rfl) ?_
            refine EvK.not (w_not rfl rfl rfl) rfl rfl ?_
            refine EvK.not (w_not rfl rfl rfl) rfl rfl ?_
            refine EvK.pure (v := .bool false) (w_none rfl) rfl rfl (f_pickF rfl rfl rfl rfl) ?_
            refine EvK.pure (v := .bool false) (w_none rfl) rfl rfl (f_move rfl rfl) ?_
            refine EvK.not (w_not rfl rfl rfl) rfl rfl ?_
            refine EvK.not (w_not rfl rfl rfl) rfl rfl ?_
            refine EvK.not (w_not rfl rfl rfl) rfl rfl ?_
            refine EvK.pure (v := .bool false) (w_none rfl) rfl rfl (f_pickF rfl rfl rfl rfl) ?_
            refine EvK.pure (v := .bool false) (w_none rfl) rfl rfl (f_move rfl rfl) ?_
            refine EvK.not (w_not rfl rfl rfl) rfl rfl ?_
            refine EvK.not (w_not rfl rfl rfl) rfl rfl ?_
            refine EvK.pure (v := .bool false) (w_none rfl) rfl rfl (f_pickF rfl rfl rfl rfl) ?_
            refine EvK.pure (v := .bool false) (w_none rfl) rfl rfl (f_move rfl rfl) ?_
            refine EvK.not (w_not rfl rfl rfl) rfl rfl ?_
            refine EvK.not (w_not rfl rfl rfl) rfl rfl ?_
            refine EvK.not (w_not rfl rfl rfl) rfl rfl ?_
            refine EvK.pure (v := .bool false) (w_none rfl) rfl rfl (f_pickF rfl rfl rfl rfl) ?_
            refine EvK.pure (v := .bool false) (w_none rfl) rfl rfl (f_move rfl rfl) ?_
            refine EvK.not (w_not rfl rfl rfl) rfl rfl ?_
            refine EvK.not (w_not rfl rfl rfl) rfl rfl ?_
            refine EvK.not (w_not rfl rfl rfl) rfl rfl ?_
            refine EvK.pure (v := .bool false) (w_none rfl) rfl rfl (f_pickF rfl rfl rfl rfl) ?_
            refine EvK.pure (v := .bool false) (w_none rfl) rfl rfl (f_assign rfl rfl) ?_
            refine EvK.nil ?_
            exact KE.mk false ⟨rfl, trivial⟩ hF
      · intro k2 hF
        refine WP.region ?_
        refine EvK.pure (v := .pointer r1.1) (w_none rfl) rfl rfl (f_move rfl rfl) ?_
        refine EvK.pure (v := k32.val (S32.mk false (⟨#[99]⟩ : ByteArray) 0 3)) (w_none rfl) rfl rfl (f_build (cells := k32.enc (S32.mk false (⟨#[99]⟩ : ByteArray) 0 3)) st33 rfl rfl rfl) ?_
        refine EvK.call (w_none rfl) rfl rfl (enterH Try.func16 rfl rfl rfl rfl (flow_Flow_Put.sound hF)) ?_
        rintro _ h13 ⟨r8, rfl, hF⟩
        refine EvK.pure (v := .bool (r8 == 0)) (w_none rfl) rfl rfl (f_eql rfl rfl rfl) ?_
        refine EvK.pure (v := .bool (r8 == 0)) (w_none rfl) rfl rfl (f_move rfl rfl) ?_
        rcases ite_inv hF with ⟨c10, hF⟩ | ⟨c10, hF⟩
        · refine EvK.pure (v := .pointer r1.1) (w_some rfl rfl c10) rfl rfl (f_move rfl rfl) ?_
          refine EvK.pure (v := k32.val (S32.mk true ⟨#[]⟩ 5 0)) (w_some rfl rfl c10) rfl rfl (f_build (cells := k32.enc (S32.mk true ⟨#[]⟩ 5 0)) st33 rfl rfl rfl) ?_
          refine EvK.call (w_some rfl rfl c10) rfl rfl (enterH Try.func16 rfl rfl rfl rfl (flow_Flow_Put.sound hF)) ?_
          rintro _ h14 ⟨r9, rfl, hF⟩
          refine EvK.pure (v := .bool (r9 == 0)) (w_some rfl rfl c10) rfl rfl (f_eql rfl rfl rfl) ?_
          refine EvK.pure (v := .bool (r9 == 0)) (w_none rfl) rfl rfl (f_pickT rfl rfl c10 rfl) ?_
          refine EvK.pure (v := .bool (r9 == 0)) (w_none rfl) rfl rfl (f_move rfl rfl) ?_
          rcases ite_inv hF with ⟨c11, hF⟩ | ⟨c11, hF⟩
          · refine EvK.pure (v := .pointer r1.1) (w_some rfl rfl c11) rfl rfl (f_move rfl rfl) ?_
            refine EvK.call (w_some rfl rfl c11) rfl rfl (enterH Try.func21 rfl rfl rfl rfl (flow_Flow_Queued.sound hF)) ?_
            rintro _ h15 ⟨r10, rfl, hF⟩
            refine EvK.pure (v := .bool (r10 == 2)) (w_some rfl rfl c11) rfl rfl (f_eql rfl rfl rfl) ?_
            refine EvK.pure (v := .bool (r10 == 2)) (w_none rfl) rfl rfl (f_pickT rfl rfl c11 rfl) ?_
            refine EvK.pure (v := .bool (r10 == 2)) (w_none rfl) rfl rfl (f_move rfl rfl) ?_
            rcases ite_inv hF with ⟨c12, hF⟩ | ⟨c12, hF⟩
            · refine EvK.pure (v := .pointer r1.1) (w_some rfl rfl c12) rfl rfl (f_move rfl rfl) ?_
              refine EvK.call (w_some rfl rfl c12) rfl rfl (enterH Try.func13 rfl rfl rfl rfl (flow_Flow_Route.sound hF)) ?_
              rintro _ h16 ⟨r11, rfl, hF⟩
              refine EvK.pure (v := .bool (r11 == 0)) (w_some rfl rfl c12) rfl rfl (f_eql rfl rfl rfl) ?_
              refine EvK.pure (v := .bool (r11 == 0)) (w_none rfl) rfl rfl (f_pickT rfl rfl c12 rfl) ?_
              refine EvK.pure (v := .bool (r11 == 0)) (w_none rfl) rfl rfl (f_move rfl rfl) ?_
              rcases ite_inv hF with ⟨c13, hF⟩ | ⟨c13, hF⟩
              · refine EvK.pure (v := .pointer r1.1) (w_some rfl rfl c13) rfl rfl (f_move rfl rfl) ?_
                refine EvK.call (w_some rfl rfl c13) rfl rfl (enterH Try.func13 rfl rfl rfl rfl (flow_Flow_Route.sound hF)) ?_
                rintro _ h17 ⟨r12, rfl, hF⟩
                refine EvK.pure (v := .bool (r12 == 1)) (w_some rfl rfl c13) rfl rfl (f_eql rfl rfl rfl) ?_
                refine EvK.pure (v := .bool (r12 == 1)) (w_none rfl) rfl rfl (f_pickT rfl rfl c13 rfl) ?_
                refine EvK.pure (v := .bool (r12 == 1)) (w_none rfl) rfl rfl (f_assign rfl rfl) ?_
                refine EvK.nil ?_
                exact KE.mk (r12 == 1) ⟨rfl, rfl, trivial⟩ hF
              · refine EvK.not (w_not rfl rfl c13) rfl rfl ?_
                refine EvK.not (w_not rfl rfl c13) rfl rfl ?_
                refine EvK.not (w_not rfl rfl c13) rfl rfl ?_
                refine EvK.pure (v := .bool false) (w_none rfl) rfl rfl (f_pickF rfl rfl c13 rfl) ?_
                refine EvK.pure (v := .bool false) (w_none rfl) rfl rfl (f_assign rfl rfl) ?_
                refine EvK.nil ?_
                exact KE.mk false ⟨rfl, rfl, trivial⟩ hF
            · refine EvK.not (w_not rfl rfl c12) rfl rfl ?_
              refine EvK.not (w_not rfl rfl c12) rfl rfl ?_
              refine EvK.not (w_not rfl rfl c12) rfl rfl ?_
              refine EvK.pure (v := .bool false) (w_none rfl) rfl rfl (f_pickF rfl rfl c12 rfl) ?_
              refine EvK.pure (v := .bool false) (w_none rfl) rfl rfl (f_move rfl rfl) ?_
              refine EvK.not (w_not rfl rfl rfl) rfl rfl ?_
              refine EvK.not (w_not rfl rfl rfl) rfl rfl ?_
              refine EvK.not (w_not rfl rfl rfl) rfl rfl ?_
              refine EvK.pure (v := .bool false) (w_none rfl) rfl rfl (f_pickF rfl rfl rfl rfl) ?_
              refine EvK.pure (v := .bool false) (w_none rfl) rfl rfl (f_assign rfl rfl) ?_
              refine EvK.nil ?_
              exact KE.mk false ⟨rfl, rfl, trivial⟩ hF
          · refine EvK.not (w_not rfl rfl c11) rfl rfl ?_
            refine EvK.not (w_not rfl rfl c11) rfl rfl ?_
            refine EvK.not (w_not rfl rfl c11) rfl rfl ?_
            refine EvK.pure (v := .bool false) (w_none rfl) rfl rfl (f_pickF rfl rfl c11 rfl) ?_
            refine EvK.pure (v := .bool false) (w_none rfl) rfl rfl (f_move rfl rfl) ?_
            refine EvK.not (w_not rfl rfl rfl) rfl rfl ?_
            refine EvK.not (w_not rfl rfl rfl) rfl rfl ?_
            refine EvK.not (w_not rfl rfl rfl) rfl rfl ?_
            refine EvK.pure (v := .bool false) (w_none rfl) rfl rfl (f_pickF rfl rfl rfl rfl) ?_
            refine EvK.pure (v := .bool false) (w_none rfl) rfl rfl (f_move rfl rfl) ?_
            refine EvK.not (w_not rfl rfl rfl) rfl rfl ?_
            refine EvK.not (w_not rfl rfl rfl) rfl rfl ?_
            refine EvK.not (w_not rfl rfl rfl) rfl rfl ?_
            refine EvK.pure (v := .bool false) (w_none rfl) rfl rfl (f_pickF rfl rfl rfl rfl) ?_
            refine EvK.pure (v := .bool false) (w_none rfl) rfl rfl (f_assign rfl rfl) ?_
            refine EvK.nil ?_
            exact KE.mk false ⟨rfl, rfl, trivial⟩ hF
        · refine EvK.not (w_not rfl rfl c10) rfl rfl ?_
          refine EvK.not (w_not rfl rfl c10) rfl rfl ?_
          refine EvK.not (w_not rfl rfl c10) rfl rfl ?_
          refine EvK.not (w_not rfl rfl c10) rfl rfl ?_
          refine EvK.pure (v := .bool false) (w_none rfl) rfl rfl (f_pickF rfl rfl c10 rfl) ?_
          refine EvK.pure (v := .bool false) (w_none rfl) rfl rfl (f_move rfl rfl) ?_
          refine EvK.not (w_not rfl rfl rfl) rfl rfl ?_
          refine EvK.not (w_not rfl rfl rfl) rfl rfl ?_
          refine EvK.not (w_not rfl rfl rfl) rfl rfl ?_
          refine EvK.pure (v := .bool false) (w_none rfl) rfl rfl (f_pickF rfl rfl rfl rfl) ?_
          refine EvK.pure (v := .bool false) (w_none rfl) rfl rfl (f_move rfl rfl) ?_
          refine EvK.not (w_not rfl rfl rfl) rfl rfl ?_
          refine EvK.not (w_not rfl rfl rfl) rfl rfl ?_
          refine EvK.not (w_not rfl rfl rfl) rfl rfl ?_
          refine EvK.pure (v := .bool false) (w_none rfl) rfl rfl (f_pickF rfl rfl rfl rfl) ?_
          refine EvK.pure (v := .bool false) (w_none rfl) rfl rfl (f_move rfl rfl) ?_
          refine EvK.not (w_not rfl rfl rfl) rfl rfl ?_
          refine EvK.not (w_not rfl rfl rfl) rfl rfl ?_
          refine EvK.not (w_not rfl rfl rfl) rfl rfl ?_
          refine EvK.pure (v := .bool false) (w_none rfl) rfl rfl (f_pickF rfl rfl rfl rfl) ?_
          refine EvK.pure (v := .bool false) (w_none rfl) rfl rfl (f_assign rfl rfl) ?_
          refine EvK.nil ?_
          exact KE.mk false ⟨rfl, rfl, trivial⟩ hF
  · intro k1 hF
    refine WP.region ?_
    refine EvK.pure (v := .int .i64 r1.2) (w_none rfl) rfl rfl (f_move rfl rfl) ?_
    refine EvK.pure (v := .bool (r1.2 != 0)) (w_none rfl) rfl rfl (f_neq rfl rfl rfl) ?_
    refine EvK.pure (v := .bool (r1.2 != 0)) (w_none rfl) rfl rfl (f_move rfl rfl) ?_
    rcases ite_inv hF with ⟨c14, hF⟩ | ⟨c14, hF⟩
    · refine EvK.not (w_not rfl rfl c14) rfl rfl ?_
      refine EvK.not (w_not rfl rfl c14) rfl rfl ?_
      refine EvK.pure (v := .bool true) (w_none rfl) rfl rfl (f_pickT rfl rfl c14 rfl) ?_
      refine EvK.pure (v := .bool true) (w_none rfl) rfl rfl (f_move rfl rfl) ?_
      refine EvK.not (w_not rfl rfl rfl) rfl rfl ?_
      refine EvK.not (w_not rfl rfl rfl) rfl rfl ?_
      refine EvK.pure (v := .bool true) (w_none rfl) rfl rfl (f_pickT rfl rfl rfl rfl) ?_
      refine EvK.pure (v := .bool true) (w_none rfl) rfl rfl (f_move rfl rfl) ?_
      refine EvK.not (w_not rfl rfl rfl) rfl rfl ?_
      refine EvK.not (w_not rfl rfl rfl) rfl rfl ?_
      refine EvK.pure (v := .bool true) (w_none rfl) rfl rfl (f_pickT rfl rfl rfl rfl) ?_
      refine EvK.nil ?_
      exact KE.mk true ⟨rfl, rfl, trivial⟩ hF
    · refine EvK.pure (v := .pointer r1.1) (w_some rfl rfl c14) rfl rfl (f_move rfl rfl) ?_
      refine EvK.pure (v := .bool r1.1.isNone) (w_some rfl rfl c14) rfl rfl (f_peqln Try.underlying24 rfl rfl rfl) ?_
      refine EvK.pure (v := .bool r1.1.isNone) (w_none rfl) rfl rfl (f_pickF rfl rfl c14 rfl) ?_
      refine EvK.pure (v := .bool r1.1.isNone) (w_none rfl) rfl rfl (f_move rfl rfl) ?_
      rcases ite_inv hF with ⟨c15, hF⟩ | ⟨c15, hF⟩
      · refine EvK.not (w_not rfl rfl c15) rfl rfl ?_
        refine EvK.not (w_not rfl rfl c15) rfl rfl ?_
        refine EvK.pure (v := .bool true) (w_none rfl) rfl rfl (f_pickT rfl rfl c15 rfl) ?_
        refine EvK.pure (v := .bool true) (w_none rfl) rfl rfl (f_move rfl rfl) ?_
        refine EvK.not (w_not rfl rfl rfl) rfl rfl ?_
        refine EvK.not (w_not rfl rfl rfl) rfl rfl ?_
        refine EvK.pure (v := .bool true) (w_none rfl) rfl rfl (f_pickT rfl rfl rfl rfl) ?_
        refine EvK.nil ?_
        exact KE.mk true ⟨rfl, rfl, trivial⟩ hF
      · refine EvK.pure (v := .pointer r2.1) (w_some rfl rfl c15) rfl rfl (f_move rfl rfl) ?_
        refine EvK.pure (v := .bool (!r2.1.isNone)) (w_some rfl rfl c15) rfl rfl (f_pneqn Try.underlying24 rfl rfl rfl) ?_
        refine EvK.pure (v := .bool (!r2.1.isNone)) (w_none rfl) rfl rfl (f_pickF rfl rfl c15 rfl) ?_
        refine EvK.pure (v := .bool (!r2.1.isNone)) (w_none rfl) rfl rfl (f_move rfl rfl) ?_
        rcases ite_inv hF with ⟨c16, hF⟩ | ⟨c16, hF⟩
        · refine EvK.not (w_not rfl rfl c16) rfl rfl ?_
          refine EvK.not (w_not rfl rfl c16) rfl rfl ?_
          refine EvK.pure (v := .bool true) (w_none rfl) rfl rfl (f_pickT rfl rfl c16 rfl) ?_
          refine EvK.nil ?_
          exact KE.mk true ⟨rfl, rfl, trivial⟩ hF
        · refine EvK.pure (v := .int .i64 r2.2) (w_some rfl rfl c16) rfl rfl (f_move rfl rfl) ?_
          refine EvK.pure (v := .bool (r2.2 != 1)) (w_some rfl rfl c16) rfl rfl (f_neq rfl rfl rfl) ?_
          refine EvK.pure (v := .bool (r2.2 != 1)) (w_none rfl) rfl rfl (f_pickF rfl rfl c16 rfl) ?_
          refine EvK.nil ?_
          exact KE.mk (r2.2 != 1) ⟨rfl, rfl, trivial⟩ hF
end Go.Proofs.Ytanpaamamfabkaa

namespace Go.Proofs.Ytanpaamamfabkaa
open Go Go.Tr
set_option linter.unusedVariables false
set_option maxRecDepth 100000
set_option maxHeartbeats 400000
/-- spate/spateref15.New -/
def spateref15_New (a0 : Int) (a1 : Int) (a2 : Int) (h : H) (Q : ((Option Addr) × Int) → H → Prop) : Prop :=
  jn (fun (k1 : Bool → H → Prop) =>
    if (decide (a0 < 1)) = true then
      k1 true h
    else
      if (decide (a0 > 8)) = true then
        k1 true h
      else
        if (decide (a1 < 1)) = true then
          k1 true h
        else
          if (decide (a1 > 8)) = true then
            k1 true h
          else
            if (decide (a2 < 1)) = true then
              k1 true h
            else
              k1 (decide (a2 > 64)) h) fun s1 h1 =>
  if s1 = true then
    Q (none, 1) h1
  else
    jn (fun (k2 : ((Option Addr) × Int) → H → Prop) =>
      (mk kL.n 24 45 (kL.enc Sl.nil) a0 a0 h1 fun x1 h3 =>
      (mk kL.n 24 86 (kL.enc Sl.nil) a1 a1 h3 fun x2 h4 =>
      mk (kI .i64).n 8 3 ((kI .i64).enc 0) a0 a0 h4 fun x3 h5 =>
      al 66 (k65.enc (S65.mk a2 x1 x2 x3)) h5 fun q1 h6 =>
      k2 ((some q1), 0) h6) ∧
      (mk (kI .i64).n 8 3 ((kI .i64).enc 0) a0 a0 h3 fun x4 h7 =>
      mk kL.n 24 86 (kL.enc Sl.nil) a1 a1 h7 fun x5 h8 =>
      al 66 (k65.enc (S65.mk a2 x1 x5 x4)) h8 fun q2 h9 =>
      k2 ((some q2), 0) h9)) ∧
      (mk kL.n 24 86 (kL.enc Sl.nil) a1 a1 h1 fun x6 h10 =>
      (mk kL.n 24 45 (kL.enc Sl.nil) a0 a0 h10 fun x7 h11 =>
      mk (kI .i64).n 8 3 ((kI .i64).enc 0) a0 a0 h11 fun x8 h12 =>
      al 66 (k65.enc (S65.mk a2 x7 x6 x8)) h12 fun q3 h13 =>
      k2 ((some q3), 0) h13) ∧
      (mk (kI .i64).n 8 3 ((kI .i64).enc 0) a0 a0 h10 fun x9 h14 =>
      mk kL.n 24 45 (kL.enc Sl.nil) a0 a0 h14 fun x10 h15 =>
      al 66 (k65.enc (S65.mk a2 x10 x6 x9)) h15 fun q4 h16 =>
      k2 ((some q4), 0) h16)) ∧
      (mk (kI .i64).n 8 3 ((kI .i64).enc 0) a0 a0 h1 fun x11 h17 =>
      (mk kL.n 24 45 (kL.enc Sl.nil) a0 a0 h17 fun x12 h18 =>
      mk kL.n 24 86 (kL.enc Sl.nil) a1 a1 h18 fun x13 h19 =>
      al 66 (k65.enc (S65.mk a2 x12 x13 x11)) h19 fun q5 h20 =>
      k2 ((some q5), 0) h20) ∧
      (mk kL.n 24 86 (kL.enc Sl.nil) a1 a1 h17 fun x14 h21 =>
      mk kL.n 24 45 (kL.enc Sl.nil) a0 a0 h21 fun x15 h22 =>
      al 66 (k65.enc (S65.mk a2 x15 x14 x11)) h22 fun q6 h23 =>
      k2 ((some q6), 0) h23))) fun s2 h2 =>
    Q (s2.1, s2.2) h2
theorem spateref15_New.sound {a0 : Int} {a1 : Int} {a2 : Int} {h : H} {Q : ((Option Addr) × Int) → H → Prop} (hF : spateref15_New a0 a1 a2 h Q) :
    CallsH Try.prog 10 (List.toArray (α := Value) [.int .i64 a0, .int .i64 a1, .int .i64 a2]) h fun v h' => ∃ x : (Option Addr) × Int, v = .tuple #[.pointer x.1, .int .i64 x.2] ∧ Q x h' := by
  refine CallsH.of_body Try.func10 rfl 39 rfl rfl ?_
  refine WP.seq ?_
  refine WP.region ?_
  refine EvK.pure (v := .pointer none) (w_none rfl) rfl rfl (f_assign rfl rfl) ?_
  refine EvK.pure (v := .int .i64 0) (w_none rfl) rfl rfl (f_assign rfl rfl) ?_
  refine EvK.nil ?_
  refine WP.seq ?_
  refine WP.joinF (fun (s1 : Bool) => [(29, .bool s1), (0, .int .i64 a0), (1, .int .i64 a1), (2, .int .i64 a2)]) hF ?_ ?_
  · intro s1 E0 h1 hF
    rcases ite_inv hF with ⟨c1, hF⟩ | ⟨c1, hF⟩
    · refine WP.cond_true _ rfl c1 ?_
      refine WP.seq ?_
      refine WP.region ?_
      refine EvK.pure (v := .pointer none) (w_none rfl) rfl rfl (f_assign rfl rfl) ?_
      refine EvK.pure (v := .int .i64 1) (w_none rfl) rfl rfl (f_assign rfl rfl) ?_
      refine EvK.nil ?_
      refine WP.ret ?_
      exact Ret.mk (vs := [.pointer none, .int .i64 1]) (none, 1) ⟨rfl, rfl, trivial⟩ rfl hF
    · refine WP.cond_false _ rfl c1 ?_
      refine WP.skip ?_
      refine WP.joinF (fun (s2 : (Option Addr) × Int) => [(6, .pointer s2.1), (7, .int .i64 s2.2)]) hF ?_ ?_
      · intro s2 E0 h2 hF
        refine WP.ret ?_
        exact Ret.mk (vs := [.pointer s2.1, .int .i64 s2.2]) (s2.1, s2.2) ⟨rfl, rfl, trivial⟩ rfl hF
      · intro k2 hF
        refine WP.drawA mixed 11 rfl (by kernel_rfl) ?_
        refine EvA.pure (v := .int .i64 a2) 0 (by kernel_rfl) rfl (by kernel_rfl) (by kernel_rfl) (w_none rfl) rfl (f_move rfl rfl) ?_
        refine EvA.pure (v := .int .i64 a0) 1 (by kernel_rfl) rfl (by kernel_rfl) (by kernel_rfl) (w_none rfl) rfl (f_move rfl rfl) ?_
        refine EvA.pure (v := .int .i64 a1) 3 (by kernel_rfl) rfl (by kernel_rfl) (by kernel_rfl) (w_none rfl) rfl (f_move rfl rfl) ?_
        refine EvA.pure (v := .int .i64 a0) 5 (by kernel_rfl) rfl (by kernel_rfl) (by kernel_rfl) (w_none rfl) rfl (f_move rfl rfl) ?_
        obtain ⟨hA7, hA8, hA9⟩ := hF
        refine EvA.alts [2, 4, 6] (by kernel_rfl) rfl (forall_two ?_ (forall_two ?_ (forall_two ?_ forall_nil)))
        · have hF := hA7
          refine StepA.alloc rfl (w_none rfl) rfl (f_makeSlice Try.underlying42 el45 rfl rfl rfl hF) ?_
          rintro _ h3 ⟨x1, rfl, hF⟩
          obtain ⟨hA1, hA2⟩ := hF
          refine EvA.alts [4, 6] (by kernel_rfl) rfl (forall_two ?_ (forall_two ?_ forall_nil))
          · have hF := hA1
            refine StepA.alloc rfl (w_none rfl) rfl (f_makeSlice Try.underlying63 el86 rfl rfl rfl hF) ?_
            rintro _ h4 ⟨x2, rfl, hF⟩
            refine EvA.alts [6] (by kernel_rfl) rfl (forall_two ?_ forall_nil)
            refine StepA.alloc rfl (w_none rfl) rfl (f_makeSlice Try.underlying64 el3 rfl rfl rfl hF) ?_
            rintro _ h5 ⟨x3, rfl, hF⟩
            refine EvA.pure (v := k65.val (S65.mk a2 x1 x2 x3)) 7 (by kernel_rfl) rfl (by kernel_rfl) (by kernel_rfl) (w_none rfl) rfl (f_build (cells := k65.enc (S65.mk a2 x1 x2 x3)) st66 rfl rfl rfl) ?_
            refine EvA.alts [8] (by kernel_rfl) rfl (forall_two ?_ forall_nil)
            refine StepA.alloc rfl (w_none rfl) rfl (f_boxF (v := k65.val (S65.mk a2 x1 x2 x3)) rfl rfl rfl hF) ?_
            rintro _ h6 ⟨q1, rfl, hF⟩
            refine EvA.pure (v := .pointer (some q1)) 9 (by kernel_rfl) rfl (by kernel_rfl) (by kernel_rfl) (w_none rfl) rfl (f_assign rfl rfl) ?_
            refine EvA.pure (v := .int .i64 0) 10 (by kernel_rfl) rfl (by kernel_rfl) (by kernel_rfl) (w_none rfl) rfl (f_assign rfl rfl) ?_
            refine EvA.nil (by kernel_rfl) ?_
            exact KE.mk ((some q1), 0) ⟨rfl, rfl, trivial⟩ hF
          · have hF := hA2
            refine StepA.alloc rfl (w_none rfl) rfl (f_makeSlice Try.underlying64 el3 rfl rfl rfl hF) ?_
            rintro _ h7 ⟨x4, rfl, hF⟩
            refine EvA.alts [4] (by kernel_rfl) rfl (forall_two ?_ forall_nil)
            refine StepA.alloc rfl (w_none rfl) rfl (f_makeSlice Try.underlying63 el86 rfl rfl rfl hF) ?_
            rintro _ h8 ⟨x5, rfl, hF⟩
            refine EvA.pure (v := k65.val (S65.mk a2 x1 x5 x4)) 7 (by kernel_rfl) rfl (by kernel_rfl) (by kernel_rfl) (w_none rfl) rfl (f_build (cells := k65.enc (S65.mk a2 x1 x5 x4)) st66 rfl rfl rfl) ?_
            refine EvA.alts [8] (by kernel_rfl) rfl (forall_two ?_ forall_nil)
            refine StepA.alloc rfl (w_none rfl) rfl (f_boxF (v := k65.val (S65.mk a2 x1 x5 x4)) rfl rfl rfl hF) ?_
            rintro _ h9 ⟨q2, rfl, hF⟩
            refine EvA.pure (v := .pointer (some q2)) 9 (by kernel_rfl) rfl (by kernel_rfl) (by kernel_rfl) (w_none rfl) rfl (f_assign rfl rfl) ?_
            refine EvA.pure (v := .int .i64 0) 10 (by kernel_rfl) rfl (by kernel_rfl) (by kernel_rfl) (w_none rfl) rfl (f_assign rfl rfl) ?_
            refine EvA.nil (by kernel_rfl) ?_
            exact KE.mk ((some q2), 0) ⟨rfl, rfl, trivial⟩ hF
        · have hF := hA8
          refine StepA.alloc rfl (w_none rfl) rfl (f_makeSlice Try.underlying63 el86 rfl rfl rfl hF) ?_
          rintro _ h10 ⟨x6, rfl, hF⟩
          obtain ⟨hA3, hA4⟩ := hF
          refine EvA.alts [2, 6] (by kernel_rfl) rfl (forall_two ?_ (forall_two ?_ forall_nil))
          · have hF := hA3
            refine StepA.alloc rfl (w_none rfl) rfl (f_makeSlice Try.underlying42 el45 rfl rfl rfl hF) ?_
            rintro _ h11 ⟨x7, rfl, hF⟩
            refine EvA.alts [6] (by kernel_rfl) rfl (forall_two ?_ forall_nil)
            refine StepA.alloc rfl (w_none rfl) rfl (f_makeSlice Try.underlying64 el3 rfl rfl rfl hF) ?_
            rintro _ h12 ⟨x8, rfl, hF⟩
            refine EvA.pure (v := k65.val (S65.mk a2 x7 x6 x8)) 7 (by kernel_rfl) rfl (by kernel_rfl) (by kernel_rfl) (w_none rfl) rfl (f_build (cells := k65.enc (S65.mk a2 x7 x6 x8)) st66 rfl rfl rfl) ?_
            refine EvA.alts [8] (by kernel_rfl) rfl (forall_two ?_ forall_nil)
            refine StepA.alloc rfl (w_none rfl) rfl (f_boxF (v := k65.val (S65.mk a2 x7 x6 x8)) rfl rfl rfl hF) ?_
            rintro _ h13 ⟨q3, rfl, hF⟩
            refine EvA.pure (v := .pointer (some q3)) 9 (by kernel_rfl) rfl (by kernel_rfl) (by kernel_rfl) (w_none rfl) rfl (f_assign rfl rfl) ?_
            refine EvA.pure (v := .int .i64 0) 10 (by kernel_rfl) rfl (by kernel_rfl) (by kernel_rfl) (w_none rfl) rfl (f_assign rfl rfl) ?_
            refine EvA.nil (by kernel_rfl) ?_
            exact KE.mk ((some q3), 0) ⟨rfl, rfl, trivial⟩ hF
          · have hF := hA4
            refine StepA.alloc rfl (w_none rfl) rfl (f_makeSlice Try.underlying64 el3 rfl rfl rfl hF) ?_
            rintro _ h14 ⟨x9, rfl, hF⟩
            refine EvA.alts [2] (by kernel_rfl) rfl (forall_two ?_ forall_nil)
            refine StepA.alloc rfl (w_none rfl) rfl (f_makeSlice Try.underlying42 el45 rfl rfl rfl hF) ?_
            rintro _ h15 ⟨x10, rfl, hF⟩
            refine EvA.pure (v := k65.val (S65.mk a2 x10 x6 x9)) 7 (by kernel_rfl) rfl (by kernel_rfl) (by kernel_rfl) (w_none rfl) rfl (f_build (cells := k65.enc (S65.mk a2 x10 x6 x9)) st66 rfl rfl rfl) ?_
            refine EvA.alts [8] (by kernel_rfl) rfl (forall_two ?_ forall_nil)
            refine StepA.alloc rfl (w_none rfl) rfl (f_boxF (v := k65.val (S65.mk a2 x10 x6 x9)) rfl rfl rfl hF) ?_
            rintro _ h16 ⟨q4, rfl, hF⟩
            refine EvA.pure (v := .pointer (some q4)) 9 (by kernel_rfl) rfl (by kernel_rfl) (by kernel_rfl) (w_none rfl) rfl (f_assign rfl rfl) ?_
            refine EvA.pure (v := .int .i64 0) 10 (by kernel_rfl) rfl (by kernel_rfl) (by kernel_rfl) (w_none rfl) rfl (f_assign rfl rfl) ?_
            refine EvA.nil (by kernel_rfl) ?_
            exact KE.mk ((some q4), 0) ⟨rfl, rfl, trivial⟩ hF
        · have hF := hA9
          refine StepA.alloc rfl (w_none rfl) rfl (f_makeSlice Try.underlying64 el3 rfl rfl rfl hF) ?_
          rintro _ h17 ⟨x11, rfl, hF⟩
          obtain ⟨hA5, hA6⟩ := hF
          refine EvA.alts [2, 4] (by kernel_rfl) rfl (forall_two ?_ (forall_two ?_ forall_nil))
          · have hF := hA5
            refine StepA.alloc rfl (w_none rfl) rfl (f_makeSlice Try.underlying42 el45 rfl rfl rfl hF) ?_
            rintro _ h18 ⟨x12, rfl, hF⟩
            refine EvA.alts [4] (by kernel_rfl) rfl (forall_two ?_ forall_nil)
            refine StepA.alloc rfl (w_none rfl) rfl (f_makeSlice Try.underlying63 el86 rfl rfl rfl hF) ?_
            rintro _ h19 ⟨x13, rfl, hF⟩
            refine EvA.pure (v := k65.val (S65.mk a2 x12 x13 x11)) 7 (by kernel_rfl) rfl (by kernel_rfl) (by kernel_rfl) (w_none rfl) rfl (f_build (cells := k65.enc (S65.mk a2 x12 x13 x11)) st66 rfl rfl rfl) ?_
            refine EvA.alts [8] (by kernel_rfl) rfl (forall_two ?_ forall_nil)
            refine StepA.alloc rfl (w_none rfl) rfl (f_boxF (v := k65.val (S65.mk a2 x12 x13 x11)) rfl rfl rfl hF) ?_
            rintro _ h20 ⟨q5, rfl, hF⟩
            refine EvA.pure (v := .pointer (some q5)) 9 (by kernel_rfl) rfl (by kernel_rfl) (by kernel_rfl) (w_none rfl) rfl (f_assign rfl rfl) ?_
            refine EvA.pure (v := .int .i64 0) 10 (by kernel_rfl) rfl (by kernel_rfl) (by kernel_rfl) (w_none rfl) rfl (f_assign rfl rfl) ?_
            refine EvA.nil (by kernel_rfl) ?_
            exact KE.mk ((some q5), 0) ⟨rfl, rfl, trivial⟩ hF
          · have hF := hA6
            refine StepA.alloc rfl (w_none rfl) rfl (f_makeSlice Try.underlying63 el86 rfl rfl rfl hF) ?_
            rintro _ h21 ⟨x14, rfl, hF⟩
            refine EvA.alts [2] (by kernel_rfl) rfl (forall_two ?_ forall_nil)
            refine StepA.alloc rfl (w_none rfl) rfl (f_makeSlice Try.underlying42 el45 rfl rfl rfl hF) ?_
            rintro _ h22 ⟨x15, rfl, hF⟩
            refine EvA.pure (v := k65.val (S65.mk a2 x15 x14 x11)) 7 (by kernel_rfl) rfl (by kernel_rfl) (by kernel_rfl) (w_none rfl) rfl (f_build (cells := k65.enc (S65.mk a2 x15 x14 x11)) st66 rfl rfl rfl) ?_
            refine EvA.alts [8] (by kernel_rfl) rfl (forall_two ?_ forall_nil)
            refine StepA.alloc rfl (w_none rfl) rfl (f_boxF (v := k65.val (S65.mk a2 x15 x14 x11)) rfl rfl rfl hF) ?_
            rintro _ h23 ⟨q6, rfl, hF⟩
            refine EvA.pure (v := .pointer (some q6)) 9 (by kernel_rfl) rfl (by kernel_rfl) (by kernel_rfl) (w_none rfl) rfl (f_assign rfl rfl) ?_
            refine EvA.pure (v := .int .i64 0) 10 (by kernel_rfl) rfl (by kernel_rfl) (by kernel_rfl) (w_none rfl) rfl (f_assign rfl rfl) ?_
            refine EvA.nil (by kernel_rfl) ?_
            exact KE.mk ((some q6), 0) ⟨rfl, rfl, trivial⟩ hF
  · intro k1 hF
    refine WP.region ?_
    refine EvK.pure (v := .int .i64 a0) (w_none rfl) rfl rfl (f_move rfl rfl) ?_
    refine EvK.pure (v := .bool (decide (a0 < 1))) (w_none rfl) rfl rfl (f_lss rfl rfl rfl) ?_
    refine EvK.pure (v := .bool (decide (a0 < 1))) (w_none rfl) rfl rfl (f_move rfl rfl) ?_
    rcases ite_inv hF with ⟨c2, hF⟩ | ⟨c2, hF⟩
    · refine EvK.not (w_not rfl rfl c2) rfl rfl ?_
      refine EvK.not (w_not rfl rfl c2) rfl rfl ?_
      refine EvK.pure (v := .bool true) (w_none rfl) rfl rfl (f_pickT rfl rfl c2 rfl) ?_
      refine EvK.pure (v := .bool true) (w_none rfl) rfl rfl (f_move rfl rfl) ?_
      refine EvK.not (w_not rfl rfl rfl) rfl rfl ?_
      refine EvK.not (w_not rfl rfl rfl) rfl rfl ?_
      refine EvK.pure (v := .bool true) (w_none rfl) rfl rfl (f_pickT rfl rfl rfl rfl) ?_
      refine EvK.pure (v := .bool true) (w_none rfl) rfl rfl (f_move rfl rfl) ?_
      refine EvK.not (w_not rfl rfl rfl) rfl rfl ?_
      refine EvK.not (w_not rfl rfl rfl) rfl rfl ?_
      refine EvK.pure (v := .bool true) (w_none rfl) rfl rfl (f_pickT rfl rfl rfl rfl) ?_
      refine EvK.pure (v := .bool true) (w_none rfl) rfl rfl (f_move rfl rfl) ?_
      refine EvK.not (w_not rfl rfl rfl) rfl rfl ?_
      refine EvK.not (w_not rfl rfl rfl) rfl rfl ?_
      refine EvK.pure (v := .bool true) (w_none rfl) rfl rfl (f_pickT rfl rfl rfl rfl) ?_
      refine EvK.pure (v := .bool true) (w_none rfl) rfl rfl (f_move rfl rfl) ?_
      refine EvK.not (w_not rfl rfl rfl) rfl rfl ?_
      refine EvK.not (w_not rfl rfl rfl) rfl rfl ?_
      refine EvK.pure (v := .bool true) (w_none rfl) rfl rfl (f_pickT rfl rfl rfl rfl) ?_
      refine EvK.nil ?_
      exact KE.mk true ⟨rfl, rfl, rfl, rfl, trivial⟩ hF
    · refine EvK.pure (v := .int .i64 a0) (w_some rfl rfl c2) rfl rfl (f_move rfl rfl) ?_
      refine EvK.pure (v := .bool (decide (a0 > 8))) (w_some rfl rfl c2) rfl rfl (f_gtr rfl rfl rfl) ?_
      refine EvK.pure (v := .bool (decide (a0 > 8))) (w_none rfl) rfl rfl (f_pickF rfl rfl c2 rfl) ?_
      refine EvK.pure (v := .bool (decide (a0 > 8))) (w_none rfl) rfl rfl (f_move rfl rfl) ?_
      rcases ite_inv hF with ⟨c3, hF⟩ | ⟨c3, hF⟩
      · refine EvK.not (w_not rfl rfl c3) rfl rfl ?_
        refine EvK.not (w_not rfl rfl c3) rfl rfl ?_
        refine EvK.pure (v := .bool true) (w_none rfl) rfl rfl (f_pickT rfl rfl c3 rfl) ?_
        refine EvK.pure (v := .bool true) (w_none rfl) rfl rfl (f_move rfl rfl) ?_
        refine EvK.not (w_not rfl rfl rfl) rfl rfl ?_
        refine EvK.not (w_not rfl rfl rfl) rfl rfl ?_
        refine EvK.pure (v := .bool true) (w_none rfl) rfl rfl (f_pickT rfl rfl rfl rfl) ?_
        refine EvK.pure (v := .bool true) (w_none rfl) rfl rfl (f_move rfl rfl) ?_
        refine EvK.not (w_not rfl rfl rfl) rfl rfl ?_
        refine EvK.not (w_not rfl rfl rfl) rfl rfl ?_
        refine EvK.pure (v := .bool true) (w_none rfl) rfl rfl (f_pickT rfl rfl rfl rfl) ?_
        refine EvK.pure (v := .bool true) (w_none rfl) rfl rfl (f_move rfl rfl) ?_
        refine EvK.not (w_not rfl rfl rfl) rfl rfl ?_
        refine EvK.not (w_not rfl rfl rfl) rfl rfl ?_
        refine EvK.pure (v := .bool true) (w_none rfl) rfl rfl (f_pickT rfl rfl rfl rfl) ?_
        refine EvK.nil ?_
        exact KE.mk true ⟨rfl, rfl, rfl, rfl, trivial⟩ hF
      · refine EvK.pure (v := .int .i64 a1) (w_some rfl rfl c3) rfl rfl (f_move rfl rfl) ?_
        refine EvK.pure (v := .bool (decide (a1 < 1))) (w_some rfl rfl c3) rfl rfl (f_lss rfl rfl rfl) ?_
        refine EvK.pure (v := .bool (decide (a1 < 1))) (w_none rfl) rfl rfl (f_pickF rfl rfl c3 rfl) ?_
        refine EvK.pure (v := .bool (decide (a1 < 1))) (w_none rfl) rfl rfl (f_move rfl rfl) ?_
        rcases ite_inv hF with ⟨c4, hF⟩ | ⟨c4, hF⟩
        · refine EvK.not (w_not rfl rfl c4) rfl rfl ?_
          refine EvK.not (w_not rfl rfl c4) rfl rfl ?_
          refine EvK.pure (v := .bool true) (w_none rfl) rfl rfl (f_pickT rfl rfl c4 rfl) ?_
          refine EvK.pure (v := .bool true) (w_none rfl) rfl rfl (f_move rfl rfl) ?_
          refine EvK.not (w_not rfl rfl rfl) rfl rfl ?_
          refine EvK.not (w_not rfl rfl rfl) rfl rfl ?_
          refine EvK.pure (v := .bool true) (w_none rfl) rfl rfl (f_pickT rfl rfl rfl rfl) ?_
          refine EvK.pure (v := .bool true) (w_none rfl) rfl rfl (f_move rfl rfl) ?_
          refine EvK.not (w_not rfl rfl rfl) rfl rfl ?_
          refine EvK.not (w_not rfl rfl rfl) rfl rfl ?_
          refine EvK.pure (v := .bool true) (w_none rfl) rfl rfl (f_pickT rfl rfl rfl rfl) ?_
          refine EvK.nil ?_
          exact KE.mk true ⟨rfl, rfl, rfl, rfl, trivial⟩ hF
        · refine EvK.pure (v := .int .i64 a1) (w_some rfl rfl c4) rfl rfl (f_move rfl rfl) ?_
          refine EvK.pure (v := .bool (decide (a1 > 8))) (w_some rfl rfl c4) rfl rfl (f_gtr rfl rfl rfl) ?_
          refine EvK.pure (v := .bool (decide (a1 > 8))) (w_none rfl) rfl rfl (f_pickF rfl rfl c4 rfl) ?_
          refine EvK.pure (v := .bool (decide (a1 > 8))) (w_none rfl) rfl rfl (f_move rfl rfl) ?_
          rcases ite_inv hF with ⟨c5, hF⟩ | ⟨c5, hF⟩
          · refine EvK.not (w_not rfl rfl c5) rfl rfl ?_
            refine EvK.not (w_not rfl rfl c5) rfl rfl ?_
            refine EvK.pure (v := .bool true) (w_none rfl) rfl rfl (f_pickT rfl rfl c5 rfl) ?_
            refine EvK.pure (v := .bool true) (w_none rfl) rfl rfl (f_move rfl rfl) ?_
            refine EvK.not (w_not rfl rfl rfl) rfl rfl ?_
            refine EvK.not (w_not rfl rfl rfl) rfl rfl ?_
            refine EvK.pure (v := .bool true) (w_none rfl) rfl rfl (f_pickT rfl rfl rfl rfl) ?_
            refine EvK.nil ?_
            exact KE.mk true ⟨rfl, rfl, rfl, rfl, trivial⟩ hF
          · refine EvK.pure (v := .int .i64 a2) (w_some rfl rfl c5) rfl rfl (f_move rfl rfl) ?_
            refine EvK.pure (v := .bool (decide (a2 < 1))) (w_some rfl rfl c5) rfl rfl (f_lss rfl rfl rfl) ?_
            refine EvK.pure (v := .bool (decide (a2 < 1))) (w_none rfl) rfl rfl (f_pickF rfl rfl c5 rfl) ?_
            refine EvK.pure (v := .bool (decide (a2 < 1))) (w_none rfl) rfl rfl (f_move rfl rfl) ?_
            rcases ite_inv hF with ⟨c6, hF⟩ | ⟨c6, hF⟩
            · refine EvK.not (w_not rfl rfl c6) rfl rfl ?_
              refine EvK.not (w_not rfl rfl c6) rfl rfl ?_
              refine EvK.pure (v := .bool true) (w_none rfl) rfl rfl (f_pickT rfl rfl c6 rfl) ?_
              refine EvK.nil ?_
              exact KE.mk true ⟨rfl, rfl, rfl, rfl, trivial⟩ hF
            · refine EvK.pure (v := .int .i64 a2) (w_some rfl rfl c6) rfl rfl (f_move rfl rfl) ?_
              refine EvK.pure (v := .bool (decide (a2 > 64))) (w_some rfl rfl c6) rfl rfl (f_gtr rfl rfl rfl) ?_
              refine EvK.pure (v := .bool (decide (a2 > 64))) (w_none rfl) rfl rfl (f_pickF rfl rfl c6 rfl) ?_
              refine EvK.nil ?_
              exact KE.mk (decide (a2 > 64)) ⟨rfl, rfl, rfl, rfl, trivial⟩ hF
end Go.Proofs.Ytanpaamamfabkaa

namespace Go.Proofs.Ytanpaamamfabkaa
open Go Go.Tr
set_option linter.unusedVariables false
set_option maxRecDepth 100000
set_option maxHeartbeats 400000
/-- spate/spateref15.IsKey -/
def spateref15_IsKey (a0 : ByteArray) (h : H) (Q : Bool → H → Prop) : Prop :=
  jn (fun (k1 : Bool → H → Prop) =>
    if (decide ((a0.size : Int) ≥ 1)) = true then
      k1 (decide ((a0.size : Int) ≤ 32)) h
    else
      k1 false h) fun s1 h1 =>
  Q s1 h1
theorem spateref15_IsKey.sound {a0 : ByteArray} {h : H} {Q : Bool → H → Prop} (hF : spateref15_IsKey a0 h Q) :
    CallsH Try.prog 39 (List.toArray (α := Value) [.string a0]) h fun v h' => ∃ x : Bool, v = .bool x ∧ Q x h' := by
  refine CallsH.of_body Try.func39 rfl 11 rfl rfl ?_
  refine WP.seq ?_
  refine WP.region ?_
  refine EvK.pure (v := .bool false) (w_none rfl) rfl rfl (f_assign rfl rfl) ?_
  refine EvK.nil ?_
  refine WP.joinF (fun (s1 : Bool) => [(2, .bool s1)]) hF ?_ ?_
  · intro s1 E0 h1 hF
    refine WP.ret ?_
    exact Ret.mk (vs := [.bool s1]) s1 ⟨rfl, trivial⟩ rfl hF
  · intro k1 hF
    refine WP.region ?_
    refine EvK.pure (v := .string a0) (w_none rfl) rfl rfl (f_move rfl rfl) ?_
    refine EvK.pure (v := .int .i64 (a0.size : Int)) (w_none rfl) rfl rfl (f_lenS Try.underlying9 rfl rfl) ?_
    refine EvK.pure (v := .bool (decide ((a0.size : Int) ≥ 1))) (w_none rfl) rfl rfl (f_geq rfl rfl rfl) ?_
    refine EvK.pure (v := .bool (decide ((a0.size : Int) ≥ 1))) (w_none rfl) rfl rfl (f_move rfl rfl) ?_
    rcases ite_inv hF with ⟨c1, hF⟩ | ⟨c1, hF⟩
    · refine EvK.pure (v := .string a0) (w_some rfl rfl c1) rfl rfl (f_move rfl rfl) ?_
      refine EvK.pure (v := .int .i64 (a0.size : Int)) (w_some rfl rfl c1) rfl rfl (f_lenS Try.underlying9 rfl rfl) ?_
      refine EvK.pure (v := .bool (decide ((a0.size : Int) ≤ 32))) (w_some rfl rfl c1) rfl rfl (f_leq rfl rfl rfl) ?_
      refine EvK.pure (v := .bool (decide ((a0.size : Int) ≤ 32))) (w_none rfl) rfl rfl (f_pickT rfl rfl c1 rfl) ?_
      refine EvK.pure (v := .bool (decide ((a0.size : Int) ≤ 32))) (w_none rfl) rfl rfl (f_assign rfl rfl) ?_
      refine EvK.nil ?_
      exact KE.mk (decide ((a0.size : Int) ≤ 32)) ⟨rfl, trivial⟩ hF
    · refine EvK.not (w_not rfl rfl c1) rfl rfl ?_
      refine EvK.not (w_not rfl rfl c1) rfl rfl ?_
      refine EvK.not (w_not rfl rfl c1) rfl rfl ?_
      refine EvK.pure (v := .bool false) (w_none rfl) rfl rfl (f_pickF rfl rfl c1 rfl) ?_
      refine EvK.pure (v := .bool false) (w_none rfl) rfl rfl (f_assign rfl rfl) ?_
      refine EvK.nil ?_
      exact KE.mk false ⟨rfl, trivial⟩ hF
end Go.Proofs.Ytanpaamamfabkaa

namespace Go.Proofs.Ytanpaamamfabkaa
open Go Go.Tr
set_option linter.unusedVariables false
set_option maxRecDepth 100000
set_option maxHeartbeats 400000
/-- spate/spateref15.IsTime -/
def spateref15_IsTime (a0 : Int) (h : H) (Q : Bool → H → Prop) : Prop :=
  jn (fun (k1 : Bool → H → Prop) =>
    if (decide (a0 ≥ (-1152921504606846976))) = true then
      k1 (decide (a0 ≤ 1152921504606846976)) h
    else
      k1 false h) fun s1 h1 =>
  Q s1 h1
theorem spateref15_IsTime.sound {a0 : Int} {h : H} {Q : Bool → H → Prop} (hF : spateref15_IsTime a0 h Q) :
    CallsH Try.prog 40 (List.toArray (α := Value) [.int .i64 a0]) h fun v h' => ∃ x : Bool, v = .bool x ∧ Q x h' := by
  refine CallsH.of_body Try.func40 rfl 9 rfl rfl ?_
  refine WP.seq ?_
  refine WP.region ?_
  refine EvK.pure (v := .bool false) (w_none rfl) rfl rfl (f_assign rfl rfl) ?_
  refine EvK.nil ?_
  refine WP.joinF (fun (s1 : Bool) => [(2, .bool s1)]) hF ?_ ?_
  · intro s1 E0 h1 hF
    refine WP.ret ?_
    exact Ret.mk (vs := [.bool s1]) s1 ⟨rfl, trivial⟩ rfl hF
  · intro k1 hF
    refine WP.region ?_
    refine EvK.pure (v := .int .i64 a0) (w_none rfl) rfl rfl (f_move rfl rfl) ?_
    refine EvK.pure (v := .bool (decide (a0 ≥ (-1152921504606846976)))) (w_none rfl) rfl rfl (f_geq rfl rfl rfl) ?_
    refine EvK.pure (v := .bool (decide (a0 ≥ (-1152921504606846976)))) (w_none rfl) rfl rfl (f_move rfl rfl) ?_
    rcases ite_inv hF with ⟨c1, hF⟩ | ⟨c1, hF⟩
    · refine EvK.pure (v := .int .i64 a0) (w_some rfl rfl c1) rfl rfl (f_move rfl rfl) ?_
      refine EvK.pure (v := .bool (decide (a0 ≤ 1152921504606846976))) (w_some rfl rfl c1) rfl rfl (f_leq rfl rfl rfl) ?_
      refine EvK.pure (v := .bool (decide (a0 ≤ 1152921504606846976))) (w_none rfl) rfl rfl (f_pickT rfl rfl c1 rfl) ?_
      refine EvK.pure (v := .bool (decide (a0 ≤ 1152921504606846976))) (w_none rfl) rfl rfl (f_assign rfl rfl) ?_
      refine EvK.nil ?_
      exact KE.mk (decide (a0 ≤ 1152921504606846976)) ⟨rfl, trivial⟩ hF
    · refine EvK.not (w_not rfl rfl c1) rfl rfl ?_
      refine EvK.not (w_not rfl rfl c1) rfl rfl ?_
      refine EvK.pure (v := .bool false) (w_none rfl) rfl rfl (f_pickF rfl rfl c1 rfl) ?_
      refine EvK.pure (v := .bool false) (w_none rfl) rfl rfl (f_assign rfl rfl) ?_
      refine EvK.nil ?_
      exact KE.mk false ⟨rfl, trivial⟩ hF
end Go.Proofs.Ytanpaamamfabkaa
