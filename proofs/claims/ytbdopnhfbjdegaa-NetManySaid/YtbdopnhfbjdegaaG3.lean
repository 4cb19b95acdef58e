/- Functions as predicates over the heap, and that the code comes to them. Printed by gen.py, merged by group.py. -/
import Derived.Test.YtbdopnhfbjdegaaG0
import Derived.Test.YtbdopnhfbjdegaaG1
import Derived.Test.YtbdopnhfbjdegaaG2
import Derived.Test.YtbdopnhfbjdegaaTy
namespace Go.Proofs.Ytbdopnhfbjdegaa
open Go Go.Tr
set_option linter.unusedVariables false
set_option maxRecDepth 100000
set_option maxHeartbeats 400000
/-- (*spate/net.Net).Close -/
def net_Net_Close (a0 : Option Addr) (a1 : Int) (h : H) (Q : Int → H → Prop) : Prop :=
  net_Net_live a0 a1 h fun r1 h1 =>
  if (r1.2 != 0) = true then
    Q r1.2 h1
  else
    rd r1.1 fun q1 =>
    rd (st kB (q1.add 7) true h1) fun h2 =>
    rd r1.1 fun q2 =>
    rd (st kL (((q2.add 0).add 0).add 0) Sl.nil h2) fun h3 =>
    rd r1.1 fun q3 =>
    rd (st kL (((q3.add 0).add 2).add 0) Sl.nil h3) fun h4 =>
    Q 0 h4
theorem net_Net_Close.sound {a0 : Option Addr} {a1 : Int} {h : H} {Q : Int → H → Prop} (hF : net_Net_Close a0 a1 h Q) :
    CallsH Try.prog 17 (List.toArray (α := Value) [.pointer a0, .int .i64 a1]) h fun v h' => ∃ x : Int, v = .int .i64 x ∧ Q x h' := by
  refine CallsH.of_body Try.func17 rfl 29 rfl rfl ?_
  refine WP.seq ?_
  refine WP.region ?_
  refine EvK.pure (v := .int .i64 0) (w_none rfl) rfl rfl (f_assign rfl rfl) ?_
  refine EvK.nil ?_
  refine WP.seq ?_
  refine WP.region ?_
  refine EvK.pure (v := .pointer a0) (w_none rfl) rfl rfl (f_move rfl rfl) ?_
  refine EvK.pure (v := .int .i64 a1) (w_none rfl) rfl rfl (f_move rfl rfl) ?_
  refine EvK.call (w_none rfl) rfl rfl (enterH Try.func27 rfl rfl rfl rfl (net_Net_live.sound hF)) ?_
  rintro _ h1 ⟨r1, rfl, hF⟩
  refine EvK.pure (v := .tuple #[.pointer r1.1, .int .i64 r1.2]) (w_none rfl) rfl rfl (f_move rfl rfl) ?_
  refine EvK.pure (v := .pointer r1.1) (w_none rfl) rfl rfl (f_extract (vs := #[.pointer r1.1, .int .i64 r1.2]) rfl rfl rfl) ?_
  refine EvK.pure (v := .int .i64 r1.2) (w_none rfl) rfl rfl (f_extract (vs := #[.pointer r1.1, .int .i64 r1.2]) rfl rfl rfl) ?_
  refine EvK.pure (v := .pointer r1.1) (w_none rfl) rfl rfl (f_assign rfl rfl) ?_
  refine EvK.pure (v := .int .i64 r1.2) (w_none rfl) rfl rfl (f_assign rfl rfl) ?_
  refine EvK.nil ?_
  refine WP.seq ?_
  refine WP.seq ?_
  refine WP.region ?_
  refine EvK.pure (v := .int .i64 r1.2) (w_none rfl) rfl rfl (f_move rfl rfl) ?_
  refine EvK.pure (v := .bool (r1.2 != 0)) (w_none rfl) rfl rfl (f_neq rfl rfl rfl) ?_
  refine EvK.nil ?_
  rcases ite_inv hF with ⟨c1, hF⟩ | ⟨c1, hF⟩
  · refine WP.cond_true _ rfl c1 ?_
    refine WP.seq ?_
    refine WP.region ?_
    refine EvK.pure (v := .int .i64 r1.2) (w_none rfl) rfl rfl (f_move rfl rfl) ?_
    refine EvK.pure (v := .int .i64 r1.2) (w_none rfl) rfl rfl (f_assign rfl rfl) ?_
    refine EvK.nil ?_
    refine WP.ret ?_
    exact Ret.mk (vs := [.int .i64 r1.2]) r1.2 ⟨rfl, trivial⟩ rfl hF
  · refine WP.cond_false _ rfl c1 ?_
    refine WP.skip ?_
    refine WP.seq ?_
    refine WP.region ?_
    refine EvK.pure (v := .pointer r1.1) (w_none rfl) rfl rfl (f_move rfl rfl) ?_
    obtain ⟨q1, hq1, hF⟩ := hF
    refine EvK.pure (v := .pointer (some q1)) (w_none rfl) rfl rfl (f_nilCheck rfl (congrArg Value.pointer hq1)) ?_
    refine EvK.pure (v := .pointer (some (q1.add 7))) (w_none rfl) rfl rfl (f_fieldAddr fd75_3 rfl rfl) ?_
    obtain ⟨h2, hs1, hF⟩ := hF
    refine EvK.runN (w_none rfl) rfl (f_store kB ty4.size (z := true) rfl rfl rfl hs1) ?_
    rintro _ _ ⟨rfl, rfl⟩
    refine EvK.nil ?_
    refine WP.seq ?_
    refine WP.region ?_
    refine EvK.pure (v := .pointer r1.1) (w_none rfl) rfl rfl (f_move rfl rfl) ?_
    refine EvK.pure (v := .pointer r1.1) (w_none rfl) rfl rfl (f_move rfl rfl) ?_
    obtain ⟨q2, hq2, hF⟩ := hF
    refine EvK.pure (v := .pointer (some q2)) (w_none rfl) rfl rfl (f_nilCheck rfl (congrArg Value.pointer hq2)) ?_
    refine EvK.pure (v := .pointer (some (q2.add 0))) (w_none rfl) rfl rfl (f_fieldAddr fd75_0 rfl rfl) ?_
    refine EvK.pure (v := .pointer (some ((q2.add 0).add 0))) (w_none rfl) rfl rfl (f_fieldAddr fd73_0 rfl rfl) ?_
    refine EvK.pure (v := .pointer (some (((q2.add 0).add 0).add 0))) (w_none rfl) rfl rfl (f_fieldAddr fd71_0 rfl rfl) ?_
    obtain ⟨h3, hs2, hF⟩ := hF
    refine EvK.runN (w_none rfl) rfl (f_store kL ty29.size (z := Sl.nil) rfl rfl rfl hs2) ?_
    rintro _ _ ⟨rfl, rfl⟩
    obtain ⟨q3, hq3, hF⟩ := hF
    refine EvK.pure (v := .pointer (some q3)) (w_none rfl) rfl rfl (f_nilCheck rfl (congrArg Value.pointer hq3)) ?_
    refine EvK.pure (v := .pointer (some (q3.add 0))) (w_none rfl) rfl rfl (f_fieldAddr fd75_0 rfl rfl) ?_
    refine EvK.pure (v := .pointer (some ((q3.add 0).add 2))) (w_none rfl) rfl rfl (f_fieldAddr fd73_1 rfl rfl) ?_
    refine EvK.pure (v := .pointer (some (((q3.add 0).add 2).add 0))) (w_none rfl) rfl rfl (f_fieldAddr fd71_0 rfl rfl) ?_
    obtain ⟨h4, hs3, hF⟩ := hF
    refine EvK.runN (w_none rfl) rfl (f_store kL ty29.size (z := Sl.nil) rfl rfl rfl hs3) ?_
    rintro _ _ ⟨rfl, rfl⟩
    refine EvK.nil ?_
    refine WP.seq ?_
    refine WP.region ?_
    refine EvK.pure (v := .int .i64 0) (w_none rfl) rfl rfl (f_assign rfl rfl) ?_
    refine EvK.nil ?_
    refine WP.ret ?_
    exact Ret.mk (vs := [.int .i64 0]) 0 ⟨rfl, trivial⟩ rfl hF
end Go.Proofs.Ytbdopnhfbjdegaa

namespace Go.Proofs.Ytbdopnhfbjdegaa
open Go Go.Tr
set_option linter.unusedVariables false
set_option maxRecDepth 100000
set_option maxHeartbeats 400000
/-- (*spate/net.Net).Cut -/
def net_Net_Cut (a0 : Option Addr) (a1 : Int) (h : H) (Q : Int → H → Prop) : Prop :=
  net_Net_get a0 a1 h fun r1 h1 =>
  if (r1.2 != 0) = true then
    Q r1.2 h1
  else
    rd r1.1 fun q1 =>
    rd (ld kB (q1.add 8) h1) fun x1 =>
    if x1 = true then
      Q 44 h1
    else
      rd r1.1 fun q2 =>
      rd (st kB (q2.add 8) true h1) fun h2 =>
      rd r1.1 fun q3 =>
      rd (st kL (((q3.add 0).add 0).add 0) Sl.nil h2) fun h3 =>
      rd r1.1 fun q4 =>
      rd (st kL (((q4.add 0).add 2).add 0) Sl.nil h3) fun h4 =>
      rd r1.1 fun q5 =>
      rd (st kL ((q5.add 4).add 0) Sl.nil h4) fun h5 =>
      Q 0 h5
theorem net_Net_Cut.sound {a0 : Option Addr} {a1 : Int} {h : H} {Q : Int → H → Prop} (hF : net_Net_Cut a0 a1 h Q) :
    CallsH Try.prog 18 (List.toArray (α := Value) [.pointer a0, .int .i64 a1]) h fun v h' => ∃ x : Int, v = .int .i64 x ∧ Q x h' := by
  refine CallsH.of_body Try.func18 rfl 37 rfl rfl ?_
  refine WP.seq ?_
  refine WP.region ?_
  refine EvK.pure (v := .int .i64 0) (w_none rfl) rfl rfl (f_assign rfl rfl) ?_
  refine EvK.nil ?_
  refine WP.seq ?_
  refine WP.region ?_
  refine EvK.pure (v := .pointer a0) (w_none rfl) rfl rfl (f_move rfl rfl) ?_
  refine EvK.pure (v := .int .i64 a1) (w_none rfl) rfl rfl (f_move rfl rfl) ?_
  refine EvK.call (w_none rfl) rfl rfl (enterH Try.func26 rfl rfl rfl rfl (net_Net_get.sound hF)) ?_
  rintro _ h1 ⟨r1, rfl, hF⟩
  refine EvK.pure (v := .tuple #[.pointer r1.1, .int .i64 r1.2]) (w_none rfl) rfl rfl (f_move rfl rfl) ?_
  refine EvK.pure (v := .pointer r1.1) (w_none rfl) rfl rfl (f_extract (vs := #[.pointer r1.1, .int .i64 r1.2]) rfl rfl rfl) ?_
  refine EvK.pure (v := .int .i64 r1.2) (w_none rfl) rfl rfl (f_extract (vs := #[.pointer r1.1, .int .i64 r1.2]) rfl rfl rfl) ?_
  refine EvK.pure (v := .pointer r1.1) (w_none rfl) rfl rfl (f_assign rfl rfl) ?_
  refine EvK.pure (v := .int .i64 r1.2) (w_none rfl) rfl rfl (f_assign rfl rfl) ?_
  refine EvK.nil ?_
  refine WP.seq ?_
  refine WP.seq ?_
  refine WP.region ?_
  refine EvK.pure (v := .int .i64 r1.2) (w_none rfl) rfl rfl (f_move rfl rfl) ?_
  refine EvK.pure (v := .bool (r1.2 != 0)) (w_none rfl) rfl rfl (f_neq rfl rfl rfl) ?_
  refine EvK.nil ?_
  rcases ite_inv hF with ⟨c1, hF⟩ | ⟨c1, hF⟩
  · refine WP.cond_true _ rfl c1 ?_
    refine WP.seq ?_
    refine WP.region ?_
    refine EvK.pure (v := .int .i64 r1.2) (w_none rfl) rfl rfl (f_move rfl rfl) ?_
    refine EvK.pure (v := .int .i64 r1.2) (w_none rfl) rfl rfl (f_assign rfl rfl) ?_
    refine EvK.nil ?_
    refine WP.ret ?_
    exact Ret.mk (vs := [.int .i64 r1.2]) r1.2 ⟨rfl, trivial⟩ rfl hF
  · refine WP.cond_false _ rfl c1 ?_
    refine WP.skip ?_
    refine WP.seq ?_
    refine WP.seq ?_
    refine WP.region ?_
    refine EvK.pure (v := .pointer r1.1) (w_none rfl) rfl rfl (f_move rfl rfl) ?_
    obtain ⟨q1, hq1, hF⟩ := hF
    refine EvK.pure (v := .pointer (some q1)) (w_none rfl) rfl rfl (f_nilCheck rfl (congrArg Value.pointer hq1)) ?_
    refine EvK.pure (v := .pointer (some (q1.add 8))) (w_none rfl) rfl rfl (f_fieldAddr fd75_4 rfl rfl) ?_
    obtain ⟨x1, hx1, hF⟩ := hF
    refine EvK.read (v := .bool x1) (w_none rfl) rfl rfl (f_load kB ty4 rfl rfl hx1 rfl) ?_
    refine EvK.nil ?_
    rcases ite_inv hF with ⟨c2, hF⟩ | ⟨c2, hF⟩
    · refine WP.cond_true _ rfl c2 ?_
      refine WP.seq ?_
      refine WP.region ?_
      refine EvK.pure (v := .int .i64 44) (w_none rfl) rfl rfl (f_assign rfl rfl) ?_
      refine EvK.nil ?_
      refine WP.ret ?_
      exact Ret.mk (vs := [.int .i64 44]) 44 ⟨rfl, trivial⟩ rfl hF
    · refine WP.cond_false _ rfl c2 ?_
      refine WP.skip ?_
      refine WP.seq ?_
      refine WP.region ?_
      refine EvK.pure (v := .pointer r1.1) (w_none rfl) rfl rfl (f_move rfl rfl) ?_
      obtain ⟨q2, hq2, hF⟩ := hF
      refine EvK.pure (v := .pointer (some q2)) (w_none rfl) rfl rfl (f_nilCheck rfl (congrArg Value.pointer hq2)) ?_
      refine EvK.pure (v := .pointer (some (q2.add 8))) (w_none rfl) rfl rfl (f_fieldAddr fd75_4 rfl rfl) ?_
      obtain ⟨h2, hs1, hF⟩ := hF
      refine EvK.runN (w_none rfl) rfl (f_store kB ty4.size (z := true) rfl rfl rfl hs1) ?_
      rintro _ _ ⟨rfl, rfl⟩
      refine EvK.nil ?_
      refine WP.seq ?_
      refine WP.region ?_
      refine EvK.pure (v := .pointer r1.1) (w_none rfl) rfl rfl (f_move rfl rfl) ?_
      refine EvK.pure (v := .pointer r1.1) (w_none rfl) rfl rfl (f_move rfl rfl) ?_
      refine EvK.pure (v := .pointer r1.1) (w_none rfl) rfl rfl (f_move rfl rfl) ?_
      obtain ⟨q3, hq3, hF⟩ := hF
      refine EvK.pure (v := .pointer (some q3)) (w_none rfl) rfl rfl (f_nilCheck rfl (congrArg Value.pointer hq3)) ?_
      refine EvK.pure (v := .pointer (some (q3.add 0))) (w_none rfl) rfl rfl (f_fieldAddr fd75_0 rfl rfl) ?_
      refine EvK.pure (v := .pointer (some ((q3.add 0).add 0))) (w_none rfl) rfl rfl (f_fieldAddr fd73_0 rfl rfl) ?_
      refine EvK.pure (v := .pointer (some (((q3.add 0).add 0).add 0))) (w_none rfl) rfl rfl (f_fieldAddr fd71_0 rfl rfl) ?_
      obtain ⟨h3, hs2, hF⟩ := hF
      refine EvK.runN (w_none rfl) rfl (f_store kL ty29.size (z := Sl.nil) rfl rfl rfl hs2) ?_
      rintro _ _ ⟨rfl, rfl⟩
      obtain ⟨q4, hq4, hF⟩ := hF
      refine EvK.pure (v := .pointer (some q4)) (w_none rfl) rfl rfl (f_nilCheck rfl (congrArg Value.pointer hq4)) ?_
      refine EvK.pure (v := .pointer (some (q4.add 0))) (w_none rfl) rfl rfl (f_fieldAddr fd75_0 rfl rfl) ?_
      refine EvK.pure (v := .pointer (some ((q4.add 0).add 2))) (w_none rfl) rfl rfl (f_fieldAddr fd73_1 rfl rfl) ?_
      refine EvK.pure (v := .pointer (some (((q4.add 0).add 2).add 0))) (w_none rfl) rfl rfl (f_fieldAddr fd71_0 rfl rfl) ?_
      obtain ⟨h4, hs3, hF⟩ := hF
      refine EvK.runN (w_none rfl) rfl (f_store kL ty29.size (z := Sl.nil) rfl rfl rfl hs3) ?_
      rintro _ _ ⟨rfl, rfl⟩
      obtain ⟨q5, hq5, hF⟩ := hF
      refine EvK.pure (v := .pointer (some q5)) (w_none rfl) rfl rfl (f_nilCheck rfl (congrArg Value.pointer hq5)) ?_
      refine EvK.pure (v := .pointer (some (q5.add 4))) (w_none rfl) rfl rfl (f_fieldAddr fd75_1 rfl rfl) ?_
      refine EvK.pure (v := .pointer (some ((q5.add 4).add 0))) (w_none rfl) rfl rfl (f_fieldAddr fd71_0 rfl rfl) ?_
      obtain ⟨h5, hs4, hF⟩ := hF
      refine EvK.runN (w_none rfl) rfl (f_store kL ty29.size (z := Sl.nil) rfl rfl rfl hs4) ?_
      rintro _ _ ⟨rfl, rfl⟩
      refine EvK.nil ?_
      refine WP.seq ?_
      refine WP.region ?_
      refine EvK.pure (v := .int .i64 0) (w_none rfl) rfl rfl (f_assign rfl rfl) ?_
      refine EvK.nil ?_
      refine WP.ret ?_
      exact Ret.mk (vs := [.int .i64 0]) 0 ⟨rfl, trivial⟩ rfl hF
end Go.Proofs.Ytbdopnhfbjdegaa

namespace Go.Proofs.Ytbdopnhfbjdegaa
open Go Go.Tr
set_option linter.unusedVariables false
set_option maxRecDepth 100000
set_option maxHeartbeats 400000
/-- spate/spatelaw16.head -/
def spatelaw16_head  (h : H) (Q : Bool → H → Prop) : Prop :=
  net_New 4 3 h fun r1 h1 =>
  jn (fun (k1 : Bool → H → Prop) =>
    if (r1.2 != 0) = true then
      k1 true h1
    else
      if r1.1.isNone = true then
        k1 true h1
      else
        net_Net_Open r1.1 1 h1 fun r6 h9 =>
        if (r6 != 0) = true then
          k1 true h9
        else
          bs 5 6 ((kI .u8).enc 1 ++ (kI .u8).enc 2 ++ (kI .u8).enc 3 ++ (kI .u8).enc 4 ++ (kI .u8).enc 5 ++ (kI .u8).enc 6) h9 fun x4 h10 =>
          net_Net_Send r1.1 1 x4 h10 fun r7 h11 =>
          k1 (r7 != 0) h11) fun s1 h2 =>
  if s1 = true then
    Q false h2
  else
    net_Net_Bring r1.1 1 3 h2 fun r2 h3 =>
    net_Net_Bring r1.1 1 9 h3 fun r3 h4 =>
    net_Net_Take r1.1 1 h4 fun r4 h5 =>
    jn (fun (k2 : Bool → H → Prop) =>
      if (r2.1 == 3) = true then
        if (r3.1 == 1) = true then
          if (r2.2 == 0) = true then
            if (r3.2 == 0) = true then
              if (r4.2 == 0) = true then
                rd (b2s r4.1 h5) fun x1 =>
                bs 5 4 ((kI .u8).enc 1 ++ (kI .u8).enc 2 ++ (kI .u8).enc 3 ++ (kI .u8).enc 4) h5 fun x2 h7 =>
                rd (b2s x2 h7) fun x3 =>
                if (x1.toList == x3.toList) = true then
                  net_Net_Moved r1.1 h7 fun r5 h8 =>
                  k2 (r5 == 4) h8
                else
                  k2 false h7
              else
                k2 false h5
            else
              k2 false h5
          else
            k2 false h5
        else
          k2 false h5
      else
        k2 false h5) fun s2 h6 =>
    Q s2 h6
theorem spatelaw16_head.sound  {h : H} {Q : Bool → H → Prop} (hF : spatelaw16_head  h Q) :
    CallsH Try.prog 19 (List.toArray (α := Value) []) h fun v h' => ∃ x : Bool, v = .bool x ∧ Q x h' := by
  refine CallsH.of_body Try.func19 rfl 75 rfl rfl ?_
  refine WP.seq ?_
  refine WP.region ?_
  refine EvK.pure (v := .bool false) (w_none rfl) rfl rfl (f_assign rfl rfl) ?_
  refine EvK.nil ?_
  refine WP.seq ?_
  refine WP.region ?_
  refine EvK.call (w_none rfl) rfl rfl (enterH Try.func7 rfl rfl rfl rfl (net_New.sound hF)) ?_
  rintro _ h1 ⟨r1, rfl, hF⟩
  refine EvK.pure (v := .tuple #[.pointer r1.1, .int .i64 r1.2]) (w_none rfl) rfl rfl (f_move rfl rfl) ?_
  refine EvK.pure (v := .pointer r1.1) (w_none rfl) rfl rfl (f_extract (vs := #[.pointer r1.1, .int .i64 r1.2]) rfl rfl rfl) ?_
  refine EvK.pure (v := .int .i64 r1.2) (w_none rfl) rfl rfl (f_extract (vs := #[.pointer r1.1, .int .i64 r1.2]) rfl rfl rfl) ?_
  refine EvK.pure (v := .pointer r1.1) (w_none rfl) rfl rfl (f_assign rfl rfl) ?_
  refine EvK.pure (v := .int .i64 r1.2) (w_none rfl) rfl rfl (f_assign rfl rfl) ?_
  refine EvK.nil ?_
  refine WP.seq ?_
  refine WP.joinF (fun (s1 : Bool) => [(29, .bool s1), (1, .pointer r1.1)]) hF ?_ ?_
  · intro s1 E0 h2 hF
    rcases ite_inv hF with ⟨c1, hF⟩ | ⟨c1, hF⟩
    · refine WP.cond_true _ rfl c1 ?_
      refine WP.seq ?_
      refine WP.region ?_
      refine EvK.pure (v := .bool false) (w_none rfl) rfl rfl (f_assign rfl rfl) ?_
      refine EvK.nil ?_
      refine WP.ret ?_
      exact Ret.mk (vs := [.bool false]) false ⟨rfl, trivial⟩ rfl hF
    · refine WP.cond_false _ rfl c1 ?_
      refine WP.skip ?_
      refine WP.seq ?_
      refine WP.region ?_
      refine EvK.pure (v := .pointer r1.1) (w_none rfl) rfl rfl (f_move rfl rfl) ?_
      refine EvK.call (w_none rfl) rfl rfl (enterH Try.func11 rfl rfl rfl rfl (net_Net_Bring.sound hF)) ?_
      rintro _ h3 ⟨r2, rfl, hF⟩
      refine EvK.pure (v := .tuple #[.int .i64 r2.1, .int .i64 r2.2]) (w_none rfl) rfl rfl (f_move rfl rfl) ?_
      refine EvK.pure (v := .int .i64 r2.1) (w_none rfl) rfl rfl (f_extract (vs := #[.int .i64 r2.1, .int .i64 r2.2]) rfl rfl rfl) ?_
      refine EvK.pure (v := .int .i64 r2.2) (w_none rfl) rfl rfl (f_extract (vs := #[.int .i64 r2.1, .int .i64 r2.2]) rfl rfl rfl) ?_
      refine EvK.pure (v := .int .i64 r2.1) (w_none rfl) rfl rfl (f_assign rfl rfl) ?_
      refine EvK.pure (v := .int .i64 r2.2) (w_none rfl) rfl rfl (f_assign rfl rfl) ?_
      refine EvK.nil ?_
      refine WP.seq ?_
      refine WP.region ?_
      refine EvK.pure (v := .pointer r1.1) (w_none rfl) rfl rfl (f_move rfl rfl) ?_
      refine EvK.call (w_none rfl) rfl rfl (enterH Try.func11 rfl rfl rfl rfl (net_Net_Bring.sound hF)) ?_
      rintro _ h4 ⟨r3, rfl, hF⟩
      refine EvK.pure (v := .tuple #[.int .i64 r3.1, .int .i64 r3.2]) (w_none rfl) rfl rfl (f_move rfl rfl) ?_
      refine EvK.pure (v := .int .i64 r3.1) (w_none rfl) rfl rfl (f_extract (vs := #[.int .i64 r3.1, .int .i64 r3.2]) rfl rfl rfl) ?_
      refine EvK.pure (v := .int .i64 r3.2) (w_none rfl) rfl rfl (f_extract (vs := #[.int .i64 r3.1, .int .i64 r3.2]) rfl rfl rfl) ?_
      refine EvK.pure (v := .int .i64 r3.1) (w_none rfl) rfl rfl (f_assign rfl rfl) ?_
      refine EvK.pure (v := .int .i64 r3.2) (w_none rfl) rfl rfl (f_assign rfl rfl) ?_
      refine EvK.nil ?_
      refine WP.seq ?_
      refine WP.region ?_
      refine EvK.pure (v := .pointer r1.1) (w_none rfl) rfl rfl (f_move rfl rfl) ?_
      refine EvK.call (w_none rfl) rfl rfl (enterH Try.func12 rfl rfl rfl rfl (net_Net_Take.sound hF)) ?_
      rintro _ h5 ⟨r4, rfl, hF⟩
      refine EvK.pure (v := .tuple #[Sl.val r4.1, .int .i64 r4.2]) (w_none rfl) rfl rfl (f_move rfl rfl) ?_
      refine EvK.pure (v := Sl.val r4.1) (w_none rfl) rfl rfl (f_extract (vs := #[Sl.val r4.1, .int .i64 r4.2]) rfl rfl rfl) ?_
      refine EvK.pure (v := .int .i64 r4.2) (w_none rfl) rfl rfl (f_extract (vs := #[Sl.val r4.1, .int .i64 r4.2]) rfl rfl rfl) ?_
      refine EvK.pure (v := Sl.val r4.1) (w_none rfl) rfl rfl (f_assign rfl rfl) ?_
      refine EvK.pure (v := .int .i64 r4.2) (w_none rfl) rfl rfl (f_assign rfl rfl) ?_
      refine EvK.nil ?_
      refine WP.joinF (fun (s2 : Bool) => [(0, .bool s2)]) hF ?_ ?_
      · intro s2 E0 h6 hF
        refine WP.ret ?_
        exact Ret.mk (vs := [.bool s2]) s2 ⟨rfl, trivial⟩ rfl hF
      · intro k2 hF
        refine WP.region ?_
        refine EvK.pure (v := .int .i64 r2.1) (w_none rfl) rfl rfl (f_move rfl rfl) ?_
        refine EvK.pure (v := .bool (r2.1 == 3)) (w_none rfl) rfl rfl (f_eql rfl rfl rfl) ?_
        refine EvK.pure (v := .bool (r2.1 == 3)) (w_none rfl) rfl rfl (f_move rfl rfl) ?_
        rcases ite_inv hF with ⟨c2, hF⟩ | ⟨c2, hF⟩
        · refine EvK.pure (v := .int .i64 r3.1) (w_some rfl rfl c2) rfl rfl (f_move rfl rfl) ?_
          refine EvK.pure (v := .bool (r3.1 == 1)) (w_some rfl rfl c2) rfl rfl (f_eql rfl rfl rfl) ?_
          refine EvK.pure (v := .bool (r3.1 == 1)) (w_none rfl) rfl rfl (f_pickT rfl rfl c2 rfl) ?_
          refine EvK.pure (v := .bool (r3.1 == 1)) (w_none rfl) rfl rfl (f_move rfl rfl) ?_
          rcases ite_inv hF with ⟨c3, hF⟩ | ⟨c3, hF⟩
          · refine EvK.pure (v := .int .i64 r2.2) (w_some rfl rfl c3) rfl rfl (f_move rfl rfl) ?_
            refine EvK.pure (v := .bool (r2.2 == 0)) (w_some rfl rfl c3) rfl rfl (f_eql rfl rfl rfl) ?_
            refine EvK.pure (v := .bool (r2.2 == 0)) (w_none rfl) rfl rfl (f_pickT rfl rfl c3 rfl) ?_
            refine EvK.pure (v := .bool (r2.2 == 0)) (w_none rfl) rfl rfl (f_move rfl rfl) ?_
            rcases ite_inv hF with ⟨c4, hF⟩ | ⟨c4, hF⟩
            · refine EvK.pure (v := .int .i64 r3.2) (w_some rfl rfl c4) rfl rfl (f_move rfl rfl) ?_
              refine EvK.pure (v := .bool (r3.2 == 0)) (w_some rfl rfl c4) rfl rfl (f_eql rfl rfl rfl) ?_
              refine EvK.pure (v := .bool (r3.2 == 0)) (w_none rfl) rfl rfl (f_pickT rfl rfl c4 rfl) ?_
              refine EvK.pure (v := .bool (r3.2 == 0)) (w_none rfl) rfl rfl (f_move rfl rfl) ?_
              rcases ite_inv hF with ⟨c5, hF⟩ | ⟨c5, hF⟩
              · refine EvK.pure (v := .int .i64 r4.2) (w_some rfl rfl c5) rfl rfl (f_move rfl rfl) ?_
                refine EvK.pure (v := .bool (r4.2 == 0)) (w_some rfl rfl c5) rfl rfl (f_eql rfl rfl rfl) ?_
                refine EvK.pure (v := .bool (r4.2 == 0)) (w_none rfl) rfl rfl (f_pickT rfl rfl c5 rfl) ?_
                refine EvK.pure (v := .bool (r4.2 == 0)) (w_none rfl) rfl rfl (f_move rfl rfl) ?_
                rcases ite_inv hF with ⟨c6, hF⟩ | ⟨c6, hF⟩
                · refine EvK.pure (v := Sl.val r4.1) (w_some rfl rfl c6) rfl rfl (f_move rfl rfl) ?_
                  obtain ⟨x1, hx1, hF⟩ := hF
                  refine EvK.read (v := .string x1) (w_some rfl rfl c6) rfl rfl (f_b2s Try.underlying29 Try.underlying9 Try.underlying5 rfl rfl hx1) ?_
                  refine EvK.alloc (w_some rfl rfl c6) rfl rfl (f_buildSliceF Try.underlying29 el5 (by decide) rfl rfl rfl hF) ?_
                  rintro _ h7 ⟨x2, rfl, hF⟩
                  obtain ⟨x3, hx2, hF⟩ := hF
                  refine EvK.read (v := .string x3) (w_some rfl rfl c6) rfl rfl (f_b2s Try.underlying29 Try.underlying9 Try.underlying5 rfl rfl hx2) ?_
                  refine EvK.pure (v := .bool (x1.toList == x3.toList)) (w_some rfl rfl c6) rfl rfl (f_seql rfl rfl rfl) ?_
                  refine EvK.pure (v := .bool (x1.toList == x3.toList)) (w_none rfl) rfl rfl (f_pickT rfl rfl c6 rfl) ?_
                  refine EvK.pure (v := .bool (x1.toList == x3.toList)) (w_none rfl) rfl rfl (f_move rfl rfl) ?_
                  rcases ite_inv hF with ⟨c7, hF⟩ | ⟨c7, hF⟩
                  · refine EvK.pure (v := .pointer r1.1) (w_some rfl rfl c7) rfl rfl (f_move rfl rfl) ?_
                    refine EvK.call (w_some rfl rfl c7) rfl rfl (enterH Try.func16 rfl rfl rfl rfl (net_Net_Moved.sound hF)) ?_
                    rintro _ h8 ⟨r5, rfl, hF⟩
                    refine EvK.pure (v := .bool (r5 == 4)) (w_some rfl rfl c7) rfl rfl (f_eql rfl rfl rfl) ?_
                    refine EvK.pure (v := .bool (r5 == 4)) (w_none rfl) rfl rfl (f_pickT rfl rfl c7 rfl) ?_
                    refine EvK.pure (v := .bool (r5 == 4)) (w_none rfl) rfl rfl (f_assign rfl rfl) ?_
                    refine EvK.nil ?_
                    exact KE.mk (r5 == 4) ⟨rfl, trivial⟩ hF
                  · refine EvK.not (w_not rfl rfl c7) rfl rfl ?_
                    refine EvK.not (w_not rfl rfl c7) rfl rfl ?_
                    refine EvK.not (w_not rfl rfl c7) rfl rfl ?_
                    refine EvK.pure (v := .bool false) (w_none rfl) rfl rfl (f_pickF rfl rfl c7 rfl) ?_
                    refine EvK.pure (v := .bool false) (w_none rfl) rfl rfl (f_assign rfl rfl) ?_
                    refine EvK.nil ?_
                    exact KE.mk false ⟨rfl, trivial⟩ hF
                · refine EvK.not (w_not rfl rfl c6) rfl rfl ?_
                  refine EvK.not (w_not rfl rfl c6) rfl rfl ?_
                  refine EvK.not (w_not rfl rfl c6) rfl rfl ?_
                  refine EvK.not (w_not rfl rfl c6) rfl rfl ?_
                  refine EvK.not (w_not rfl rfl c6) rfl rfl ?_
                  refine EvK.pure (v := .bool false) (w_none rfl) rfl rfl (f_pickF rfl rfl c6 rfl) ?_
                  refine EvK.pure (v := .bool false) (w_none rfl) rfl rfl (f_move rfl rfl) ?_
                  refine EvK.not (w_not rfl rfl rfl) rfl rfl ?_
                  refine EvK.not (w_not rfl rfl rfl) rfl rfl ?_
                  refine EvK.not (w_not rfl rfl rfl) rfl rfl ?_
                  refine EvK.pure (v := .bool false) (w_none rfl) rfl rfl (f_pickF rfl rfl rfl rfl) ?_
                  refine EvK.pure (v := .bool false) (w_none rfl) rfl rfl (f_assign rfl rfl) ?_
                  refine EvK.nil ?_
                  exact KE.mk false ⟨rfl, trivial⟩ hF
              · refine EvK.not (w_not rfl rfl c5) rfl rfl ?_
                refine EvK.not (w_not rfl rfl c5) rfl rfl ?_
                refine EvK.pure (v := .bool false) (w_none rfl) rfl rfl (f_pickF rfl rfl c5 rfl) ?_
                refine EvK.pure (v := .bool false) (w_none rfl) rfl rfl (f_move rfl rfl) ?_
                refine EvK.not (w_not rfl rfl rfl) rfl rfl ?_
                refine EvK.not (w_not rfl rfl rfl) rfl rfl ?_
                refine EvK.not (w_not rfl rfl rfl) rfl rfl ?_
                refine EvK.not (w_not rfl rfl rfl) rfl rfl ?_
                refine EvK.not (w_not rfl rfl rfl) rfl rfl ?_
                refine EvK.pure (v := .bool false) (w_none rfl) rfl rfl (f_pickF rfl rfl rfl rfl) ?_
                refine EvK.pure (v := .bool false) (w_none rfl) rfl rfl (f_move rfl rfl) ?_
                refine EvK.not (w_not rfl rfl rfl) rfl rfl ?_
                refine EvK.not (w_not rfl rfl rfl) rfl rfl ?_
                refine EvK.not (w_not rfl rfl rfl) rfl rfl ?_
                refine EvK.pure (v := .bool false) (w_none rfl) rfl rfl (f_pickF rfl rfl rfl rfl) ?_
                refine EvK.pure (v := .bool false) (w_none rfl) rfl rfl (f_assign rfl rfl) ?_
                refine EvK.nil ?_
                exact KE.mk false ⟨rfl, trivial⟩ hF
            · refine EvK.not (w_not rfl rfl c4) rfl rfl ?_
              refine EvK.not (w_not rfl rfl c4) rfl rfl ?_
              refine EvK.pure (v := .bool false) (w_none rfl) rfl rfl (f_pickF rfl rfl c4 rfl) ?_
              refine EvK.pure (v := .bool false) (w_none rfl) rfl rfl (f_move rfl rfl) ?_
              refine EvK.not (w_not rfl rfl rfl) rfl rfl ?_
              refine EvK.not (w_not rfl rfl rfl) rfl rfl ?_
              refine EvK.pure (v := .bool false) (w_none rfl) rfl rfl (f_pickF rfl rfl rfl rfl) ?_
              refine EvK.pure (v := .bool false) (w_none rfl) rfl rfl (f_move rfl rfl) ?_
              refine EvK.not (w_not rfl rfl rfl) rfl rfl ?_
              refine EvK.not (w_not rfl rfl rfl) rfl rfl ?_
              refine EvK.not (w_not rfl rfl rfl) rfl rfl ?_
              refine EvK.not (w_not rfl rfl rfl) rfl rfl ?_
              refine EvK.not (w_not rfl rfl rfl) rfl rfl ?_
              refine EvK.pure (v := .bool false) (w_none rfl) rfl rfl (f_pickF rfl rfl rfl rfl) ?_
              refine EvK.pure (v := .bool false) (w_none rfl) rfl rfl (f_move rfl rfl) ?_
              refine EvK.not (w_not rfl rfl rfl) rfl rfl ?_
              refine EvK.not (w_not rfl rfl rfl) rfl rfl ?_
              refine EvK.not (w_not rfl rfl rfl) rfl rfl ?_
              refine EvK.pure (v := .bool false) (w_none rfl) rfl rfl (f_pickF rfl rfl rfl rfl) ?_
              refine EvK.pure (v := .bool false) (w_none rfl) rfl rfl (f_assign rfl rfl) ?_
              refine EvK.nil ?_
              exact KE.mk false ⟨rfl, trivial⟩ hF
          · refine EvK.not (w_not rfl rfl c3) rfl rfl ?_
            refine EvK.not (w_not rfl rfl c3) rfl rfl ?_
            refine EvK.pure (v := .bool false) (w_none rfl) rfl rfl (f_pickF rfl rfl c3 rfl) ?_
            refine EvK.pure (v := .bool false) (w_none rfl) rfl rfl (f_move rfl rfl) ?_
            refine EvK.not (w_not rfl rfl rfl) rfl rfl ?_
            refine EvK.not (w_not rfl rfl rfl) rfl rfl ?_
            refine EvK.pure (v := .bool false) (w_none rfl) rfl rfl (f_pickF rfl rfl rfl rfl) ?_
            refine EvK.pure (v := .bool false) (w_none rfl) rfl rfl (f_move rfl rfl) ?_
            refine EvK.not (w_not rfl rfl rfl) rfl rfl ?_
            refine EvK.not (w_not rfl rfl rfl) rfl rfl ?_
            refine EvK.pure (v := .bool false) (w_none rfl) rfl rfl (f_pickF rfl rfl rfl rfl) ?_
            refine EvK.pure (v := .bool false) (w_none rfl) rfl rfl (f_move rfl rfl) ?_
            refine EvK.not (w_not rfl rfl rfl) rfl rfl ?_
            refine EvK.not (w_not rfl rfl rfl) rfl rfl ?_
            refine EvK.not (w_not rfl rfl rfl) rfl rfl ?_
            refine EvK.not (w_not rfl rfl rfl) rfl rfl ?_
            refine EvK.not (w_not rfl rfl rfl) rfl rfl ?_
            refine EvK.pure (v := .bool false) (w_none rfl) rfl rfl (f_pickF rfl rfl rfl rfl) ?_
            refine EvK.pure (v := .bool false) (w_none rfl) rfl rfl (f_move rfl rfl) ?_
            refine EvK.not (w_not rfl rfl rfl) rfl rfl ?_
            refine EvK.not (w_not rfl rfl rfl) rfl rfl ?_
            refine EvK.not (w_not rfl rfl rfl) rfl rfl ?_
            refine EvK.pure (v := .bool false) (w_none rfl) rfl rfl (f_pickF rfl rfl rfl rfl) ?_
            refine EvK.pure (v := .bool false) (w_none rfl) rfl rfl (f_assign rfl rfl) ?_
            refine EvK.nil ?_
            exact KE.mk false ⟨rfl, trivial⟩ hF
        · refine EvK.not (w_not rfl rfl c2) rfl rfl ?_
          refine EvK.not (w_not rfl rfl c2) rfl rfl ?_
          refine EvK.pure (v := .bool false) (w_none rfl) rfl rfl (f_pickF rfl rfl c2 rfl) ?_
          refine EvK.pure (v := .bool false) (w_none rfl) rfl rfl (f_move rfl rfl) ?_
          refine EvK.not (w_not rfl rfl rfl) rfl rfl ?_
          refine EvK.not (w_not rfl rfl rfl) rfl rfl ?_
          refine EvK.pure (v := .bool false) (w_none rfl) rfl rfl (f_pickF rfl rfl rfl rfl) ?_
          refine EvK.pure (v := .bool false) (w_none rfl) rfl rfl (f_move rfl rfl) ?_
          refine EvK.not (w_not rfl rfl rfl) rfl rfl ?_
          refine EvK.not (w_not rfl rfl rfl) rfl rfl ?_
          refine EvK.pure (v := .bool false) (w_none rfl) rfl rfl (f_pickF rfl rfl rfl rfl) ?_
          refine EvK.pure (v := .bool false) (w_none rfl) rfl rfl (f_move rfl rfl) ?_
          refine EvK.not (w_not rfl rfl rfl) rfl rfl ?_
          refine EvK.not (w_not rfl rfl rfl) rfl rfl ?_
          refine EvK.pure (v := .bool false) (w_none rfl) rfl rfl (f_pickF rfl rfl rfl rfl) ?_
          refine EvK.pure (v := .bool false) (w_none rfl) rfl rfl (f_move rfl rfl) ?_
          refine EvK.not (w_not rfl rfl rfl) rfl rfl ?_
          refine EvK.not (w_not rfl rfl rfl) rfl rfl ?_
          refine EvK.not (w_not rfl rfl rfl) rfl rfl ?_
          refine EvK.not (w_not rfl rfl rfl) rfl rfl ?_
          refine EvK.not (w_not rfl rfl rfl) rfl rfl ?_
          refine EvK.pure (v := .bool false) (w_none rfl) rfl rfl (f_pickF rfl rfl rfl rfl) ?_
          refine EvK.pure (v := .bool false) (w_none rfl) rfl rfl (f_move rfl rfl) ?_
          refine EvK.not (w_not rfl rfl rfl) rfl rfl ?_
          refine EvK.not (w_not rfl rfl rfl) rfl rfl ?_
          refine EvK.not (w_not rfl rfl rfl) rfl rfl ?_
          refine EvK.pure (v := .bool false) (w_none rfl) rfl rfl (f_pickF rfl rfl rfl rfl) ?_
          refine EvK.pure (v := .bool false) (w_none rfl) rfl rfl (f_assign rfl rfl) ?_
          refine EvK.nil ?_
          exact KE.mk false ⟨rfl, trivial⟩ hF
  · intro k1 hF
    refine WP.region ?_
    refine EvK.pure (v := .int .i64 r1.2) (w_none rfl) rfl rfl (f_move rfl rfl) ?_
    refine EvK.pure (v := .bool (r1.2 != 0)) (w_none rfl) rfl rfl (f_neq rfl rfl rfl) ?_
    refine EvK.pure (v := .bool (r1.2 != 0)) (w_none rfl) rfl rfl (f_move rfl rfl) ?_
    rcases ite_inv hF with ⟨c8, hF⟩ | ⟨c8, hF⟩
    · refine EvK.not (w_not rfl rfl c8) rfl rfl ?_
      refine EvK.not (w_not rfl rfl c8) rfl rfl ?_
      refine EvK.pure (v := .bool true) (w_none rfl) rfl rfl (f_pickT rfl rfl c8 rfl) ?_
      refine EvK.pure (v := .bool true) (w_none rfl) rfl rfl (f_move rfl rfl) ?_
      refine EvK.not (w_not rfl rfl rfl) rfl rfl ?_
      refine EvK.not (w_not rfl rfl rfl) rfl rfl ?_
      refine EvK.not (w_not rfl rfl rfl) rfl rfl ?_
      refine EvK.pure (v := .bool true) (w_none rfl) rfl rfl (f_pickT rfl rfl rfl rfl) ?_
      refine EvK.pure (v := .bool true) (w_none rfl) rfl rfl (f_move rfl rfl) ?_
      refine EvK.not (w_not rfl rfl rfl) rfl rfl ?_
      refine EvK.not (w_not rfl rfl rfl) rfl rfl ?_
      refine EvK.not (w_not rfl rfl rfl) rfl rfl ?_
      refine EvK.not (w_not rfl rfl rfl) rfl rfl ?_
      refine EvK.pure (v := .bool true) (w_none rfl) rfl rfl (f_pickT rfl rfl rfl rfl) ?_
      refine EvK.nil ?_
      exact KE.mk true ⟨rfl, rfl, trivial⟩ hF
    · refine EvK.pure (v := .pointer r1.1) (w_some rfl rfl c8) rfl rfl (f_move rfl rfl) ?_
      refine EvK.pure (v := .bool r1.1.isNone) (w_some rfl rfl c8) rfl rfl (f_peqln Try.underlying23 rfl rfl rfl) ?_
      refine EvK.pure (v := .bool r1.1.isNone) (w_none rfl) rfl rfl (f_pickF rfl rfl c8 rfl) ?_
      refine EvK.pure (v := .bool r1.1.isNone) (w_none rfl) rfl rfl (f_move rfl rfl) ?_
      rcases ite_inv hF with ⟨c9, hF⟩ | ⟨c9, hF⟩
      · refine EvK.not (w_not rfl rfl c9) rfl rfl ?_
        refine EvK.not (w_not rfl rfl c9) rfl rfl ?_
        refine EvK.not (w_not rfl rfl c9) rfl rfl ?_
        refine EvK.pure (v := .bool true) (w_none rfl) rfl rfl (f_pickT rfl rfl c9 rfl) ?_
        refine EvK.pure (v := .bool true) (w_none rfl) rfl rfl (f_move rfl rfl) ?_
        refine EvK.not (w_not rfl rfl rfl) rfl rfl ?_
        refine EvK.not (w_not rfl rfl rfl) rfl rfl ?_
        refine EvK.not (w_not rfl rfl rfl) rfl rfl ?_
        refine EvK.not (w_not rfl rfl rfl) rfl rfl ?_
        refine EvK.pure (v := .bool true) (w_none rfl) rfl rfl (f_pickT rfl rfl rfl rfl) ?_
        refine EvK.nil ?_
        exact KE.mk true ⟨rfl, rfl, trivial⟩ hF
      · refine EvK.pure (v := .pointer r1.1) (w_some rfl rfl c9) rfl rfl (f_move rfl rfl) ?_
        refine EvK.call (w_some rfl rfl c9) rfl rfl (enterH Try.func8 rfl rfl rfl rfl (net_Net_Open.sound hF)) ?_
        rintro _ h9 ⟨r6, rfl, hF⟩
        refine EvK.pure (v := .bool (r6 != 0)) (w_some rfl rfl c9) rfl rfl (f_neq rfl rfl rfl) ?_
        refine EvK.pure (v := .bool (r6 != 0)) (w_none rfl) rfl rfl (f_pickF rfl rfl c9 rfl) ?_
        refine EvK.pure (v := .bool (r6 != 0)) (w_none rfl) rfl rfl (f_move rfl rfl) ?_
        rcases ite_inv hF with ⟨c10, hF⟩ | ⟨c10, hF⟩
        · refine EvK.not (w_not rfl rfl c10) rfl rfl ?_
          refine EvK.not (w_not rfl rfl c10) rfl rfl ?_
          refine EvK.not (w_not rfl rfl c10) rfl rfl ?_
          refine EvK.not (w_not rfl rfl c10) rfl rfl ?_
          refine EvK.pure (v := .bool true) (w_none rfl) rfl rfl (f_pickT rfl rfl c10 rfl) ?_
          refine EvK.nil ?_
          exact KE.mk true ⟨rfl, rfl, trivial⟩ hF
        · refine EvK.pure (v := .pointer r1.1) (w_some rfl rfl c10) rfl rfl (f_move rfl rfl) ?_
          refine EvK.alloc (w_some rfl rfl c10) rfl rfl (f_buildSliceF Try.underlying29 el5 (by decide) rfl rfl rfl hF) ?_
          rintro _ h10 ⟨x4, rfl, hF⟩
          refine EvK.call (w_some rfl rfl c10) rfl rfl (enterH Try.func9 rfl rfl rfl rfl (net_Net_Send.sound hF)) ?_
          rintro _ h11 ⟨r7, rfl, hF⟩
          refine EvK.pure (v := .bool (r7 != 0)) (w_some rfl rfl c10) rfl rfl (f_neq rfl rfl rfl) ?_
          refine EvK.pure (v := .bool (r7 != 0)) (w_none rfl) rfl rfl (f_pickF rfl rfl c10 rfl) ?_
          refine EvK.nil ?_
          exact KE.mk (r7 != 0) ⟨rfl, rfl, trivial⟩ hF
end Go.Proofs.Ytbdopnhfbjdegaa

namespace Go.Proofs.Ytbdopnhfbjdegaa
open Go Go.Tr
set_option linter.unusedVariables false
set_option maxRecDepth 100000
set_option maxHeartbeats 400000
def spatelaw16_NetMany.b1 (p0 : Int) (p1 : Int) (p7 : Option Addr) (p21 : Int) (s : Int) (h : H) (K : Int ⊕ (Unit ⊕ Bool) → H → Prop) : Prop :=
  if (decide (s ≤ p0)) = true then
    net_Net_Close p7 s h fun r10 h18 =>
    jn (fun (k7 : Int → H → Prop) =>
      rd (remI s 2) fun x3 =>
      if (x3 == 0) = true then
        net_Net_Cut p7 s h18 fun r12 h22 =>
        k7 r12 h22
      else
        k7 r10 h18) fun s7 h19 =>
    jn (fun (k8 : Bool → H → Prop) =>
      if (s7 != 0) = true then
        k8 true h19
      else
        net_Net_Open p7 s h19 fun r11 h21 =>
        k8 (r11 != 43) h21) fun s8 h20 =>
    if s8 = true then
      K (.inr (.inr false)) h20
    else
      K (.inl (IntKind.i64.wrap (s + 1))) h20
  else
    K (.inr (.inl ())) h
def spatelaw16_NetMany.b2 (p0 : Int) (p1 : Int) (p7 : Option Addr) (p10 : Sl) (s : Int) (h : H) (K : Int ⊕ (Unit ⊕ Bool) → H → Prop) : Prop :=
  if (decide (s ≤ p0)) = true then
    net_Net_Heard p7 s h fun r15 h24 =>
    jn (fun (k10 : Bool → H → Prop) =>
      rd (ixA 1 p10 s) fun q1 =>
      rd (ld kL q1 h24) fun x4 =>
      rd (b2s x4 h24) fun x5 =>
      spatelaw16_bytes s p1 h24 fun r16 h26 =>
      b2s x4 h26 = some x5 ∧ ld kL q1 h26 = some x4 ∧
      rd (b2s r16 h26) fun x6 =>
      if (!(x5.toList == x6.toList)) = true then
        k10 true h26
      else
        rd (b2s r15.1 h26) fun x7 =>
        spatelaw16_bytes (IntKind.i64.wrap (s + 100)) p1 h26 fun r17 h27 =>
        b2s r15.1 h27 = some x7 ∧
        rd (b2s r17 h27) fun x8 =>
        if (!(x7.toList == x8.toList)) = true then
          k10 true h27
        else
          k10 r15.2 h27) fun s10 h25 =>
    if s10 = true then
      K (.inr (.inr false)) h25
    else
      K (.inl (IntKind.i64.wrap (s + 1))) h25
  else
    K (.inr (.inl ())) h
def spatelaw16_NetMany.b4 (p0 : Int) (p1 : Int) (p2 : Int) (p7 : Option Addr) (p10 : Sl) (p11 : Sl) (p12 : Int) (s : Int) (h : H) (K : Int ⊕ (Unit ⊕ Bool) → H → Prop) : Prop :=
  if (decide (s ≥ 1)) = true then
    net_Net_Bring p7 s p2 h fun r20 h30 =>
    net_Net_Take p7 s h30 fun r21 h31 =>
    if (r21.2 != 0) = true then
      K (.inr (.inr false)) h31
    else
      rd (ixA 1 p10 s) fun q2 =>
      rd (ld kL q2 h31) fun x9 =>
      ap (kI .u8).n 1 5 ((kI .u8).enc 0) x9 r21.1 h31 fun x10 h32 =>
      rd (ixA 1 p10 s) fun q3 =>
      rd (st kL q3 x10 h32) fun h33 =>
      rd (ixA 1 p11 s) fun q4 =>
      rd (ld (kI .i64) q4 h33) fun x11 =>
      spatelaw16_bytes (IntKind.i64.wrap (s + 100)) p1 h33 fun r22 h34 =>
      ld (kI .i64) q4 h34 = some x11 ∧
      rd (slx 1 r22 (some x11) none none) fun x12 =>
      net_Net_Write p7 s x12 h34 fun r23 h35 =>
      if (r23.2 != 0) = true then
        K (.inr (.inr false)) h35
      else
        rd (ixA 1 p11 s) fun q5 =>
        rd (ld (kI .i64) q5 h35) fun x13 =>
        rd (ixA 1 p11 s) fun q6 =>
        rd (st (kI .i64) q6 (IntKind.i64.wrap (x13 + r23.1)) h35) fun h36 =>
        net_Net_Fetch p7 s p2 h36 fun r24 h37 =>
        K (.inl (IntKind.i64.wrap (s - 1))) h37
  else
    K (.inr (.inl ())) h
def spatelaw16_NetMany.b3 (p0 : Int) (p1 : Int) (p2 : Int) (p7 : Option Addr) (p10 : Sl) (p11 : Sl) (s : Int) (h : H) (K : Int ⊕ (Unit ⊕ Bool) → H → Prop) : Prop :=
  if (decide (s < 70)) = true then
    jn (fun (k12 : Unit → H → Prop) =>
      loopE (spatelaw16_NetMany.b4 p0 p1 p2 p7 p10 p11 s) p0 h (sumK (fun r25 hh => k12 r25 hh) (fun r26 hh => K (.inr (.inr r26)) hh))) fun s12 h29 =>
    K (.inl (IntKind.i64.wrap (s + 1))) h29
  else
    K (.inr (.inl ())) h
def spatelaw16_NetMany.b5 (p0 : Int) (p1 : Int) (p2 : Int) (p7 : Option Addr) (s : Int) (h : H) (K : Int ⊕ (Unit ⊕ Bool) → H → Prop) : Prop :=
  if (decide (s ≤ p0)) = true then
    jn (fun (k15 : Bool → H → Prop) =>
      net_Net_Open p7 s h fun r29 h41 =>
      if (r29 != 0) = true then
        k15 true h41
      else
        spatelaw16_bytes s p1 h41 fun r30 h42 =>
        net_Net_Send p7 s r30 h42 fun r31 h43 =>
        k15 (r31 != 0) h43) fun s15 h40 =>
    if s15 = true then
      K (.inr (.inr false)) h40
    else
      K (.inl (IntKind.i64.wrap (s + 1))) h40
  else
    K (.inr (.inl ())) h
/-- spate/spatelaw16.NetMany -/
def spatelaw16_NetMany (a0 : Int) (a1 : Int) (a2 : Int) (h : H) (Q : Bool → H → Prop) : Prop :=
  spatelaw16_within a0 64 h fun r1 h1 =>
  spatelaw16_within a1 60 h1 fun r2 h2 =>
  spatelaw16_within a2 9 h2 fun r3 h3 =>
  net_New 7 5 h3 fun r4 h4 =>
  jn (fun (k1 : Bool → H → Prop) =>
    if (r4.2 != 0) = true then
      k1 true h4
    else
      k1 r4.1.isNone h4) fun s1 h5 =>
  if s1 = true then
    Q false h5
  else
    jn (fun (k2 : Unit → H → Prop) =>
      loopE (spatelaw16_NetMany.b5 (IntKind.i64.wrap (1 + r1)) r2 (IntKind.i64.wrap (1 + r3)) r4.1) 1 h5 (sumK (fun r32 hh => k2 r32 hh) (fun r33 hh => Q r33 hh))) fun s2 h6 =>
    mk kL.n 24 29 (kL.enc Sl.nil) (IntKind.i64.wrap ((IntKind.i64.wrap (1 + r1)) + 1)) (IntKind.i64.wrap ((IntKind.i64.wrap (1 + r1)) + 1)) h6 fun x1 h7 =>
    mk (kI .i64).n 8 3 ((kI .i64).enc 0) (IntKind.i64.wrap ((IntKind.i64.wrap (1 + r1)) + 1)) (IntKind.i64.wrap ((IntKind.i64.wrap (1 + r1)) + 1)) h7 fun x2 h8 =>
    jn (fun (k3 : Unit → H → Prop) =>
      loopE (spatelaw16_NetMany.b3 (IntKind.i64.wrap (1 + r1)) r2 (IntKind.i64.wrap (1 + r3)) r4.1 x1 x2) 0 h8 (sumK (fun r27 hh => k3 r27 hh) (fun r28 hh => Q r28 hh))) fun s3 h9 =>
    jn (fun (k4 : Unit → H → Prop) =>
      loopE (spatelaw16_NetMany.b2 (IntKind.i64.wrap (1 + r1)) r2 r4.1 x1) 1 h9 (sumK (fun r18 hh => k4 r18 hh) (fun r19 hh => Q r19 hh))) fun s4 h10 =>
    net_Net_Moved r4.1 h10 fun r5 h11 =>
    jn (fun (k5 : Unit → H → Prop) =>
      loopE (spatelaw16_NetMany.b1 (IntKind.i64.wrap (1 + r1)) r2 r4.1 r5) 1 h11 (sumK (fun r13 hh => k5 r13 hh) (fun r14 hh => Q r14 hh))) fun s5 h12 =>
    jn (fun (k6 : Bool → H → Prop) =>
      if (r5 == (IntKind.i64.wrap ((IntKind.i64.wrap (2 * (IntKind.i64.wrap (1 + r1)))) * r2))) = true then
        net_Net_Moved r4.1 h12 fun r6 h14 =>
        if (r6 == r5) = true then
          if (decide ((IntKind.i64.wrap (1 + r1)) < 64)) = true then
            spatelaw16_head  h14 fun r7 h15 =>
            k6 r7 h15
          else
            net_Net_Open r4.1 65 h14 fun r8 h16 =>
            if (r8 == 1) = true then
              spatelaw16_head  h16 fun r9 h17 =>
              k6 r9 h17
            else
              k6 false h16
        else
          k6 false h14
      else
        k6 false h12) fun s6 h13 =>
    Q s6 h13
theorem spatelaw16_NetMany.sound {a0 : Int} {a1 : Int} {a2 : Int} {h : H} {Q : Bool → H → Prop} (hF : spatelaw16_NetMany a0 a1 a2 h Q) :
    CallsH Try.prog 3 (List.toArray (α := Value) [.int .i64 a0, .int .i64 a1, .int .i64 a2]) h fun v h' => ∃ x : Bool, v = .bool x ∧ Q x h' := by
  refine CallsH.of_body Try.func3 rfl 208 rfl rfl ?_
  refine WP.seq ?_
  refine WP.region ?_
  refine EvK.pure (v := .bool false) (w_none rfl) rfl rfl (f_assign rfl rfl) ?_
  refine EvK.nil ?_
  refine WP.seq ?_
  refine WP.region ?_
  refine EvK.pure (v := .int .i64 a0) (w_none rfl) rfl rfl (f_move rfl rfl) ?_
  refine EvK.call (w_none rfl) rfl rfl (enterH Try.func6 rfl rfl rfl rfl (spatelaw16_within.sound hF)) ?_
  rintro _ h1 ⟨r1, rfl, hF⟩
  refine EvK.pure (v := .int .i64 (IntKind.i64.wrap (1 + r1))) (w_none rfl) rfl rfl (f_add rfl rfl rfl) ?_
  refine EvK.pure (v := .int .i64 (IntKind.i64.wrap (1 + r1))) (w_none rfl) rfl rfl (f_assign rfl rfl) ?_
  refine EvK.nil ?_
  refine WP.seq ?_
  refine WP.region ?_
  refine EvK.pure (v := .int .i64 a1) (w_none rfl) rfl rfl (f_move rfl rfl) ?_
  refine EvK.call (w_none rfl) rfl rfl (enterH Try.func6 rfl rfl rfl rfl (spatelaw16_within.sound hF)) ?_
  rintro _ h2 ⟨r2, rfl, hF⟩
  refine EvK.pure (v := .int .i64 r2) (w_none rfl) rfl rfl (f_assign rfl rfl) ?_
  refine EvK.nil ?_
  refine WP.seq ?_
  refine WP.region ?_
  refine EvK.pure (v := .int .i64 a2) (w_none rfl) rfl rfl (f_move rfl rfl) ?_
  refine EvK.call (w_none rfl) rfl rfl (enterH Try.func6 rfl rfl rfl rfl (spatelaw16_within.sound hF)) ?_
  rintro _ h3 ⟨r3, rfl, hF⟩
  refine EvK.pure (v := .int .i64 (IntKind.i64.wrap (1 + r3))) (w_none rfl) rfl rfl (f_add rfl rfl rfl) ?_
  refine EvK.pure (v := .int .i64 (IntKind.i64.wrap (1 + r3))) (w_none rfl) rfl rfl (f_assign rfl rfl) ?_
  refine EvK.nil ?_
  refine WP.seq ?_
  refine WP.region ?_
  refine EvK.call (w_none rfl) rfl rfl (enterH Try.func7 rfl rfl rfl rfl (net_New.sound hF)) ?_
  rintro _ h4 ⟨r4, rfl, hF⟩
  refine EvK.pure (v := .tuple #[.pointer r4.1, .int .i64 r4.2]) (w_none rfl) rfl rfl (f_move rfl rfl) ?_
  refine EvK.pure (v := .pointer r4.1) (w_none rfl) rfl rfl (f_extract (vs := #[.pointer r4.1, .int .i64 r4.2]) rfl rfl rfl) ?_
  refine EvK.pure (v := .int .i64 r4.2) (w_none rfl) rfl rfl (f_extract (vs := #[.pointer r4.1, .int .i64 r4.2]) rfl rfl rfl) ?_
  refine EvK.pure (v := .pointer r4.1) (w_none rfl) rfl rfl (f_assign rfl rfl) ?_
  refine EvK.pure (v := .int .i64 r4.2) (w_none rfl) rfl rfl (f_assign rfl rfl) ?_
  refine EvK.nil ?_
  refine WP.seq ?_
  refine WP.joinF (fun (s1 : Bool) => [(41, .bool s1), (0, .int .i64 (IntKind.i64.wrap (1 + r1))), (1, .int .i64 r2), (2, .int .i64 (IntKind.i64.wrap (1 + r3))), (7, .pointer r4.1)]) hF ?_ ?_
  · intro s1 E0 h5 hF
    rcases ite_inv hF with ⟨c1, hF⟩ | ⟨c1, hF⟩
    · refine WP.cond_true _ rfl c1 ?_
      refine WP.seq ?_
      refine WP.region ?_
      refine EvK.pure (v := .bool false) (w_none rfl) rfl rfl (f_assign rfl rfl) ?_
      refine EvK.nil ?_
      refine WP.ret ?_
      exact Ret.mk (vs := [.bool false]) false ⟨rfl, trivial⟩ rfl hF
    · refine WP.cond_false _ rfl c1 ?_
      refine WP.skip ?_
      refine WP.joinF (fun (s2 : Unit) => [(0, .int .i64 (IntKind.i64.wrap (1 + r1))), (1, .int .i64 r2), (2, .int .i64 (IntKind.i64.wrap (1 + r3))), (7, .pointer r4.1)]) hF ?_ ?_
      · intro s2 E0 h6 hF
        refine WP.seq ?_
        refine WP.region ?_
        refine EvK.pure (v := .int .i64 (IntKind.i64.wrap (1 + r1))) (w_none rfl) rfl rfl (f_move rfl rfl) ?_
        refine EvK.pure (v := .int .i64 (IntKind.i64.wrap ((IntKind.i64.wrap (1 + r1)) + 1))) (w_none rfl) rfl rfl (f_add rfl rfl rfl) ?_
        refine EvK.alloc (w_none rfl) rfl rfl (f_makeSlice Try.underlying31 el29 rfl rfl rfl hF) ?_
        rintro _ h7 ⟨x1, rfl, hF⟩
        refine EvK.pure (v := Sl.val x1) (w_none rfl) rfl rfl (f_assign rfl rfl) ?_
        refine EvK.nil ?_
        refine WP.seq ?_
        refine WP.region ?_
        refine EvK.pure (v := .int .i64 (IntKind.i64.wrap (1 + r1))) (w_none rfl) rfl rfl (f_move rfl rfl) ?_
        refine EvK.pure (v := .int .i64 (IntKind.i64.wrap ((IntKind.i64.wrap (1 + r1)) + 1))) (w_none rfl) rfl rfl (f_add rfl rfl rfl) ?_
        refine EvK.alloc (w_none rfl) rfl rfl (f_makeSlice Try.underlying32 el3 rfl rfl rfl hF) ?_
        rintro _ h8 ⟨x2, rfl, hF⟩
        refine EvK.pure (v := Sl.val x2) (w_none rfl) rfl rfl (f_assign rfl rfl) ?_
        refine EvK.nil ?_
        refine WP.joinF (fun (s3 : Unit) => [(0, .int .i64 (IntKind.i64.wrap (1 + r1))), (1, .int .i64 r2), (7, .pointer r4.1), (10, Sl.val x1)]) hF ?_ ?_
        · intro s3 E0 h9 hF
          refine WP.joinF (fun (s4 : Unit) => [(0, .int .i64 (IntKind.i64.wrap (1 + r1))), (1, .int .i64 r2), (7, .pointer r4.1)]) hF ?_ ?_
          · intro s4 E0 h10 hF
            refine WP.seq ?_
            refine WP.region ?_
            refine EvK.pure (v := .pointer r4.1) (w_none rfl) rfl rfl (f_move rfl rfl) ?_
            refine EvK.call (w_none rfl) rfl rfl (enterH Try.func16 rfl rfl rfl rfl (net_Net_Moved.sound hF)) ?_
            rintro _ h11 ⟨r5, rfl, hF⟩
            refine EvK.pure (v := .int .i64 r5) (w_none rfl) rfl rfl (f_assign rfl rfl) ?_
            refine EvK.nil ?_
            refine WP.joinF (fun (s5 : Unit) => [(0, .int .i64 (IntKind.i64.wrap (1 + r1))), (1, .int .i64 r2), (7, .pointer r4.1), (21, .int .i64 r5)]) hF ?_ ?_
            · intro s5 E0 h12 hF
              refine WP.joinF (fun (s6 : Bool) => [(6, .bool s6)]) hF ?_ ?_
              · intro s6 E0 h13 hF
                refine WP.ret ?_
                exact Ret.mk (vs := [.bool s6]) s6 ⟨rfl, trivial⟩ rfl hF
              · intro k6 hF
                refine WP.region ?_
                refine EvK.pure (v := .int .i64 r5) (w_none rfl) rfl rfl (f_move rfl rfl) ?_
                refine EvK.pure (v := .int .i64 (IntKind.i64.wrap (1 + r1))) (w_none rfl) rfl rfl (f_move rfl rfl) ?_
                refine EvK.pure (v := .int .i64 (IntKind.i64.wrap (2 * (IntKind.i64.wrap (1 + r1))))) (w_none rfl) rfl rfl (f_mul rfl rfl rfl) ?_
                refine EvK.pure (v := .int .i64 r2) (w_none rfl) rfl rfl (f_move rfl rfl) ?_
                refine EvK.pure (v := .int .i64 (IntKind.i64.wrap ((IntKind.i64.wrap (2 * (IntKind.i64.wrap (1 + r1)))) * r2))) (w_none rfl) rfl rfl (f_mul rfl rfl rfl) ?_
                refine EvK.pure (v := .bool (r5 == (IntKind.i64.wrap ((IntKind.i64.wrap (2 * (IntKind.i64.wrap (1 + r1)))) * r2)))) (w_none rfl) rfl rfl (f_eql rfl rfl rfl) ?_
                refine EvK.pure (v := .bool (r5 == (IntKind.i64.wrap ((IntKind.i64.wrap (2 * (IntKind.i64.wrap (1 + r1)))) * r2)))) (w_none rfl) rfl rfl (f_move rfl rfl) ?_
                rcases ite_inv hF with ⟨c2, hF⟩ | ⟨c2, hF⟩
                · refine EvK.pure (v := .pointer r4.1) (w_some rfl rfl c2) rfl rfl (f_move rfl rfl) ?_
                  refine EvK.call (w_some rfl rfl c2) rfl rfl (enterH Try.func16 rfl rfl rfl rfl (net_Net_Moved.sound hF)) ?_
                  rintro _ h14 ⟨r6, rfl, hF⟩
                  refine EvK.pure (v := .int .i64 r5) (w_some rfl rfl c2) rfl rfl (f_move rfl rfl) ?_
                  refine EvK.pure (v := .bool (r6 == r5)) (w_some rfl rfl c2) rfl rfl (f_eql rfl rfl rfl) ?_
                  refine EvK.pure (v := .bool (r6 == r5)) (w_none rfl) rfl rfl (f_pickT rfl rfl c2 rfl) ?_
                  refine EvK.pure (v := .bool (r6 == r5)) (w_none rfl) rfl rfl (f_move rfl rfl) ?_
                  rcases ite_inv hF with ⟨c3, hF⟩ | ⟨c3, hF⟩
                  · refine EvK.pure (v := .int .i64 (IntKind.i64.wrap (1 + r1))) (w_some rfl rfl c3) rfl rfl (f_move rfl rfl) ?_
                    refine EvK.pure (v := .bool (decide ((IntKind.i64.wrap (1 + r1)) < 64))) (w_some rfl rfl c3) rfl rfl (f_lss rfl rfl rfl) ?_
                    refine EvK.pure (v := .bool (decide ((IntKind.i64.wrap (1 + r1)) < 64))) (w_some rfl rfl c3) rfl rfl (f_move rfl rfl) ?_
                    rcases ite_inv hF with ⟨c4, hF⟩ | ⟨c4, hF⟩
                    · refine EvK.not (w_not rfl rfl c4) rfl rfl ?_
                      refine EvK.not (w_not rfl rfl c4) rfl rfl ?_
                      refine EvK.not (w_not rfl rfl c4) rfl rfl ?_
                      refine EvK.pure (v := .bool true) (w_some rfl rfl c3) rfl rfl (f_pickT rfl rfl c4 rfl) ?_
                      refine EvK.pure (v := .bool true) (w_none rfl) rfl rfl (f_pickT rfl rfl c3 rfl) ?_
                      refine EvK.pure (v := .bool true) (w_none rfl) rfl rfl (f_move rfl rfl) ?_
                      refine EvK.call (w_some rfl rfl rfl) rfl rfl (enterH Try.func19 rfl rfl rfl rfl (spatelaw16_head.sound hF)) ?_
                      rintro _ h15 ⟨r7, rfl, hF⟩
                      refine EvK.pure (v := .bool r7) (w_none rfl) rfl rfl (f_pickT rfl rfl rfl rfl) ?_
                      refine EvK.pure (v := .bool r7) (w_none rfl) rfl rfl (f_assign rfl rfl) ?_
                      refine EvK.nil ?_
                      exact KE.mk r7 ⟨rfl, trivial⟩ hF
                    · refine EvK.pure (v := .pointer r4.1) (w_some rfl rfl c4) rfl rfl (f_move rfl rfl) ?_
                      refine EvK.call (w_some rfl rfl c4) rfl rfl (enterH Try.func8 rfl rfl rfl rfl (net_Net_Open.sound hF)) ?_
                      rintro _ h16 ⟨r8, rfl, hF⟩
                      refine EvK.pure (v := .bool (r8 == 1)) (w_some rfl rfl c4) rfl rfl (f_eql rfl rfl rfl) ?_
                      refine EvK.pure (v := .bool (r8 == 1)) (w_some rfl rfl c3) rfl rfl (f_pickF rfl rfl c4 rfl) ?_
                      refine EvK.pure (v := .bool (r8 == 1)) (w_none rfl) rfl rfl (f_pickT rfl rfl c3 rfl) ?_
                      refine EvK.pure (v := .bool (r8 == 1)) (w_none rfl) rfl rfl (f_move rfl rfl) ?_
                      rcases ite_inv hF with ⟨c5, hF⟩ | ⟨c5, hF⟩
                      · refine EvK.call (w_some rfl rfl c5) rfl rfl (enterH Try.func19 rfl rfl rfl rfl (spatelaw16_head.sound hF)) ?_
                        rintro _ h17 ⟨r9, rfl, hF⟩
                        refine EvK.pure (v := .bool r9) (w_none rfl) rfl rfl (f_pickT rfl rfl c5 rfl) ?_
                        refine EvK.pure (v := .bool r9) (w_none rfl) rfl rfl (f_assign rfl rfl) ?_
                        refine EvK.nil ?_
                        exact KE.mk r9 ⟨rfl, trivial⟩ hF
                      · refine EvK.not (w_not rfl rfl c5) rfl rfl ?_
                        refine EvK.pure (v := .bool false) (w_none rfl) rfl rfl (f_pickF rfl rfl c5 rfl) ?_
                        refine EvK.pure (v := .bool false) (w_none rfl) rfl rfl (f_assign rfl rfl) ?_
                        refine EvK.nil ?_
                        exact KE.mk false ⟨rfl, trivial⟩ hF
                  · refine EvK.not (w_not rfl rfl c3) rfl rfl ?_
                    refine EvK.not (w_not rfl rfl c3) rfl rfl ?_
                    refine EvK.not (w_not rfl rfl c3) rfl rfl ?_
                    refine EvK.not (w_undef rfl rfl) rfl rfl ?_
                    refine EvK.not (w_undef rfl rfl) rfl rfl ?_
                    refine EvK.not (w_undef rfl rfl) rfl rfl ?_
                    refine EvK.not (w_not rfl rfl c3) rfl rfl ?_
                    refine EvK.pure (v := .bool false) (w_none rfl) rfl rfl (f_pickF rfl rfl c3 rfl) ?_
                    refine EvK.pure (v := .bool false) (w_none rfl) rfl rfl (f_move rfl rfl) ?_
                    refine EvK.not (w_not rfl rfl rfl) rfl rfl ?_
                    refine EvK.pure (v := .bool false) (w_none rfl) rfl rfl (f_pickF rfl rfl rfl rfl) ?_
                    refine EvK.pure (v := .bool false) (w_none rfl) rfl rfl (f_assign rfl rfl) ?_
                    refine EvK.nil ?_
                    exact KE.mk false ⟨rfl, trivial⟩ hF
                · refine EvK.not (w_not rfl rfl c2) rfl rfl ?_
                  refine EvK.not (w_not rfl rfl c2) rfl rfl ?_
                  refine EvK.not (w_not rfl rfl c2) rfl rfl ?_
                  refine EvK.not (w_not rfl rfl c2) rfl rfl ?_
                  refine EvK.pure (v := .bool false) (w_none rfl) rfl rfl (f_pickF rfl rfl c2 rfl) ?_
                  refine EvK.pure (v := .bool false) (w_none rfl) rfl rfl (f_move rfl rfl) ?_
                  refine EvK.not (w_not rfl rfl rfl) rfl rfl ?_
                  refine EvK.not (w_not rfl rfl rfl) rfl rfl ?_
                  refine EvK.not (w_not rfl rfl rfl) rfl rfl ?_
                  refine EvK.not (w_undef rfl rfl) rfl rfl ?_
                  refine EvK.not (w_undef rfl rfl) rfl rfl ?_
                  refine EvK.not (w_undef rfl rfl) rfl rfl ?_
                  refine EvK.not (w_not rfl rfl rfl) rfl rfl ?_
                  refine EvK.pure (v := .bool false) (w_none rfl) rfl rfl (f_pickF rfl rfl rfl rfl) ?_
                  refine EvK.pure (v := .bool false) (w_none rfl) rfl rfl (f_move rfl rfl) ?_
                  refine EvK.not (w_not rfl rfl rfl) rfl rfl ?_
                  refine EvK.pure (v := .bool false) (w_none rfl) rfl rfl (f_pickF rfl rfl rfl rfl) ?_
                  refine EvK.pure (v := .bool false) (w_none rfl) rfl rfl (f_assign rfl rfl) ?_
                  refine EvK.nil ?_
                  exact KE.mk false ⟨rfl, trivial⟩ hF
            · intro k5 hF
              refine WP.seq ?_
              refine WP.region ?_
              refine EvK.pure (v := .int .i64 1) (w_none rfl) rfl rfl (f_assign rfl rfl) ?_
              refine EvK.nil ?_
              refine WP.block ?_
              refine WP.loopF (fun (s7 : Int) => [(22, .int .i64 s7), (0, .int .i64 (IntKind.i64.wrap (1 + r1))), (1, .int .i64 r2), (7, .pointer r4.1), (21, .int .i64 r5)]) hF ⟨rfl, rfl, rfl, rfl, rfl, trivial⟩ ?_
              intro k7 s7 E0 h18 hF
              refine WP.seq ?_
              refine WP.seq ?_
              refine WP.region ?_
              refine EvK.pure (v := .int .i64 s7) (w_none rfl) rfl rfl (f_move rfl rfl) ?_
              refine EvK.pure (v := .int .i64 (IntKind.i64.wrap (1 + r1))) (w_none rfl) rfl rfl (f_move rfl rfl) ?_
              refine EvK.pure (v := .bool (decide (s7 ≤ (IntKind.i64.wrap (1 + r1))))) (w_none rfl) rfl rfl (f_leq rfl rfl rfl) ?_
              refine EvK.nil ?_
              rcases ite_inv hF with ⟨c6, hF⟩ | ⟨c6, hF⟩
              · refine WP.cond_true _ rfl c6 ?_
                refine WP.skip ?_
                refine WP.seq ?_
                refine WP.block ?_
                refine WP.seq ?_
                refine WP.region ?_
                refine EvK.pure (v := .pointer r4.1) (w_none rfl) rfl rfl (f_move rfl rfl) ?_
                refine EvK.pure (v := .int .i64 s7) (w_none rfl) rfl rfl (f_move rfl rfl) ?_
                refine EvK.call (w_none rfl) rfl rfl (enterH Try.func17 rfl rfl rfl rfl (net_Net_Close.sound hF)) ?_
                rintro _ h19 ⟨r10, rfl, hF⟩
                refine EvK.pure (v := .int .i64 r10) (w_none rfl) rfl rfl (f_assign rfl rfl) ?_
                refine EvK.nil ?_
                refine WP.joinF (fun (s8 : Int) => [(23, .int .i64 s8), (0, .int .i64 (IntKind.i64.wrap (1 + r1))), (1, .int .i64 r2), (7, .pointer r4.1), (21, .int .i64 r5), (22, .int .i64 s7)]) hF ?_ ?_
                · intro s8 E0 h20 hF
                  refine WP.joinF (fun (s9 : Bool) => [(183, .bool s9), (0, .int .i64 (IntKind.i64.wrap (1 + r1))), (1, .int .i64 r2), (7, .pointer r4.1), (21, .int .i64 r5), (22, .int .i64 s7)]) hF ?_ ?_
                  · intro s9 E0 h21 hF
                    rcases ite_inv hF with ⟨c7, hF⟩ | ⟨c7, hF⟩
                    · refine WP.cond_true _ rfl c7 ?_
                      refine WP.seq ?_
                      refine WP.region ?_
                      refine EvK.pure (v := .bool false) (w_none rfl) rfl rfl (f_assign rfl rfl) ?_
                      refine EvK.nil ?_
                      refine WP.ret ?_
                      exact Ret.mk (vs := [.bool false]) false ⟨rfl, trivial⟩ rfl hF
                    · refine WP.cond_false _ rfl c7 ?_
                      refine WP.skip ?_
                      refine WP.region ?_
                      refine EvK.pure (v := .int .i64 s7) (w_none rfl) rfl rfl (f_move rfl rfl) ?_
                      refine EvK.pure (v := .int .i64 (IntKind.i64.wrap (s7 + 1))) (w_none rfl) rfl rfl (f_add rfl rfl rfl) ?_
                      refine EvK.pure (v := .int .i64 (IntKind.i64.wrap (s7 + 1))) (w_none rfl) rfl rfl (f_assign rfl rfl) ?_
                      refine EvK.nil ?_
                      exact KE.mk (IntKind.i64.wrap (s7 + 1)) ⟨rfl, rfl, rfl, rfl, rfl, trivial⟩ hF
                  · intro k9 hF
                    refine WP.region ?_
                    refine EvK.pure (v := .int .i64 s8) (w_none rfl) rfl rfl (f_move rfl rfl) ?_
                    refine EvK.pure (v := .bool (s8 != 0)) (w_none rfl) rfl rfl (f_neq rfl rfl rfl) ?_
                    refine EvK.pure (v := .bool (s8 != 0)) (w_none rfl) rfl rfl (f_move rfl rfl) ?_
                    rcases ite_inv hF with ⟨c8, hF⟩ | ⟨c8, hF⟩
                    · refine EvK.not (w_not rfl rfl c8) rfl rfl ?_
                      refine EvK.not (w_not rfl rfl c8) rfl rfl ?_
                      refine EvK.not (w_not rfl rfl c8) rfl rfl ?_
                      refine EvK.not (w_not rfl rfl c8) rfl rfl ?_
                      refine EvK.pure (v := .bool true) (w_none rfl) rfl rfl (f_pickT rfl rfl c8 rfl) ?_
                      refine EvK.nil ?_
                      exact KE.mk true ⟨rfl, rfl, rfl, rfl, rfl, rfl, trivial⟩ hF
                    · refine EvK.pure (v := .pointer r4.1) (w_some rfl rfl c8) rfl rfl (f_move rfl rfl) ?_
                      refine EvK.pure (v := .int .i64 s7) (w_some rfl rfl c8) rfl rfl (f_move rfl rfl) ?_
                      refine EvK.call (w_some rfl rfl c8) rfl rfl (enterH Try.func8 rfl rfl rfl rfl (net_Net_Open.sound hF)) ?_
                      rintro _ h22 ⟨r11, rfl, hF⟩
                      refine EvK.pure (v := .bool (r11 != 43)) (w_some rfl rfl c8) rfl rfl (f_neq rfl rfl rfl) ?_
                      refine EvK.pure (v := .bool (r11 != 43)) (w_none rfl) rfl rfl (f_pickF rfl rfl c8 rfl) ?_
                      refine EvK.nil ?_
                      exact KE.mk (r11 != 43) ⟨rfl, rfl, rfl, rfl, rfl, rfl, trivial⟩ hF
                · intro k8 hF
                  refine WP.seq ?_
                  refine WP.region ?_
                  refine EvK.pure (v := .int .i64 s7) (w_none rfl) rfl rfl (f_move rfl rfl) ?_
                  obtain ⟨x3, hx1, hF⟩ := hF
                  refine EvK.pure (v := .int .i64 x3) (w_none rfl) rfl rfl (f_rem rfl rfl rfl hx1) ?_
                  refine EvK.pure (v := .bool (x3 == 0)) (w_none rfl) rfl rfl (f_eql rfl rfl rfl) ?_
                  refine EvK.nil ?_
                  rcases ite_inv hF with ⟨c9, hF⟩ | ⟨c9, hF⟩
                  · refine WP.cond_true _ rfl c9 ?_
                    refine WP.region ?_
                    refine EvK.pure (v := .pointer r4.1) (w_none rfl) rfl rfl (f_move rfl rfl) ?_
                    refine EvK.pure (v := .int .i64 s7) (w_none rfl) rfl rfl (f_move rfl rfl) ?_
                    refine EvK.call (w_none rfl) rfl rfl (enterH Try.func18 rfl rfl rfl rfl (net_Net_Cut.sound hF)) ?_
                    rintro _ h23 ⟨r12, rfl, hF⟩
                    refine EvK.pure (v := .int .i64 r12) (w_none rfl) rfl rfl (f_assign rfl rfl) ?_
                    refine EvK.nil ?_
                    exact KE.mk r12 ⟨rfl, rfl, rfl, rfl, rfl, rfl, trivial⟩ hF
                  · refine WP.cond_false _ rfl c9 ?_
                    refine WP.skip ?_
                    exact KE.mk r10 ⟨rfl, rfl, rfl, rfl, rfl, rfl, trivial⟩ hF
              · refine WP.cond_false _ rfl c6 ?_
                refine WP.exit ?_
                exact KE.mk () ⟨rfl, rfl, rfl, rfl, trivial⟩ hF
          · intro k4 hF
            refine WP.seq ?_
            refine WP.region ?_
            refine EvK.pure (v := .int .i64 1) (w_none rfl) rfl rfl (f_assign rfl rfl) ?_
            refine EvK.nil ?_
            refine WP.block ?_
            refine WP.loopF (fun (s10 : Int) => [(18, .int .i64 s10), (0, .int .i64 (IntKind.i64.wrap (1 + r1))), (1, .int .i64 r2), (7, .pointer r4.1), (10, Sl.val x1)]) hF ⟨rfl, rfl, rfl, rfl, rfl, trivial⟩ ?_
            intro k10 s10 E0 h24 hF
            refine WP.seq ?_
            refine WP.seq ?_
            refine WP.region ?_
            refine EvK.pure (v := .int .i64 s10) (w_none rfl) rfl rfl (f_move rfl rfl) ?_
            refine EvK.pure (v := .int .i64 (IntKind.i64.wrap (1 + r1))) (w_none rfl) rfl rfl (f_move rfl rfl) ?_
            refine EvK.pure (v := .bool (decide (s10 ≤ (IntKind.i64.wrap (1 + r1))))) (w_none rfl) rfl rfl (f_leq rfl rfl rfl) ?_
            refine EvK.nil ?_
            rcases ite_inv hF with ⟨c10, hF⟩ | ⟨c10, hF⟩
            · refine WP.cond_true _ rfl c10 ?_
              refine WP.skip ?_
              refine WP.seq ?_
              refine WP.block ?_
              refine WP.seq ?_
              refine WP.region ?_
              refine EvK.pure (v := .pointer r4.1) (w_none rfl) rfl rfl (f_move rfl rfl) ?_
              refine EvK.pure (v := .int .i64 s10) (w_none rfl) rfl rfl (f_move rfl rfl) ?_
              refine EvK.call (w_none rfl) rfl rfl (enterH Try.func15 rfl rfl rfl rfl (net_Net_Heard.sound hF)) ?_
              rintro _ h25 ⟨r15, rfl, hF⟩
              refine EvK.pure (v := .tuple #[Sl.val r15.1, .bool r15.2]) (w_none rfl) rfl rfl (f_move rfl rfl) ?_
              refine EvK.pure (v := Sl.val r15.1) (w_none rfl) rfl rfl (f_extract (vs := #[Sl.val r15.1, .bool r15.2]) rfl rfl rfl) ?_
              refine EvK.pure (v := .bool r15.2) (w_none rfl) rfl rfl (f_extract (vs := #[Sl.val r15.1, .bool r15.2]) rfl rfl rfl) ?_
              refine EvK.pure (v := Sl.val r15.1) (w_none rfl) rfl rfl (f_assign rfl rfl) ?_
              refine EvK.pure (v := .bool r15.2) (w_none rfl) rfl rfl (f_assign rfl rfl) ?_
              refine EvK.nil ?_
              refine WP.joinF (fun (s11 : Bool) => [(159, .bool s11), (0, .int .i64 (IntKind.i64.wrap (1 + r1))), (1, .int .i64 r2), (7, .pointer r4.1), (10, Sl.val x1), (18, .int .i64 s10)]) hF ?_ ?_
              · intro s11 E0 h26 hF
                rcases ite_inv hF with ⟨c11, hF⟩ | ⟨c11, hF⟩
                · refine WP.cond_true _ rfl c11 ?_
                  refine WP.seq ?_
                  refine WP.region ?_
                  refine EvK.pure (v := .bool false) (w_none rfl) rfl rfl (f_assign rfl rfl) ?_
                  refine EvK.nil ?_
                  refine WP.ret ?_
                  exact Ret.mk (vs := [.bool false]) false ⟨rfl, trivial⟩ rfl hF
                · refine WP.cond_false _ rfl c11 ?_
                  refine WP.skip ?_
                  refine WP.region ?_
                  refine EvK.pure (v := .int .i64 s10) (w_none rfl) rfl rfl (f_move rfl rfl) ?_
                  refine EvK.pure (v := .int .i64 (IntKind.i64.wrap (s10 + 1))) (w_none rfl) rfl rfl (f_add rfl rfl rfl) ?_
                  refine EvK.pure (v := .int .i64 (IntKind.i64.wrap (s10 + 1))) (w_none rfl) rfl rfl (f_assign rfl rfl) ?_
                  refine EvK.nil ?_
                  exact KE.mk (IntKind.i64.wrap (s10 + 1)) ⟨rfl, rfl, rfl, rfl, rfl, trivial⟩ hF
              · intro k11 hF
                refine WP.draw mixed [.pure, .pure, .pure, .read, .read, .pure, .pure, .eff [3, 4], .read, .pure, .pure, .pure, .read, .pure, .pure, .pure, .eff [12], .read, .pure, .pure, .pure, .pure, .pure] [[], [], [0, 1], [0, 1, 2], [0, 1, 2, 3], [], [], [5, 6], [5, 6, 7], [0, 1, 2, 3, 4, 5, 6, 7, 8], [0, 1, 2, 3, 4, 5, 6, 7, 8, 9], [0, 1, 2, 3, 4, 5, 6, 7, 8, 9, 10], [0, 1, 2, 3, 4, 5, 6, 7, 8, 9, 10, 11], [0, 1, 2, 3, 4, 5, 6, 7, 8, 9, 10], [0, 1, 2, 3, 4, 5, 6, 7, 8, 9, 10, 13], [0, 1, 2, 3, 4, 5, 6, 7, 8, 9, 10], [0, 1, 2, 3, 4, 5, 6, 7, 8, 9, 10, 13, 14, 15], [0, 1, 2, 3, 4, 5, 6, 7, 8, 9, 10, 13, 14, 15, 16], [0, 1, 2, 3, 4, 5, 6, 7, 8, 9, 10, 11, 12, 13, 14, 15, 16, 17], [0, 1, 2, 3, 4, 5, 6, 7, 8, 9, 10, 11, 12, 13, 14, 15, 16, 17, 18], [0, 1, 2, 3, 4, 5, 6, 7, 8, 9, 10, 11, 12, 13, 14, 15, 16, 17, 18, 19], [0, 1, 2, 3, 4, 5, 6, 7, 8, 9, 10, 11, 12, 13, 14, 15, 16, 17, 18, 19, 20], [0, 1, 2, 3, 4, 5, 6, 7, 8, 9, 10, 11, 12, 13, 14, 15, 16, 17, 18, 19, 20, 21]] [0, 1, 2, 3, 4, 5, 6, 7, 8, 9, 10, 11, 12, 13, 14, 15, 16, 17, 18, 19, 20, 21, 22] (by kernel_rfl) (by kernel_rfl) ?_
                refine EvI.pure (v := Sl.val x1) rfl rfl (w_none rfl) rfl (f_move rfl rfl) ?_
                refine EvI.pure (v := .int .i64 s10) rfl rfl (w_none rfl) rfl (f_move rfl rfl) ?_
                obtain ⟨q1, hq1, hF⟩ := hF
                refine EvI.pure (v := .pointer (some q1)) rfl rfl (w_none rfl) rfl (f_indexAddr (s := x1) Try.underlying31 ty29.size rfl rfl rfl hq1) ?_
                obtain ⟨x4, hx2, hF⟩ := hF
                refine EvI.read (v := Sl.val x4) rfl rfl (w_none rfl) rfl (f_load kL ty29 rfl rfl hx2 rfl) ?_
                obtain ⟨x5, hx3, hF⟩ := hF
                refine EvI.read (v := .string x5) rfl rfl (w_none rfl) rfl (f_b2s Try.underlying29 Try.underlying9 Try.underlying5 rfl rfl hx3) ?_
                refine EvI.pure (v := .int .i64 s10) rfl rfl (w_none rfl) rfl (f_move rfl rfl) ?_
                refine EvI.pure (v := .int .i64 r2) rfl rfl (w_none rfl) rfl (f_move rfl rfl) ?_
                refine EvI.call rfl rfl (w_none rfl) rfl (enterH Try.func10 rfl rfl rfl rfl (spatelaw16_bytes.sound hF)) ?_
                rintro _ h27 ⟨r16, rfl, hF⟩
                obtain ⟨hy1, hF⟩ := hF
                obtain ⟨hy2, hF⟩ := hF
                refine ⟨⟨chk_yes rfl (f_b2s Try.underlying29 Try.underlying9 Try.underlying5 rfl rfl hy1), chk_yes rfl (f_load kL ty29 rfl rfl hy2 rfl), trivial⟩, ?_⟩
                obtain ⟨x6, hx4, hF⟩ := hF
                refine EvI.read (v := .string x6) rfl rfl (w_none rfl) rfl (f_b2s Try.underlying29 Try.underlying9 Try.underlying5 rfl rfl hx4) ?_
                refine EvI.pure (v := .bool (!(x5.toList == x6.toList))) rfl rfl (w_none rfl) rfl (f_sneq rfl rfl rfl) ?_
                refine EvI.pure (v := .bool (!(x5.toList == x6.toList))) rfl rfl (w_none rfl) rfl (f_move rfl rfl) ?_
                rcases ite_inv hF with ⟨c12, hF⟩ | ⟨c12, hF⟩
                · refine EvI.not rfl (w_not rfl rfl c12) rfl ?_
                  refine EvI.not rfl (w_not rfl rfl c12) rfl ?_
                  refine EvI.not rfl (w_not rfl rfl c12) rfl ?_
                  refine EvI.not rfl (w_not rfl rfl c12) rfl ?_
                  refine EvI.not rfl (w_not rfl rfl c12) rfl ?_
                  refine EvI.not rfl (w_not rfl rfl c12) rfl ?_
                  refine EvI.not rfl (w_not rfl rfl c12) rfl ?_
                  refine EvI.not rfl (w_not rfl rfl c12) rfl ?_
                  refine EvI.pure (v := .bool true) rfl rfl (w_none rfl) rfl (f_pickT rfl rfl c12 rfl) ?_
                  refine EvI.pure (v := .bool true) rfl rfl (w_none rfl) rfl (f_move rfl rfl) ?_
                  refine EvI.not rfl (w_not rfl rfl rfl) rfl ?_
                  refine EvI.pure (v := .bool true) rfl rfl (w_none rfl) rfl (f_pickT rfl rfl rfl rfl) ?_
                  refine EvI.nil ?_
                  exact KE.mk true ⟨rfl, rfl, rfl, rfl, rfl, rfl, trivial⟩ hF
                · refine EvI.pure (v := Sl.val r15.1) rfl rfl (w_some rfl rfl c12) rfl (f_move rfl rfl) ?_
                  obtain ⟨x7, hx5, hF⟩ := hF
                  refine EvI.read (v := .string x7) rfl rfl (w_some rfl rfl c12) rfl (f_b2s Try.underlying29 Try.underlying9 Try.underlying5 rfl rfl hx5) ?_
                  refine EvI.pure (v := .int .i64 s10) rfl rfl (w_some rfl rfl c12) rfl (f_move rfl rfl) ?_
                  refine EvI.pure (v := .int .i64 (IntKind.i64.wrap (s10 + 100))) rfl rfl (w_some rfl rfl c12) rfl (f_add rfl rfl rfl) ?_
                  refine EvI.pure (v := .int .i64 r2) rfl rfl (w_some rfl rfl c12) rfl (f_move rfl rfl) ?_
                  refine EvI.call rfl rfl (w_some rfl rfl c12) rfl (enterH Try.func10 rfl rfl rfl rfl (spatelaw16_bytes.sound hF)) ?_
                  rintro _ h28 ⟨r17, rfl, hF⟩
                  obtain ⟨hy3, hF⟩ := hF
                  refine ⟨⟨chk_yes rfl (f_b2s Try.underlying29 Try.underlying9 Try.underlying5 rfl rfl hy3), chk_no rfl, chk_no rfl, chk_no rfl, trivial⟩, ?_⟩
                  obtain ⟨x8, hx6, hF⟩ := hF
                  refine EvI.read (v := .string x8) rfl rfl (w_some rfl rfl c12) rfl (f_b2s Try.underlying29 Try.underlying9 Try.underlying5 rfl rfl hx6) ?_
                  refine EvI.pure (v := .bool (!(x7.toList == x8.toList))) rfl rfl (w_some rfl rfl c12) rfl (f_sneq rfl rfl rfl) ?_
                  refine EvI.pure (v := .bool (!(x7.toList == x8.toList))) rfl rfl (w_none rfl) rfl (f_pickF rfl rfl c12 rfl) ?_
                  refine EvI.pure (v := .bool (!(x7.toList == x8.toList))) rfl rfl (w_none rfl) rfl (f_move rfl rfl) ?_
                  rcases ite_inv hF with ⟨c13, hF⟩ | ⟨c13, hF⟩
                  · refine EvI.not rfl (w_not rfl rfl c13) rfl ?_
                    refine EvI.pure (v := .bool true) rfl rfl (w_none rfl) rfl (f_pickT rfl rfl c13 rfl) ?_
                    refine EvI.nil ?_
                    exact KE.mk true ⟨rfl, rfl, rfl, rfl, rfl, rfl, trivial⟩ hF
                  · refine EvI.pure (v := .bool r15.2) rfl rfl (w_some rfl rfl c13) rfl (f_move rfl rfl) ?_
                    refine EvI.pure (v := .bool r15.2) rfl rfl (w_none rfl) rfl (f_pickF rfl rfl c13 rfl) ?_
                    refine EvI.nil ?_
                    exact KE.mk r15.2 ⟨rfl, rfl, rfl, rfl, rfl, rfl, trivial⟩ hF
            · refine WP.cond_false _ rfl c10 ?_
              refine WP.exit ?_
              exact KE.mk () ⟨rfl, rfl, rfl, trivial⟩ hF
        · intro k3 hF
          refine WP.seq ?_
          refine WP.region ?_
          refine EvK.pure (v := .int .i64 0) (w_none rfl) rfl rfl (f_assign rfl rfl) ?_
          refine EvK.nil ?_
          refine WP.block ?_
          refine WP.loopF (fun (s12 : Int) => [(12, .int .i64 s12), (0, .int .i64 (IntKind.i64.wrap (1 + r1))), (1, .int .i64 r2), (2, .int .i64 (IntKind.i64.wrap (1 + r3))), (7, .pointer r4.1), (10, Sl.val x1), (11, Sl.val x2)]) hF ⟨rfl, rfl, rfl, rfl, rfl, rfl, rfl, trivial⟩ ?_
          intro k12 s12 E0 h29 hF
          refine WP.seq ?_
          refine WP.seq ?_
          refine WP.region ?_
          refine EvK.pure (v := .int .i64 s12) (w_none rfl) rfl rfl (f_move rfl rfl) ?_
          refine EvK.pure (v := .bool (decide (s12 < 70))) (w_none rfl) rfl rfl (f_lss rfl rfl rfl) ?_
          refine EvK.nil ?_
          rcases ite_inv hF with ⟨c14, hF⟩ | ⟨c14, hF⟩
          · refine WP.cond_true _ rfl c14 ?_
            refine WP.skip ?_
            refine WP.joinF (fun (s13 : Unit) => [(0, .int .i64 (IntKind.i64.wrap (1 + r1))), (1, .int .i64 r2), (2, .int .i64 (IntKind.i64.wrap (1 + r3))), (7, .pointer r4.1), (10, Sl.val x1), (11, Sl.val x2), (12, .int .i64 s12)]) hF ?_ ?_
            · intro s13 E0 h30 hF
              refine WP.region ?_
              refine EvK.pure (v := .int .i64 s12) (w_none rfl) rfl rfl (f_move rfl rfl) ?_
              refine EvK.pure (v := .int .i64 (IntKind.i64.wrap (s12 + 1))) (w_none rfl) rfl rfl (f_add rfl rfl rfl) ?_
              refine EvK.pure (v := .int .i64 (IntKind.i64.wrap (s12 + 1))) (w_none rfl) rfl rfl (f_assign rfl rfl) ?_
              refine EvK.nil ?_
              exact KE.mk (IntKind.i64.wrap (s12 + 1)) ⟨rfl, rfl, rfl, rfl, rfl, rfl, rfl, trivial⟩ hF
            · intro k13 hF
              refine WP.block ?_
              refine WP.seq ?_
              refine WP.region ?_
              refine EvK.pure (v := .int .i64 (IntKind.i64.wrap (1 + r1))) (w_none rfl) rfl rfl (f_move rfl rfl) ?_
              refine EvK.pure (v := .int .i64 (IntKind.i64.wrap (1 + r1))) (w_none rfl) rfl rfl (f_assign rfl rfl) ?_
              refine EvK.nil ?_
              refine WP.block ?_
              refine WP.loopF (fun (s14 : Int) => [(13, .int .i64 s14), (0, .int .i64 (IntKind.i64.wrap (1 + r1))), (1, .int .i64 r2), (2, .int .i64 (IntKind.i64.wrap (1 + r3))), (7, .pointer r4.1), (10, Sl.val x1), (11, Sl.val x2), (12, .int .i64 s12)]) hF ⟨rfl, rfl, rfl, rfl, rfl, rfl, rfl, rfl, trivial⟩ ?_
              intro k14 s14 E0 h31 hF
              refine WP.seq ?_
              refine WP.seq ?_
              refine WP.region ?_
              refine EvK.pure (v := .int .i64 s14) (w_none rfl) rfl rfl (f_move rfl rfl) ?_
              refine EvK.pure (v := .bool (decide (s14 ≥ 1))) (w_none rfl) rfl rfl (f_geq rfl rfl rfl) ?_
              refine EvK.nil ?_
              rcases ite_inv hF with ⟨c15, hF⟩ | ⟨c15, hF⟩
              · refine WP.cond_true _ rfl c15 ?_
                refine WP.skip ?_
                refine WP.seq ?_
                refine WP.block ?_
                refine WP.seq ?_
                refine WP.region ?_
                refine EvK.pure (v := .pointer r4.1) (w_none rfl) rfl rfl (f_move rfl rfl) ?_
                refine EvK.pure (v := .int .i64 s14) (w_none rfl) rfl rfl (f_move rfl rfl) ?_
                refine EvK.pure (v := .int .i64 (IntKind.i64.wrap (1 + r3))) (w_none rfl) rfl rfl (f_move rfl rfl) ?_
                refine EvK.call (w_none rfl) rfl rfl (enterH Try.func11 rfl rfl rfl rfl (net_Net_Bring.sound hF)) ?_
                rintro _ h32 ⟨r20, rfl, hF⟩
                refine EvK.nil ?_
                refine WP.seq ?_
                refine WP.region ?_
                refine EvK.pure (v := .pointer r4.1) (w_none rfl) rfl rfl (f_move rfl rfl) ?_
                refine EvK.pure (v := .int .i64 s14) (w_none rfl) rfl rfl (f_move rfl rfl) ?_
                refine EvK.call (w_none rfl) rfl rfl (enterH Try.func12 rfl rfl rfl rfl (net_Net_Take.sound hF)) ?_
                rintro _ h33 ⟨r21, rfl, hF⟩
                refine EvK.pure (v := .tuple #[Sl.val r21.1, .int .i64 r21.2]) (w_none rfl) rfl rfl (f_move rfl rfl) ?_
                refine EvK.pure (v := Sl.val r21.1) (w_none rfl) rfl rfl (f_extract (vs := #[Sl.val r21.1, .int .i64 r21.2]) rfl rfl rfl) ?_
                refine EvK.pure (v := .int .i64 r21.2) (w_none rfl) rfl rfl (f_extract (vs := #[Sl.val r21.1, .int .i64 r21.2]) rfl rfl rfl) ?_
                refine EvK.pure (v := Sl.val r21.1) (w_none rfl) rfl rfl (f_assign rfl rfl) ?_
                refine EvK.pure (v := .int .i64 r21.2) (w_none rfl) rfl rfl (f_assign rfl rfl) ?_
                refine EvK.nil ?_
                refine WP.seq ?_
                refine WP.seq ?_
                refine WP.region ?_
                refine EvK.pure (v := .int .i64 r21.2) (w_none rfl) rfl rfl (f_move rfl rfl) ?_
                refine EvK.pure (v := .bool (r21.2 != 0)) (w_none rfl) rfl rfl (f_neq rfl rfl rfl) ?_
                refine EvK.nil ?_
                rcases ite_inv hF with ⟨c16, hF⟩ | ⟨c16, hF⟩
                · refine WP.cond_true _ rfl c16 ?_
                  refine WP.seq ?_
                  refine WP.region ?_
                  refine EvK.pure (v := .bool false) (w_none rfl) rfl rfl (f_assign rfl rfl) ?_
                  refine EvK.nil ?_
                  refine WP.ret ?_
                  exact Ret.mk (vs := [.bool false]) false ⟨rfl, trivial⟩ rfl hF
                · refine WP.cond_false _ rfl c16 ?_
                  refine WP.skip ?_
                  refine WP.seq ?_
                  refine WP.region ?_
                  refine EvK.pure (v := Sl.val x1) (w_none rfl) rfl rfl (f_move rfl rfl) ?_
                  refine EvK.pure (v := .int .i64 s14) (w_none rfl) rfl rfl (f_move rfl rfl) ?_
                  refine EvK.pure (v := Sl.val x1) (w_none rfl) rfl rfl (f_move rfl rfl) ?_
                  refine EvK.pure (v := .int .i64 s14) (w_none rfl) rfl rfl (f_move rfl rfl) ?_
                  obtain ⟨q2, hq2, hF⟩ := hF
                  refine EvK.pure (v := .pointer (some q2)) (w_none rfl) rfl rfl (f_indexAddr (s := x1) Try.underlying31 ty29.size rfl rfl rfl hq2) ?_
                  obtain ⟨x9, hx7, hF⟩ := hF
                  refine EvK.read (v := Sl.val x9) (w_none rfl) rfl rfl (f_load kL ty29 rfl rfl hx7 rfl) ?_
                  refine EvK.pure (v := Sl.val r21.1) (w_none rfl) rfl rfl (f_move rfl rfl) ?_
                  refine EvK.run (w_none rfl) rfl rfl (f_appendE (s := x9) (x := r21.1) Try.underlying29 el5 rfl rfl rfl hF) ?_
                  rintro _ h34 ⟨x10, rfl, hF⟩
                  obtain ⟨q3, hq3, hF⟩ := hF
                  refine EvK.pure (v := .pointer (some q3)) (w_none rfl) rfl rfl (f_indexAddr (s := x1) Try.underlying31 ty29.size rfl rfl rfl hq3) ?_
                  obtain ⟨h35, hs1, hF⟩ := hF
                  refine EvK.runN (w_none rfl) rfl (f_store kL ty29.size (z := x10) rfl rfl rfl hs1) ?_
                  rintro _ _ ⟨rfl, rfl⟩
                  refine EvK.nil ?_
                  refine WP.seq ?_
                  refine WP.draw mixed [.pure, .pure, .pure, .pure, .pure, .eff [9], .pure, .pure, .pure, .read, .pure, .eff [], .pure, .pure, .pure, .pure, .pure] [[], [], [], [2], [], [2, 3, 4], [], [], [6, 7], [6, 7, 8], [2, 3, 4, 5, 6, 7, 8, 9], [0, 1, 2, 3, 4, 5, 6, 7, 8, 9, 10], [0, 1, 2, 3, 4, 5, 6, 7, 8, 9, 10, 11], [0, 1, 2, 3, 4, 5, 6, 7, 8, 9, 10, 11, 12], [0, 1, 2, 3, 4, 5, 6, 7, 8, 9, 10, 11, 12], [0, 1, 2, 3, 4, 5, 6, 7, 8, 9, 10, 11, 12, 13], [0, 1, 2, 3, 4, 5, 6, 7, 8, 9, 10, 11, 12, 13, 14, 15]] [0, 1, 2, 3, 4, 6, 7, 8, 9, 5, 10, 11, 12, 13, 14, 15, 16] (by kernel_rfl) (by kernel_rfl) ?_
                  refine EvI.pure (v := .pointer r4.1) rfl rfl (w_none rfl) rfl (f_move rfl rfl) ?_
                  refine EvI.pure (v := .int .i64 s14) rfl rfl (w_none rfl) rfl (f_move rfl rfl) ?_
                  refine EvI.pure (v := .int .i64 s14) rfl rfl (w_none rfl) rfl (f_move rfl rfl) ?_
                  refine EvI.pure (v := .int .i64 (IntKind.i64.wrap (s14 + 100))) rfl rfl (w_none rfl) rfl (f_add rfl rfl rfl) ?_
                  refine EvI.pure (v := .int .i64 r2) rfl rfl (w_none rfl) rfl (f_move rfl rfl) ?_
                  refine EvI.pure (v := Sl.val x2) rfl rfl (w_none rfl) rfl (f_move rfl rfl) ?_
                  refine EvI.pure (v := .int .i64 s14) rfl rfl (w_none rfl) rfl (f_move rfl rfl) ?_
                  obtain ⟨q4, hq4, hF⟩ := hF
                  refine EvI.pure (v := .pointer (some q4)) rfl rfl (w_none rfl) rfl (f_indexAddr (s := x2) Try.underlying32 ty3.size rfl rfl rfl hq4) ?_
                  obtain ⟨x11, hx8, hF⟩ := hF
                  refine EvI.read (v := .int .i64 x11) rfl rfl (w_none rfl) rfl (f_load (kI .i64) ty3 rfl rfl hx8 rfl) ?_
                  refine EvI.call rfl rfl (w_none rfl) rfl (enterH Try.func10 rfl rfl rfl rfl (spatelaw16_bytes.sound hF)) ?_
                  rintro _ h36 ⟨r22, rfl, hF⟩
                  obtain ⟨hy4, hF⟩ := hF
                  refine ⟨⟨chk_yes rfl (f_load (kI .i64) ty3 rfl rfl hy4 rfl), trivial⟩, ?_⟩
                  obtain ⟨x12, hx9, hF⟩ := hF
                  refine EvI.pure (v := Sl.val x12) rfl rfl (w_none rfl) rfl (f_slice Try.underlying29 ty5.size rfl rfl (bndV_some rfl) bndV_none bndV_none hx9) ?_
                  refine EvI.call rfl rfl (w_none rfl) rfl (enterH Try.func13 rfl rfl rfl rfl (net_Net_Write.sound hF)) ?_
                  rintro _ h37 ⟨r23, rfl, hF⟩
                  refine ⟨⟨chk_no rfl, trivial⟩, ?_⟩
                  refine EvI.pure (v := .tuple #[.int .i64 r23.1, .int .i64 r23.2]) rfl rfl (w_none rfl) rfl (f_move rfl rfl) ?_
                  refine EvI.pure (v := .int .i64 r23.1) rfl rfl (w_none rfl) rfl (f_extract (vs := #[.int .i64 r23.1, .int .i64 r23.2]) rfl rfl rfl) ?_
                  refine EvI.pure (v := .int .i64 r23.2) rfl rfl (w_none rfl) rfl (f_extract (vs := #[.int .i64 r23.1, .int .i64 r23.2]) rfl rfl rfl) ?_
                  refine EvI.pure (v := .int .i64 r23.1) rfl rfl (w_none rfl) rfl (f_assign rfl rfl) ?_
                  refine EvI.pure (v := .int .i64 r23.2) rfl rfl (w_none rfl) rfl (f_assign rfl rfl) ?_
                  refine EvI.nil ?_
                  refine WP.seq ?_
                  refine WP.seq ?_
                  refine WP.region ?_
                  refine EvK.pure (v := .int .i64 r23.2) (w_none rfl) rfl rfl (f_move rfl rfl) ?_
                  refine EvK.pure (v := .bool (r23.2 != 0)) (w_none rfl) rfl rfl (f_neq rfl rfl rfl) ?_
                  refine EvK.nil ?_
                  rcases ite_inv hF with ⟨c17, hF⟩ | ⟨c17, hF⟩
                  · refine WP.cond_true _ rfl c17 ?_
                    refine WP.seq ?_
                    refine WP.region ?_
                    refine EvK.pure (v := .bool false) (w_none rfl) rfl rfl (f_assign rfl rfl) ?_
                    refine EvK.nil ?_
                    refine WP.ret ?_
                    exact Ret.mk (vs := [.bool false]) false ⟨rfl, trivial⟩ rfl hF
                  · refine WP.cond_false _ rfl c17 ?_
                    refine WP.skip ?_
                    refine WP.seq ?_
                    refine WP.region ?_
                    refine EvK.pure (v := Sl.val x2) (w_none rfl) rfl rfl (f_move rfl rfl) ?_
                    refine EvK.pure (v := .int .i64 s14) (w_none rfl) rfl rfl (f_move rfl rfl) ?_
                    refine EvK.pure (v := Sl.val x2) (w_none rfl) rfl rfl (f_move rfl rfl) ?_
                    refine EvK.pure (v := .int .i64 s14) (w_none rfl) rfl rfl (f_move rfl rfl) ?_
                    obtain ⟨q5, hq5, hF⟩ := hF
                    refine EvK.pure (v := .pointer (some q5)) (w_none rfl) rfl rfl (f_indexAddr (s := x2) Try.underlying32 ty3.size rfl rfl rfl hq5) ?_
                    obtain ⟨x13, hx10, hF⟩ := hF
                    refine EvK.read (v := .int .i64 x13) (w_none rfl) rfl rfl (f_load (kI .i64) ty3 rfl rfl hx10 rfl) ?_
                    refine EvK.pure (v := .int .i64 r23.1) (w_none rfl) rfl rfl (f_move rfl rfl) ?_
                    refine EvK.pure (v := .int .i64 (IntKind.i64.wrap (x13 + r23.1))) (w_none rfl) rfl rfl (f_add rfl rfl rfl) ?_
                    obtain ⟨q6, hq6, hF⟩ := hF
                    refine EvK.pure (v := .pointer (some q6)) (w_none rfl) rfl rfl (f_indexAddr (s := x2) Try.underlying32 ty3.size rfl rfl rfl hq6) ?_
                    obtain ⟨h38, hs2, hF⟩ := hF
                    refine EvK.runN (w_none rfl) rfl (f_store (kI .i64) ty3.size (z := IntKind.i64.wrap (x13 + r23.1)) rfl rfl rfl hs2) ?_
                    rintro _ _ ⟨rfl, rfl⟩
                    refine EvK.nil ?_
                    refine WP.region ?_
                    refine EvK.pure (v := .pointer r4.1) (w_none rfl) rfl rfl (f_move rfl rfl) ?_
                    refine EvK.pure (v := .int .i64 s14) (w_none rfl) rfl rfl (f_move rfl rfl) ?_
                    refine EvK.pure (v := .int .i64 (IntKind.i64.wrap (1 + r3))) (w_none rfl) rfl rfl (f_move rfl rfl) ?_
                    refine EvK.call (w_none rfl) rfl rfl (enterH Try.func14 rfl rfl rfl rfl (net_Net_Fetch.sound hF)) ?_
                    rintro _ h39 ⟨r24, rfl, hF⟩
                    refine EvK.nil ?_
                    refine WP.region ?_
                    refine EvK.pure (v := .int .i64 s14) (w_none rfl) rfl rfl (f_move rfl rfl) ?_
                    refine EvK.pure (v := .int .i64 (IntKind.i64.wrap (s14 - 1))) (w_none rfl) rfl rfl (f_sub rfl rfl rfl) ?_
                    refine EvK.pure (v := .int .i64 (IntKind.i64.wrap (s14 - 1))) (w_none rfl) rfl rfl (f_assign rfl rfl) ?_
                    refine EvK.nil ?_
                    exact KE.mk (IntKind.i64.wrap (s14 - 1)) ⟨rfl, rfl, rfl, rfl, rfl, rfl, rfl, rfl, trivial⟩ hF
              · refine WP.cond_false _ rfl c15 ?_
                refine WP.exit ?_
                exact KE.mk () ⟨rfl, rfl, rfl, rfl, rfl, rfl, rfl, trivial⟩ hF
          · refine WP.cond_false _ rfl c14 ?_
            refine WP.exit ?_
            exact KE.mk () ⟨rfl, rfl, rfl, rfl, trivial⟩ hF
      · intro k2 hF
        refine WP.seq ?_
        refine WP.region ?_
        refine EvK.pure (v := .int .i64 1) (w_none rfl) rfl rfl (f_assign rfl rfl) ?_
        refine EvK.nil ?_
        refine WP.block ?_
        refine WP.loopF (fun (s15 : Int) => [(9, .int .i64 s15), (0, .int .i64 (IntKind.i64.wrap (1 + r1))), (1, .int .i64 r2), (2, .int .i64 (IntKind.i64.wrap (1 + r3))), (7, .pointer r4.1)]) hF ⟨rfl, rfl, rfl, rfl, rfl, trivial⟩ ?_
        intro k15 s15 E0 h40 hF
        refine WP.seq ?_
        refine WP.seq ?_
        refine WP.region ?_
        refine EvK.pure (v := .int .i64 s15) (w_none rfl) rfl rfl (f_move rfl rfl) ?_
        refine EvK.pure (v := .int .i64 (IntKind.i64.wrap (1 + r1))) (w_none rfl) rfl rfl (f_move rfl rfl) ?_
        refine EvK.pure (v := .bool (decide (s15 ≤ (IntKind.i64.wrap (1 + r1))))) (w_none rfl) rfl rfl (f_leq rfl rfl rfl) ?_
        refine EvK.nil ?_
        rcases ite_inv hF with ⟨c18, hF⟩ | ⟨c18, hF⟩
        · refine WP.cond_true _ rfl c18 ?_
          refine WP.skip ?_
          refine WP.seq ?_
          refine WP.block ?_
          refine WP.joinF (fun (s16 : Bool) => [(59, .bool s16), (0, .int .i64 (IntKind.i64.wrap (1 + r1))), (1, .int .i64 r2), (2, .int .i64 (IntKind.i64.wrap (1 + r3))), (7, .pointer r4.1), (9, .int .i64 s15)]) hF ?_ ?_
          · intro s16 E0 h41 hF
            rcases ite_inv hF with ⟨c19, hF⟩ | ⟨c19, hF⟩
            · refine WP.cond_true _ rfl c19 ?_
              refine WP.seq ?_
              refine WP.region ?_
              refine EvK.pure (v := .bool false) (w_none rfl) rfl rfl (f_assign rfl rfl) ?_
              refine EvK.nil ?_
              refine WP.ret ?_
              exact Ret.mk (vs := [.bool false]) false ⟨rfl, trivial⟩ rfl hF
            · refine WP.cond_false _ rfl c19 ?_
              refine WP.skip ?_
              refine WP.region ?_
              refine EvK.pure (v := .int .i64 s15) (w_none rfl) rfl rfl (f_move rfl rfl) ?_
              refine EvK.pure (v := .int .i64 (IntKind.i64.wrap (s15 + 1))) (w_none rfl) rfl rfl (f_add rfl rfl rfl) ?_
              refine EvK.pure (v := .int .i64 (IntKind.i64.wrap (s15 + 1))) (w_none rfl) rfl rfl (f_assign rfl rfl) ?_
              refine EvK.nil ?_
              exact KE.mk (IntKind.i64.wrap (s15 + 1)) ⟨rfl, rfl, rfl, rfl, rfl, trivial⟩ hF
          · intro k16 hF
            refine WP.region ?_
            refine EvK.pure (v := .pointer r4.1) (w_none rfl) rfl rfl (f_move rfl rfl) ?_
            refine EvK.pure (v := .int .i64 s15) (w_none rfl) rfl rfl (f_move rfl rfl) ?_
            refine EvK.call (w_none rfl) rfl rfl (enterH Try.func8 rfl rfl rfl rfl (net_Net_Open.sound hF)) ?_
            rintro _ h42 ⟨r29, rfl, hF⟩
            refine EvK.pure (v := .bool (r29 != 0)) (w_none rfl) rfl rfl (f_neq rfl rfl rfl) ?_
            refine EvK.pure (v := .bool (r29 != 0)) (w_none rfl) rfl rfl (f_move rfl rfl) ?_
            rcases ite_inv hF with ⟨c20, hF⟩ | ⟨c20, hF⟩
            · refine EvK.not (w_not rfl rfl c20) rfl rfl ?_
              refine EvK.not (w_not rfl rfl c20) rfl rfl ?_
              refine EvK.not (w_not rfl rfl c20) rfl rfl ?_
              refine EvK.not (w_not rfl rfl c20) rfl rfl ?_
              refine EvK.not (w_not rfl rfl c20) rfl rfl ?_
              refine EvK.not (w_not rfl rfl c20) rfl rfl ?_
              refine EvK.not (w_not rfl rfl c20) rfl rfl ?_
              refine EvK.pure (v := .bool true) (w_none rfl) rfl rfl (f_pickT rfl rfl c20 rfl) ?_
              refine EvK.nil ?_
              exact KE.mk true ⟨rfl, rfl, rfl, rfl, rfl, rfl, trivial⟩ hF
            · refine EvK.pure (v := .pointer r4.1) (w_some rfl rfl c20) rfl rfl (f_move rfl rfl) ?_
              refine EvK.pure (v := .int .i64 s15) (w_some rfl rfl c20) rfl rfl (f_move rfl rfl) ?_
              refine EvK.pure (v := .int .i64 s15) (w_some rfl rfl c20) rfl rfl (f_move rfl rfl) ?_
              refine EvK.pure (v := .int .i64 r2) (w_some rfl rfl c20) rfl rfl (f_move rfl rfl) ?_
              refine EvK.call (w_some rfl rfl c20) rfl rfl (enterH Try.func10 rfl rfl rfl rfl (spatelaw16_bytes.sound hF)) ?_
              rintro _ h43 ⟨r30, rfl, hF⟩
              refine EvK.call (w_some rfl rfl c20) rfl rfl (enterH Try.func9 rfl rfl rfl rfl (net_Net_Send.sound hF)) ?_
              rintro _ h44 ⟨r31, rfl, hF⟩
              refine EvK.pure (v := .bool (r31 != 0)) (w_some rfl rfl c20) rfl rfl (f_neq rfl rfl rfl) ?_
              refine EvK.pure (v := .bool (r31 != 0)) (w_none rfl) rfl rfl (f_pickF rfl rfl c20 rfl) ?_
              refine EvK.nil ?_
              exact KE.mk (r31 != 0) ⟨rfl, rfl, rfl, rfl, rfl, rfl, trivial⟩ hF
        · refine WP.cond_false _ rfl c18 ?_
          refine WP.exit ?_
          exact KE.mk () ⟨rfl, rfl, rfl, rfl, trivial⟩ hF
  · intro k1 hF
    refine WP.region ?_
    refine EvK.pure (v := .int .i64 r4.2) (w_none rfl) rfl rfl (f_move rfl rfl) ?_
    refine EvK.pure (v := .bool (r4.2 != 0)) (w_none rfl) rfl rfl (f_neq rfl rfl rfl) ?_
    refine EvK.pure (v := .bool (r4.2 != 0)) (w_none rfl) rfl rfl (f_move rfl rfl) ?_
    rcases ite_inv hF with ⟨c21, hF⟩ | ⟨c21, hF⟩
    · refine EvK.not (w_not rfl rfl c21) rfl rfl ?_
      refine EvK.not (w_not rfl rfl c21) rfl rfl ?_
      refine EvK.pure (v := .bool true) (w_none rfl) rfl rfl (f_pickT rfl rfl c21 rfl) ?_
      refine EvK.nil ?_
      exact KE.mk true ⟨rfl, rfl, rfl, rfl, rfl, trivial⟩ hF
    · refine EvK.pure (v := .pointer r4.1) (w_some rfl rfl c21) rfl rfl (f_move rfl rfl) ?_
      refine EvK.pure (v := .bool r4.1.isNone) (w_some rfl rfl c21) rfl rfl (f_peqln Try.underlying23 rfl rfl rfl) ?_
      refine EvK.pure (v := .bool r4.1.isNone) (w_none rfl) rfl rfl (f_pickF rfl rfl c21 rfl) ?_
      refine EvK.nil ?_
      exact KE.mk r4.1.isNone ⟨rfl, rfl, rfl, rfl, rfl, trivial⟩ hF
end Go.Proofs.Ytbdopnhfbjdegaa

namespace Go.Proofs.Ytbdopnhfbjdegaa
open Go Go.Tr
set_option linter.unusedVariables false
set_option maxRecDepth 100000
set_option maxHeartbeats 400000
/-- spate/spateref16.New -/
def spateref16_New (a0 : Int) (a1 : Int) (h : H) (Q : ((Option Addr) × Int) → H → Prop) : Prop :=
  jn (fun (k1 : Bool → H → Prop) =>
    if (decide (a0 < 1)) = true then
      k1 true h
    else
      if (decide (a0 > 131072)) = true then
        k1 true h
      else
        if (decide (a1 < 1)) = true then
          k1 true h
        else
          k1 (decide (a1 > 131072)) h) fun s1 h1 =>
  if s1 = true then
    Q (none, 1) h1
  else
    mk k97.n 104 98 (k97.enc z97) 65 65 h1 fun x1 h2 =>
    al 83 (k82.enc (S82.mk a0 a1 x1 0)) h2 fun q1 h3 =>
    Q ((some q1), 0) h3
theorem spateref16_New.sound {a0 : Int} {a1 : Int} {h : H} {Q : ((Option Addr) × Int) → H → Prop} (hF : spateref16_New a0 a1 h Q) :
    CallsH Try.prog 20 (List.toArray (α := Value) [.int .i64 a0, .int .i64 a1]) h fun v h' => ∃ x : (Option Addr) × Int, v = .tuple #[.pointer x.1, .int .i64 x.2] ∧ Q x h' := by
  refine CallsH.of_body Try.func20 rfl 25 rfl rfl ?_
  refine WP.seq ?_
  refine WP.region ?_
  refine EvK.pure (v := .pointer none) (w_none rfl) rfl rfl (f_assign rfl rfl) ?_
  refine EvK.pure (v := .int .i64 0) (w_none rfl) rfl rfl (f_assign rfl rfl) ?_
  refine EvK.nil ?_
  refine WP.seq ?_
  refine WP.joinF (fun (s1 : Bool) => [(19, .bool s1), (0, .int .i64 a0), (1, .int .i64 a1)]) hF ?_ ?_
  · intro s1 E0 h1 hF
    rcases ite_inv hF with ⟨c1, hF⟩ | ⟨c1, hF⟩
    · refine WP.cond_true _ rfl c1 ?_
      refine WP.seq ?_
      refine WP.region ?_
      refine EvK.pure (v := .pointer none) (w_none rfl) rfl rfl (f_assign rfl rfl) ?_
      refine EvK.pure (v := .int .i64 1) (w_none rfl) rfl rfl (f_assign rfl rfl) ?_
      refine EvK.nil ?_
      refine WP.ret ?_
      exact Ret.mk (vs := [.pointer none, .int .i64 1]) (none, 1) ⟨rfl, rfl, trivial⟩ rfl hF
    · refine WP.cond_false _ rfl c1 ?_
      refine WP.skip ?_
      refine WP.seq ?_
      refine WP.region ?_
      refine EvK.pure (v := .int .i64 a0) (w_none rfl) rfl rfl (f_move rfl rfl) ?_
      refine EvK.pure (v := .int .i64 a1) (w_none rfl) rfl rfl (f_move rfl rfl) ?_
      refine EvK.alloc (w_none rfl) rfl rfl (f_makeSlice Try.underlying81 el98 rfl rfl rfl hF) ?_
      rintro _ h2 ⟨x1, rfl, hF⟩
      refine EvK.pure (v := k82.val (S82.mk a0 a1 x1 0)) (w_none rfl) rfl rfl (f_build (cells := k82.enc (S82.mk a0 a1 x1 0)) st83 rfl rfl rfl) ?_
      refine EvK.alloc (w_none rfl) rfl rfl (f_boxF (v := k82.val (S82.mk a0 a1 x1 0)) rfl rfl rfl hF) ?_
      rintro _ h3 ⟨q1, rfl, hF⟩
      refine EvK.pure (v := .pointer (some q1)) (w_none rfl) rfl rfl (f_assign rfl rfl) ?_
      refine EvK.pure (v := .int .i64 0) (w_none rfl) rfl rfl (f_assign rfl rfl) ?_
      refine EvK.nil ?_
      refine WP.ret ?_
      exact Ret.mk (vs := [.pointer (some q1), .int .i64 0]) ((some q1), 0) ⟨rfl, rfl, trivial⟩ rfl hF
  · intro k1 hF
    refine WP.region ?_
    refine EvK.pure (v := .int .i64 a0) (w_none rfl) rfl rfl (f_move rfl rfl) ?_
    refine EvK.pure (v := .bool (decide (a0 < 1))) (w_none rfl) rfl rfl (f_lss rfl rfl rfl) ?_
    refine EvK.pure (v := .bool (decide (a0 < 1))) (w_none rfl) rfl rfl (f_move rfl rfl) ?_
    rcases ite_inv hF with ⟨c2, hF⟩ | ⟨c2, hF⟩
    · refine EvK.not (w_not rfl rfl c2) rfl rfl ?_
      refine EvK.not (w_not rfl rfl c2) rfl rfl ?_
      refine EvK.pure (v := .bool true) (w_none rfl) rfl rfl (f_pickT rfl rfl c2 rfl) ?_
      refine EvK.pure (v := .bool true) (w_none rfl) rfl rfl (f_move rfl rfl) ?_
      refine EvK.not (w_not rfl rfl rfl) rfl rfl ?_
      refine EvK.not (w_not rfl rfl rfl) rfl rfl ?_
      refine EvK.pure (v := .bool true) (w_none rfl) rfl rfl (f_pickT rfl rfl rfl rfl) ?_
      refine EvK.pure (v := .bool true) (w_none rfl) rfl rfl (f_move rfl rfl) ?_
      refine EvK.not (w_not rfl rfl rfl) rfl rfl ?_
      refine EvK.not (w_not rfl rfl rfl) rfl rfl ?_
      refine EvK.pure (v := .bool true) (w_none rfl) rfl rfl (f_pickT rfl rfl rfl rfl) ?_
      refine EvK.nil ?_
      exact KE.mk true ⟨rfl, rfl, rfl, trivial⟩ hF
    · refine EvK.pure (v := .int .i64 a0) (w_some rfl rfl c2) rfl rfl (f_move rfl rfl) ?_
      refine EvK.pure (v := .bool (decide (a0 > 131072))) (w_some rfl rfl c2) rfl rfl (f_gtr rfl rfl rfl) ?_
      refine EvK.pure (v := .bool (decide (a0 > 131072))) (w_none rfl) rfl rfl (f_pickF rfl rfl c2 rfl) ?_
      refine EvK.pure (v := .bool (decide (a0 > 131072))) (w_none rfl) rfl rfl (f_move rfl rfl) ?_
      rcases ite_inv hF with ⟨c3, hF⟩ | ⟨c3, hF⟩
      · refine EvK.not (w_not rfl rfl c3) rfl rfl ?_
        refine EvK.not (w_not rfl rfl c3) rfl rfl ?_
        refine EvK.pure (v := .bool true) (w_none rfl) rfl rfl (f_pickT rfl rfl c3 rfl) ?_
        refine EvK.pure (v := .bool true) (w_none rfl) rfl rfl (f_move rfl rfl) ?_
        refine EvK.not (w_not rfl rfl rfl) rfl rfl ?_
        refine EvK.not (w_not rfl rfl rfl) rfl rfl ?_
        refine EvK.pure (v := .bool true) (w_none rfl) rfl rfl (f_pickT rfl rfl rfl rfl) ?_
        refine EvK.nil ?_
        exact KE.mk true ⟨rfl, rfl, rfl, trivial⟩ hF
      · refine EvK.pure (v := .int .i64 a1) (w_some rfl rfl c3) rfl rfl (f_move rfl rfl) ?_
        refine EvK.pure (v := .bool (decide (a1 < 1))) (w_some rfl rfl c3) rfl rfl (f_lss rfl rfl rfl) ?_
        refine EvK.pure (v := .bool (decide (a1 < 1))) (w_none rfl) rfl rfl (f_pickF rfl rfl c3 rfl) ?_
        refine EvK.pure (v := .bool (decide (a1 < 1))) (w_none rfl) rfl rfl (f_move rfl rfl) ?_
        rcases ite_inv hF with ⟨c4, hF⟩ | ⟨c4, hF⟩
        · refine EvK.not (w_not rfl rfl c4) rfl rfl ?_
          refine EvK.not (w_not rfl rfl c4) rfl rfl ?_
          refine EvK.pure (v := .bool true) (w_none rfl) rfl rfl (f_pickT rfl rfl c4 rfl) ?_
          refine EvK.nil ?_
          exact KE.mk true ⟨rfl, rfl, rfl, trivial⟩ hF
        · refine EvK.pure (v := .int .i64 a1) (w_some rfl rfl c4) rfl rfl (f_move rfl rfl) ?_
          refine EvK.pure (v := .bool (decide (a1 > 131072))) (w_some rfl rfl c4) rfl rfl (f_gtr rfl rfl rfl) ?_
          refine EvK.pure (v := .bool (decide (a1 > 131072))) (w_none rfl) rfl rfl (f_pickF rfl rfl c4 rfl) ?_
          refine EvK.nil ?_
          exact KE.mk (decide (a1 > 131072)) ⟨rfl, rfl, rfl, trivial⟩ hF
end Go.Proofs.Ytbdopnhfbjdegaa

namespace Go.Proofs.Ytbdopnhfbjdegaa
open Go Go.Tr
set_option linter.unusedVariables false
set_option maxRecDepth 100000
set_option maxHeartbeats 400000
/-- spate/spateref16.is -/
def spateref16_is (a0 : Int) (h : H) (Q : Bool → H → Prop) : Prop :=
  jn (fun (k1 : Bool → H → Prop) =>
    if (decide (a0 ≥ 1)) = true then
      k1 (decide (a0 ≤ 64)) h
    else
      k1 false h) fun s1 h1 =>
  Q s1 h1
theorem spateref16_is.sound {a0 : Int} {h : H} {Q : Bool → H → Prop} (hF : spateref16_is a0 h Q) :
    CallsH Try.prog 49 (List.toArray (α := Value) [.int .i64 a0]) h fun v h' => ∃ x : Bool, v = .bool x ∧ Q x h' := by
  refine CallsH.of_body Try.func49 rfl 9 rfl rfl ?_
  refine WP.seq ?_
  refine WP.region ?_
  refine EvK.pure (v := .bool false) (w_none rfl) rfl rfl (f_assign rfl rfl) ?_
  refine EvK.nil ?_
  refine WP.joinF (fun (s1 : Bool) => [(2, .bool s1)]) hF ?_ ?_
  · intro s1 E0 h1 hF
    refine WP.ret ?_
    exact Ret.mk (vs := [.bool s1]) s1 ⟨rfl, trivial⟩ rfl hF
  · intro k1 hF
    refine WP.region ?_
    refine EvK.pure (v := .int .i64 a0) (w_none rfl) rfl rfl (f_move rfl rfl) ?_
    refine EvK.pure (v := .bool (decide (a0 ≥ 1))) (w_none rfl) rfl rfl (f_geq rfl rfl rfl) ?_
    refine EvK.pure (v := .bool (decide (a0 ≥ 1))) (w_none rfl) rfl rfl (f_move rfl rfl) ?_
    rcases ite_inv hF with ⟨c1, hF⟩ | ⟨c1, hF⟩
    · refine EvK.pure (v := .int .i64 a0) (w_some rfl rfl c1) rfl rfl (f_move rfl rfl) ?_
      refine EvK.pure (v := .bool (decide (a0 ≤ 64))) (w_some rfl rfl c1) rfl rfl (f_leq rfl rfl rfl) ?_
      refine EvK.pure (v := .bool (decide (a0 ≤ 64))) (w_none rfl) rfl rfl (f_pickT rfl rfl c1 rfl) ?_
      refine EvK.pure (v := .bool (decide (a0 ≤ 64))) (w_none rfl) rfl rfl (f_assign rfl rfl) ?_
      refine EvK.nil ?_
      exact KE.mk (decide (a0 ≤ 64)) ⟨rfl, trivial⟩ hF
    · refine EvK.not (w_not rfl rfl c1) rfl rfl ?_
      refine EvK.not (w_not rfl rfl c1) rfl rfl ?_
      refine EvK.pure (v := .bool false) (w_none rfl) rfl rfl (f_pickF rfl rfl c1 rfl) ?_
      refine EvK.pure (v := .bool false) (w_none rfl) rfl rfl (f_assign rfl rfl) ?_
      refine EvK.nil ?_
      exact KE.mk false ⟨rfl, trivial⟩ hF
end Go.Proofs.Ytbdopnhfbjdegaa
