/- Functions as predicates over the heap, and that the code comes to them. Printed by gen.py, merged by group.py. -/
import Derived.Test.YtbdopnhfbjdegaaTy
namespace Go.Proofs.Ytbdopnhfbjdegaa
open Go Go.Tr
set_option linter.unusedVariables false
set_option maxRecDepth 100000
set_option maxHeartbeats 400000
/-- spate/spatelaw16.within -/
def spatelaw16_within (a0 : Int) (a1 : Int) (h : H) (Q : Int → H → Prop) : Prop :=
  rd (remI a0 a1) fun x1 =>
  jn (fun (k1 : Int → H → Prop) =>
    if (decide (x1 < 0)) = true then
      k1 (IntKind.i64.wrap (x1 + a1)) h
    else
      k1 x1 h) fun s1 h1 =>
  Q s1 h1
theorem spatelaw16_within.sound {a0 : Int} {a1 : Int} {h : H} {Q : Int → H → Prop} (hF : spatelaw16_within a0 a1 h Q) :
    CallsH Try.prog 6 (List.toArray (α := Value) [.int .i64 a0, .int .i64 a1]) h fun v h' => ∃ x : Int, v = .int .i64 x ∧ Q x h' := by
  refine CallsH.of_body Try.func6 rfl 15 rfl rfl ?_
  refine WP.seq ?_
  refine WP.region ?_
  refine EvK.pure (v := .int .i64 0) (w_none rfl) rfl rfl (f_assign rfl rfl) ?_
  refine EvK.nil ?_
  refine WP.seq ?_
  refine WP.region ?_
  refine EvK.pure (v := .int .i64 a0) (w_none rfl) rfl rfl (f_move rfl rfl) ?_
  refine EvK.pure (v := .int .i64 a1) (w_none rfl) rfl rfl (f_move rfl rfl) ?_
  obtain ⟨x1, hx1, hF⟩ := hF
  refine EvK.pure (v := .int .i64 x1) (w_none rfl) rfl rfl (f_rem rfl rfl rfl hx1) ?_
  refine EvK.pure (v := .int .i64 x1) (w_none rfl) rfl rfl (f_assign rfl rfl) ?_
  refine EvK.nil ?_
  refine WP.joinF (fun (s1 : Int) => [(5, .int .i64 s1)]) hF ?_ ?_
  · intro s1 E0 h1 hF
    refine WP.seq ?_
    refine WP.region ?_
    refine EvK.pure (v := .int .i64 s1) (w_none rfl) rfl rfl (f_move rfl rfl) ?_
    refine EvK.pure (v := .int .i64 s1) (w_none rfl) rfl rfl (f_assign rfl rfl) ?_
    refine EvK.nil ?_
    refine WP.ret ?_
    exact Ret.mk (vs := [.int .i64 s1]) s1 ⟨rfl, trivial⟩ rfl hF
  · intro k1 hF
    refine WP.seq ?_
    refine WP.region ?_
    refine EvK.pure (v := .int .i64 x1) (w_none rfl) rfl rfl (f_move rfl rfl) ?_
    refine EvK.pure (v := .bool (decide (x1 < 0))) (w_none rfl) rfl rfl (f_lss rfl rfl rfl) ?_
    refine EvK.nil ?_
    rcases ite_inv hF with ⟨c1, hF⟩ | ⟨c1, hF⟩
    · refine WP.cond_true _ rfl c1 ?_
      refine WP.region ?_
      refine EvK.pure (v := .int .i64 x1) (w_none rfl) rfl rfl (f_move rfl rfl) ?_
      refine EvK.pure (v := .int .i64 a1) (w_none rfl) rfl rfl (f_move rfl rfl) ?_
      refine EvK.pure (v := .int .i64 (IntKind.i64.wrap (x1 + a1))) (w_none rfl) rfl rfl (f_add rfl rfl rfl) ?_
      refine EvK.pure (v := .int .i64 (IntKind.i64.wrap (x1 + a1))) (w_none rfl) rfl rfl (f_assign rfl rfl) ?_
      refine EvK.nil ?_
      exact KE.mk (IntKind.i64.wrap (x1 + a1)) ⟨rfl, trivial⟩ hF
    · refine WP.cond_false _ rfl c1 ?_
      refine WP.skip ?_
      exact KE.mk x1 ⟨rfl, trivial⟩ hF
end Go.Proofs.Ytbdopnhfbjdegaa

namespace Go.Proofs.Ytbdopnhfbjdegaa
open Go Go.Tr
set_option linter.unusedVariables false
set_option maxRecDepth 100000
set_option maxHeartbeats 400000
/-- spate/net.New -/
def net_New (a0 : Int) (a1 : Int) (h : H) (Q : ((Option Addr) × Int) → H → Prop) : Prop :=
  jn (fun (k1 : Bool → H → Prop) =>
    if (decide (a0 < 1)) = true then
      k1 true h
    else
      if (decide (a0 > 131072)) = true then
        k1 true h
      else
        if (decide (a1 < 1)) = true then
          k1 true h
        else
          k1 (decide (a1 > 131072)) h) fun s1 h1 =>
  if s1 = true then
    Q (none, 1) h1
  else
    al 67 (k66.enc (S66.mk a0 a1 (Ar.rep 65 none) z64)) h1 fun q1 h2 =>
    Q ((some q1), 0) h2
theorem net_New.sound {a0 : Int} {a1 : Int} {h : H} {Q : ((Option Addr) × Int) → H → Prop} (hF : net_New a0 a1 h Q) :
    CallsH Try.prog 7 (List.toArray (α := Value) [.int .i64 a0, .int .i64 a1]) h fun v h' => ∃ x : (Option Addr) × Int, v = .tuple #[.pointer x.1, .int .i64 x.2] ∧ Q x h' := by
  refine CallsH.of_body Try.func7 rfl 24 rfl rfl ?_
  refine WP.seq ?_
  refine WP.region ?_
  refine EvK.pure (v := .pointer none) (w_none rfl) rfl rfl (f_assign rfl rfl) ?_
  refine EvK.pure (v := .int .i64 0) (w_none rfl) rfl rfl (f_assign rfl rfl) ?_
  refine EvK.nil ?_
  refine WP.seq ?_
  refine WP.joinF (fun (s1 : Bool) => [(19, .bool s1), (0, .int .i64 a0), (1, .int .i64 a1)]) hF ?_ ?_
  · intro s1 E0 h1 hF
    rcases ite_inv hF with ⟨c1, hF⟩ | ⟨c1, hF⟩
    · refine WP.cond_true _ rfl c1 ?_
      refine WP.seq ?_
      refine WP.region ?_
      refine EvK.pure (v := .pointer none) (w_none rfl) rfl rfl (f_assign rfl rfl) ?_
      refine EvK.pure (v := .int .i64 1) (w_none rfl) rfl rfl (f_assign rfl rfl) ?_
      refine EvK.nil ?_
      refine WP.ret ?_
      exact Ret.mk (vs := [.pointer none, .int .i64 1]) (none, 1) ⟨rfl, rfl, trivial⟩ rfl hF
    · refine WP.cond_false _ rfl c1 ?_
      refine WP.skip ?_
      refine WP.seq ?_
      refine WP.region ?_
      refine EvK.pure (v := .int .i64 a0) (w_none rfl) rfl rfl (f_move rfl rfl) ?_
      refine EvK.pure (v := .int .i64 a1) (w_none rfl) rfl rfl (f_move rfl rfl) ?_
      refine EvK.pure (v := k66.val (S66.mk a0 a1 (Ar.rep 65 none) z64)) (w_none rfl) rfl rfl (f_build (cells := k66.enc (S66.mk a0 a1 (Ar.rep 65 none) z64)) st67 rfl rfl rfl) ?_
      refine EvK.alloc (w_none rfl) rfl rfl (f_boxF (v := k66.val (S66.mk a0 a1 (Ar.rep 65 none) z64)) rfl rfl rfl hF) ?_
      rintro _ h2 ⟨q1, rfl, hF⟩
      refine EvK.pure (v := .pointer (some q1)) (w_none rfl) rfl rfl (f_assign rfl rfl) ?_
      refine EvK.pure (v := .int .i64 0) (w_none rfl) rfl rfl (f_assign rfl rfl) ?_
      refine EvK.nil ?_
      refine WP.ret ?_
      exact Ret.mk (vs := [.pointer (some q1), .int .i64 0]) ((some q1), 0) ⟨rfl, rfl, trivial⟩ rfl hF
  · intro k1 hF
    refine WP.region ?_
    refine EvK.pure (v := .int .i64 a0) (w_none rfl) rfl rfl (f_move rfl rfl) ?_
    refine EvK.pure (v := .bool (decide (a0 < 1))) (w_none rfl) rfl rfl (f_lss rfl rfl rfl) ?_
    refine EvK.pure (v := .bool (decide (a0 < 1))) (w_none rfl) rfl rfl (f_move rfl rfl) ?_
    rcases ite_inv hF with ⟨c2, hF⟩ | ⟨c2, hF⟩
    · refine EvK.not (w_not rfl rfl c2) rfl rfl ?_
      refine EvK.not (w_not rfl rfl c2) rfl rfl ?_
      refine EvK.pure (v := .bool true) (w_none rfl) rfl rfl (f_pickT rfl rfl c2 rfl) ?_
      refine EvK.pure (v := .bool true) (w_none rfl) rfl rfl (f_move rfl rfl) ?_
      refine EvK.not (w_not rfl rfl rfl) rfl rfl ?_
      refine EvK.not (w_not rfl rfl rfl) rfl rfl ?_
      refine EvK.pure (v := .bool true) (w_none rfl) rfl rfl (f_pickT rfl rfl rfl rfl) ?_
      refine EvK.pure (v := .bool true) (w_none rfl) rfl rfl (f_move rfl rfl) ?_
      refine EvK.not (w_not rfl rfl rfl) rfl rfl ?_
      refine EvK.not (w_not rfl rfl rfl) rfl rfl ?_
      refine EvK.pure (v := .bool true) (w_none rfl) rfl rfl (f_pickT rfl rfl rfl rfl) ?_
      refine EvK.nil ?_
      exact KE.mk true ⟨rfl, rfl, rfl, trivial⟩ hF
    · refine EvK.pure (v := .int .i64 a0) (w_some rfl rfl c2) rfl rfl (f_move rfl rfl) ?_
      refine EvK.pure (v := .bool (decide (a0 > 131072))) (w_some rfl rfl c2) rfl rfl (f_gtr rfl rfl rfl) ?_
      refine EvK.pure (v := .bool (decide (a0 > 131072))) (w_none rfl) rfl rfl (f_pickF rfl rfl c2 rfl) ?_
      refine EvK.pure (v := .bool (decide (a0 > 131072))) (w_none rfl) rfl rfl (f_move rfl rfl) ?_
      rcases ite_inv hF with ⟨c3, hF⟩ | ⟨c3, hF⟩
      · refine EvK.not (w_not rfl rfl c3) rfl rfl ?_
        refine EvK.not (w_not rfl rfl c3) rfl rfl ?_
        refine EvK.pure (v := .bool true) (w_none rfl) rfl rfl (f_pickT rfl rfl c3 rfl) ?_
        refine EvK.pure (v := .bool true) (w_none rfl) rfl rfl (f_move rfl rfl) ?_
        refine EvK.not (w_not rfl rfl rfl) rfl rfl ?_
        refine EvK.not (w_not rfl rfl rfl) rfl rfl ?_
        refine EvK.pure (v := .bool true) (w_none rfl) rfl rfl (f_pickT rfl rfl rfl rfl) ?_
        refine EvK.nil ?_
        exact KE.mk true ⟨rfl, rfl, rfl, trivial⟩ hF
      · refine EvK.pure (v := .int .i64 a1) (w_some rfl rfl c3) rfl rfl (f_move rfl rfl) ?_
        refine EvK.pure (v := .bool (decide (a1 < 1))) (w_some rfl rfl c3) rfl rfl (f_lss rfl rfl rfl) ?_
        refine EvK.pure (v := .bool (decide (a1 < 1))) (w_none rfl) rfl rfl (f_pickF rfl rfl c3 rfl) ?_
        refine EvK.pure (v := .bool (decide (a1 < 1))) (w_none rfl) rfl rfl (f_move rfl rfl) ?_
        rcases ite_inv hF with ⟨c4, hF⟩ | ⟨c4, hF⟩
        · refine EvK.not (w_not rfl rfl c4) rfl rfl ?_
          refine EvK.not (w_not rfl rfl c4) rfl rfl ?_
          refine EvK.pure (v := .bool true) (w_none rfl) rfl rfl (f_pickT rfl rfl c4 rfl) ?_
          refine EvK.nil ?_
          exact KE.mk true ⟨rfl, rfl, rfl, trivial⟩ hF
        · refine EvK.pure (v := .int .i64 a1) (w_some rfl rfl c4) rfl rfl (f_move rfl rfl) ?_
          refine EvK.pure (v := .bool (decide (a1 > 131072))) (w_some rfl rfl c4) rfl rfl (f_gtr rfl rfl rfl) ?_
          refine EvK.pure (v := .bool (decide (a1 > 131072))) (w_none rfl) rfl rfl (f_pickF rfl rfl c4 rfl) ?_
          refine EvK.nil ?_
          exact KE.mk (decide (a1 > 131072)) ⟨rfl, rfl, rfl, trivial⟩ hF
end Go.Proofs.Ytbdopnhfbjdegaa

namespace Go.Proofs.Ytbdopnhfbjdegaa
open Go Go.Tr
set_option linter.unusedVariables false
set_option maxRecDepth 100000
set_option maxHeartbeats 400000
/-- (*spate/net.Net).get -/
def net_Net_get (a0 : Option Addr) (a1 : Int) (h : H) (Q : ((Option Addr) × Int) → H → Prop) : Prop :=
  jn (fun (k1 : Bool → H → Prop) =>
    if (decide (a1 < 1)) = true then
      k1 true h
    else
      k1 (decide (a1 > 64)) h) fun s1 h1 =>
  if s1 = true then
    Q (none, 1) h1
  else
    rd a0 fun q1 =>
    rd (ixR 65 1 (q1.add 2) a1) fun q2 =>
    rd (ld kP q2 h1) fun x1 =>
    if x1.isNone = true then
      Q (none, 44) h1
    else
      rd a0 fun q3 =>
      rd (ixR 65 1 (q3.add 2) a1) fun q4 =>
      rd (ld kP q4 h1) fun x2 =>
      Q (x2, 0) h1
theorem net_Net_get.sound {a0 : Option Addr} {a1 : Int} {h : H} {Q : ((Option Addr) × Int) → H → Prop} (hF : net_Net_get a0 a1 h Q) :
    CallsH Try.prog 26 (List.toArray (α := Value) [.pointer a0, .int .i64 a1]) h fun v h' => ∃ x : (Option Addr) × Int, v = .tuple #[.pointer x.1, .int .i64 x.2] ∧ Q x h' := by
  refine CallsH.of_body Try.func26 rfl 25 rfl rfl ?_
  refine WP.seq ?_
  refine WP.region ?_
  refine EvK.pure (v := .pointer none) (w_none rfl) rfl rfl (f_assign rfl rfl) ?_
  refine EvK.pure (v := .int .i64 0) (w_none rfl) rfl rfl (f_assign rfl rfl) ?_
  refine EvK.nil ?_
  refine WP.seq ?_
  refine WP.joinF (fun (s1 : Bool) => [(11, .bool s1), (0, .pointer a0), (1, .int .i64 a1)]) hF ?_ ?_
  · intro s1 E0 h1 hF
    rcases ite_inv hF with ⟨c1, hF⟩ | ⟨c1, hF⟩
    · refine WP.cond_true _ rfl c1 ?_
      refine WP.seq ?_
      refine WP.region ?_
      refine EvK.pure (v := .pointer none) (w_none rfl) rfl rfl (f_assign rfl rfl) ?_
      refine EvK.pure (v := .int .i64 1) (w_none rfl) rfl rfl (f_assign rfl rfl) ?_
      refine EvK.nil ?_
      refine WP.ret ?_
      exact Ret.mk (vs := [.pointer none, .int .i64 1]) (none, 1) ⟨rfl, rfl, trivial⟩ rfl hF
    · refine WP.cond_false _ rfl c1 ?_
      refine WP.skip ?_
      refine WP.seq ?_
      refine WP.seq ?_
      refine WP.region ?_
      refine EvK.pure (v := .pointer a0) (w_none rfl) rfl rfl (f_move rfl rfl) ?_
      refine EvK.pure (v := .int .i64 a1) (w_none rfl) rfl rfl (f_move rfl rfl) ?_
      obtain ⟨q1, hq1, hF⟩ := hF
      refine EvK.pure (v := .pointer (some q1)) (w_none rfl) rfl rfl (f_nilCheck rfl (congrArg Value.pointer hq1)) ?_
      refine EvK.pure (v := .pointer (some (q1.add 2))) (w_none rfl) rfl rfl (f_fieldAddr fd67_2 rfl rfl) ?_
      obtain ⟨q2, hq2, hF⟩ := hF
      refine EvK.pure (v := .pointer (some q2)) (w_none rfl) rfl rfl (f_indexAddrR Try.underlying60 ty59.size rfl rfl rfl hq2) ?_
      obtain ⟨x1, hx1, hF⟩ := hF
      refine EvK.read (v := .pointer x1) (w_none rfl) rfl rfl (f_load kP ty59 rfl rfl hx1 rfl) ?_
      refine EvK.pure (v := .bool x1.isNone) (w_none rfl) rfl rfl (f_peqln Try.underlying59 rfl rfl rfl) ?_
      refine EvK.nil ?_
      rcases ite_inv hF with ⟨c2, hF⟩ | ⟨c2, hF⟩
      · refine WP.cond_true _ rfl c2 ?_
        refine WP.seq ?_
        refine WP.region ?_
        refine EvK.pure (v := .pointer none) (w_none rfl) rfl rfl (f_assign rfl rfl) ?_
        refine EvK.pure (v := .int .i64 44) (w_none rfl) rfl rfl (f_assign rfl rfl) ?_
        refine EvK.nil ?_
        refine WP.ret ?_
        exact Ret.mk (vs := [.pointer none, .int .i64 44]) (none, 44) ⟨rfl, rfl, trivial⟩ rfl hF
      · refine WP.cond_false _ rfl c2 ?_
        refine WP.skip ?_
        refine WP.seq ?_
        refine WP.region ?_
        refine EvK.pure (v := .pointer a0) (w_none rfl) rfl rfl (f_move rfl rfl) ?_
        refine EvK.pure (v := .int .i64 a1) (w_none rfl) rfl rfl (f_move rfl rfl) ?_
        obtain ⟨q3, hq3, hF⟩ := hF
        refine EvK.pure (v := .pointer (some q3)) (w_none rfl) rfl rfl (f_nilCheck rfl (congrArg Value.pointer hq3)) ?_
        refine EvK.pure (v := .pointer (some (q3.add 2))) (w_none rfl) rfl rfl (f_fieldAddr fd67_2 rfl rfl) ?_
        obtain ⟨q4, hq4, hF⟩ := hF
        refine EvK.pure (v := .pointer (some q4)) (w_none rfl) rfl rfl (f_indexAddrR Try.underlying60 ty59.size rfl rfl rfl hq4) ?_
        obtain ⟨x2, hx2, hF⟩ := hF
        refine EvK.read (v := .pointer x2) (w_none rfl) rfl rfl (f_load kP ty59 rfl rfl hx2 rfl) ?_
        refine EvK.pure (v := .pointer x2) (w_none rfl) rfl rfl (f_assign rfl rfl) ?_
        refine EvK.pure (v := .int .i64 0) (w_none rfl) rfl rfl (f_assign rfl rfl) ?_
        refine EvK.nil ?_
        refine WP.ret ?_
        exact Ret.mk (vs := [.pointer x2, .int .i64 0]) (x2, 0) ⟨rfl, rfl, trivial⟩ rfl hF
  · intro k1 hF
    refine WP.region ?_
    refine EvK.pure (v := .int .i64 a1) (w_none rfl) rfl rfl (f_move rfl rfl) ?_
    refine EvK.pure (v := .bool (decide (a1 < 1))) (w_none rfl) rfl rfl (f_lss rfl rfl rfl) ?_
    refine EvK.pure (v := .bool (decide (a1 < 1))) (w_none rfl) rfl rfl (f_move rfl rfl) ?_
    rcases ite_inv hF with ⟨c3, hF⟩ | ⟨c3, hF⟩
    · refine EvK.not (w_not rfl rfl c3) rfl rfl ?_
      refine EvK.not (w_not rfl rfl c3) rfl rfl ?_
      refine EvK.pure (v := .bool true) (w_none rfl) rfl rfl (f_pickT rfl rfl c3 rfl) ?_
      refine EvK.nil ?_
      exact KE.mk true ⟨rfl, rfl, rfl, trivial⟩ hF
    · refine EvK.pure (v := .int .i64 a1) (w_some rfl rfl c3) rfl rfl (f_move rfl rfl) ?_
      refine EvK.pure (v := .bool (decide (a1 > 64))) (w_some rfl rfl c3) rfl rfl (f_gtr rfl rfl rfl) ?_
      refine EvK.pure (v := .bool (decide (a1 > 64))) (w_none rfl) rfl rfl (f_pickF rfl rfl c3 rfl) ?_
      refine EvK.nil ?_
      exact KE.mk (decide (a1 > 64)) ⟨rfl, rfl, rfl, trivial⟩ hF
end Go.Proofs.Ytbdopnhfbjdegaa

namespace Go.Proofs.Ytbdopnhfbjdegaa
open Go Go.Tr
set_option linter.unusedVariables false
set_option maxRecDepth 100000
set_option maxHeartbeats 400000
/-- (*spate/net.Net).Open -/
def net_Net_Open (a0 : Option Addr) (a1 : Int) (h : H) (Q : Int → H → Prop) : Prop :=
  net_Net_get a0 a1 h fun r1 h1 =>
  if (r1.2 == 1) = true then
    Q r1.2 h1
  else
    if (r1.2 == 0) = true then
      Q 43 h1
    else
      rd a0 fun q1 =>
      rd (ld (kI .i64) (q1.add 0) h1) fun x1 =>
      rd a0 fun q2 =>
      rd (ld (kI .i64) (q2.add 1) h1) fun x2 =>
      rd a0 fun q3 =>
      al 75 (k74.enc (S74.mk (S72.mk (S70.mk Sl.nil (-1)) (S70.mk Sl.nil x1)) (S70.mk Sl.nil x2) Sl.nil false false)) h1 fun q4 h2 =>
      rd (ixR 65 1 (q3.add 2) a1) fun q5 =>
      rd (st kP q5 (some q4) h2) fun h3 =>
      Q 0 h3
theorem net_Net_Open.sound {a0 : Option Addr} {a1 : Int} {h : H} {Q : Int → H → Prop} (hF : net_Net_Open a0 a1 h Q) :
    CallsH Try.prog 8 (List.toArray (α := Value) [.pointer a0, .int .i64 a1]) h fun v h' => ∃ x : Int, v = .int .i64 x ∧ Q x h' := by
  refine CallsH.of_body Try.func8 rfl 38 rfl rfl ?_
  refine WP.seq ?_
  refine WP.region ?_
  refine EvK.pure (v := .int .i64 0) (w_none rfl) rfl rfl (f_assign rfl rfl) ?_
  refine EvK.nil ?_
  refine WP.seq ?_
  refine WP.seq ?_
  refine WP.region ?_
  refine EvK.pure (v := .pointer a0) (w_none rfl) rfl rfl (f_move rfl rfl) ?_
  refine EvK.pure (v := .int .i64 a1) (w_none rfl) rfl rfl (f_move rfl rfl) ?_
  refine EvK.call (w_none rfl) rfl rfl (enterH Try.func26 rfl rfl rfl rfl (net_Net_get.sound hF)) ?_
  rintro _ h1 ⟨r1, rfl, hF⟩
  refine EvK.pure (v := .tuple #[.pointer r1.1, .int .i64 r1.2]) (w_none rfl) rfl rfl (f_move rfl rfl) ?_
  refine EvK.pure (v := .pointer r1.1) (w_none rfl) rfl rfl (f_extract (vs := #[.pointer r1.1, .int .i64 r1.2]) rfl rfl rfl) ?_
  refine EvK.pure (v := .int .i64 r1.2) (w_none rfl) rfl rfl (f_extract (vs := #[.pointer r1.1, .int .i64 r1.2]) rfl rfl rfl) ?_
  refine EvK.pure (v := .pointer r1.1) (w_none rfl) rfl rfl (f_assign rfl rfl) ?_
  refine EvK.pure (v := .int .i64 r1.2) (w_none rfl) rfl rfl (f_assign rfl rfl) ?_
  refine EvK.nil ?_
  refine WP.seq ?_
  refine WP.region ?_
  refine EvK.pure (v := .int .i64 r1.2) (w_none rfl) rfl rfl (f_move rfl rfl) ?_
  refine EvK.nil ?_
  refine WP.block ?_
  refine WP.seq ?_
  refine WP.region ?_
  refine EvK.pure (v := .bool (r1.2 == 1)) (w_none rfl) rfl rfl (f_eql rfl rfl rfl) ?_
  refine EvK.pure (v := .bool (r1.2 == 1)) (w_none rfl) rfl rfl (f_assign rfl rfl) ?_
  refine EvK.nil ?_
  rcases ite_inv hF with ⟨c1, hF⟩ | ⟨c1, hF⟩
  · refine WP.cond_true _ rfl c1 ?_
    refine WP.seq ?_
    refine WP.region ?_
    refine EvK.pure (v := .int .i64 r1.2) (w_none rfl) rfl rfl (f_move rfl rfl) ?_
    refine EvK.pure (v := .int .i64 r1.2) (w_none rfl) rfl rfl (f_assign rfl rfl) ?_
    refine EvK.nil ?_
    refine WP.ret ?_
    exact Ret.mk (vs := [.int .i64 r1.2]) r1.2 ⟨rfl, trivial⟩ rfl hF
  · refine WP.cond_false _ rfl c1 ?_
    refine WP.seq ?_
    refine WP.region ?_
    refine EvK.pure (v := .bool (r1.2 == 0)) (w_none rfl) rfl rfl (f_eql rfl rfl rfl) ?_
    refine EvK.pure (v := .bool (r1.2 == 0)) (w_none rfl) rfl rfl (f_assign rfl rfl) ?_
    refine EvK.nil ?_
    rcases ite_inv hF with ⟨c2, hF⟩ | ⟨c2, hF⟩
    · refine WP.cond_true _ rfl c2 ?_
      refine WP.seq ?_
      refine WP.region ?_
      refine EvK.pure (v := .int .i64 43) (w_none rfl) rfl rfl (f_assign rfl rfl) ?_
      refine EvK.nil ?_
      refine WP.ret ?_
      exact Ret.mk (vs := [.int .i64 43]) 43 ⟨rfl, trivial⟩ rfl hF
    · refine WP.cond_false _ rfl c2 ?_
      refine WP.skip ?_
      refine WP.seq ?_
      refine WP.draw mixed [.pure, .pure, .pure, .pure, .pure, .pure, .read, .pure, .pure, .pure, .pure, .pure, .read, .pure, .pure, .alloc, .pure, .pure, .pure, .eff []] [[], [], [], [], [3], [3, 4], [3, 4, 5], [3, 4, 5, 6], [2, 3, 4, 5, 6, 7], [], [9], [9, 10], [9, 10, 11], [9, 10, 11, 12], [2, 3, 4, 5, 6, 7, 8, 9, 10, 11, 12, 13], [2, 3, 4, 5, 6, 7, 8, 9, 10, 11, 12, 13, 14], [0], [0, 16], [0, 1, 2, 3, 4, 5, 6, 7, 8, 9, 10, 11, 12, 13, 14, 15, 16, 17], [0, 1, 2, 3, 4, 5, 6, 7, 8, 9, 10, 11, 12, 13, 14, 15, 16, 17, 18]] [0, 1, 2, 3, 4, 5, 6, 7, 8, 9, 10, 11, 12, 13, 14, 16, 17, 15, 18, 19] (by kernel_rfl) (by kernel_rfl) ?_
      refine EvI.pure (v := .pointer a0) rfl rfl (w_none rfl) rfl (f_move rfl rfl) ?_
      refine EvI.pure (v := .int .i64 a1) rfl rfl (w_none rfl) rfl (f_move rfl rfl) ?_
      refine EvI.pure (v := k70.val (S70.mk Sl.nil (-1))) rfl rfl (w_none rfl) rfl (f_build (cells := k70.enc (S70.mk Sl.nil (-1))) st71 rfl rfl rfl) ?_
      refine EvI.pure (v := .pointer a0) rfl rfl (w_none rfl) rfl (f_move rfl rfl) ?_
      obtain ⟨q1, hq1, hF⟩ := hF
      refine EvI.pure (v := .pointer (some q1)) rfl rfl (w_none rfl) rfl (f_nilCheck rfl (congrArg Value.pointer hq1)) ?_
      refine EvI.pure (v := .pointer (some (q1.add 0))) rfl rfl (w_none rfl) rfl (f_fieldAddr fd67_0 rfl rfl) ?_
      obtain ⟨x1, hx1, hF⟩ := hF
      refine EvI.read (v := .int .i64 x1) rfl rfl (w_none rfl) rfl (f_load (kI .i64) ty3 rfl rfl hx1 rfl) ?_
      refine EvI.pure (v := k70.val (S70.mk Sl.nil x1)) rfl rfl (w_none rfl) rfl (f_build (cells := k70.enc (S70.mk Sl.nil x1)) st71 rfl rfl rfl) ?_
      refine EvI.pure (v := k72.val (S72.mk (S70.mk Sl.nil (-1)) (S70.mk Sl.nil x1))) rfl rfl (w_none rfl) rfl (f_build (cells := k72.enc (S72.mk (S70.mk Sl.nil (-1)) (S70.mk Sl.nil x1))) st73 rfl rfl rfl) ?_
      refine EvI.pure (v := .pointer a0) rfl rfl (w_none rfl) rfl (f_move rfl rfl) ?_
      obtain ⟨q2, hq2, hF⟩ := hF
      refine EvI.pure (v := .pointer (some q2)) rfl rfl (w_none rfl) rfl (f_nilCheck rfl (congrArg Value.pointer hq2)) ?_
      refine EvI.pure (v := .pointer (some (q2.add 1))) rfl rfl (w_none rfl) rfl (f_fieldAddr fd67_1 rfl rfl) ?_
      obtain ⟨x2, hx2, hF⟩ := hF
      refine EvI.read (v := .int .i64 x2) rfl rfl (w_none rfl) rfl (f_load (kI .i64) ty3 rfl rfl hx2 rfl) ?_
      refine EvI.pure (v := k70.val (S70.mk Sl.nil x2)) rfl rfl (w_none rfl) rfl (f_build (cells := k70.enc (S70.mk Sl.nil x2)) st71 rfl rfl rfl) ?_
      refine EvI.pure (v := k74.val (S74.mk (S72.mk (S70.mk Sl.nil (-1)) (S70.mk Sl.nil x1)) (S70.mk Sl.nil x2) Sl.nil false false)) rfl rfl (w_none rfl) rfl (f_build (cells := k74.enc (S74.mk (S72.mk (S70.mk Sl.nil (-1)) (S70.mk Sl.nil x1)) (S70.mk Sl.nil x2) Sl.nil false false)) st75 rfl rfl rfl) ?_
      obtain ⟨q3, hq3, hF⟩ := hF
      refine EvI.pure (v := .pointer (some q3)) rfl rfl (w_none rfl) rfl (f_nilCheck rfl (congrArg Value.pointer hq3)) ?_
      refine EvI.pure (v := .pointer (some (q3.add 2))) rfl rfl (w_none rfl) rfl (f_fieldAddr fd67_2 rfl rfl) ?_
      refine EvI.alloc rfl rfl (w_none rfl) rfl (f_boxF (v := k74.val (S74.mk (S72.mk (S70.mk Sl.nil (-1)) (S70.mk Sl.nil x1)) (S70.mk Sl.nil x2) Sl.nil false false)) rfl rfl rfl hF) ?_
      rintro _ h2 ⟨q4, rfl, hF⟩
      obtain ⟨q5, hq4, hF⟩ := hF
      refine EvI.pure (v := .pointer (some q5)) rfl rfl (w_none rfl) rfl (f_indexAddrR Try.underlying60 ty59.size rfl rfl rfl hq4) ?_
      obtain ⟨h3, hs1, hF⟩ := hF
      refine EvI.runN rfl rfl (w_none rfl) rfl (f_store kP ty59.size (z := (some q4)) rfl rfl rfl hs1) ?_
      rintro _ _ ⟨rfl, rfl⟩
      refine ⟨⟨chk_no rfl, chk_no rfl, trivial⟩, ?_⟩
      refine EvI.nil ?_
      refine WP.seq ?_
      refine WP.region ?_
      refine EvK.pure (v := .int .i64 0) (w_none rfl) rfl rfl (f_assign rfl rfl) ?_
      refine EvK.nil ?_
      refine WP.ret ?_
      exact Ret.mk (vs := [.int .i64 0]) 0 ⟨rfl, trivial⟩ rfl hF
end Go.Proofs.Ytbdopnhfbjdegaa

namespace Go.Proofs.Ytbdopnhfbjdegaa
open Go Go.Tr
set_option linter.unusedVariables false
set_option maxRecDepth 100000
set_option maxHeartbeats 400000
/-- (*spate/net.Net).live -/
def net_Net_live (a0 : Option Addr) (a1 : Int) (h : H) (Q : ((Option Addr) × Int) → H → Prop) : Prop :=
  net_Net_get a0 a1 h fun r1 h1 =>
  if (r1.2 != 0) = true then
    Q (none, r1.2) h1
  else
    jn (fun (k1 : Bool → H → Prop) =>
      rd r1.1 fun q1 =>
      rd (ld kB (q1.add 8) h1) fun x1 =>
      if x1 = true then
        k1 true h1
      else
        rd r1.1 fun q2 =>
        rd (ld kB (q2.add 7) h1) fun x2 =>
        k1 x2 h1) fun s1 h2 =>
    if s1 = true then
      Q (none, 44) h2
    else
      Q (r1.1, 0) h2
theorem net_Net_live.sound {a0 : Option Addr} {a1 : Int} {h : H} {Q : ((Option Addr) × Int) → H → Prop} (hF : net_Net_live a0 a1 h Q) :
    CallsH Try.prog 27 (List.toArray (α := Value) [.pointer a0, .int .i64 a1]) h fun v h' => ∃ x : (Option Addr) × Int, v = .tuple #[.pointer x.1, .int .i64 x.2] ∧ Q x h' := by
  refine CallsH.of_body Try.func27 rfl 28 rfl rfl ?_
  refine WP.seq ?_
  refine WP.region ?_
  refine EvK.pure (v := .pointer none) (w_none rfl) rfl rfl (f_assign rfl rfl) ?_
  refine EvK.pure (v := .int .i64 0) (w_none rfl) rfl rfl (f_assign rfl rfl) ?_
  refine EvK.nil ?_
  refine WP.seq ?_
  refine WP.region ?_
  refine EvK.pure (v := .pointer a0) (w_none rfl) rfl rfl (f_move rfl rfl) ?_
  refine EvK.pure (v := .int .i64 a1) (w_none rfl) rfl rfl (f_move rfl rfl) ?_
  refine EvK.call (w_none rfl) rfl rfl (enterH Try.func26 rfl rfl rfl rfl (net_Net_get.sound hF)) ?_
  rintro _ h1 ⟨r1, rfl, hF⟩
  refine EvK.pure (v := .tuple #[.pointer r1.1, .int .i64 r1.2]) (w_none rfl) rfl rfl (f_move rfl rfl) ?_
  refine EvK.pure (v := .pointer r1.1) (w_none rfl) rfl rfl (f_extract (vs := #[.pointer r1.1, .int .i64 r1.2]) rfl rfl rfl) ?_
  refine EvK.pure (v := .int .i64 r1.2) (w_none rfl) rfl rfl (f_extract (vs := #[.pointer r1.1, .int .i64 r1.2]) rfl rfl rfl) ?_
  refine EvK.pure (v := .pointer r1.1) (w_none rfl) rfl rfl (f_assign rfl rfl) ?_
  refine EvK.pure (v := .int .i64 r1.2) (w_none rfl) rfl rfl (f_assign rfl rfl) ?_
  refine EvK.nil ?_
  refine WP.seq ?_
  refine WP.seq ?_
  refine WP.region ?_
  refine EvK.pure (v := .int .i64 r1.2) (w_none rfl) rfl rfl (f_move rfl rfl) ?_
  refine EvK.pure (v := .bool (r1.2 != 0)) (w_none rfl) rfl rfl (f_neq rfl rfl rfl) ?_
  refine EvK.nil ?_
  rcases ite_inv hF with ⟨c1, hF⟩ | ⟨c1, hF⟩
  · refine WP.cond_true _ rfl c1 ?_
    refine WP.seq ?_
    refine WP.region ?_
    refine EvK.pure (v := .int .i64 r1.2) (w_none rfl) rfl rfl (f_move rfl rfl) ?_
    refine EvK.pure (v := .pointer none) (w_none rfl) rfl rfl (f_assign rfl rfl) ?_
    refine EvK.pure (v := .int .i64 r1.2) (w_none rfl) rfl rfl (f_assign rfl rfl) ?_
    refine EvK.nil ?_
    refine WP.ret ?_
    exact Ret.mk (vs := [.pointer none, .int .i64 r1.2]) (none, r1.2) ⟨rfl, rfl, trivial⟩ rfl hF
  · refine WP.cond_false _ rfl c1 ?_
    refine WP.skip ?_
    refine WP.seq ?_
    refine WP.joinF (fun (s1 : Bool) => [(26, .bool s1), (6, .pointer r1.1)]) hF ?_ ?_
    · intro s1 E0 h2 hF
      rcases ite_inv hF with ⟨c2, hF⟩ | ⟨c2, hF⟩
      · refine WP.cond_true _ rfl c2 ?_
        refine WP.seq ?_
        refine WP.region ?_
        refine EvK.pure (v := .pointer none) (w_none rfl) rfl rfl (f_assign rfl rfl) ?_
        refine EvK.pure (v := .int .i64 44) (w_none rfl) rfl rfl (f_assign rfl rfl) ?_
        refine EvK.nil ?_
        refine WP.ret ?_
        exact Ret.mk (vs := [.pointer none, .int .i64 44]) (none, 44) ⟨rfl, rfl, trivial⟩ rfl hF
      · refine WP.cond_false _ rfl c2 ?_
        refine WP.skip ?_
        refine WP.seq ?_
        refine WP.region ?_
        refine EvK.pure (v := .pointer r1.1) (w_none rfl) rfl rfl (f_move rfl rfl) ?_
        refine EvK.pure (v := .pointer r1.1) (w_none rfl) rfl rfl (f_assign rfl rfl) ?_
        refine EvK.pure (v := .int .i64 0) (w_none rfl) rfl rfl (f_assign rfl rfl) ?_
        refine EvK.nil ?_
        refine WP.ret ?_
        exact Ret.mk (vs := [.pointer r1.1, .int .i64 0]) (r1.1, 0) ⟨rfl, rfl, trivial⟩ rfl hF
    · intro k1 hF
      refine WP.region ?_
      refine EvK.pure (v := .pointer r1.1) (w_none rfl) rfl rfl (f_move rfl rfl) ?_
      obtain ⟨q1, hq1, hF⟩ := hF
      refine EvK.pure (v := .pointer (some q1)) (w_none rfl) rfl rfl (f_nilCheck rfl (congrArg Value.pointer hq1)) ?_
      refine EvK.pure (v := .pointer (some (q1.add 8))) (w_none rfl) rfl rfl (f_fieldAddr fd75_4 rfl rfl) ?_
      obtain ⟨x1, hx1, hF⟩ := hF
      refine EvK.read (v := .bool x1) (w_none rfl) rfl rfl (f_load kB ty4 rfl rfl hx1 rfl) ?_
      refine EvK.pure (v := .bool x1) (w_none rfl) rfl rfl (f_move rfl rfl) ?_
      rcases ite_inv hF with ⟨c3, hF⟩ | ⟨c3, hF⟩
      · refine EvK.not (w_not rfl rfl c3) rfl rfl ?_
        refine EvK.not (w_not rfl rfl c3) rfl rfl ?_
        refine EvK.not (w_not rfl rfl c3) rfl rfl ?_
        refine EvK.not (w_not rfl rfl c3) rfl rfl ?_
        refine EvK.pure (v := .bool true) (w_none rfl) rfl rfl (f_pickT rfl rfl c3 rfl) ?_
        refine EvK.nil ?_
        exact KE.mk true ⟨rfl, rfl, trivial⟩ hF
      · refine EvK.pure (v := .pointer r1.1) (w_some rfl rfl c3) rfl rfl (f_move rfl rfl) ?_
        obtain ⟨q2, hq2, hF⟩ := hF
        refine EvK.pure (v := .pointer (some q2)) (w_some rfl rfl c3) rfl rfl (f_nilCheck rfl (congrArg Value.pointer hq2)) ?_
        refine EvK.pure (v := .pointer (some (q2.add 7))) (w_some rfl rfl c3) rfl rfl (f_fieldAddr fd75_3 rfl rfl) ?_
        obtain ⟨x2, hx2, hF⟩ := hF
        refine EvK.read (v := .bool x2) (w_some rfl rfl c3) rfl rfl (f_load kB ty4 rfl rfl hx2 rfl) ?_
        refine EvK.pure (v := .bool x2) (w_none rfl) rfl rfl (f_pickF rfl rfl c3 rfl) ?_
        refine EvK.nil ?_
        exact KE.mk x2 ⟨rfl, rfl, trivial⟩ hF
end Go.Proofs.Ytbdopnhfbjdegaa

namespace Go.Proofs.Ytbdopnhfbjdegaa
open Go Go.Tr
set_option linter.unusedVariables false
set_option maxRecDepth 100000
set_option maxHeartbeats 400000
/-- (*spate/net.buffer).lay -/
def net_buffer_lay (a0 : Option Addr) (a1 : Sl) (h : H) (Q : Int → H → Prop) : Prop :=
  jn (fun (k1 : Int → H → Prop) =>
    rd a0 fun q3 =>
    rd (ld (kI .i64) (q3.add 1) h) fun x4 =>
    if (decide (x4 ≥ 0)) = true then
      rd a0 fun q4 =>
      rd (ld (kI .i64) (q4.add 1) h) fun x5 =>
      rd a0 fun q5 =>
      rd (ld kL (q5.add 0) h) fun x6 =>
      k1 (if IntKind.i64.wrap (x5 - (x6.len : Int)) < (a1.len : Int) then IntKind.i64.wrap (x5 - (x6.len : Int)) else (a1.len : Int)) h
    else
      k1 (a1.len : Int) h) fun s1 h1 =>
  rd a0 fun q1 =>
  rd (ld kL (q1.add 0) h1) fun x1 =>
  rd (slx 1 a1 none (some s1) none) fun x2 =>
  ap (kI .u8).n 1 5 ((kI .u8).enc 0) x1 x2 h1 fun x3 h2 =>
  rd a0 fun q2 =>
  rd (st kL (q2.add 0) x3 h2) fun h3 =>
  Q s1 h3
theorem net_buffer_lay.sound {a0 : Option Addr} {a1 : Sl} {h : H} {Q : Int → H → Prop} (hF : net_buffer_lay a0 a1 h Q) :
    CallsH Try.prog 28 (List.toArray (α := Value) [.pointer a0, Sl.val a1]) h fun v h' => ∃ x : Int, v = .int .i64 x ∧ Q x h' := by
  refine CallsH.of_body Try.func28 rfl 37 rfl rfl ?_
  refine WP.seq ?_
  refine WP.region ?_
  refine EvK.pure (v := .int .i64 0) (w_none rfl) rfl rfl (f_assign rfl rfl) ?_
  refine EvK.nil ?_
  refine WP.seq ?_
  refine WP.region ?_
  refine EvK.pure (v := Sl.val a1) (w_none rfl) rfl rfl (f_move rfl rfl) ?_
  refine EvK.pure (v := .int .i64 (a1.len : Int)) (w_none rfl) rfl rfl (f_lenL (s := a1) Try.underlying29 rfl rfl) ?_
  refine EvK.pure (v := .int .i64 (a1.len : Int)) (w_none rfl) rfl rfl (f_assign rfl rfl) ?_
  refine EvK.nil ?_
  refine WP.joinF (fun (s1 : Int) => [(5, .int .i64 s1), (0, .pointer a0), (1, Sl.val a1)]) hF ?_ ?_
  · intro s1 E0 h1 hF
    refine WP.seq ?_
    refine WP.draw mixed [.pure, .pure, .pure, .pure, .read, .pure, .pure, .pure, .eff [], .pure, .pure, .eff []] [[], [], [1], [1, 2], [1, 2, 3], [], [], [5, 6], [1, 2, 3, 4, 5, 6, 7], [0, 1, 2, 3, 4, 5, 6, 7, 8], [0, 1, 2, 3, 4, 5, 6, 7, 8, 9], [0, 1, 2, 3, 4, 5, 6, 7, 8, 9, 10]] [0, 1, 2, 3, 4, 5, 6, 7, 8, 9, 10, 11] (by kernel_rfl) (by kernel_rfl) ?_
    refine EvI.pure (v := .pointer a0) rfl rfl (w_none rfl) rfl (f_move rfl rfl) ?_
    refine EvI.pure (v := .pointer a0) rfl rfl (w_none rfl) rfl (f_move rfl rfl) ?_
    obtain ⟨q1, hq1, hF⟩ := hF
    refine EvI.pure (v := .pointer (some q1)) rfl rfl (w_none rfl) rfl (f_nilCheck rfl (congrArg Value.pointer hq1)) ?_
    refine EvI.pure (v := .pointer (some (q1.add 0))) rfl rfl (w_none rfl) rfl (f_fieldAddr fd71_0 rfl rfl) ?_
    obtain ⟨x1, hx1, hF⟩ := hF
    refine EvI.read (v := Sl.val x1) rfl rfl (w_none rfl) rfl (f_load kL ty29 rfl rfl hx1 rfl) ?_
    refine EvI.pure (v := Sl.val a1) rfl rfl (w_none rfl) rfl (f_move rfl rfl) ?_
    refine EvI.pure (v := .int .i64 s1) rfl rfl (w_none rfl) rfl (f_move rfl rfl) ?_
    obtain ⟨x2, hx2, hF⟩ := hF
    refine EvI.pure (v := Sl.val x2) rfl rfl (w_none rfl) rfl (f_slice Try.underlying29 ty5.size rfl rfl bndV_none (bndV_some rfl) bndV_none hx2) ?_
    refine EvI.run rfl rfl (w_none rfl) rfl (f_appendE (s := x1) (x := x2) Try.underlying29 el5 rfl rfl rfl hF) ?_
    rintro _ h2 ⟨x3, rfl, hF⟩
    refine ⟨⟨chk_no rfl, trivial⟩, ?_⟩
    obtain ⟨q2, hq2, hF⟩ := hF
    refine EvI.pure (v := .pointer (some q2)) rfl rfl (w_none rfl) rfl (f_nilCheck rfl (congrArg Value.pointer hq2)) ?_
    refine EvI.pure (v := .pointer (some (q2.add 0))) rfl rfl (w_none rfl) rfl (f_fieldAddr fd71_0 rfl rfl) ?_
    obtain ⟨h3, hs1, hF⟩ := hF
    refine EvI.runN rfl rfl (w_none rfl) rfl (f_store kL ty29.size (z := x3) rfl rfl rfl hs1) ?_
    rintro _ _ ⟨rfl, rfl⟩
    refine ⟨⟨chk_no rfl, trivial⟩, ?_⟩
    refine EvI.nil ?_
    refine WP.seq ?_
    refine WP.region ?_
    refine EvK.pure (v := .int .i64 s1) (w_none rfl) rfl rfl (f_move rfl rfl) ?_
    refine EvK.pure (v := .int .i64 s1) (w_none rfl) rfl rfl (f_assign rfl rfl) ?_
    refine EvK.nil ?_
    refine WP.ret ?_
    exact Ret.mk (vs := [.int .i64 s1]) s1 ⟨rfl, trivial⟩ rfl hF
  · intro k1 hF
    refine WP.seq ?_
    refine WP.region ?_
    refine EvK.pure (v := .pointer a0) (w_none rfl) rfl rfl (f_move rfl rfl) ?_
    obtain ⟨q3, hq3, hF⟩ := hF
    refine EvK.pure (v := .pointer (some q3)) (w_none rfl) rfl rfl (f_nilCheck rfl (congrArg Value.pointer hq3)) ?_
    refine EvK.pure (v := .pointer (some (q3.add 1))) (w_none rfl) rfl rfl (f_fieldAddr fd71_1 rfl rfl) ?_
    obtain ⟨x4, hx3, hF⟩ := hF
    refine EvK.read (v := .int .i64 x4) (w_none rfl) rfl rfl (f_load (kI .i64) ty3 rfl rfl hx3 rfl) ?_
    refine EvK.pure (v := .bool (decide (x4 ≥ 0))) (w_none rfl) rfl rfl (f_geq rfl rfl rfl) ?_
    refine EvK.nil ?_
    rcases ite_inv hF with ⟨c1, hF⟩ | ⟨c1, hF⟩
    · refine WP.cond_true _ rfl c1 ?_
      refine WP.draw mixed [.pure, .pure, .pure, .pure, .read, .pure, .pure, .pure, .read, .pure, .pure, .pure, .pure] [[], [], [1], [1, 2], [1, 2, 3], [], [5], [5, 6], [5, 6, 7], [5, 6, 7, 8], [1, 2, 3, 4, 5, 6, 7, 8, 9], [0, 1, 2, 3, 4, 5, 6, 7, 8, 9, 10], [0, 1, 2, 3, 4, 5, 6, 7, 8, 9, 10, 11]] [0, 1, 2, 3, 4, 5, 6, 7, 8, 9, 10, 11, 12] (by kernel_rfl) (by kernel_rfl) ?_
      refine EvI.pure (v := .int .i64 (a1.len : Int)) rfl rfl (w_none rfl) rfl (f_move rfl rfl) ?_
      refine EvI.pure (v := .pointer a0) rfl rfl (w_none rfl) rfl (f_move rfl rfl) ?_
      obtain ⟨q4, hq4, hF⟩ := hF
      refine EvI.pure (v := .pointer (some q4)) rfl rfl (w_none rfl) rfl (f_nilCheck rfl (congrArg Value.pointer hq4)) ?_
      refine EvI.pure (v := .pointer (some (q4.add 1))) rfl rfl (w_none rfl) rfl (f_fieldAddr fd71_1 rfl rfl) ?_
      obtain ⟨x5, hx4, hF⟩ := hF
      refine EvI.read (v := .int .i64 x5) rfl rfl (w_none rfl) rfl (f_load (kI .i64) ty3 rfl rfl hx4 rfl) ?_
      refine EvI.pure (v := .pointer a0) rfl rfl (w_none rfl) rfl (f_move rfl rfl) ?_
      obtain ⟨q5, hq5, hF⟩ := hF
      refine EvI.pure (v := .pointer (some q5)) rfl rfl (w_none rfl) rfl (f_nilCheck rfl (congrArg Value.pointer hq5)) ?_
      refine EvI.pure (v := .pointer (some (q5.add 0))) rfl rfl (w_none rfl) rfl (f_fieldAddr fd71_0 rfl rfl) ?_
      obtain ⟨x6, hx5, hF⟩ := hF
      refine EvI.read (v := Sl.val x6) rfl rfl (w_none rfl) rfl (f_load kL ty29 rfl rfl hx5 rfl) ?_
      refine EvI.pure (v := .int .i64 (x6.len : Int)) rfl rfl (w_none rfl) rfl (f_lenL (s := x6) Try.underlying29 rfl rfl) ?_
      refine EvI.pure (v := .int .i64 (IntKind.i64.wrap (x5 - (x6.len : Int)))) rfl rfl (w_none rfl) rfl (f_sub rfl rfl rfl) ?_
      refine EvI.pure (v := .int .i64 (if IntKind.i64.wrap (x5 - (x6.len : Int)) < (a1.len : Int) then IntKind.i64.wrap (x5 - (x6.len : Int)) else (a1.len : Int))) rfl rfl (w_none rfl) rfl (f_min2 rfl rfl rfl) ?_
      refine EvI.pure (v := .int .i64 (if IntKind.i64.wrap (x5 - (x6.len : Int)) < (a1.len : Int) then IntKind.i64.wrap (x5 - (x6.len : Int)) else (a1.len : Int))) rfl rfl (w_none rfl) rfl (f_assign rfl rfl) ?_
      refine EvI.nil ?_
      exact KE.mk (if IntKind.i64.wrap (x5 - (x6.len : Int)) < (a1.len : Int) then IntKind.i64.wrap (x5 - (x6.len : Int)) else (a1.len : Int)) ⟨rfl, rfl, rfl, trivial⟩ hF
    · refine WP.cond_false _ rfl c1 ?_
      refine WP.skip ?_
      exact KE.mk (a1.len : Int) ⟨rfl, rfl, rfl, trivial⟩ hF
end Go.Proofs.Ytbdopnhfbjdegaa
