/- Functions as predicates over the heap, and that the code comes to them. Printed by gen.py, merged by group.py. -/
import Derived.Test.YtbdopnhfbjdegaaG0
import Derived.Test.YtbdopnhfbjdegaaG1
import Derived.Test.YtbdopnhfbjdegaaG2
import Derived.Test.YtbdopnhfbjdegaaG3
import Derived.Test.YtbdopnhfbjdegaaG6
import Derived.Test.YtbdopnhfbjdegaaTy
namespace Go.Proofs.Ytbdopnhfbjdegaa
open Go Go.Tr
set_option linter.unusedVariables false
set_option maxRecDepth 100000
set_option maxHeartbeats 400000
/-- (*spate/spateref16.Net).Is -/
def spateref16_Net_Is (a0 : Option Addr) (a1 : Int) (h : H) (Q : (Bool × Bool) → H → Prop) : Prop :=
  spateref16_is a1 h fun r1 h1 =>
  if (!r1) = true then
    Q (false, false) h1
  else
    rd a0 fun q1 =>
    rd (ld kL (q1.add 2) h1) fun x1 =>
    rd (ixA 7 x1 a1) fun q2 =>
    rd (ld k97 q2 h1) fun x2 =>
    al 98 (k97.enc z97) h1 fun q3 h2 =>
    rd (st k97 q3 x2 h2) fun h3 =>
    jn (fun (k1 : (Bool × Bool) → H → Prop) =>
      rd (ld kB (q3.add 0) h3) fun x3 =>
      if x3 = true then
        rd (ld kB (q3.add 1) h3) fun x4 =>
        if (!x4) = true then
          rd (ld kB (q3.add 2) h3) fun x5 =>
          rd (ld kB (q3.add 2) h3) fun x6 =>
          k1 (!x5, x6) h3
        else
          rd (ld kB (q3.add 2) h3) fun x7 =>
          k1 (false, x7) h3
      else
        rd (ld kB (q3.add 2) h3) fun x8 =>
        k1 (false, x8) h3) fun s1 h4 =>
    Q (s1.1, s1.2) h4
theorem spateref16_Net_Is.sound {a0 : Option Addr} {a1 : Int} {h : H} {Q : (Bool × Bool) → H → Prop} (hF : spateref16_Net_Is a0 a1 h Q) :
    CallsH Try.prog 44 (List.toArray (α := Value) [.pointer a0, .int .i64 a1]) h fun v h' => ∃ x : Bool × Bool, v = .tuple #[.bool x.1, .bool x.2] ∧ Q x h' := by
  refine CallsH.of_body Try.func44 rfl 31 rfl rfl ?_
  refine WP.seq ?_
  refine WP.region ?_
  refine EvK.pure (v := .bool false) (w_none rfl) rfl rfl (f_assign rfl rfl) ?_
  refine EvK.pure (v := .bool false) (w_none rfl) rfl rfl (f_assign rfl rfl) ?_
  refine EvK.nil ?_
  refine WP.seq ?_
  refine WP.seq ?_
  refine WP.region ?_
  refine EvK.pure (v := .int .i64 a1) (w_none rfl) rfl rfl (f_move rfl rfl) ?_
  refine EvK.call (w_none rfl) rfl rfl (enterH Try.func49 rfl rfl rfl rfl (spateref16_is.sound hF)) ?_
  rintro _ h1 ⟨r1, rfl, hF⟩
  refine EvK.pure (v := .bool (!r1)) (w_none rfl) rfl rfl (f_not rfl rfl) ?_
  refine EvK.nil ?_
  rcases ite_inv hF with ⟨c1, hF⟩ | ⟨c1, hF⟩
  · refine WP.cond_true _ rfl c1 ?_
    refine WP.seq ?_
    refine WP.region ?_
    refine EvK.pure (v := .bool false) (w_none rfl) rfl rfl (f_assign rfl rfl) ?_
    refine EvK.pure (v := .bool false) (w_none rfl) rfl rfl (f_assign rfl rfl) ?_
    refine EvK.nil ?_
    refine WP.ret ?_
    exact Ret.mk (vs := [.bool false, .bool false]) (false, false) ⟨rfl, rfl, trivial⟩ rfl hF
  · refine WP.cond_false _ rfl c1 ?_
    refine WP.skip ?_
    refine WP.seq ?_
    refine WP.region ?_
    refine EvK.pure (v := .pointer a0) (w_none rfl) rfl rfl (f_move rfl rfl) ?_
    obtain ⟨q1, hq1, hF⟩ := hF
    refine EvK.pure (v := .pointer (some q1)) (w_none rfl) rfl rfl (f_nilCheck rfl (congrArg Value.pointer hq1)) ?_
    refine EvK.pure (v := .pointer (some (q1.add 2))) (w_none rfl) rfl rfl (f_fieldAddr fd83_2 rfl rfl) ?_
    obtain ⟨x1, hx1, hF⟩ := hF
    refine EvK.read (v := Sl.val x1) (w_none rfl) rfl rfl (f_load kL ty81 rfl rfl hx1 rfl) ?_
    refine EvK.pure (v := .int .i64 a1) (w_none rfl) rfl rfl (f_move rfl rfl) ?_
    obtain ⟨q2, hq2, hF⟩ := hF
    refine EvK.pure (v := .pointer (some q2)) (w_none rfl) rfl rfl (f_indexAddr (s := x1) Try.underlying81 ty98.size rfl rfl rfl hq2) ?_
    obtain ⟨x2, hx2, hF⟩ := hF
    refine EvK.read (v := k97.val x2) (w_none rfl) rfl rfl (f_load k97 ty98 rfl rfl hx2 rfl) ?_
    refine EvK.alloc (w_none rfl) rfl rfl (f_allocF zero98 rfl rfl hF) ?_
    rintro _ h2 ⟨q3, rfl, hF⟩
    obtain ⟨h3, hs1, hF⟩ := hF
    refine EvK.runN (w_none rfl) rfl (f_store k97 ty98.size (z := x2) rfl rfl rfl hs1) ?_
    rintro _ _ ⟨rfl, rfl⟩
    refine EvK.nil ?_
    refine WP.joinF (fun (s1 : Bool × Bool) => [(4, .bool s1.1), (5, .bool s1.2)]) hF ?_ ?_
    · intro s1 E0 h4 hF
      refine WP.ret ?_
      exact Ret.mk (vs := [.bool s1.1, .bool s1.2]) (s1.1, s1.2) ⟨rfl, rfl, trivial⟩ rfl hF
    · intro k1 hF
      refine WP.draw mixed [.pure, .read, .pure, .pure, .read, .pure, .pure, .pure, .pure, .read, .pure, .pure, .pure, .read, .pure, .pure] [[], [0], [0, 1], [0, 1, 2], [0, 1, 2, 3], [0, 1, 2, 3, 4], [0, 1, 2, 3, 4, 5], [0, 1, 2, 3, 4, 5, 6], [0, 1, 2, 3, 4, 5, 6, 7], [0, 1, 2, 3, 4, 5, 6, 7, 8], [0, 1, 2, 3, 4, 5, 6, 7, 8, 9], [0, 1, 2, 3, 4, 5, 6, 7, 8, 9, 10], [], [12], [0, 1, 2, 3, 4, 5, 6, 7, 8, 9, 10, 11], [0, 1, 2, 3, 4, 5, 6, 7, 8, 9, 10, 11, 12, 13, 14]] [0, 1, 2, 3, 4, 5, 6, 7, 8, 9, 10, 11, 12, 13, 14, 15] (by kernel_rfl) (by kernel_rfl) ?_
      refine EvI.pure (v := .pointer (some (q3.add 0))) rfl rfl (w_none rfl) rfl (f_fieldAddr fd98_0 rfl rfl) ?_
      obtain ⟨x3, hx3, hF⟩ := hF
      refine EvI.read (v := .bool x3) rfl rfl (w_none rfl) rfl (f_load kB ty4 rfl rfl hx3 rfl) ?_
      refine EvI.pure (v := .bool x3) rfl rfl (w_none rfl) rfl (f_move rfl rfl) ?_
      rcases ite_inv hF with ⟨c2, hF⟩ | ⟨c2, hF⟩
      · refine EvI.pure (v := .pointer (some (q3.add 1))) rfl rfl (w_some rfl rfl c2) rfl (f_fieldAddr fd98_1 rfl rfl) ?_
        obtain ⟨x4, hx4, hF⟩ := hF
        refine EvI.read (v := .bool x4) rfl rfl (w_some rfl rfl c2) rfl (f_load kB ty4 rfl rfl hx4 rfl) ?_
        refine EvI.pure (v := .bool (!x4)) rfl rfl (w_some rfl rfl c2) rfl (f_not rfl rfl) ?_
        refine EvI.pure (v := .bool (!x4)) rfl rfl (w_none rfl) rfl (f_pickT rfl rfl c2 rfl) ?_
        refine EvI.pure (v := .bool (!x4)) rfl rfl (w_none rfl) rfl (f_move rfl rfl) ?_
        rcases ite_inv hF with ⟨c3, hF⟩ | ⟨c3, hF⟩
        · refine EvI.pure (v := .pointer (some (q3.add 2))) rfl rfl (w_some rfl rfl c3) rfl (f_fieldAddr fd98_2 rfl rfl) ?_
          obtain ⟨x5, hx5, hF⟩ := hF
          refine EvI.read (v := .bool x5) rfl rfl (w_some rfl rfl c3) rfl (f_load kB ty4 rfl rfl hx5 rfl) ?_
          refine EvI.pure (v := .bool (!x5)) rfl rfl (w_some rfl rfl c3) rfl (f_not rfl rfl) ?_
          refine EvI.pure (v := .bool (!x5)) rfl rfl (w_none rfl) rfl (f_pickT rfl rfl c3 rfl) ?_
          refine EvI.pure (v := .pointer (some (q3.add 2))) rfl rfl (w_none rfl) rfl (f_fieldAddr fd98_2 rfl rfl) ?_
          obtain ⟨x6, hx6, hF⟩ := hF
          refine EvI.read (v := .bool x6) rfl rfl (w_none rfl) rfl (f_load kB ty4 rfl rfl hx6 rfl) ?_
          refine EvI.pure (v := .bool (!x5)) rfl rfl (w_none rfl) rfl (f_assign rfl rfl) ?_
          refine EvI.pure (v := .bool x6) rfl rfl (w_none rfl) rfl (f_assign rfl rfl) ?_
          refine EvI.nil ?_
          exact KE.mk (!x5, x6) ⟨rfl, rfl, trivial⟩ hF
        · refine EvI.not rfl (w_not rfl rfl c3) rfl ?_
          refine EvI.not rfl (w_not rfl rfl c3) rfl ?_
          refine EvI.not rfl (w_not rfl rfl c3) rfl ?_
          refine EvI.pure (v := .bool false) rfl rfl (w_none rfl) rfl (f_pickF rfl rfl c3 rfl) ?_
          refine EvI.pure (v := .pointer (some (q3.add 2))) rfl rfl (w_none rfl) rfl (f_fieldAddr fd98_2 rfl rfl) ?_
          obtain ⟨x7, hx7, hF⟩ := hF
          refine EvI.read (v := .bool x7) rfl rfl (w_none rfl) rfl (f_load kB ty4 rfl rfl hx7 rfl) ?_
          refine EvI.pure (v := .bool false) rfl rfl (w_none rfl) rfl (f_assign rfl rfl) ?_
          refine EvI.pure (v := .bool x7) rfl rfl (w_none rfl) rfl (f_assign rfl rfl) ?_
          refine EvI.nil ?_
          exact KE.mk (false, x7) ⟨rfl, rfl, trivial⟩ hF
      · refine EvI.not rfl (w_not rfl rfl c2) rfl ?_
        refine EvI.not rfl (w_not rfl rfl c2) rfl ?_
        refine EvI.not rfl (w_not rfl rfl c2) rfl ?_
        refine EvI.pure (v := .bool false) rfl rfl (w_none rfl) rfl (f_pickF rfl rfl c2 rfl) ?_
        refine EvI.pure (v := .bool false) rfl rfl (w_none rfl) rfl (f_move rfl rfl) ?_
        refine EvI.not rfl (w_not rfl rfl rfl) rfl ?_
        refine EvI.not rfl (w_not rfl rfl rfl) rfl ?_
        refine EvI.not rfl (w_not rfl rfl rfl) rfl ?_
        refine EvI.pure (v := .bool false) rfl rfl (w_none rfl) rfl (f_pickF rfl rfl rfl rfl) ?_
        refine EvI.pure (v := .pointer (some (q3.add 2))) rfl rfl (w_none rfl) rfl (f_fieldAddr fd98_2 rfl rfl) ?_
        obtain ⟨x8, hx8, hF⟩ := hF
        refine EvI.read (v := .bool x8) rfl rfl (w_none rfl) rfl (f_load kB ty4 rfl rfl hx8 rfl) ?_
        refine EvI.pure (v := .bool false) rfl rfl (w_none rfl) rfl (f_assign rfl rfl) ?_
        refine EvI.pure (v := .bool x8) rfl rfl (w_none rfl) rfl (f_assign rfl rfl) ?_
        refine EvI.nil ?_
        exact KE.mk (false, x8) ⟨rfl, rfl, trivial⟩ hF
end Go.Proofs.Ytbdopnhfbjdegaa

namespace Go.Proofs.Ytbdopnhfbjdegaa
open Go Go.Tr
set_option linter.unusedVariables false
set_option maxRecDepth 100000
set_option maxHeartbeats 400000
/-- (*spate/spateref16.Net).Under -/
def spateref16_Net_Under (a0 : Option Addr) (a1 : Int) (h : H) (Q : (Int × Int) → H → Prop) : Prop :=
  spateref16_is a1 h fun r1 h1 =>
  if (!r1) = true then
    Q (0, 0) h1
  else
    rd a0 fun q1 =>
    rd (ld kL (q1.add 2) h1) fun x1 =>
    rd (ixA 7 x1 a1) fun q2 =>
    rd (ld kL (q2.add 3) h1) fun x2 =>
    rd a0 fun q3 =>
    rd (ld kL (q3.add 2) h1) fun x3 =>
    rd (ixA 7 x3 a1) fun q4 =>
    rd (ld kL (q4.add 4) h1) fun x4 =>
    rd a0 fun q5 =>
    rd (ld kL (q5.add 2) h1) fun x5 =>
    rd (ixA 7 x5 a1) fun q6 =>
    rd (ld kL (q6.add 5) h1) fun x6 =>
    Q (IntKind.i64.wrap ((x2.len : Int) + (x4.len : Int)), (x6.len : Int)) h1
theorem spateref16_Net_Under.sound {a0 : Option Addr} {a1 : Int} {h : H} {Q : (Int × Int) → H → Prop} (hF : spateref16_Net_Under a0 a1 h Q) :
    CallsH Try.prog 45 (List.toArray (α := Value) [.pointer a0, .int .i64 a1]) h fun v h' => ∃ x : Int × Int, v = .tuple #[.int .i64 x.1, .int .i64 x.2] ∧ Q x h' := by
  refine CallsH.of_body Try.func45 rfl 37 rfl rfl ?_
  refine WP.seq ?_
  refine WP.region ?_
  refine EvK.pure (v := .int .i64 0) (w_none rfl) rfl rfl (f_assign rfl rfl) ?_
  refine EvK.pure (v := .int .i64 0) (w_none rfl) rfl rfl (f_assign rfl rfl) ?_
  refine EvK.nil ?_
  refine WP.seq ?_
  refine WP.seq ?_
  refine WP.region ?_
  refine EvK.pure (v := .int .i64 a1) (w_none rfl) rfl rfl (f_move rfl rfl) ?_
  refine EvK.call (w_none rfl) rfl rfl (enterH Try.func49 rfl rfl rfl rfl (spateref16_is.sound hF)) ?_
  rintro _ h1 ⟨r1, rfl, hF⟩
  refine EvK.pure (v := .bool (!r1)) (w_none rfl) rfl rfl (f_not rfl rfl) ?_
  refine EvK.nil ?_
  rcases ite_inv hF with ⟨c1, hF⟩ | ⟨c1, hF⟩
  · refine WP.cond_true _ rfl c1 ?_
    refine WP.seq ?_
    refine WP.region ?_
    refine EvK.pure (v := .int .i64 0) (w_none rfl) rfl rfl (f_assign rfl rfl) ?_
    refine EvK.pure (v := .int .i64 0) (w_none rfl) rfl rfl (f_assign rfl rfl) ?_
    refine EvK.nil ?_
    refine WP.ret ?_
    exact Ret.mk (vs := [.int .i64 0, .int .i64 0]) (0, 0) ⟨rfl, rfl, trivial⟩ rfl hF
  · refine WP.cond_false _ rfl c1 ?_
    refine WP.skip ?_
    refine WP.seq ?_
    refine WP.draw mixed [.pure, .pure, .pure, .read, .pure, .pure, .pure, .read, .pure, .pure, .pure, .pure, .read, .pure, .pure, .pure, .read, .pure, .pure, .pure, .pure, .pure, .read, .pure, .pure, .pure, .read, .pure, .pure, .pure] [[], [0], [0, 1], [0, 1, 2], [], [0, 1, 2, 3, 4], [0, 1, 2, 3, 4, 5], [0, 1, 2, 3, 4, 5, 6], [0, 1, 2, 3, 4, 5, 6, 7], [], [9], [9, 10], [9, 10, 11], [], [9, 10, 11, 12, 13], [9, 10, 11, 12, 13, 14], [9, 10, 11, 12, 13, 14, 15], [9, 10, 11, 12, 13, 14, 15, 16], [0, 1, 2, 3, 4, 5, 6, 7, 8, 9, 10, 11, 12, 13, 14, 15, 16, 17], [], [19], [19, 20], [19, 20, 21], [], [19, 20, 21, 22, 23], [19, 20, 21, 22, 23, 24], [19, 20, 21, 22, 23, 24, 25], [19, 20, 21, 22, 23, 24, 25, 26], [0, 1, 2, 3, 4, 5, 6, 7, 8, 9, 10, 11, 12, 13, 14, 15, 16, 17, 18], [0, 1, 2, 3, 4, 5, 6, 7, 8, 9, 10, 11, 12, 13, 14, 15, 16, 17, 18, 19, 20, 21, 22, 23, 24, 25, 26, 27, 28]] [0, 1, 2, 3, 4, 5, 6, 7, 8, 9, 10, 11, 12, 13, 14, 15, 16, 17, 18, 19, 20, 21, 22, 23, 24, 25, 26, 27, 28, 29] (by kernel_rfl) (by kernel_rfl) ?_
    refine EvI.pure (v := .pointer a0) rfl rfl (w_none rfl) rfl (f_move rfl rfl) ?_
    obtain ⟨q1, hq1, hF⟩ := hF
    refine EvI.pure (v := .pointer (some q1)) rfl rfl (w_none rfl) rfl (f_nilCheck rfl (congrArg Value.pointer hq1)) ?_
    refine EvI.pure (v := .pointer (some (q1.add 2))) rfl rfl (w_none rfl) rfl (f_fieldAddr fd83_2 rfl rfl) ?_
    obtain ⟨x1, hx1, hF⟩ := hF
    refine EvI.read (v := Sl.val x1) rfl rfl (w_none rfl) rfl (f_load kL ty81 rfl rfl hx1 rfl) ?_
    refine EvI.pure (v := .int .i64 a1) rfl rfl (w_none rfl) rfl (f_move rfl rfl) ?_
    obtain ⟨q2, hq2, hF⟩ := hF
    refine EvI.pure (v := .pointer (some q2)) rfl rfl (w_none rfl) rfl (f_indexAddr (s := x1) Try.underlying81 ty98.size rfl rfl rfl hq2) ?_
    refine EvI.pure (v := .pointer (some (q2.add 3))) rfl rfl (w_none rfl) rfl (f_fieldAddr fd98_3 rfl rfl) ?_
    obtain ⟨x2, hx2, hF⟩ := hF
    refine EvI.read (v := Sl.val x2) rfl rfl (w_none rfl) rfl (f_load kL ty29 rfl rfl hx2 rfl) ?_
    refine EvI.pure (v := .int .i64 (x2.len : Int)) rfl rfl (w_none rfl) rfl (f_lenL (s := x2) Try.underlying29 rfl rfl) ?_
    refine EvI.pure (v := .pointer a0) rfl rfl (w_none rfl) rfl (f_move rfl rfl) ?_
    obtain ⟨q3, hq3, hF⟩ := hF
    refine EvI.pure (v := .pointer (some q3)) rfl rfl (w_none rfl) rfl (f_nilCheck rfl (congrArg Value.pointer hq3)) ?_
    refine EvI.pure (v := .pointer (some (q3.add 2))) rfl rfl (w_none rfl) rfl (f_fieldAddr fd83_2 rfl rfl) ?_
    obtain ⟨x3, hx3, hF⟩ := hF
    refine EvI.read (v := Sl.val x3) rfl rfl (w_none rfl) rfl (f_load kL ty81 rfl rfl hx3 rfl) ?_
    refine EvI.pure (v := .int .i64 a1) rfl rfl (w_none rfl) rfl (f_move rfl rfl) ?_
    obtain ⟨q4, hq4, hF⟩ := hF
    refine EvI.pure (v := .pointer (some q4)) rfl rfl (w_none rfl) rfl (f_indexAddr (s := x3) Try.underlying81 ty98.size rfl rfl rfl hq4) ?_
    refine EvI.pure (v := .pointer (some (q4.add 4))) rfl rfl (w_none rfl) rfl (f_fieldAddr fd98_4 rfl rfl) ?_
    obtain ⟨x4, hx4, hF⟩ := hF
    refine EvI.read (v := Sl.val x4) rfl rfl (w_none rfl) rfl (f_load kL ty29 rfl rfl hx4 rfl) ?_
    refine EvI.pure (v := .int .i64 (x4.len : Int)) rfl rfl (w_none rfl) rfl (f_lenL (s := x4) Try.underlying29 rfl rfl) ?_
    refine EvI.pure (v := .int .i64 (IntKind.i64.wrap ((x2.len : Int) + (x4.len : Int)))) rfl rfl (w_none rfl) rfl (f_add rfl rfl rfl) ?_
    refine EvI.pure (v := .pointer a0) rfl rfl (w_none rfl) rfl (f_move rfl rfl) ?_
    obtain ⟨q5, hq5, hF⟩ := hF
    refine EvI.pure (v := .pointer (some q5)) rfl rfl (w_none rfl) rfl (f_nilCheck rfl (congrArg Value.pointer hq5)) ?_
    refine EvI.pure (v := .pointer (some (q5.add 2))) rfl rfl (w_none rfl) rfl (f_fieldAddr fd83_2 rfl rfl) ?_
    obtain ⟨x5, hx5, hF⟩ := hF
    refine EvI.read (v := Sl.val x5) rfl rfl (w_none rfl) rfl (f_load kL ty81 rfl rfl hx5 rfl) ?_
    refine EvI.pure (v := .int .i64 a1) rfl rfl (w_none rfl) rfl (f_move rfl rfl) ?_
    obtain ⟨q6, hq6, hF⟩ := hF
    refine EvI.pure (v := .pointer (some q6)) rfl rfl (w_none rfl) rfl (f_indexAddr (s := x5) Try.underlying81 ty98.size rfl rfl rfl hq6) ?_
    refine EvI.pure (v := .pointer (some (q6.add 5))) rfl rfl (w_none rfl) rfl (f_fieldAddr fd98_5 rfl rfl) ?_
    obtain ⟨x6, hx6, hF⟩ := hF
    refine EvI.read (v := Sl.val x6) rfl rfl (w_none rfl) rfl (f_load kL ty29 rfl rfl hx6 rfl) ?_
    refine EvI.pure (v := .int .i64 (x6.len : Int)) rfl rfl (w_none rfl) rfl (f_lenL (s := x6) Try.underlying29 rfl rfl) ?_
    refine EvI.pure (v := .int .i64 (IntKind.i64.wrap ((x2.len : Int) + (x4.len : Int)))) rfl rfl (w_none rfl) rfl (f_assign rfl rfl) ?_
    refine EvI.pure (v := .int .i64 (x6.len : Int)) rfl rfl (w_none rfl) rfl (f_assign rfl rfl) ?_
    refine EvI.nil ?_
    refine WP.ret ?_
    exact Ret.mk (vs := [.int .i64 (IntKind.i64.wrap ((x2.len : Int) + (x4.len : Int))), .int .i64 (x6.len : Int)]) (IntKind.i64.wrap ((x2.len : Int) + (x4.len : Int)), (x6.len : Int)) ⟨rfl, rfl, trivial⟩ rfl hF
end Go.Proofs.Ytbdopnhfbjdegaa

namespace Go.Proofs.Ytbdopnhfbjdegaa
open Go Go.Tr
set_option linter.unusedVariables false
set_option maxRecDepth 100000
set_option maxHeartbeats 400000
/-- spate/spatelaw16.told -/
def spatelaw16_told (a0 : Option Addr) (a1 : Option Addr) (a2 : Int) (h : H) (Q : Bool → H → Prop) : Prop :=
  net_Net_Heard a0 a2 h fun r1 h1 =>
  spateref16_Net_Heard a1 a2 h1 fun r2 h2 =>
  net_Net_Is a0 a2 h2 fun r3 h3 =>
  spateref16_Net_Is a1 a2 h3 fun r4 h4 =>
  net_Net_Under a0 a2 h4 fun r5 h5 =>
  spateref16_Net_Under a1 a2 h5 fun r6 h6 =>
  jn (fun (k1 : Bool → H → Prop) =>
    rd (b2s r1.1 h6) fun x1 =>
    rd (b2s r2.1 h6) fun x2 =>
    if (x1.toList == x2.toList) = true then
      if (r1.2 == r2.2) = true then
        if (r3.1 == r4.1) = true then
          if (r3.2 == r4.2) = true then
            if (r5.1 == r6.1) = true then
              if (r5.2 == r6.2) = true then
                rd a1 fun q1 =>
                rd (ld (kI .i64) (q1.add 3) h6) fun x3 =>
                net_Net_Moved a0 h6 fun r7 h8 =>
                ld (kI .i64) (q1.add 3) h8 = some x3 ∧
                k1 (r7 == x3) h8
              else
                k1 false h6
            else
              k1 false h6
          else
            k1 false h6
        else
          k1 false h6
      else
        k1 false h6
    else
      k1 false h6) fun s1 h7 =>
  Q s1 h7
theorem spatelaw16_told.sound {a0 : Option Addr} {a1 : Option Addr} {a2 : Int} {h : H} {Q : Bool → H → Prop} (hF : spatelaw16_told a0 a1 a2 h Q) :
    CallsH Try.prog 22 (List.toArray (α := Value) [.pointer a0, .pointer a1, .int .i64 a2]) h fun v h' => ∃ x : Bool, v = .bool x ∧ Q x h' := by
  refine CallsH.of_body Try.func22 rfl 94 rfl rfl ?_
  refine WP.seq ?_
  refine WP.region ?_
  refine EvK.pure (v := .bool false) (w_none rfl) rfl rfl (f_assign rfl rfl) ?_
  refine EvK.nil ?_
  refine WP.seq ?_
  refine WP.region ?_
  refine EvK.pure (v := .pointer a0) (w_none rfl) rfl rfl (f_move rfl rfl) ?_
  refine EvK.pure (v := .int .i64 a2) (w_none rfl) rfl rfl (f_move rfl rfl) ?_
  refine EvK.call (w_none rfl) rfl rfl (enterH Try.func15 rfl rfl rfl rfl (net_Net_Heard.sound hF)) ?_
  rintro _ h1 ⟨r1, rfl, hF⟩
  refine EvK.pure (v := .tuple #[Sl.val r1.1, .bool r1.2]) (w_none rfl) rfl rfl (f_move rfl rfl) ?_
  refine EvK.pure (v := Sl.val r1.1) (w_none rfl) rfl rfl (f_extract (vs := #[Sl.val r1.1, .bool r1.2]) rfl rfl rfl) ?_
  refine EvK.pure (v := .bool r1.2) (w_none rfl) rfl rfl (f_extract (vs := #[Sl.val r1.1, .bool r1.2]) rfl rfl rfl) ?_
  refine EvK.pure (v := Sl.val r1.1) (w_none rfl) rfl rfl (f_assign rfl rfl) ?_
  refine EvK.pure (v := .bool r1.2) (w_none rfl) rfl rfl (f_assign rfl rfl) ?_
  refine EvK.nil ?_
  refine WP.seq ?_
  refine WP.region ?_
  refine EvK.pure (v := .pointer a1) (w_none rfl) rfl rfl (f_move rfl rfl) ?_
  refine EvK.pure (v := .int .i64 a2) (w_none rfl) rfl rfl (f_move rfl rfl) ?_
  refine EvK.call (w_none rfl) rfl rfl (enterH Try.func43 rfl rfl rfl rfl (spateref16_Net_Heard.sound hF)) ?_
  rintro _ h2 ⟨r2, rfl, hF⟩
  refine EvK.pure (v := .tuple #[Sl.val r2.1, .bool r2.2]) (w_none rfl) rfl rfl (f_move rfl rfl) ?_
  refine EvK.pure (v := Sl.val r2.1) (w_none rfl) rfl rfl (f_extract (vs := #[Sl.val r2.1, .bool r2.2]) rfl rfl rfl) ?_
  refine EvK.pure (v := .bool r2.2) (w_none rfl) rfl rfl (f_extract (vs := #[Sl.val r2.1, .bool r2.2]) rfl rfl rfl) ?_
  refine EvK.pure (v := Sl.val r2.1) (w_none rfl) rfl rfl (f_assign rfl rfl) ?_
  refine EvK.pure (v := .bool r2.2) (w_none rfl) rfl rfl (f_assign rfl rfl) ?_
  refine EvK.nil ?_
  refine WP.seq ?_
  refine WP.region ?_
  refine EvK.pure (v := .pointer a0) (w_none rfl) rfl rfl (f_move rfl rfl) ?_
  refine EvK.pure (v := .int .i64 a2) (w_none rfl) rfl rfl (f_move rfl rfl) ?_
  refine EvK.call (w_none rfl) rfl rfl (enterH Try.func24 rfl rfl rfl rfl (net_Net_Is.sound hF)) ?_
  rintro _ h3 ⟨r3, rfl, hF⟩
  refine EvK.pure (v := .tuple #[.bool r3.1, .bool r3.2]) (w_none rfl) rfl rfl (f_move rfl rfl) ?_
  refine EvK.pure (v := .bool r3.1) (w_none rfl) rfl rfl (f_extract (vs := #[.bool r3.1, .bool r3.2]) rfl rfl rfl) ?_
  refine EvK.pure (v := .bool r3.2) (w_none rfl) rfl rfl (f_extract (vs := #[.bool r3.1, .bool r3.2]) rfl rfl rfl) ?_
  refine EvK.pure (v := .bool r3.1) (w_none rfl) rfl rfl (f_assign rfl rfl) ?_
  refine EvK.pure (v := .bool r3.2) (w_none rfl) rfl rfl (f_assign rfl rfl) ?_
  refine EvK.nil ?_
  refine WP.seq ?_
  refine WP.region ?_
  refine EvK.pure (v := .pointer a1) (w_none rfl) rfl rfl (f_move rfl rfl) ?_
  refine EvK.pure (v := .int .i64 a2) (w_none rfl) rfl rfl (f_move rfl rfl) ?_
  refine EvK.call (w_none rfl) rfl rfl (enterH Try.func44 rfl rfl rfl rfl (spateref16_Net_Is.sound hF)) ?_
  rintro _ h4 ⟨r4, rfl, hF⟩
  refine EvK.pure (v := .tuple #[.bool r4.1, .bool r4.2]) (w_none rfl) rfl rfl (f_move rfl rfl) ?_
  refine EvK.pure (v := .bool r4.1) (w_none rfl) rfl rfl (f_extract (vs := #[.bool r4.1, .bool r4.2]) rfl rfl rfl) ?_
  refine EvK.pure (v := .bool r4.2) (w_none rfl) rfl rfl (f_extract (vs := #[.bool r4.1, .bool r4.2]) rfl rfl rfl) ?_
  refine EvK.pure (v := .bool r4.1) (w_none rfl) rfl rfl (f_assign rfl rfl) ?_
  refine EvK.pure (v := .bool r4.2) (w_none rfl) rfl rfl (f_assign rfl rfl) ?_
  refine EvK.nil ?_
  refine WP.seq ?_
  refine WP.region ?_
  refine EvK.pure (v := .pointer a0) (w_none rfl) rfl rfl (f_move rfl rfl) ?_
  refine EvK.pure (v := .int .i64 a2) (w_none rfl) rfl rfl (f_move rfl rfl) ?_
  refine EvK.call (w_none rfl) rfl rfl (enterH Try.func25 rfl rfl rfl rfl (net_Net_Under.sound hF)) ?_
  rintro _ h5 ⟨r5, rfl, hF⟩
  refine EvK.pure (v := .tuple #[.int .i64 r5.1, .int .i64 r5.2]) (w_none rfl) rfl rfl (f_move rfl rfl) ?_
  refine EvK.pure (v := .int .i64 r5.1) (w_none rfl) rfl rfl (f_extract (vs := #[.int .i64 r5.1, .int .i64 r5.2]) rfl rfl rfl) ?_
  refine EvK.pure (v := .int .i64 r5.2) (w_none rfl) rfl rfl (f_extract (vs := #[.int .i64 r5.1, .int .i64 r5.2]) rfl rfl rfl) ?_
  refine EvK.pure (v := .int .i64 r5.1) (w_none rfl) rfl rfl (f_assign rfl rfl) ?_
  refine EvK.pure (v := .int .i64 r5.2) (w_none rfl) rfl rfl (f_assign rfl rfl) ?_
  refine EvK.nil ?_
  refine WP.seq ?_
  refine WP.region ?_
  refine EvK.pure (v := .pointer a1) (w_none rfl) rfl rfl (f_move rfl rfl) ?_
  refine EvK.pure (v := .int .i64 a2) (w_none rfl) rfl rfl (f_move rfl rfl) ?_
  refine EvK.call (w_none rfl) rfl rfl (enterH Try.func45 rfl rfl rfl rfl (spateref16_Net_Under.sound hF)) ?_
  rintro _ h6 ⟨r6, rfl, hF⟩
  refine EvK.pure (v := .tuple #[.int .i64 r6.1, .int .i64 r6.2]) (w_none rfl) rfl rfl (f_move rfl rfl) ?_
  refine EvK.pure (v := .int .i64 r6.1) (w_none rfl) rfl rfl (f_extract (vs := #[.int .i64 r6.1, .int .i64 r6.2]) rfl rfl rfl) ?_
  refine EvK.pure (v := .int .i64 r6.2) (w_none rfl) rfl rfl (f_extract (vs := #[.int .i64 r6.1, .int .i64 r6.2]) rfl rfl rfl) ?_
  refine EvK.pure (v := .int .i64 r6.1) (w_none rfl) rfl rfl (f_assign rfl rfl) ?_
  refine EvK.pure (v := .int .i64 r6.2) (w_none rfl) rfl rfl (f_assign rfl rfl) ?_
  refine EvK.nil ?_
  refine WP.joinF (fun (s1 : Bool) => [(6, .bool s1)]) hF ?_ ?_
  · intro s1 E0 h7 hF
    refine WP.ret ?_
    exact Ret.mk (vs := [.bool s1]) s1 ⟨rfl, trivial⟩ rfl hF
  · intro k1 hF
    refine WP.draw mixed [.pure, .read, .pure, .read, .pure, .pure, .pure, .pure, .pure, .pure, .pure, .pure, .pure, .pure, .pure, .pure, .pure, .pure, .pure, .pure, .pure, .pure, .pure, .pure, .pure, .pure, .pure, .pure, .pure, .pure, .pure, .pure, .eff [36], .pure, .pure, .pure, .read, .pure, .pure, .pure] [[], [0], [], [2], [0, 1, 2, 3], [0, 1, 2, 3, 4], [0, 1, 2, 3, 4, 5], [0, 1, 2, 3, 4, 5], [0, 1, 2, 3, 4, 5, 6, 7], [0, 1, 2, 3, 4, 5, 6, 7, 8], [0, 1, 2, 3, 4, 5, 6, 7, 8, 9], [0, 1, 2, 3, 4, 5, 6, 7, 8, 9, 10], [0, 1, 2, 3, 4, 5, 6, 7, 8, 9, 10], [0, 1, 2, 3, 4, 5, 6, 7, 8, 9, 10, 11, 12], [0, 1, 2, 3, 4, 5, 6, 7, 8, 9, 10, 11, 12, 13], [0, 1, 2, 3, 4, 5, 6, 7, 8, 9, 10, 11, 12, 13, 14], [0, 1, 2, 3, 4, 5, 6, 7, 8, 9, 10, 11, 12, 13, 14, 15], [0, 1, 2, 3, 4, 5, 6, 7, 8, 9, 10, 11, 12, 13, 14, 15], [0, 1, 2, 3, 4, 5, 6, 7, 8, 9, 10, 11, 12, 13, 14, 15, 16, 17], [0, 1, 2, 3, 4, 5, 6, 7, 8, 9, 10, 11, 12, 13, 14, 15, 16, 17, 18], [0, 1, 2, 3, 4, 5, 6, 7, 8, 9, 10, 11, 12, 13, 14, 15, 16, 17, 18, 19], [0, 1, 2, 3, 4, 5, 6, 7, 8, 9, 10, 11, 12, 13, 14, 15, 16, 17, 18, 19, 20], [0, 1, 2, 3, 4, 5, 6, 7, 8, 9, 10, 11, 12, 13, 14, 15, 16, 17, 18, 19, 20], [0, 1, 2, 3, 4, 5, 6, 7, 8, 9, 10, 11, 12, 13, 14, 15, 16, 17, 18, 19, 20, 21, 22], [0, 1, 2, 3, 4, 5, 6, 7, 8, 9, 10, 11, 12, 13, 14, 15, 16, 17, 18, 19, 20, 21, 22, 23], [0, 1, 2, 3, 4, 5, 6, 7, 8, 9, 10, 11, 12, 13, 14, 15, 16, 17, 18, 19, 20, 21, 22, 23, 24], [0, 1, 2, 3, 4, 5, 6, 7, 8, 9, 10, 11, 12, 13, 14, 15, 16, 17, 18, 19, 20, 21, 22, 23, 24, 25], [0, 1, 2, 3, 4, 5, 6, 7, 8, 9, 10, 11, 12, 13, 14, 15, 16, 17, 18, 19, 20, 21, 22, 23, 24, 25], [0, 1, 2, 3, 4, 5, 6, 7, 8, 9, 10, 11, 12, 13, 14, 15, 16, 17, 18, 19, 20, 21, 22, 23, 24, 25, 26, 27], [0, 1, 2, 3, 4, 5, 6, 7, 8, 9, 10, 11, 12, 13, 14, 15, 16, 17, 18, 19, 20, 21, 22, 23, 24, 25, 26, 27, 28], [0, 1, 2, 3, 4, 5, 6, 7, 8, 9, 10, 11, 12, 13, 14, 15, 16, 17, 18, 19, 20, 21, 22, 23, 24, 25, 26, 27, 28, 29], [0, 1, 2, 3, 4, 5, 6, 7, 8, 9, 10, 11, 12, 13, 14, 15, 16, 17, 18, 19, 20, 21, 22, 23, 24, 25, 26, 27, 28, 29, 30], [0, 1, 2, 3, 4, 5, 6, 7, 8, 9, 10, 11, 12, 13, 14, 15, 16, 17, 18, 19, 20, 21, 22, 23, 24, 25, 26, 27, 28, 29, 30, 31], [0, 1, 2, 3, 4, 5, 6, 7, 8, 9, 10, 11, 12, 13, 14, 15, 16, 17, 18, 19, 20, 21, 22, 23, 24, 25, 26, 27, 28, 29, 30], [0, 1, 2, 3, 4, 5, 6, 7, 8, 9, 10, 11, 12, 13, 14, 15, 16, 17, 18, 19, 20, 21, 22, 23, 24, 25, 26, 27, 28, 29, 30, 33], [0, 1, 2, 3, 4, 5, 6, 7, 8, 9, 10, 11, 12, 13, 14, 15, 16, 17, 18, 19, 20, 21, 22, 23, 24, 25, 26, 27, 28, 29, 30, 33, 34], [0, 1, 2, 3, 4, 5, 6, 7, 8, 9, 10, 11, 12, 13, 14, 15, 16, 17, 18, 19, 20, 21, 22, 23, 24, 25, 26, 27, 28, 29, 30, 33, 34, 35], [0, 1, 2, 3, 4, 5, 6, 7, 8, 9, 10, 11, 12, 13, 14, 15, 16, 17, 18, 19, 20, 21, 22, 23, 24, 25, 26, 27, 28, 29, 30, 31, 32, 33, 34, 35, 36], [0, 1, 2, 3, 4, 5, 6, 7, 8, 9, 10, 11, 12, 13, 14, 15, 16, 17, 18, 19, 20, 21, 22, 23, 24, 25, 26, 27, 28, 29, 30, 31, 32, 33, 34, 35, 36, 37], [0, 1, 2, 3, 4, 5, 6, 7, 8, 9, 10, 11, 12, 13, 14, 15, 16, 17, 18, 19, 20, 21, 22, 23, 24, 25, 26, 27, 28, 29, 30, 31, 32, 33, 34, 35, 36, 37, 38]] [0, 1, 2, 3, 4, 5, 6, 7, 8, 9, 10, 11, 12, 13, 14, 15, 16, 17, 18, 19, 20, 21, 22, 23, 24, 25, 26, 27, 28, 29, 30, 31, 33, 34, 35, 36, 32, 37, 38, 39] (by kernel_rfl) (by kernel_rfl) ?_
    refine EvI.pure (v := Sl.val r1.1) rfl rfl (w_none rfl) rfl (f_move rfl rfl) ?_
    obtain ⟨x1, hx1, hF⟩ := hF
    refine EvI.read (v := .string x1) rfl rfl (w_none rfl) rfl (f_b2s Try.underlying29 Try.underlying9 Try.underlying5 rfl rfl hx1) ?_
    refine EvI.pure (v := Sl.val r2.1) rfl rfl (w_none rfl) rfl (f_move rfl rfl) ?_
    obtain ⟨x2, hx2, hF⟩ := hF
    refine EvI.read (v := .string x2) rfl rfl (w_none rfl) rfl (f_b2s Try.underlying29 Try.underlying9 Try.underlying5 rfl rfl hx2) ?_
    refine EvI.pure (v := .bool (x1.toList == x2.toList)) rfl rfl (w_none rfl) rfl (f_seql rfl rfl rfl) ?_
    refine EvI.pure (v := .bool (x1.toList == x2.toList)) rfl rfl (w_none rfl) rfl (f_move rfl rfl) ?_
    rcases ite_inv hF with ⟨c1, hF⟩ | ⟨c1, hF⟩
    · refine EvI.pure (v := .bool r1.2) rfl rfl (w_some rfl rfl c1) rfl (f_move rfl rfl) ?_
      refine EvI.pure (v := .bool r2.2) rfl rfl (w_some rfl rfl c1) rfl (f_move rfl rfl) ?_
      refine EvI.pure (v := .bool (r1.2 == r2.2)) rfl rfl (w_some rfl rfl c1) rfl (f_beql Try.underlying4 rfl rfl rfl) ?_
      refine EvI.pure (v := .bool (r1.2 == r2.2)) rfl rfl (w_none rfl) rfl (f_pickT rfl rfl c1 rfl) ?_
      refine EvI.pure (v := .bool (r1.2 == r2.2)) rfl rfl (w_none rfl) rfl (f_move rfl rfl) ?_
      rcases ite_inv hF with ⟨c2, hF⟩ | ⟨c2, hF⟩
      · refine EvI.pure (v := .bool r3.1) rfl rfl (w_some rfl rfl c2) rfl (f_move rfl rfl) ?_
        refine EvI.pure (v := .bool r4.1) rfl rfl (w_some rfl rfl c2) rfl (f_move rfl rfl) ?_
        refine EvI.pure (v := .bool (r3.1 == r4.1)) rfl rfl (w_some rfl rfl c2) rfl (f_beql Try.underlying4 rfl rfl rfl) ?_
        refine EvI.pure (v := .bool (r3.1 == r4.1)) rfl rfl (w_none rfl) rfl (f_pickT rfl rfl c2 rfl) ?_
        refine EvI.pure (v := .bool (r3.1 == r4.1)) rfl rfl (w_none rfl) rfl (f_move rfl rfl) ?_
        rcases ite_inv hF with ⟨c3, hF⟩ | ⟨c3, hF⟩
        · refine EvI.pure (v := .bool r3.2) rfl rfl (w_some rfl rfl c3) rfl (f_move rfl rfl) ?_
          refine EvI.pure (v := .bool r4.2) rfl rfl (w_some rfl rfl c3) rfl (f_move rfl rfl) ?_
          refine EvI.pure (v := .bool (r3.2 == r4.2)) rfl rfl (w_some rfl rfl c3) rfl (f_beql Try.underlying4 rfl rfl rfl) ?_
          refine EvI.pure (v := .bool (r3.2 == r4.2)) rfl rfl (w_none rfl) rfl (f_pickT rfl rfl c3 rfl) ?_
          refine EvI.pure (v := .bool (r3.2 == r4.2)) rfl rfl (w_none rfl) rfl (f_move rfl rfl) ?_
          rcases ite_inv hF with ⟨c4, hF⟩ | ⟨c4, hF⟩
          · refine EvI.pure (v := .int .i64 r5.1) rfl rfl (w_some rfl rfl c4) rfl (f_move rfl rfl) ?_
            refine EvI.pure (v := .int .i64 r6.1) rfl rfl (w_some rfl rfl c4) rfl (f_move rfl rfl) ?_
            refine EvI.pure (v := .bool (r5.1 == r6.1)) rfl rfl (w_some rfl rfl c4) rfl (f_eql rfl rfl rfl) ?_
            refine EvI.pure (v := .bool (r5.1 == r6.1)) rfl rfl (w_none rfl) rfl (f_pickT rfl rfl c4 rfl) ?_
            refine EvI.pure (v := .bool (r5.1 == r6.1)) rfl rfl (w_none rfl) rfl (f_move rfl rfl) ?_
            rcases ite_inv hF with ⟨c5, hF⟩ | ⟨c5, hF⟩
            · refine EvI.pure (v := .int .i64 r5.2) rfl rfl (w_some rfl rfl c5) rfl (f_move rfl rfl) ?_
              refine EvI.pure (v := .int .i64 r6.2) rfl rfl (w_some rfl rfl c5) rfl (f_move rfl rfl) ?_
              refine EvI.pure (v := .bool (r5.2 == r6.2)) rfl rfl (w_some rfl rfl c5) rfl (f_eql rfl rfl rfl) ?_
              refine EvI.pure (v := .bool (r5.2 == r6.2)) rfl rfl (w_none rfl) rfl (f_pickT rfl rfl c5 rfl) ?_
              refine EvI.pure (v := .bool (r5.2 == r6.2)) rfl rfl (w_none rfl) rfl (f_move rfl rfl) ?_
              rcases ite_inv hF with ⟨c6, hF⟩ | ⟨c6, hF⟩
              · refine EvI.pure (v := .pointer a0) rfl rfl (w_some rfl rfl c6) rfl (f_move rfl rfl) ?_
                refine EvI.pure (v := .pointer a1) rfl rfl (w_some rfl rfl c6) rfl (f_move rfl rfl) ?_
                obtain ⟨q1, hq1, hF⟩ := hF
                refine EvI.pure (v := .pointer (some q1)) rfl rfl (w_some rfl rfl c6) rfl (f_nilCheck rfl (congrArg Value.pointer hq1)) ?_
                refine EvI.pure (v := .pointer (some (q1.add 3))) rfl rfl (w_some rfl rfl c6) rfl (f_fieldAddr fd83_3 rfl rfl) ?_
                obtain ⟨x3, hx3, hF⟩ := hF
                refine EvI.read (v := .int .i64 x3) rfl rfl (w_some rfl rfl c6) rfl (f_load (kI .i64) ty3 rfl rfl hx3 rfl) ?_
                refine EvI.call rfl rfl (w_some rfl rfl c6) rfl (enterH Try.func16 rfl rfl rfl rfl (net_Net_Moved.sound hF)) ?_
                rintro _ h8 ⟨r7, rfl, hF⟩
                obtain ⟨hy1, hF⟩ := hF
                refine ⟨⟨chk_yes rfl (f_load (kI .i64) ty3 rfl rfl hy1 rfl), chk_no rfl, chk_no rfl, trivial⟩, ?_⟩
                refine EvI.pure (v := .bool (r7 == x3)) rfl rfl (w_some rfl rfl c6) rfl (f_eql rfl rfl rfl) ?_
                refine EvI.pure (v := .bool (r7 == x3)) rfl rfl (w_none rfl) rfl (f_pickT rfl rfl c6 rfl) ?_
                refine EvI.pure (v := .bool (r7 == x3)) rfl rfl (w_none rfl) rfl (f_assign rfl rfl) ?_
                refine EvI.nil ?_
                exact KE.mk (r7 == x3) ⟨rfl, trivial⟩ hF
              · refine EvI.not rfl (w_not rfl rfl c6) rfl ?_
                refine EvI.not rfl (w_not rfl rfl c6) rfl ?_
                refine EvI.not rfl (w_not rfl rfl c6) rfl ?_
                refine EvI.not rfl (w_not rfl rfl c6) rfl ?_
                refine EvI.not rfl (w_not rfl rfl c6) rfl ?_
                refine EvI.not rfl (w_not rfl rfl c6) rfl ?_
                refine EvI.not rfl (w_not rfl rfl c6) rfl ?_
                refine EvI.pure (v := .bool false) rfl rfl (w_none rfl) rfl (f_pickF rfl rfl c6 rfl) ?_
                refine EvI.pure (v := .bool false) rfl rfl (w_none rfl) rfl (f_assign rfl rfl) ?_
                refine EvI.nil ?_
                exact KE.mk false ⟨rfl, trivial⟩ hF
            · refine EvI.not rfl (w_not rfl rfl c5) rfl ?_
              refine EvI.not rfl (w_not rfl rfl c5) rfl ?_
              refine EvI.not rfl (w_not rfl rfl c5) rfl ?_
              refine EvI.pure (v := .bool false) rfl rfl (w_none rfl) rfl (f_pickF rfl rfl c5 rfl) ?_
              refine EvI.pure (v := .bool false) rfl rfl (w_none rfl) rfl (f_move rfl rfl) ?_
              refine EvI.not rfl (w_not rfl rfl rfl) rfl ?_
              refine EvI.not rfl (w_not rfl rfl rfl) rfl ?_
              refine EvI.not rfl (w_not rfl rfl rfl) rfl ?_
              refine EvI.not rfl (w_not rfl rfl rfl) rfl ?_
              refine EvI.not rfl (w_not rfl rfl rfl) rfl ?_
              refine EvI.not rfl (w_not rfl rfl rfl) rfl ?_
              refine EvI.not rfl (w_not rfl rfl rfl) rfl ?_
              refine EvI.pure (v := .bool false) rfl rfl (w_none rfl) rfl (f_pickF rfl rfl rfl rfl) ?_
              refine EvI.pure (v := .bool false) rfl rfl (w_none rfl) rfl (f_assign rfl rfl) ?_
              refine EvI.nil ?_
              exact KE.mk false ⟨rfl, trivial⟩ hF
          · refine EvI.not rfl (w_not rfl rfl c4) rfl ?_
            refine EvI.not rfl (w_not rfl rfl c4) rfl ?_
            refine EvI.not rfl (w_not rfl rfl c4) rfl ?_
            refine EvI.pure (v := .bool false) rfl rfl (w_none rfl) rfl (f_pickF rfl rfl c4 rfl) ?_
            refine EvI.pure (v := .bool false) rfl rfl (w_none rfl) rfl (f_move rfl rfl) ?_
            refine EvI.not rfl (w_not rfl rfl rfl) rfl ?_
            refine EvI.not rfl (w_not rfl rfl rfl) rfl ?_
            refine EvI.not rfl (w_not rfl rfl rfl) rfl ?_
            refine EvI.pure (v := .bool false) rfl rfl (w_none rfl) rfl (f_pickF rfl rfl rfl rfl) ?_
            refine EvI.pure (v := .bool false) rfl rfl (w_none rfl) rfl (f_move rfl rfl) ?_
            refine EvI.not rfl (w_not rfl rfl rfl) rfl ?_
            refine EvI.not rfl (w_not rfl rfl rfl) rfl ?_
            refine EvI.not rfl (w_not rfl rfl rfl) rfl ?_
            refine EvI.not rfl (w_not rfl rfl rfl) rfl ?_
            refine EvI.not rfl (w_not rfl rfl rfl) rfl ?_
            refine EvI.not rfl (w_not rfl rfl rfl) rfl ?_
            refine EvI.not rfl (w_not rfl rfl rfl) rfl ?_
            refine EvI.pure (v := .bool false) rfl rfl (w_none rfl) rfl (f_pickF rfl rfl rfl rfl) ?_
            refine EvI.pure (v := .bool false) rfl rfl (w_none rfl) rfl (f_assign rfl rfl) ?_
            refine EvI.nil ?_
            exact KE.mk false ⟨rfl, trivial⟩ hF
        · refine EvI.not rfl (w_not rfl rfl c3) rfl ?_
          refine EvI.not rfl (w_not rfl rfl c3) rfl ?_
          refine EvI.not rfl (w_not rfl rfl c3) rfl ?_
          refine EvI.pure (v := .bool false) rfl rfl (w_none rfl) rfl (f_pickF rfl rfl c3 rfl) ?_
          refine EvI.pure (v := .bool false) rfl rfl (w_none rfl) rfl (f_move rfl rfl) ?_
          refine EvI.not rfl (w_not rfl rfl rfl) rfl ?_
          refine EvI.not rfl (w_not rfl rfl rfl) rfl ?_
          refine EvI.not rfl (w_not rfl rfl rfl) rfl ?_
          refine EvI.pure (v := .bool false) rfl rfl (w_none rfl) rfl (f_pickF rfl rfl rfl rfl) ?_
          refine EvI.pure (v := .bool false) rfl rfl (w_none rfl) rfl (f_move rfl rfl) ?_
          refine EvI.not rfl (w_not rfl rfl rfl) rfl ?_
          refine EvI.not rfl (w_not rfl rfl rfl) rfl ?_
          refine EvI.not rfl (w_not rfl rfl rfl) rfl ?_
          refine EvI.pure (v := .bool false) rfl rfl (w_none rfl) rfl (f_pickF rfl rfl rfl rfl) ?_
          refine EvI.pure (v := .bool false) rfl rfl (w_none rfl) rfl (f_move rfl rfl) ?_
          refine EvI.not rfl (w_not rfl rfl rfl) rfl ?_
          refine EvI.not rfl (w_not rfl rfl rfl) rfl ?_
          refine EvI.not rfl (w_not rfl rfl rfl) rfl ?_
          refine EvI.not rfl (w_not rfl rfl rfl) rfl ?_
          refine EvI.not rfl (w_not rfl rfl rfl) rfl ?_
          refine EvI.not rfl (w_not rfl rfl rfl) rfl ?_
          refine EvI.not rfl (w_not rfl rfl rfl) rfl ?_
          refine EvI.pure (v := .bool false) rfl rfl (w_none rfl) rfl (f_pickF rfl rfl rfl rfl) ?_
          refine EvI.pure (v := .bool false) rfl rfl (w_none rfl) rfl (f_assign rfl rfl) ?_
          refine EvI.nil ?_
          exact KE.mk false ⟨rfl, trivial⟩ hF
      · refine EvI.not rfl (w_not rfl rfl c2) rfl ?_
        refine EvI.not rfl (w_not rfl rfl c2) rfl ?_
        refine EvI.not rfl (w_not rfl rfl c2) rfl ?_
        refine EvI.pure (v := .bool false) rfl rfl (w_none rfl) rfl (f_pickF rfl rfl c2 rfl) ?_
        refine EvI.pure (v := .bool false) rfl rfl (w_none rfl) rfl (f_move rfl rfl) ?_
        refine EvI.not rfl (w_not rfl rfl rfl) rfl ?_
        refine EvI.not rfl (w_not rfl rfl rfl) rfl ?_
        refine EvI.not rfl (w_not rfl rfl rfl) rfl ?_
        refine EvI.pure (v := .bool false) rfl rfl (w_none rfl) rfl (f_pickF rfl rfl rfl rfl) ?_
        refine EvI.pure (v := .bool false) rfl rfl (w_none rfl) rfl (f_move rfl rfl) ?_
        refine EvI.not rfl (w_not rfl rfl rfl) rfl ?_
        refine EvI.not rfl (w_not rfl rfl rfl) rfl ?_
        refine EvI.not rfl (w_not rfl rfl rfl) rfl ?_
        refine EvI.pure (v := .bool false) rfl rfl (w_none rfl) rfl (f_pickF rfl rfl rfl rfl) ?_
        refine EvI.pure (v := .bool false) rfl rfl (w_none rfl) rfl (f_move rfl rfl) ?_
        refine EvI.not rfl (w_not rfl rfl rfl) rfl ?_
        refine EvI.not rfl (w_not rfl rfl rfl) rfl ?_
        refine EvI.not rfl (w_not rfl rfl rfl) rfl ?_
        refine EvI.pure (v := .bool false) rfl rfl (w_none rfl) rfl (f_pickF rfl rfl rfl rfl) ?_
        refine EvI.pure (v := .bool false) rfl rfl (w_none rfl) rfl (f_move rfl rfl) ?_
        refine EvI.not rfl (w_not rfl rfl rfl) rfl ?_
        refine EvI.not rfl (w_not rfl rfl rfl) rfl ?_
        refine EvI.not rfl (w_not rfl rfl rfl) rfl ?_
        refine EvI.not rfl (w_not rfl rfl rfl) rfl ?_
        refine EvI.not rfl (w_not rfl rfl rfl) rfl ?_
        refine EvI.not rfl (w_not rfl rfl rfl) rfl ?_
        refine EvI.not rfl (w_not rfl rfl rfl) rfl ?_
        refine EvI.pure (v := .bool false) rfl rfl (w_none rfl) rfl (f_pickF rfl rfl rfl rfl) ?_
        refine EvI.pure (v := .bool false) rfl rfl (w_none rfl) rfl (f_assign rfl rfl) ?_
        refine EvI.nil ?_
        exact KE.mk false ⟨rfl, trivial⟩ hF
    · refine EvI.not rfl (w_not rfl rfl c1) rfl ?_
      refine EvI.not rfl (w_not rfl rfl c1) rfl ?_
      refine EvI.not rfl (w_not rfl rfl c1) rfl ?_
      refine EvI.pure (v := .bool false) rfl rfl (w_none rfl) rfl (f_pickF rfl rfl c1 rfl) ?_
      refine EvI.pure (v := .bool false) rfl rfl (w_none rfl) rfl (f_move rfl rfl) ?_
      refine EvI.not rfl (w_not rfl rfl rfl) rfl ?_
      refine EvI.not rfl (w_not rfl rfl rfl) rfl ?_
      refine EvI.not rfl (w_not rfl rfl rfl) rfl ?_
      refine EvI.pure (v := .bool false) rfl rfl (w_none rfl) rfl (f_pickF rfl rfl rfl rfl) ?_
      refine EvI.pure (v := .bool false) rfl rfl (w_none rfl) rfl (f_move rfl rfl) ?_
      refine EvI.not rfl (w_not rfl rfl rfl) rfl ?_
      refine EvI.not rfl (w_not rfl rfl rfl) rfl ?_
      refine EvI.not rfl (w_not rfl rfl rfl) rfl ?_
      refine EvI.pure (v := .bool false) rfl rfl (w_none rfl) rfl (f_pickF rfl rfl rfl rfl) ?_
      refine EvI.pure (v := .bool false) rfl rfl (w_none rfl) rfl (f_move rfl rfl) ?_
      refine EvI.not rfl (w_not rfl rfl rfl) rfl ?_
      refine EvI.not rfl (w_not rfl rfl rfl) rfl ?_
      refine EvI.not rfl (w_not rfl rfl rfl) rfl ?_
      refine EvI.pure (v := .bool false) rfl rfl (w_none rfl) rfl (f_pickF rfl rfl rfl rfl) ?_
      refine EvI.pure (v := .bool false) rfl rfl (w_none rfl) rfl (f_move rfl rfl) ?_
      refine EvI.not rfl (w_not rfl rfl rfl) rfl ?_
      refine EvI.not rfl (w_not rfl rfl rfl) rfl ?_
      refine EvI.not rfl (w_not rfl rfl rfl) rfl ?_
      refine EvI.pure (v := .bool false) rfl rfl (w_none rfl) rfl (f_pickF rfl rfl rfl rfl) ?_
      refine EvI.pure (v := .bool false) rfl rfl (w_none rfl) rfl (f_move rfl rfl) ?_
      refine EvI.not rfl (w_not rfl rfl rfl) rfl ?_
      refine EvI.not rfl (w_not rfl rfl rfl) rfl ?_
      refine EvI.not rfl (w_not rfl rfl rfl) rfl ?_
      refine EvI.not rfl (w_not rfl rfl rfl) rfl ?_
      refine EvI.not rfl (w_not rfl rfl rfl) rfl ?_
      refine EvI.not rfl (w_not rfl rfl rfl) rfl ?_
      refine EvI.not rfl (w_not rfl rfl rfl) rfl ?_
      refine EvI.pure (v := .bool false) rfl rfl (w_none rfl) rfl (f_pickF rfl rfl rfl rfl) ?_
      refine EvI.pure (v := .bool false) rfl rfl (w_none rfl) rfl (f_assign rfl rfl) ?_
      refine EvI.nil ?_
      exact KE.mk false ⟨rfl, trivial⟩ hF
end Go.Proofs.Ytbdopnhfbjdegaa

namespace Go.Proofs.Ytbdopnhfbjdegaa
open Go Go.Tr
set_option linter.unusedVariables false
set_option maxRecDepth 100000
set_option maxHeartbeats 400000
def spatelaw16_NetPlays.b1 (p7 : Option Addr) (p9 : Option Addr) (s : Int) (h : H) (K : Int ⊕ (Unit ⊕ Bool) → H → Prop) : Prop :=
  jn (fun (k4 : Bool → H → Prop) =>
    if (decide (s < 67)) = true then
      k4 (!p9.isNone) h
    else
      k4 false h) fun s4 h7 =>
  if s4 = true then
    spatelaw16_told p7 p9 s h7 fun r4 h8 =>
    if (!r4) = true then
      K (.inr (.inr false)) h8
    else
      K (.inl (IntKind.i64.wrap (s + 1))) h8
  else
    K (.inr (.inl ())) h7
def spatelaw16_NetPlays.b2 (p2 : Sl) (p7 : Option Addr) (p9 : Option Addr) (s : Int) (h : H) (K : Int ⊕ (Unit ⊕ Bool) → H → Prop) : Prop :=
  jn (fun (k6 : Bool → H → Prop) =>
    if (decide (s < (p2.len : Int))) = true then
      if (decide (s < 200)) = true then
        k6 (!p9.isNone) h
      else
        k6 false h
    else
      k6 false h) fun s6 h10 =>
  if s6 = true then
    jn (fun (k7 : Bool → H → Prop) =>
      rd (ixA 4 p2 s) fun q1 =>
      rd (ld k48 q1 h10) fun x1 =>
      spatelaw16_asked p7 p9 x1 h10 fun r7 h12 =>
      if (!r7) = true then
        k7 true h12
      else
        rd (ixA 4 p2 s) fun q2 =>
        rd (ld (kI .i64) (q2.add 1) h12) fun x2 =>
        spatelaw16_told p7 p9 x2 h12 fun r8 h13 =>
        k7 (!r8) h13) fun s7 h11 =>
    if s7 = true then
      K (.inr (.inr false)) h11
    else
      K (.inl (IntKind.i64.wrap (s + 1))) h11
  else
    K (.inr (.inl ())) h10
/-- spate/spatelaw16.NetPlays -/
def spatelaw16_NetPlays (a0 : Int) (a1 : Int) (a2 : Sl) (h : H) (Q : Bool → H → Prop) : Prop :=
  net_New a0 a1 h fun r1 h1 =>
  spateref16_New a0 a1 h1 fun r2 h2 =>
  jn (fun (k1 : Bool → H → Prop) =>
    if (r1.2 != r2.2) = true then
      k1 true h2
    else
      k1 (!(r1.1.isNone == r2.1.isNone)) h2) fun s1 h3 =>
  if s1 = true then
    Q false h3
  else
    jn (fun (k2 : Unit → H → Prop) =>
      loopE (spatelaw16_NetPlays.b2 a2 r1.1 r2.1) 0 h3 (sumK (fun r9 hh => k2 r9 hh) (fun r10 hh => Q r10 hh))) fun s2 h4 =>
    jn (fun (k3 : Unit → H → Prop) =>
      loopE (spatelaw16_NetPlays.b1 r1.1 r2.1) (-1) h4 (sumK (fun r5 hh => k3 r5 hh) (fun r6 hh => Q r6 hh))) fun s3 h5 =>
    spatelaw16_head  h5 fun r3 h6 =>
    Q r3 h6
theorem spatelaw16_NetPlays.sound {a0 : Int} {a1 : Int} {a2 : Sl} {h : H} {Q : Bool → H → Prop} (hF : spatelaw16_NetPlays a0 a1 a2 h Q) :
    CallsH Try.prog 4 (List.toArray (α := Value) [.int .i64 a0, .int .i64 a1, Sl.val a2]) h fun v h' => ∃ x : Bool, v = .bool x ∧ Q x h' := by
  refine CallsH.of_body Try.func4 rfl 82 rfl rfl ?_
  refine WP.seq ?_
  refine WP.region ?_
  refine EvK.pure (v := .bool false) (w_none rfl) rfl rfl (f_assign rfl rfl) ?_
  refine EvK.nil ?_
  refine WP.seq ?_
  refine WP.region ?_
  refine EvK.pure (v := .int .i64 a0) (w_none rfl) rfl rfl (f_move rfl rfl) ?_
  refine EvK.pure (v := .int .i64 a1) (w_none rfl) rfl rfl (f_move rfl rfl) ?_
  refine EvK.call (w_none rfl) rfl rfl (enterH Try.func7 rfl rfl rfl rfl (net_New.sound hF)) ?_
  rintro _ h1 ⟨r1, rfl, hF⟩
  refine EvK.pure (v := .tuple #[.pointer r1.1, .int .i64 r1.2]) (w_none rfl) rfl rfl (f_move rfl rfl) ?_
  refine EvK.pure (v := .pointer r1.1) (w_none rfl) rfl rfl (f_extract (vs := #[.pointer r1.1, .int .i64 r1.2]) rfl rfl rfl) ?_
  refine EvK.pure (v := .int .i64 r1.2) (w_none rfl) rfl rfl (f_extract (vs := #[.pointer r1.1, .int .i64 r1.2]) rfl rfl rfl) ?_
  refine EvK.pure (v := .pointer r1.1) (w_none rfl) rfl rfl (f_assign rfl rfl) ?_
  refine EvK.pure (v := .int .i64 r1.2) (w_none rfl) rfl rfl (f_assign rfl rfl) ?_
  refine EvK.nil ?_
  refine WP.seq ?_
  refine WP.region ?_
  refine EvK.pure (v := .int .i64 a0) (w_none rfl) rfl rfl (f_move rfl rfl) ?_
  refine EvK.pure (v := .int .i64 a1) (w_none rfl) rfl rfl (f_move rfl rfl) ?_
  refine EvK.call (w_none rfl) rfl rfl (enterH Try.func20 rfl rfl rfl rfl (spateref16_New.sound hF)) ?_
  rintro _ h2 ⟨r2, rfl, hF⟩
  refine EvK.pure (v := .tuple #[.pointer r2.1, .int .i64 r2.2]) (w_none rfl) rfl rfl (f_move rfl rfl) ?_
  refine EvK.pure (v := .pointer r2.1) (w_none rfl) rfl rfl (f_extract (vs := #[.pointer r2.1, .int .i64 r2.2]) rfl rfl rfl) ?_
  refine EvK.pure (v := .int .i64 r2.2) (w_none rfl) rfl rfl (f_extract (vs := #[.pointer r2.1, .int .i64 r2.2]) rfl rfl rfl) ?_
  refine EvK.pure (v := .pointer r2.1) (w_none rfl) rfl rfl (f_assign rfl rfl) ?_
  refine EvK.pure (v := .int .i64 r2.2) (w_none rfl) rfl rfl (f_assign rfl rfl) ?_
  refine EvK.nil ?_
  refine WP.seq ?_
  refine WP.joinF (fun (s1 : Bool) => [(34, .bool s1), (2, Sl.val a2), (7, .pointer r1.1), (9, .pointer r2.1)]) hF ?_ ?_
  · intro s1 E0 h3 hF
    rcases ite_inv hF with ⟨c1, hF⟩ | ⟨c1, hF⟩
    · refine WP.cond_true _ rfl c1 ?_
      refine WP.seq ?_
      refine WP.region ?_
      refine EvK.pure (v := .bool false) (w_none rfl) rfl rfl (f_assign rfl rfl) ?_
      refine EvK.nil ?_
      refine WP.ret ?_
      exact Ret.mk (vs := [.bool false]) false ⟨rfl, trivial⟩ rfl hF
    · refine WP.cond_false _ rfl c1 ?_
      refine WP.skip ?_
      refine WP.joinF (fun (s2 : Unit) => [(7, .pointer r1.1), (9, .pointer r2.1)]) hF ?_ ?_
      · intro s2 E0 h4 hF
        refine WP.joinF (fun (s3 : Unit) => []) hF ?_ ?_
        · intro s3 E0 h5 hF
          refine WP.seq ?_
          refine WP.region ?_
          refine EvK.call (w_none rfl) rfl rfl (enterH Try.func19 rfl rfl rfl rfl (spatelaw16_head.sound hF)) ?_
          rintro _ h6 ⟨r3, rfl, hF⟩
          refine EvK.pure (v := .bool r3) (w_none rfl) rfl rfl (f_assign rfl rfl) ?_
          refine EvK.nil ?_
          refine WP.ret ?_
          exact Ret.mk (vs := [.bool r3]) r3 ⟨rfl, trivial⟩ rfl hF
        · intro k3 hF
          refine WP.seq ?_
          refine WP.region ?_
          refine EvK.pure (v := .int .i64 (-1)) (w_none rfl) rfl rfl (f_assign rfl rfl) ?_
          refine EvK.nil ?_
          refine WP.block ?_
          refine WP.loopF (fun (s4 : Int) => [(12, .int .i64 s4), (7, .pointer r1.1), (9, .pointer r2.1)]) hF ⟨rfl, rfl, rfl, trivial⟩ ?_
          intro k4 s4 E0 h7 hF
          refine WP.seq ?_
          refine WP.joinF (fun (s5 : Bool) => [(73, .bool s5), (7, .pointer r1.1), (9, .pointer r2.1), (12, .int .i64 s4)]) hF ?_ ?_
          · intro s5 E0 h8 hF
            rcases ite_inv hF with ⟨c2, hF⟩ | ⟨c2, hF⟩
            · refine WP.cond_true _ rfl c2 ?_
              refine WP.skip ?_
              refine WP.seq ?_
              refine WP.block ?_
              refine WP.seq ?_
              refine WP.region ?_
              refine EvK.pure (v := .pointer r1.1) (w_none rfl) rfl rfl (f_move rfl rfl) ?_
              refine EvK.pure (v := .pointer r2.1) (w_none rfl) rfl rfl (f_move rfl rfl) ?_
              refine EvK.pure (v := .int .i64 s4) (w_none rfl) rfl rfl (f_move rfl rfl) ?_
              refine EvK.call (w_none rfl) rfl rfl (enterH Try.func22 rfl rfl rfl rfl (spatelaw16_told.sound hF)) ?_
              rintro _ h9 ⟨r4, rfl, hF⟩
              refine EvK.pure (v := .bool (!r4)) (w_none rfl) rfl rfl (f_not rfl rfl) ?_
              refine EvK.nil ?_
              rcases ite_inv hF with ⟨c3, hF⟩ | ⟨c3, hF⟩
              · refine WP.cond_true _ rfl c3 ?_
                refine WP.seq ?_
                refine WP.region ?_
                refine EvK.pure (v := .bool false) (w_none rfl) rfl rfl (f_assign rfl rfl) ?_
                refine EvK.nil ?_
                refine WP.ret ?_
                exact Ret.mk (vs := [.bool false]) false ⟨rfl, trivial⟩ rfl hF
              · refine WP.cond_false _ rfl c3 ?_
                refine WP.skip ?_
                refine WP.region ?_
                refine EvK.pure (v := .int .i64 s4) (w_none rfl) rfl rfl (f_move rfl rfl) ?_
                refine EvK.pure (v := .int .i64 (IntKind.i64.wrap (s4 + 1))) (w_none rfl) rfl rfl (f_add rfl rfl rfl) ?_
                refine EvK.pure (v := .int .i64 (IntKind.i64.wrap (s4 + 1))) (w_none rfl) rfl rfl (f_assign rfl rfl) ?_
                refine EvK.nil ?_
                exact KE.mk (IntKind.i64.wrap (s4 + 1)) ⟨rfl, rfl, rfl, trivial⟩ hF
            · refine WP.cond_false _ rfl c2 ?_
              refine WP.exit ?_
              exact KE.mk () trivial hF
          · intro k5 hF
            refine WP.region ?_
            refine EvK.pure (v := .int .i64 s4) (w_none rfl) rfl rfl (f_move rfl rfl) ?_
            refine EvK.pure (v := .bool (decide (s4 < 67))) (w_none rfl) rfl rfl (f_lss rfl rfl rfl) ?_
            refine EvK.pure (v := .bool (decide (s4 < 67))) (w_none rfl) rfl rfl (f_move rfl rfl) ?_
            rcases ite_inv hF with ⟨c4, hF⟩ | ⟨c4, hF⟩
            · refine EvK.pure (v := .pointer r2.1) (w_some rfl rfl c4) rfl rfl (f_move rfl rfl) ?_
              refine EvK.pure (v := .bool (!r2.1.isNone)) (w_some rfl rfl c4) rfl rfl (f_pneqn Try.underlying44 rfl rfl rfl) ?_
              refine EvK.pure (v := .bool (!r2.1.isNone)) (w_none rfl) rfl rfl (f_pickT rfl rfl c4 rfl) ?_
              refine EvK.nil ?_
              exact KE.mk (!r2.1.isNone) ⟨rfl, rfl, rfl, rfl, trivial⟩ hF
            · refine EvK.not (w_not rfl rfl c4) rfl rfl ?_
              refine EvK.not (w_not rfl rfl c4) rfl rfl ?_
              refine EvK.pure (v := .bool false) (w_none rfl) rfl rfl (f_pickF rfl rfl c4 rfl) ?_
              refine EvK.nil ?_
              exact KE.mk false ⟨rfl, rfl, rfl, rfl, trivial⟩ hF
      · intro k2 hF
        refine WP.seq ?_
        refine WP.region ?_
        refine EvK.pure (v := .int .i64 0) (w_none rfl) rfl rfl (f_assign rfl rfl) ?_
        refine EvK.nil ?_
        refine WP.block ?_
        refine WP.loopF (fun (s6 : Int) => [(11, .int .i64 s6), (2, Sl.val a2), (7, .pointer r1.1), (9, .pointer r2.1)]) hF ⟨rfl, rfl, rfl, rfl, trivial⟩ ?_
        intro k6 s6 E0 h10 hF
        refine WP.seq ?_
        refine WP.joinF (fun (s7 : Bool) => [(46, .bool s7), (2, Sl.val a2), (7, .pointer r1.1), (9, .pointer r2.1), (11, .int .i64 s6)]) hF ?_ ?_
        · intro s7 E0 h11 hF
          rcases ite_inv hF with ⟨c5, hF⟩ | ⟨c5, hF⟩
          · refine WP.cond_true _ rfl c5 ?_
            refine WP.skip ?_
            refine WP.seq ?_
            refine WP.block ?_
            refine WP.joinF (fun (s8 : Bool) => [(67, .bool s8), (2, Sl.val a2), (7, .pointer r1.1), (9, .pointer r2.1), (11, .int .i64 s6)]) hF ?_ ?_
            · intro s8 E0 h12 hF
              rcases ite_inv hF with ⟨c6, hF⟩ | ⟨c6, hF⟩
              · refine WP.cond_true _ rfl c6 ?_
                refine WP.seq ?_
                refine WP.region ?_
                refine EvK.pure (v := .bool false) (w_none rfl) rfl rfl (f_assign rfl rfl) ?_
                refine EvK.nil ?_
                refine WP.ret ?_
                exact Ret.mk (vs := [.bool false]) false ⟨rfl, trivial⟩ rfl hF
              · refine WP.cond_false _ rfl c6 ?_
                refine WP.skip ?_
                refine WP.region ?_
                refine EvK.pure (v := .int .i64 s6) (w_none rfl) rfl rfl (f_move rfl rfl) ?_
                refine EvK.pure (v := .int .i64 (IntKind.i64.wrap (s6 + 1))) (w_none rfl) rfl rfl (f_add rfl rfl rfl) ?_
                refine EvK.pure (v := .int .i64 (IntKind.i64.wrap (s6 + 1))) (w_none rfl) rfl rfl (f_assign rfl rfl) ?_
                refine EvK.nil ?_
                exact KE.mk (IntKind.i64.wrap (s6 + 1)) ⟨rfl, rfl, rfl, rfl, trivial⟩ hF
            · intro k8 hF
              refine WP.region ?_
              refine EvK.pure (v := .pointer r1.1) (w_none rfl) rfl rfl (f_move rfl rfl) ?_
              refine EvK.pure (v := .pointer r2.1) (w_none rfl) rfl rfl (f_move rfl rfl) ?_
              refine EvK.pure (v := Sl.val a2) (w_none rfl) rfl rfl (f_move rfl rfl) ?_
              refine EvK.pure (v := .int .i64 s6) (w_none rfl) rfl rfl (f_move rfl rfl) ?_
              obtain ⟨q1, hq1, hF⟩ := hF
              refine EvK.pure (v := .pointer (some q1)) (w_none rfl) rfl rfl (f_indexAddr (s := a2) Try.underlying43 ty49.size rfl rfl rfl hq1) ?_
              obtain ⟨x1, hx1, hF⟩ := hF
              refine EvK.read (v := k48.val x1) (w_none rfl) rfl rfl (f_load k48 ty49 rfl rfl hx1 rfl) ?_
              refine EvK.call (w_none rfl) rfl rfl (enterH Try.func21 rfl rfl rfl rfl (spatelaw16_asked.sound hF)) ?_
              rintro _ h13 ⟨r7, rfl, hF⟩
              refine EvK.pure (v := .bool (!r7)) (w_none rfl) rfl rfl (f_not rfl rfl) ?_
              refine EvK.pure (v := .bool (!r7)) (w_none rfl) rfl rfl (f_move rfl rfl) ?_
              rcases ite_inv hF with ⟨c7, hF⟩ | ⟨c7, hF⟩
              · refine EvK.not (w_not rfl rfl c7) rfl rfl ?_
                refine EvK.not (w_not rfl rfl c7) rfl rfl ?_
                refine EvK.not (w_not rfl rfl c7) rfl rfl ?_
                refine EvK.not (w_not rfl rfl c7) rfl rfl ?_
                refine EvK.not (w_not rfl rfl c7) rfl rfl ?_
                refine EvK.not (w_not rfl rfl c7) rfl rfl ?_
                refine EvK.not (w_not rfl rfl c7) rfl rfl ?_
                refine EvK.not (w_not rfl rfl c7) rfl rfl ?_
                refine EvK.not (w_not rfl rfl c7) rfl rfl ?_
                refine EvK.pure (v := .bool true) (w_none rfl) rfl rfl (f_pickT rfl rfl c7 rfl) ?_
                refine EvK.nil ?_
                exact KE.mk true ⟨rfl, rfl, rfl, rfl, rfl, trivial⟩ hF
              · refine EvK.pure (v := .pointer r1.1) (w_some rfl rfl c7) rfl rfl (f_move rfl rfl) ?_
                refine EvK.pure (v := .pointer r2.1) (w_some rfl rfl c7) rfl rfl (f_move rfl rfl) ?_
                refine EvK.pure (v := Sl.val a2) (w_some rfl rfl c7) rfl rfl (f_move rfl rfl) ?_
                refine EvK.pure (v := .int .i64 s6) (w_some rfl rfl c7) rfl rfl (f_move rfl rfl) ?_
                obtain ⟨q2, hq2, hF⟩ := hF
                refine EvK.pure (v := .pointer (some q2)) (w_some rfl rfl c7) rfl rfl (f_indexAddr (s := a2) Try.underlying43 ty49.size rfl rfl rfl hq2) ?_
                refine EvK.pure (v := .pointer (some (q2.add 1))) (w_some rfl rfl c7) rfl rfl (f_fieldAddr fd49_1 rfl rfl) ?_
                obtain ⟨x2, hx2, hF⟩ := hF
                refine EvK.read (v := .int .i64 x2) (w_some rfl rfl c7) rfl rfl (f_load (kI .i64) ty3 rfl rfl hx2 rfl) ?_
                refine EvK.call (w_some rfl rfl c7) rfl rfl (enterH Try.func22 rfl rfl rfl rfl (spatelaw16_told.sound hF)) ?_
                rintro _ h14 ⟨r8, rfl, hF⟩
                refine EvK.pure (v := .bool (!r8)) (w_some rfl rfl c7) rfl rfl (f_not rfl rfl) ?_
                refine EvK.pure (v := .bool (!r8)) (w_none rfl) rfl rfl (f_pickF rfl rfl c7 rfl) ?_
                refine EvK.nil ?_
                exact KE.mk (!r8) ⟨rfl, rfl, rfl, rfl, rfl, trivial⟩ hF
          · refine WP.cond_false _ rfl c5 ?_
            refine WP.exit ?_
            exact KE.mk () ⟨rfl, rfl, trivial⟩ hF
        · intro k7 hF
          refine WP.region ?_
          refine EvK.pure (v := .int .i64 s6) (w_none rfl) rfl rfl (f_move rfl rfl) ?_
          refine EvK.pure (v := Sl.val a2) (w_none rfl) rfl rfl (f_move rfl rfl) ?_
          refine EvK.pure (v := .int .i64 (a2.len : Int)) (w_none rfl) rfl rfl (f_lenL (s := a2) Try.underlying43 rfl rfl) ?_
          refine EvK.pure (v := .bool (decide (s6 < (a2.len : Int)))) (w_none rfl) rfl rfl (f_lss rfl rfl rfl) ?_
          refine EvK.pure (v := .bool (decide (s6 < (a2.len : Int)))) (w_none rfl) rfl rfl (f_move rfl rfl) ?_
          rcases ite_inv hF with ⟨c8, hF⟩ | ⟨c8, hF⟩
          · refine EvK.pure (v := .int .i64 s6) (w_some rfl rfl c8) rfl rfl (f_move rfl rfl) ?_
            refine EvK.pure (v := .bool (decide (s6 < 200))) (w_some rfl rfl c8) rfl rfl (f_lss rfl rfl rfl) ?_
            refine EvK.pure (v := .bool (decide (s6 < 200))) (w_none rfl) rfl rfl (f_pickT rfl rfl c8 rfl) ?_
            refine EvK.pure (v := .bool (decide (s6 < 200))) (w_none rfl) rfl rfl (f_move rfl rfl) ?_
            rcases ite_inv hF with ⟨c9, hF⟩ | ⟨c9, hF⟩
            · refine EvK.pure (v := .pointer r2.1) (w_some rfl rfl c9) rfl rfl (f_move rfl rfl) ?_
              refine EvK.pure (v := .bool (!r2.1.isNone)) (w_some rfl rfl c9) rfl rfl (f_pneqn Try.underlying44 rfl rfl rfl) ?_
              refine EvK.pure (v := .bool (!r2.1.isNone)) (w_none rfl) rfl rfl (f_pickT rfl rfl c9 rfl) ?_
              refine EvK.nil ?_
              exact KE.mk (!r2.1.isNone) ⟨rfl, rfl, rfl, rfl, rfl, trivial⟩ hF
            · refine EvK.not (w_not rfl rfl c9) rfl rfl ?_
              refine EvK.not (w_not rfl rfl c9) rfl rfl ?_
              refine EvK.pure (v := .bool false) (w_none rfl) rfl rfl (f_pickF rfl rfl c9 rfl) ?_
              refine EvK.nil ?_
              exact KE.mk false ⟨rfl, rfl, rfl, rfl, rfl, trivial⟩ hF
          · refine EvK.not (w_not rfl rfl c8) rfl rfl ?_
            refine EvK.not (w_not rfl rfl c8) rfl rfl ?_
            refine EvK.pure (v := .bool false) (w_none rfl) rfl rfl (f_pickF rfl rfl c8 rfl) ?_
            refine EvK.pure (v := .bool false) (w_none rfl) rfl rfl (f_move rfl rfl) ?_
            refine EvK.not (w_not rfl rfl rfl) rfl rfl ?_
            refine EvK.not (w_not rfl rfl rfl) rfl rfl ?_
            refine EvK.pure (v := .bool false) (w_none rfl) rfl rfl (f_pickF rfl rfl rfl rfl) ?_
            refine EvK.nil ?_
            exact KE.mk false ⟨rfl, rfl, rfl, rfl, rfl, trivial⟩ hF
  · intro k1 hF
    refine WP.region ?_
    refine EvK.pure (v := .int .i64 r1.2) (w_none rfl) rfl rfl (f_move rfl rfl) ?_
    refine EvK.pure (v := .int .i64 r2.2) (w_none rfl) rfl rfl (f_move rfl rfl) ?_
    refine EvK.pure (v := .bool (r1.2 != r2.2)) (w_none rfl) rfl rfl (f_neq rfl rfl rfl) ?_
    refine EvK.pure (v := .bool (r1.2 != r2.2)) (w_none rfl) rfl rfl (f_move rfl rfl) ?_
    rcases ite_inv hF with ⟨c10, hF⟩ | ⟨c10, hF⟩
    · refine EvK.not (w_not rfl rfl c10) rfl rfl ?_
      refine EvK.not (w_not rfl rfl c10) rfl rfl ?_
      refine EvK.not (w_not rfl rfl c10) rfl rfl ?_
      refine EvK.not (w_not rfl rfl c10) rfl rfl ?_
      refine EvK.not (w_not rfl rfl c10) rfl rfl ?_
      refine EvK.pure (v := .bool true) (w_none rfl) rfl rfl (f_pickT rfl rfl c10 rfl) ?_
      refine EvK.nil ?_
      exact KE.mk true ⟨rfl, rfl, rfl, rfl, trivial⟩ hF
    · refine EvK.pure (v := .pointer r1.1) (w_some rfl rfl c10) rfl rfl (f_move rfl rfl) ?_
      refine EvK.pure (v := .bool r1.1.isNone) (w_some rfl rfl c10) rfl rfl (f_peqln Try.underlying23 rfl rfl rfl) ?_
      refine EvK.pure (v := .pointer r2.1) (w_some rfl rfl c10) rfl rfl (f_move rfl rfl) ?_
      refine EvK.pure (v := .bool r2.1.isNone) (w_some rfl rfl c10) rfl rfl (f_peqln Try.underlying44 rfl rfl rfl) ?_
      refine EvK.pure (v := .bool (!(r1.1.isNone == r2.1.isNone))) (w_some rfl rfl c10) rfl rfl (f_bneq Try.underlying4 rfl rfl rfl) ?_
      refine EvK.pure (v := .bool (!(r1.1.isNone == r2.1.isNone))) (w_none rfl) rfl rfl (f_pickF rfl rfl c10 rfl) ?_
      refine EvK.nil ?_
      exact KE.mk (!(r1.1.isNone == r2.1.isNone)) ⟨rfl, rfl, rfl, rfl, trivial⟩ hF
end Go.Proofs.Ytbdopnhfbjdegaa

namespace Go.Proofs.Ytbdopnhfbjdegaa
open Go Go.Tr
set_option linter.unusedVariables false
set_option maxRecDepth 100000
set_option maxHeartbeats 400000
/-- spate/spatelaw16.did -/
def spatelaw16_did (a0 : Option Addr) (a1 : S48) (h : H) (Q : (Int × ByteArray) → H → Prop) : Prop :=
  al 49 (k48.enc a1) h fun q1 h1 =>
  rd (ld (kI .i64) (q1.add 0) h1) fun x1 =>
  if (x1 == 1) = true then
    rd (ld (kI .i64) (q1.add 1) h1) fun x2 =>
    net_Net_Open a0 x2 h1 fun r1 h2 =>
    Q (r1, (⟨#[]⟩ : ByteArray)) h2
  else
    if (x1 == 2) = true then
      rd (ld (kI .i64) (q1.add 1) h1) fun x3 =>
      rd (ld kL (q1.add 2) h1) fun x4 =>
      net_Net_Send a0 x3 x4 h1 fun r2 h3 =>
      Q (r2, (⟨#[]⟩ : ByteArray)) h3
    else
      if (x1 == 3) = true then
        rd (ld (kI .i64) (q1.add 1) h1) fun x5 =>
        rd (ld (kI .i64) (q1.add 3) h1) fun x6 =>
        net_Net_Bring a0 x5 x6 h1 fun r3 h4 =>
        mk (kI .u8).n 1 5 ((kI .u8).enc 0) r3.1 r3.1 h4 fun x7 h5 =>
        rd (b2s x7 h5) fun x8 =>
        Q (r3.2, x8) h5
      else
        if (x1 == 4) = true then
          rd (ld (kI .i64) (q1.add 1) h1) fun x9 =>
          net_Net_Take a0 x9 h1 fun r4 h6 =>
          rd (b2s r4.1 h6) fun x10 =>
          Q (r4.2, x10) h6
        else
          if (x1 == 5) = true then
            rd (ld (kI .i64) (q1.add 1) h1) fun x11 =>
            rd (ld kL (q1.add 2) h1) fun x12 =>
            net_Net_Write a0 x11 x12 h1 fun r5 h7 =>
            mk (kI .u8).n 1 5 ((kI .u8).enc 0) r5.1 r5.1 h7 fun x13 h8 =>
            rd (b2s x13 h8) fun x14 =>
            Q (r5.2, x14) h8
          else
            if (x1 == 6) = true then
              rd (ld (kI .i64) (q1.add 1) h1) fun x15 =>
              rd (ld (kI .i64) (q1.add 3) h1) fun x16 =>
              net_Net_Fetch a0 x15 x16 h1 fun r6 h9 =>
              mk (kI .u8).n 1 5 ((kI .u8).enc 0) r6.1 r6.1 h9 fun x17 h10 =>
              rd (b2s x17 h10) fun x18 =>
              Q (r6.2, x18) h10
            else
              if (x1 == 7) = true then
                rd (ld (kI .i64) (q1.add 1) h1) fun x19 =>
                net_Net_Close a0 x19 h1 fun r7 h11 =>
                Q (r7, (⟨#[]⟩ : ByteArray)) h11
              else
                if (x1 == 8) = true then
                  rd (ld (kI .i64) (q1.add 1) h1) fun x20 =>
                  net_Net_Cut a0 x20 h1 fun r8 h12 =>
                  Q (r8, (⟨#[]⟩ : ByteArray)) h12
                else
                  Q (0, (⟨#[]⟩ : ByteArray)) h1
theorem spatelaw16_did.sound {a0 : Option Addr} {a1 : S48} {h : H} {Q : (Int × ByteArray) → H → Prop} (hF : spatelaw16_did a0 a1 h Q) :
    CallsH Try.prog 23 (List.toArray (α := Value) [.pointer a0, k48.val a1]) h fun v h' => ∃ x : Int × ByteArray, v = .tuple #[.int .i64 x.1, .string x.2] ∧ Q x h' := by
  refine CallsH.of_body Try.func23 rfl 99 rfl rfl ?_
  refine WP.seq ?_
  refine WP.region ?_
  refine EvK.alloc (w_none rfl) rfl rfl (f_boxF (v := k48.val a1) rfl rfl rfl hF) ?_
  rintro _ h1 ⟨q1, rfl, hF⟩
  refine EvK.pure (v := .int .i64 0) (w_none rfl) rfl rfl (f_assign rfl rfl) ?_
  refine EvK.pure (v := .string (⟨#[]⟩ : ByteArray)) (w_none rfl) rfl rfl (f_assign rfl rfl) ?_
  refine EvK.nil ?_
  refine WP.seq ?_
  refine WP.seq ?_
  refine WP.region ?_
  refine EvK.pure (v := .pointer (some (q1.add 0))) (w_none rfl) rfl rfl (f_fieldAddr fd49_0 rfl rfl) ?_
  obtain ⟨x1, hx1, hF⟩ := hF
  refine EvK.read (v := .int .i64 x1) (w_none rfl) rfl rfl (f_load (kI .i64) ty3 rfl rfl hx1 rfl) ?_
  refine EvK.nil ?_
  refine WP.block ?_
  refine WP.seq ?_
  refine WP.region ?_
  refine EvK.pure (v := .bool (x1 == 1)) (w_none rfl) rfl rfl (f_eql rfl rfl rfl) ?_
  refine EvK.pure (v := .bool (x1 == 1)) (w_none rfl) rfl rfl (f_assign rfl rfl) ?_
  refine EvK.nil ?_
  rcases ite_inv hF with ⟨c1, hF⟩ | ⟨c1, hF⟩
  · refine WP.cond_true _ rfl c1 ?_
    refine WP.seq ?_
    refine WP.region ?_
    refine EvK.pure (v := .pointer a0) (w_none rfl) rfl rfl (f_move rfl rfl) ?_
    refine EvK.pure (v := .pointer (some (q1.add 1))) (w_none rfl) rfl rfl (f_fieldAddr fd49_1 rfl rfl) ?_
    obtain ⟨x2, hx2, hF⟩ := hF
    refine EvK.read (v := .int .i64 x2) (w_none rfl) rfl rfl (f_load (kI .i64) ty3 rfl rfl hx2 rfl) ?_
    refine EvK.call (w_none rfl) rfl rfl (enterH Try.func8 rfl rfl rfl rfl (net_Net_Open.sound hF)) ?_
    rintro _ h2 ⟨r1, rfl, hF⟩
    refine EvK.pure (v := .int .i64 r1) (w_none rfl) rfl rfl (f_assign rfl rfl) ?_
    refine EvK.pure (v := .string (⟨#[]⟩ : ByteArray)) (w_none rfl) rfl rfl (f_assign rfl rfl) ?_
    refine EvK.nil ?_
    refine WP.ret ?_
    exact Ret.mk (vs := [.int .i64 r1, .string (⟨#[]⟩ : ByteArray)]) (r1, (⟨#[]⟩ : ByteArray)) ⟨rfl, rfl, trivial⟩ rfl hF
  · refine WP.cond_false _ rfl c1 ?_
    refine WP.seq ?_
    refine WP.region ?_
    refine EvK.pure (v := .bool (x1 == 2)) (w_none rfl) rfl rfl (f_eql rfl rfl rfl) ?_
    refine EvK.pure (v := .bool (x1 == 2)) (w_none rfl) rfl rfl (f_assign rfl rfl) ?_
    refine EvK.nil ?_
    rcases ite_inv hF with ⟨c2, hF⟩ | ⟨c2, hF⟩
    · refine WP.cond_true _ rfl c2 ?_
      refine WP.seq ?_
      refine WP.region ?_
      refine EvK.pure (v := .pointer a0) (w_none rfl) rfl rfl (f_move rfl rfl) ?_
      refine EvK.pure (v := .pointer (some (q1.add 1))) (w_none rfl) rfl rfl (f_fieldAddr fd49_1 rfl rfl) ?_
      obtain ⟨x3, hx3, hF⟩ := hF
      refine EvK.read (v := .int .i64 x3) (w_none rfl) rfl rfl (f_load (kI .i64) ty3 rfl rfl hx3 rfl) ?_
      refine EvK.pure (v := .pointer (some (q1.add 2))) (w_none rfl) rfl rfl (f_fieldAddr fd49_2 rfl rfl) ?_
      obtain ⟨x4, hx4, hF⟩ := hF
      refine EvK.read (v := Sl.val x4) (w_none rfl) rfl rfl (f_load kL ty29 rfl rfl hx4 rfl) ?_
      refine EvK.call (w_none rfl) rfl rfl (enterH Try.func9 rfl rfl rfl rfl (net_Net_Send.sound hF)) ?_
      rintro _ h3 ⟨r2, rfl, hF⟩
      refine EvK.pure (v := .int .i64 r2) (w_none rfl) rfl rfl (f_assign rfl rfl) ?_
      refine EvK.pure (v := .string (⟨#[]⟩ : ByteArray)) (w_none rfl) rfl rfl (f_assign rfl rfl) ?_
      refine EvK.nil ?_
      refine WP.ret ?_
      exact Ret.mk (vs := [.int .i64 r2, .string (⟨#[]⟩ : ByteArray)]) (r2, (⟨#[]⟩ : ByteArray)) ⟨rfl, rfl, trivial⟩ rfl hF
    · refine WP.cond_false _ rfl c2 ?_
      refine WP.seq ?_
      refine WP.region ?_
      refine EvK.pure (v := .bool (x1 == 3)) (w_none rfl) rfl rfl (f_eql rfl rfl rfl) ?_
      refine EvK.pure (v := .bool (x1 == 3)) (w_none rfl) rfl rfl (f_assign rfl rfl) ?_
      refine EvK.nil ?_
      rcases ite_inv hF with ⟨c3, hF⟩ | ⟨c3, hF⟩
      · refine WP.cond_true _ rfl c3 ?_
        refine WP.seq ?_
        refine WP.region ?_
        refine EvK.pure (v := .pointer a0) (w_none rfl) rfl rfl (f_move rfl rfl) ?_
        refine EvK.pure (v := .pointer (some (q1.add 1))) (w_none rfl) rfl rfl (f_fieldAddr fd49_1 rfl rfl) ?_
        obtain ⟨x5, hx5, hF⟩ := hF
        refine EvK.read (v := .int .i64 x5) (w_none rfl) rfl rfl (f_load (kI .i64) ty3 rfl rfl hx5 rfl) ?_
        refine EvK.pure (v := .pointer (some (q1.add 3))) (w_none rfl) rfl rfl (f_fieldAddr fd49_3 rfl rfl) ?_
        obtain ⟨x6, hx6, hF⟩ := hF
        refine EvK.read (v := .int .i64 x6) (w_none rfl) rfl rfl (f_load (kI .i64) ty3 rfl rfl hx6 rfl) ?_
        refine EvK.call (w_none rfl) rfl rfl (enterH Try.func11 rfl rfl rfl rfl (net_Net_Bring.sound hF)) ?_
        rintro _ h4 ⟨r3, rfl, hF⟩
        refine EvK.pure (v := .tuple #[.int .i64 r3.1, .int .i64 r3.2]) (w_none rfl) rfl rfl (f_move rfl rfl) ?_
        refine EvK.pure (v := .int .i64 r3.1) (w_none rfl) rfl rfl (f_extract (vs := #[.int .i64 r3.1, .int .i64 r3.2]) rfl rfl rfl) ?_
        refine EvK.pure (v := .int .i64 r3.2) (w_none rfl) rfl rfl (f_extract (vs := #[.int .i64 r3.1, .int .i64 r3.2]) rfl rfl rfl) ?_
        refine EvK.pure (v := .int .i64 r3.1) (w_none rfl) rfl rfl (f_assign rfl rfl) ?_
        refine EvK.pure (v := .int .i64 r3.2) (w_none rfl) rfl rfl (f_assign rfl rfl) ?_
        refine EvK.nil ?_
        refine WP.seq ?_
        refine WP.draw mixed [.pure, .pure, .alloc, .read, .pure, .pure] [[], [], [1], [1, 2], [0], [0, 1, 2, 3, 4]] [0, 1, 4, 2, 3, 5] (by kernel_rfl) (by kernel_rfl) ?_
        refine EvI.pure (v := .int .i64 r3.2) rfl rfl (w_none rfl) rfl (f_move rfl rfl) ?_
        refine EvI.pure (v := .int .i64 r3.1) rfl rfl (w_none rfl) rfl (f_move rfl rfl) ?_
        refine EvI.pure (v := .int .i64 r3.2) rfl rfl (w_none rfl) rfl (f_assign rfl rfl) ?_
        refine EvI.alloc rfl rfl (w_none rfl) rfl (f_makeSlice Try.underlying29 el5 rfl rfl rfl hF) ?_
        rintro _ h5 ⟨x7, rfl, hF⟩
        obtain ⟨x8, hx7, hF⟩ := hF
        refine EvI.read (v := .string x8) rfl rfl (w_none rfl) rfl (f_b2s Try.underlying29 Try.underlying9 Try.underlying5 rfl rfl hx7) ?_
        refine EvI.pure (v := .string x8) rfl rfl (w_none rfl) rfl (f_assign rfl rfl) ?_
        refine EvI.nil ?_
        refine WP.ret ?_
        exact Ret.mk (vs := [.int .i64 r3.2, .string x8]) (r3.2, x8) ⟨rfl, rfl, trivial⟩ rfl hF
      · refine WP.cond_false _ rfl c3 ?_
        refine WP.seq ?_
        refine WP.region ?_
        refine EvK.pure (v := .bool (x1 == 4)) (w_none rfl) rfl rfl (f_eql rfl rfl rfl) ?_
        refine EvK.pure (v := .bool (x1 == 4)) (w_none rfl) rfl rfl (f_assign rfl rfl) ?_
        refine EvK.nil ?_
        rcases ite_inv hF with ⟨c4, hF⟩ | ⟨c4, hF⟩
        · refine WP.cond_true _ rfl c4 ?_
          refine WP.seq ?_
          refine WP.region ?_
          refine EvK.pure (v := .pointer a0) (w_none rfl) rfl rfl (f_move rfl rfl) ?_
          refine EvK.pure (v := .pointer (some (q1.add 1))) (w_none rfl) rfl rfl (f_fieldAddr fd49_1 rfl rfl) ?_
          obtain ⟨x9, hx8, hF⟩ := hF
          refine EvK.read (v := .int .i64 x9) (w_none rfl) rfl rfl (f_load (kI .i64) ty3 rfl rfl hx8 rfl) ?_
          refine EvK.call (w_none rfl) rfl rfl (enterH Try.func12 rfl rfl rfl rfl (net_Net_Take.sound hF)) ?_
          rintro _ h6 ⟨r4, rfl, hF⟩
          refine EvK.pure (v := .tuple #[Sl.val r4.1, .int .i64 r4.2]) (w_none rfl) rfl rfl (f_move rfl rfl) ?_
          refine EvK.pure (v := Sl.val r4.1) (w_none rfl) rfl rfl (f_extract (vs := #[Sl.val r4.1, .int .i64 r4.2]) rfl rfl rfl) ?_
          refine EvK.pure (v := .int .i64 r4.2) (w_none rfl) rfl rfl (f_extract (vs := #[Sl.val r4.1, .int .i64 r4.2]) rfl rfl rfl) ?_
          refine EvK.pure (v := Sl.val r4.1) (w_none rfl) rfl rfl (f_assign rfl rfl) ?_
          refine EvK.pure (v := .int .i64 r4.2) (w_none rfl) rfl rfl (f_assign rfl rfl) ?_
          refine EvK.nil ?_
          refine WP.seq ?_
          refine WP.draw mixed [.pure, .pure, .read, .pure, .pure] [[], [], [1], [0], [0, 1, 2, 3]] [0, 1, 2, 3, 4] (by kernel_rfl) (by kernel_rfl) ?_
          refine EvI.pure (v := .int .i64 r4.2) rfl rfl (w_none rfl) rfl (f_move rfl rfl) ?_
          refine EvI.pure (v := Sl.val r4.1) rfl rfl (w_none rfl) rfl (f_move rfl rfl) ?_
          obtain ⟨x10, hx9, hF⟩ := hF
          refine EvI.read (v := .string x10) rfl rfl (w_none rfl) rfl (f_b2s Try.underlying29 Try.underlying9 Try.underlying5 rfl rfl hx9) ?_
          refine EvI.pure (v := .int .i64 r4.2) rfl rfl (w_none rfl) rfl (f_assign rfl rfl) ?_
          refine EvI.pure (v := .string x10) rfl rfl (w_none rfl) rfl (f_assign rfl rfl) ?_
          refine EvI.nil ?_
          refine WP.ret ?_
          exact Ret.mk (vs := [.int .i64 r4.2, .string x10]) (r4.2, x10) ⟨rfl, rfl, trivial⟩ rfl hF
        · refine WP.cond_false _ rfl c4 ?_
          refine WP.seq ?_
          refine WP.region ?_
          refine EvK.pure (v := .bool (x1 == 5)) (w_none rfl) rfl rfl (f_eql rfl rfl rfl) ?_
          refine EvK.pure (v := .bool (x1 == 5)) (w_none rfl) rfl rfl (f_assign rfl rfl) ?_
          refine EvK.nil ?_
          rcases ite_inv hF with ⟨c5, hF⟩ | ⟨c5, hF⟩
          · refine WP.cond_true _ rfl c5 ?_
            refine WP.seq ?_
            refine WP.region ?_
            refine EvK.pure (v := .pointer a0) (w_none rfl) rfl rfl (f_move rfl rfl) ?_
            refine EvK.pure (v := .pointer (some (q1.add 1))) (w_none rfl) rfl rfl (f_fieldAddr fd49_1 rfl rfl) ?_
            obtain ⟨x11, hx10, hF⟩ := hF
            refine EvK.read (v := .int .i64 x11) (w_none rfl) rfl rfl (f_load (kI .i64) ty3 rfl rfl hx10 rfl) ?_
            refine EvK.pure (v := .pointer (some (q1.add 2))) (w_none rfl) rfl rfl (f_fieldAddr fd49_2 rfl rfl) ?_
            obtain ⟨x12, hx11, hF⟩ := hF
            refine EvK.read (v := Sl.val x12) (w_none rfl) rfl rfl (f_load kL ty29 rfl rfl hx11 rfl) ?_
            refine EvK.call (w_none rfl) rfl rfl (enterH Try.func13 rfl rfl rfl rfl (net_Net_Write.sound hF)) ?_
            rintro _ h7 ⟨r5, rfl, hF⟩
            refine EvK.pure (v := .tuple #[.int .i64 r5.1, .int .i64 r5.2]) (w_none rfl) rfl rfl (f_move rfl rfl) ?_
            refine EvK.pure (v := .int .i64 r5.1) (w_none rfl) rfl rfl (f_extract (vs := #[.int .i64 r5.1, .int .i64 r5.2]) rfl rfl rfl) ?_
            refine EvK.pure (v := .int .i64 r5.2) (w_none rfl) rfl rfl (f_extract (vs := #[.int .i64 r5.1, .int .i64 r5.2]) rfl rfl rfl) ?_
            refine EvK.pure (v := .int .i64 r5.1) (w_none rfl) rfl rfl (f_assign rfl rfl) ?_
            refine EvK.pure (v := .int .i64 r5.2) (w_none rfl) rfl rfl (f_assign rfl rfl) ?_
            refine EvK.nil ?_
            refine WP.seq ?_
            refine WP.draw mixed [.pure, .pure, .alloc, .read, .pure, .pure] [[], [], [1], [1, 2], [0], [0, 1, 2, 3, 4]] [0, 1, 4, 2, 3, 5] (by kernel_rfl) (by kernel_rfl) ?_
            refine EvI.pure (v := .int .i64 r5.2) rfl rfl (w_none rfl) rfl (f_move rfl rfl) ?_
            refine EvI.pure (v := .int .i64 r5.1) rfl rfl (w_none rfl) rfl (f_move rfl rfl) ?_
            refine EvI.pure (v := .int .i64 r5.2) rfl rfl (w_none rfl) rfl (f_assign rfl rfl) ?_
            refine EvI.alloc rfl rfl (w_none rfl) rfl (f_makeSlice Try.underlying29 el5 rfl rfl rfl hF) ?_
            rintro _ h8 ⟨x13, rfl, hF⟩
            obtain ⟨x14, hx12, hF⟩ := hF
            refine EvI.read (v := .string x14) rfl rfl (w_none rfl) rfl (f_b2s Try.underlying29 Try.underlying9 Try.underlying5 rfl rfl hx12) ?_
            refine EvI.pure (v := .string x14) rfl rfl (w_none rfl) rfl (f_assign rfl rfl) ?_
            refine EvI.nil ?_
            refine WP.ret ?_
            exact Ret.mk (vs := [.int .i64 r5.2, .string x14]) (r5.2, x14) ⟨rfl, rfl, trivial⟩ rfl hF
          · refine WP.cond_false _ rfl c5 ?_
            refine WP.seq ?_
            refine WP.region ?_
            refine EvK.pure (v := .bool (x1 == 6)) (w_none rfl) rfl rfl (f_eql rfl rfl rfl) ?_
            refine EvK.pure (v := .bool (x1 == 6)) (w_none rfl) rfl rfl (f_assign rfl rfl) ?_
            refine EvK.nil ?_
            rcases ite_inv hF with ⟨c6, hF⟩ | ⟨c6, hF⟩
            · refine WP.cond_true _ rfl c6 ?_
              refine WP.seq ?_
              refine WP.region ?_
              refine EvK.pure (v := .pointer a0) (w_none rfl) rfl rfl (f_move rfl rfl) ?_
              refine EvK.pure (v := .pointer (some (q1.add 1))) (w_none rfl) rfl rfl (f_fieldAddr fd49_1 rfl rfl) ?_
              obtain ⟨x15, hx13, hF⟩ := hF
              refine EvK.read (v := .int .i64 x15) (w_none rfl) rfl rfl (f_load (kI .i64) ty3 rfl rfl hx13 rfl) ?_
              refine EvK.pure (v := .pointer (some (q1.add 3))) (w_none rfl) rfl rfl (f_fieldAddr fd49_3 rfl rfl) ?_
              obtain ⟨x16, hx14, hF⟩ := hF
              refine EvK.read (v := .int .i64 x16) (w_none rfl) rfl rfl (f_load (kI .i64) ty3 rfl rfl hx14 rfl) ?_
              refine EvK.call (w_none rfl) rfl rfl (enterH Try.func14 rfl rfl rfl rfl (net_Net_Fetch.sound hF)) ?_
              rintro _ h9 ⟨r6, rfl, hF⟩
              refine EvK.pure (v := .tuple #[.int .i64 r6.1, .int .i64 r6.2]) (w_none rfl) rfl rfl (f_move rfl rfl) ?_
              refine EvK.pure (v := .int .i64 r6.1) (w_none rfl) rfl rfl (f_extract (vs := #[.int .i64 r6.1, .int .i64 r6.2]) rfl rfl rfl) ?_
              refine EvK.pure (v := .int .i64 r6.2) (w_none rfl) rfl rfl (f_extract (vs := #[.int .i64 r6.1, .int .i64 r6.2]) rfl rfl rfl) ?_
              refine EvK.pure (v := .int .i64 r6.1) (w_none rfl) rfl rfl (f_assign rfl rfl) ?_
              refine EvK.pure (v := .int .i64 r6.2) (w_none rfl) rfl rfl (f_assign rfl rfl) ?_
              refine EvK.nil ?_
              refine WP.seq ?_
              refine WP.draw mixed [.pure, .pure, .alloc, .read, .pure, .pure] [[], [], [1], [1, 2], [0], [0, 1, 2, 3, 4]] [0, 1, 4, 2, 3, 5] (by kernel_rfl) (by kernel_rfl) ?_
              refine EvI.pure (v := .int .i64 r6.2) rfl rfl (w_none rfl) rfl (f_move rfl rfl) ?_
              refine EvI.pure (v := .int .i64 r6.1) rfl rfl (w_none rfl) rfl (f_move rfl rfl) ?_
              refine EvI.pure (v := .int .i64 r6.2) rfl rfl (w_none rfl) rfl (f_assign rfl rfl) ?_
              refine EvI.alloc rfl rfl (w_none rfl) rfl (f_makeSlice Try.underlying29 el5 rfl rfl rfl hF) ?_
              rintro _ h10 ⟨x17, rfl, hF⟩
              obtain ⟨x18, hx15, hF⟩ := hF
              refine EvI.read (v := .string x18) rfl rfl (w_none rfl) rfl (f_b2s Try.underlying29 Try.underlying9 Try.underlying5 rfl rfl hx15) ?_
              refine EvI.pure (v := .string x18) rfl rfl (w_none rfl) rfl (f_assign rfl rfl) ?_
              refine EvI.nil ?_
              refine WP.ret ?_
              exact Ret.mk (vs := [.int .i64 r6.2, .string x18]) (r6.2, x18) ⟨rfl, rfl, trivial⟩ rfl hF
            · refine WP.cond_false _ rfl c6 ?_
              refine WP.seq ?_
              refine WP.region ?_
              refine EvK.pure (v := .bool (x1 == 7)) (w_none rfl) rfl rfl (f_eql rfl rfl rfl) ?_
              refine EvK.pure (v := .bool (x1 == 7)) (w_none rfl) rfl rfl (f_assign rfl rfl) ?_
              refine EvK.nil ?_
              rcases ite_inv hF with ⟨c7, hF⟩ | ⟨c7, hF⟩
              · refine WP.cond_true _ rfl c7 ?_
                refine WP.seq ?_
                refine WP.region ?_
                refine EvK.pure (v := .pointer a0) (w_none rfl) rfl rfl (f_move rfl rfl) ?_
                refine EvK.pure (v := .pointer (some (q1.add 1))) (w_none rfl) rfl rfl (f_fieldAddr fd49_1 rfl rfl) ?_
                obtain ⟨x19, hx16, hF⟩ := hF
                refine EvK.read (v := .int .i64 x19) (w_none rfl) rfl rfl (f_load (kI .i64) ty3 rfl rfl hx16 rfl) ?_
                refine EvK.call (w_none rfl) rfl rfl (enterH Try.func17 rfl rfl rfl rfl (net_Net_Close.sound hF)) ?_
                rintro _ h11 ⟨r7, rfl, hF⟩
                refine EvK.pure (v := .int .i64 r7) (w_none rfl) rfl rfl (f_assign rfl rfl) ?_
                refine EvK.pure (v := .string (⟨#[]⟩ : ByteArray)) (w_none rfl) rfl rfl (f_assign rfl rfl) ?_
                refine EvK.nil ?_
                refine WP.ret ?_
                exact Ret.mk (vs := [.int .i64 r7, .string (⟨#[]⟩ : ByteArray)]) (r7, (⟨#[]⟩ : ByteArray)) ⟨rfl, rfl, trivial⟩ rfl hF
              · refine WP.cond_false _ rfl c7 ?_
                refine WP.seq ?_
                refine WP.region ?_
                refine EvK.pure (v := .bool (x1 == 8)) (w_none rfl) rfl rfl (f_eql rfl rfl rfl) ?_
                refine EvK.pure (v := .bool (x1 == 8)) (w_none rfl) rfl rfl (f_assign rfl rfl) ?_
                refine EvK.nil ?_
                rcases ite_inv hF with ⟨c8, hF⟩ | ⟨c8, hF⟩
                · refine WP.cond_true _ rfl c8 ?_
                  refine WP.seq ?_
                  refine WP.region ?_
                  refine EvK.pure (v := .pointer a0) (w_none rfl) rfl rfl (f_move rfl rfl) ?_
                  refine EvK.pure (v := .pointer (some (q1.add 1))) (w_none rfl) rfl rfl (f_fieldAddr fd49_1 rfl rfl) ?_
                  obtain ⟨x20, hx17, hF⟩ := hF
                  refine EvK.read (v := .int .i64 x20) (w_none rfl) rfl rfl (f_load (kI .i64) ty3 rfl rfl hx17 rfl) ?_
                  refine EvK.call (w_none rfl) rfl rfl (enterH Try.func18 rfl rfl rfl rfl (net_Net_Cut.sound hF)) ?_
                  rintro _ h12 ⟨r8, rfl, hF⟩
                  refine EvK.pure (v := .int .i64 r8) (w_none rfl) rfl rfl (f_assign rfl rfl) ?_
                  refine EvK.pure (v := .string (⟨#[]⟩ : ByteArray)) (w_none rfl) rfl rfl (f_assign rfl rfl) ?_
                  refine EvK.nil ?_
                  refine WP.ret ?_
                  exact Ret.mk (vs := [.int .i64 r8, .string (⟨#[]⟩ : ByteArray)]) (r8, (⟨#[]⟩ : ByteArray)) ⟨rfl, rfl, trivial⟩ rfl hF
                · refine WP.cond_false _ rfl c8 ?_
                  refine WP.skip ?_
                  refine WP.seq ?_
                  refine WP.region ?_
                  refine EvK.pure (v := .int .i64 0) (w_none rfl) rfl rfl (f_assign rfl rfl) ?_
                  refine EvK.pure (v := .string (⟨#[]⟩ : ByteArray)) (w_none rfl) rfl rfl (f_assign rfl rfl) ?_
                  refine EvK.nil ?_
                  refine WP.ret ?_
                  exact Ret.mk (vs := [.int .i64 0, .string (⟨#[]⟩ : ByteArray)]) (0, (⟨#[]⟩ : ByteArray)) ⟨rfl, rfl, trivial⟩ rfl hF
end Go.Proofs.Ytbdopnhfbjdegaa

namespace Go.Proofs.Ytbdopnhfbjdegaa
open Go Go.Tr
set_option linter.unusedVariables false
set_option maxRecDepth 100000
set_option maxHeartbeats 400000
def spatelaw16_NetApart.b1 (p2 : Sl) (p3 : Sl) (p9 : Option Addr) (p11 : Option Addr) (s : Int) (h : H) (K : Int ⊕ (Unit ⊕ Bool) → H → Prop) : Prop :=
  jn (fun (k3 : Bool → H → Prop) =>
    if (decide (s < (p2.len : Int))) = true then
      k3 (decide (s < 80)) h
    else
      k3 false h) fun s3 h8 =>
  if s3 = true then
    rd (ixA 4 p2 s) fun q1 =>
    rd (ld k48 q1 h8) fun x1 =>
    al 49 (k48.enc z48) h8 fun q2 h9 =>
    rd (st k48 q2 x1 h9) fun h10 =>
    rd (st (kI .i64) (q2.add 1) 3 h10) fun h11 =>
    jn (fun (k4 : Unit → H → Prop) =>
      if (decide (s < (p3.len : Int))) = true then
        rd (ixA 4 p3 s) fun q3 =>
        rd (ld k48 q3 h11) fun x6 =>
        al 49 (k48.enc z48) h11 fun q4 h23 =>
        rd (st k48 q4 x6 h23) fun h24 =>
        rd (ld (kI .i64) (q4.add 1) h24) fun x7 =>
        spatelaw16_within x7 5 h24 fun r14 h25 =>
        rd (st (kI .i64) (q4.add 1) (IntKind.i64.wrap (4 + r14)) h25) fun h26 =>
        rd (ld k48 q4 h26) fun x8 =>
        spatelaw16_did p11 x8 h26 fun r15 h27 =>
        k4 () h27
      else
        k4 () h11) fun s4 h12 =>
    rd (ld k48 q2 h12) fun x2 =>
    spatelaw16_did p9 x2 h12 fun r6 h13 =>
    rd (ld k48 q2 h13) fun x3 =>
    spatelaw16_did p11 x3 h13 fun r7 h14 =>
    jn (fun (k5 : Bool → H → Prop) =>
      if (r6.1 != r7.1) = true then
        k5 true h14
      else
        k5 (!(r6.2.toList == r7.2.toList)) h14) fun s5 h15 =>
    if s5 = true then
      K (.inr (.inr false)) h15
    else
      net_Net_Heard p9 3 h15 fun r8 h16 =>
      net_Net_Heard p11 3 h16 fun r9 h17 =>
      net_Net_Is p9 3 h17 fun r10 h18 =>
      net_Net_Is p11 3 h18 fun r11 h19 =>
      net_Net_Under p9 3 h19 fun r12 h20 =>
      net_Net_Under p11 3 h20 fun r13 h21 =>
      jn (fun (k6 : Bool → H → Prop) =>
        rd (b2s r8.1 h21) fun x4 =>
        rd (b2s r9.1 h21) fun x5 =>
        if (!(x4.toList == x5.toList)) = true then
          k6 true h21
        else
          if (!(r8.2 == r9.2)) = true then
            k6 true h21
          else
            if (!(r10.1 == r11.1)) = true then
              k6 true h21
            else
              if (!(r10.2 == r11.2)) = true then
                k6 true h21
              else
                if (r12.1 != r13.1) = true then
                  k6 true h21
                else
                  k6 (r12.2 != r13.2) h21) fun s6 h22 =>
      if s6 = true then
        K (.inr (.inr false)) h22
      else
        K (.inl (IntKind.i64.wrap (s + 1))) h22
  else
    K (.inr (.inl ())) h8
/-- spate/spatelaw16.NetApart -/
def spatelaw16_NetApart (a0 : Int) (a1 : Int) (a2 : Sl) (a3 : Sl) (h : H) (Q : Bool → H → Prop) : Prop :=
  spatelaw16_within a0 30 h fun r1 h1 =>
  spatelaw16_within a1 30 h1 fun r2 h2 =>
  net_New (IntKind.i64.wrap (1 + r1)) (IntKind.i64.wrap (1 + r2)) h2 fun r3 h3 =>
  net_New (IntKind.i64.wrap (1 + r1)) (IntKind.i64.wrap (1 + r2)) h3 fun r4 h4 =>
  jn (fun (k1 : Bool → H → Prop) =>
    if (r3.2 != 0) = true then
      k1 true h4
    else
      if (r4.2 != 0) = true then
        k1 true h4
      else
        if r3.1.isNone = true then
          k1 true h4
        else
          if r4.1.isNone = true then
            k1 true h4
          else
            net_Net_Open r3.1 3 h4 fun r18 h29 =>
            if (r18 != 0) = true then
              k1 true h29
            else
              net_Net_Open r4.1 3 h29 fun r19 h30 =>
              k1 (r19 != 0) h30) fun s1 h5 =>
  if s1 = true then
    Q false h5
  else
    jn (fun (k2 : Unit → H → Prop) =>
      loopE (spatelaw16_NetApart.b1 a2 a3 r3.1 r4.1) 0 h5 (sumK (fun r16 hh => k2 r16 hh) (fun r17 hh => Q r17 hh))) fun s2 h6 =>
    spatelaw16_head  h6 fun r5 h7 =>
    Q r5 h7
theorem spatelaw16_NetApart.sound {a0 : Int} {a1 : Int} {a2 : Sl} {a3 : Sl} {h : H} {Q : Bool → H → Prop} (hF : spatelaw16_NetApart a0 a1 a2 a3 h Q) :
    CallsH Try.prog 5 (List.toArray (α := Value) [.int .i64 a0, .int .i64 a1, Sl.val a2, Sl.val a3]) h fun v h' => ∃ x : Bool, v = .bool x ∧ Q x h' := by
  refine CallsH.of_body Try.func5 rfl 186 rfl rfl ?_
  refine WP.seq ?_
  refine WP.region ?_
  refine EvK.pure (v := .bool false) (w_none rfl) rfl rfl (f_assign rfl rfl) ?_
  refine EvK.nil ?_
  refine WP.seq ?_
  refine WP.region ?_
  refine EvK.pure (v := .int .i64 a0) (w_none rfl) rfl rfl (f_move rfl rfl) ?_
  refine EvK.call (w_none rfl) rfl rfl (enterH Try.func6 rfl rfl rfl rfl (spatelaw16_within.sound hF)) ?_
  rintro _ h1 ⟨r1, rfl, hF⟩
  refine EvK.pure (v := .int .i64 (IntKind.i64.wrap (1 + r1))) (w_none rfl) rfl rfl (f_add rfl rfl rfl) ?_
  refine EvK.pure (v := .int .i64 (IntKind.i64.wrap (1 + r1))) (w_none rfl) rfl rfl (f_assign rfl rfl) ?_
  refine EvK.nil ?_
  refine WP.seq ?_
  refine WP.region ?_
  refine EvK.pure (v := .int .i64 a1) (w_none rfl) rfl rfl (f_move rfl rfl) ?_
  refine EvK.call (w_none rfl) rfl rfl (enterH Try.func6 rfl rfl rfl rfl (spatelaw16_within.sound hF)) ?_
  rintro _ h2 ⟨r2, rfl, hF⟩
  refine EvK.pure (v := .int .i64 (IntKind.i64.wrap (1 + r2))) (w_none rfl) rfl rfl (f_add rfl rfl rfl) ?_
  refine EvK.pure (v := .int .i64 (IntKind.i64.wrap (1 + r2))) (w_none rfl) rfl rfl (f_assign rfl rfl) ?_
  refine EvK.nil ?_
  refine WP.seq ?_
  refine WP.region ?_
  refine EvK.pure (v := .int .i64 (IntKind.i64.wrap (1 + r1))) (w_none rfl) rfl rfl (f_move rfl rfl) ?_
  refine EvK.pure (v := .int .i64 (IntKind.i64.wrap (1 + r2))) (w_none rfl) rfl rfl (f_move rfl rfl) ?_
  refine EvK.call (w_none rfl) rfl rfl (enterH Try.func7 rfl rfl rfl rfl (net_New.sound hF)) ?_
  rintro _ h3 ⟨r3, rfl, hF⟩
  refine EvK.pure (v := .tuple #[.pointer r3.1, .int .i64 r3.2]) (w_none rfl) rfl rfl (f_move rfl rfl) ?_
  refine EvK.pure (v := .pointer r3.1) (w_none rfl) rfl rfl (f_extract (vs := #[.pointer r3.1, .int .i64 r3.2]) rfl rfl rfl) ?_
  refine EvK.pure (v := .int .i64 r3.2) (w_none rfl) rfl rfl (f_extract (vs := #[.pointer r3.1, .int .i64 r3.2]) rfl rfl rfl) ?_
  refine EvK.pure (v := .pointer r3.1) (w_none rfl) rfl rfl (f_assign rfl rfl) ?_
  refine EvK.pure (v := .int .i64 r3.2) (w_none rfl) rfl rfl (f_assign rfl rfl) ?_
  refine EvK.nil ?_
  refine WP.seq ?_
  refine WP.region ?_
  refine EvK.pure (v := .int .i64 (IntKind.i64.wrap (1 + r1))) (w_none rfl) rfl rfl (f_move rfl rfl) ?_
  refine EvK.pure (v := .int .i64 (IntKind.i64.wrap (1 + r2))) (w_none rfl) rfl rfl (f_move rfl rfl) ?_
  refine EvK.call (w_none rfl) rfl rfl (enterH Try.func7 rfl rfl rfl rfl (net_New.sound hF)) ?_
  rintro _ h4 ⟨r4, rfl, hF⟩
  refine EvK.pure (v := .tuple #[.pointer r4.1, .int .i64 r4.2]) (w_none rfl) rfl rfl (f_move rfl rfl) ?_
  refine EvK.pure (v := .pointer r4.1) (w_none rfl) rfl rfl (f_extract (vs := #[.pointer r4.1, .int .i64 r4.2]) rfl rfl rfl) ?_
  refine EvK.pure (v := .int .i64 r4.2) (w_none rfl) rfl rfl (f_extract (vs := #[.pointer r4.1, .int .i64 r4.2]) rfl rfl rfl) ?_
  refine EvK.pure (v := .pointer r4.1) (w_none rfl) rfl rfl (f_assign rfl rfl) ?_
  refine EvK.pure (v := .int .i64 r4.2) (w_none rfl) rfl rfl (f_assign rfl rfl) ?_
  refine EvK.nil ?_
  refine WP.seq ?_
  refine WP.joinF (fun (s1 : Bool) => [(73, .bool s1), (2, Sl.val a2), (3, Sl.val a3), (9, .pointer r3.1), (11, .pointer r4.1)]) hF ?_ ?_
  · intro s1 E0 h5 hF
    rcases ite_inv hF with ⟨c1, hF⟩ | ⟨c1, hF⟩
    · refine WP.cond_true _ rfl c1 ?_
      refine WP.seq ?_
      refine WP.region ?_
      refine EvK.pure (v := .bool false) (w_none rfl) rfl rfl (f_assign rfl rfl) ?_
      refine EvK.nil ?_
      refine WP.ret ?_
      exact Ret.mk (vs := [.bool false]) false ⟨rfl, trivial⟩ rfl hF
    · refine WP.cond_false _ rfl c1 ?_
      refine WP.skip ?_
      refine WP.joinF (fun (s2 : Unit) => []) hF ?_ ?_
      · intro s2 E0 h6 hF
        refine WP.seq ?_
        refine WP.region ?_
        refine EvK.call (w_none rfl) rfl rfl (enterH Try.func19 rfl rfl rfl rfl (spatelaw16_head.sound hF)) ?_
        rintro _ h7 ⟨r5, rfl, hF⟩
        refine EvK.pure (v := .bool r5) (w_none rfl) rfl rfl (f_assign rfl rfl) ?_
        refine EvK.nil ?_
        refine WP.ret ?_
        exact Ret.mk (vs := [.bool r5]) r5 ⟨rfl, trivial⟩ rfl hF
      · intro k2 hF
        refine WP.seq ?_
        refine WP.region ?_
        refine EvK.pure (v := .int .i64 0) (w_none rfl) rfl rfl (f_assign rfl rfl) ?_
        refine EvK.nil ?_
        refine WP.block ?_
        refine WP.loopF (fun (s3 : Int) => [(13, .int .i64 s3), (2, Sl.val a2), (3, Sl.val a3), (9, .pointer r3.1), (11, .pointer r4.1)]) hF ⟨rfl, rfl, rfl, rfl, rfl, trivial⟩ ?_
        intro k3 s3 E0 h8 hF
        refine WP.seq ?_
        refine WP.joinF (fun (s4 : Bool) => [(81, .bool s4), (2, Sl.val a2), (3, Sl.val a3), (9, .pointer r3.1), (11, .pointer r4.1), (13, .int .i64 s3)]) hF ?_ ?_
        · intro s4 E0 h9 hF
          rcases ite_inv hF with ⟨c2, hF⟩ | ⟨c2, hF⟩
          · refine WP.cond_true _ rfl c2 ?_
            refine WP.skip ?_
            refine WP.seq ?_
            refine WP.block ?_
            refine WP.seq ?_
            refine WP.region ?_
            refine EvK.pure (v := Sl.val a2) (w_none rfl) rfl rfl (f_move rfl rfl) ?_
            refine EvK.pure (v := .int .i64 s3) (w_none rfl) rfl rfl (f_move rfl rfl) ?_
            obtain ⟨q1, hq1, hF⟩ := hF
            refine EvK.pure (v := .pointer (some q1)) (w_none rfl) rfl rfl (f_indexAddr (s := a2) Try.underlying43 ty49.size rfl rfl rfl hq1) ?_
            obtain ⟨x1, hx1, hF⟩ := hF
            refine EvK.read (v := k48.val x1) (w_none rfl) rfl rfl (f_load k48 ty49 rfl rfl hx1 rfl) ?_
            refine EvK.alloc (w_none rfl) rfl rfl (f_allocF zero49 rfl rfl hF) ?_
            rintro _ h10 ⟨q2, rfl, hF⟩
            obtain ⟨h11, hs1, hF⟩ := hF
            refine EvK.runN (w_none rfl) rfl (f_store k48 ty49.size (z := x1) rfl rfl rfl hs1) ?_
            rintro _ _ ⟨rfl, rfl⟩
            refine EvK.nil ?_
            refine WP.seq ?_
            refine WP.region ?_
            refine EvK.pure (v := .pointer (some (q2.add 1))) (w_none rfl) rfl rfl (f_fieldAddr fd49_1 rfl rfl) ?_
            obtain ⟨h12, hs2, hF⟩ := hF
            refine EvK.runN (w_none rfl) rfl (f_store (kI .i64) ty3.size (z := 3) rfl rfl rfl hs2) ?_
            rintro _ _ ⟨rfl, rfl⟩
            refine EvK.nil ?_
            refine WP.joinF (fun (s5 : Unit) => [(2, Sl.val a2), (3, Sl.val a3), (9, .pointer r3.1), (11, .pointer r4.1), (13, .int .i64 s3), (14, .pointer (some q2))]) hF ?_ ?_
            · intro s5 E0 h13 hF
              refine WP.seq ?_
              refine WP.region ?_
              refine EvK.pure (v := .pointer r3.1) (w_none rfl) rfl rfl (f_move rfl rfl) ?_
              obtain ⟨x2, hx2, hF⟩ := hF
              refine EvK.read (v := k48.val x2) (w_none rfl) rfl rfl (f_load k48 ty49 rfl rfl hx2 rfl) ?_
              refine EvK.call (w_none rfl) rfl rfl (enterH Try.func23 rfl rfl rfl rfl (spatelaw16_did.sound hF)) ?_
              rintro _ h14 ⟨r6, rfl, hF⟩
              refine EvK.pure (v := .tuple #[.int .i64 r6.1, .string r6.2]) (w_none rfl) rfl rfl (f_move rfl rfl) ?_
              refine EvK.pure (v := .int .i64 r6.1) (w_none rfl) rfl rfl (f_extract (vs := #[.int .i64 r6.1, .string r6.2]) rfl rfl rfl) ?_
              refine EvK.pure (v := .string r6.2) (w_none rfl) rfl rfl (f_extract (vs := #[.int .i64 r6.1, .string r6.2]) rfl rfl rfl) ?_
              refine EvK.pure (v := .int .i64 r6.1) (w_none rfl) rfl rfl (f_assign rfl rfl) ?_
              refine EvK.pure (v := .string r6.2) (w_none rfl) rfl rfl (f_assign rfl rfl) ?_
              refine EvK.nil ?_
              refine WP.seq ?_
              refine WP.region ?_
              refine EvK.pure (v := .pointer r4.1) (w_none rfl) rfl rfl (f_move rfl rfl) ?_
              obtain ⟨x3, hx3, hF⟩ := hF
              refine EvK.read (v := k48.val x3) (w_none rfl) rfl rfl (f_load k48 ty49 rfl rfl hx3 rfl) ?_
              refine EvK.call (w_none rfl) rfl rfl (enterH Try.func23 rfl rfl rfl rfl (spatelaw16_did.sound hF)) ?_
              rintro _ h15 ⟨r7, rfl, hF⟩
              refine EvK.pure (v := .tuple #[.int .i64 r7.1, .string r7.2]) (w_none rfl) rfl rfl (f_move rfl rfl) ?_
              refine EvK.pure (v := .int .i64 r7.1) (w_none rfl) rfl rfl (f_extract (vs := #[.int .i64 r7.1, .string r7.2]) rfl rfl rfl) ?_
              refine EvK.pure (v := .string r7.2) (w_none rfl) rfl rfl (f_extract (vs := #[.int .i64 r7.1, .string r7.2]) rfl rfl rfl) ?_
              refine EvK.pure (v := .int .i64 r7.1) (w_none rfl) rfl rfl (f_assign rfl rfl) ?_
              refine EvK.pure (v := .string r7.2) (w_none rfl) rfl rfl (f_assign rfl rfl) ?_
              refine EvK.nil ?_
              refine WP.seq ?_
              refine WP.joinF (fun (s6 : Bool) => [(124, .bool s6), (2, Sl.val a2), (3, Sl.val a3), (9, .pointer r3.1), (11, .pointer r4.1), (13, .int .i64 s3)]) hF ?_ ?_
              · intro s6 E0 h16 hF
                rcases ite_inv hF with ⟨c3, hF⟩ | ⟨c3, hF⟩
                · refine WP.cond_true _ rfl c3 ?_
                  refine WP.seq ?_
                  refine WP.region ?_
                  refine EvK.pure (v := .bool false) (w_none rfl) rfl rfl (f_assign rfl rfl) ?_
                  refine EvK.nil ?_
                  refine WP.ret ?_
                  exact Ret.mk (vs := [.bool false]) false ⟨rfl, trivial⟩ rfl hF
                · refine WP.cond_false _ rfl c3 ?_
                  refine WP.skip ?_
                  refine WP.seq ?_
                  refine WP.region ?_
                  refine EvK.pure (v := .pointer r3.1) (w_none rfl) rfl rfl (f_move rfl rfl) ?_
                  refine EvK.call (w_none rfl) rfl rfl (enterH Try.func15 rfl rfl rfl rfl (net_Net_Heard.sound hF)) ?_
                  rintro _ h17 ⟨r8, rfl, hF⟩
                  refine EvK.pure (v := .tuple #[Sl.val r8.1, .bool r8.2]) (w_none rfl) rfl rfl (f_move rfl rfl) ?_
                  refine EvK.pure (v := Sl.val r8.1) (w_none rfl) rfl rfl (f_extract (vs := #[Sl.val r8.1, .bool r8.2]) rfl rfl rfl) ?_
                  refine EvK.pure (v := .bool r8.2) (w_none rfl) rfl rfl (f_extract (vs := #[Sl.val r8.1, .bool r8.2]) rfl rfl rfl) ?_
                  refine EvK.pure (v := Sl.val r8.1) (w_none rfl) rfl rfl (f_assign rfl rfl) ?_
                  refine EvK.pure (v := .bool r8.2) (w_none rfl) rfl rfl (f_assign rfl rfl) ?_
                  refine EvK.nil ?_
                  refine WP.seq ?_
                  refine WP.region ?_
                  refine EvK.pure (v := .pointer r4.1) (w_none rfl) rfl rfl (f_move rfl rfl) ?_
                  refine EvK.call (w_none rfl) rfl rfl (enterH Try.func15 rfl rfl rfl rfl (net_Net_Heard.sound hF)) ?_
                  rintro _ h18 ⟨r9, rfl, hF⟩
                  refine EvK.pure (v := .tuple #[Sl.val r9.1, .bool r9.2]) (w_none rfl) rfl rfl (f_move rfl rfl) ?_
                  refine EvK.pure (v := Sl.val r9.1) (w_none rfl) rfl rfl (f_extract (vs := #[Sl.val r9.1, .bool r9.2]) rfl rfl rfl) ?_
                  refine EvK.pure (v := .bool r9.2) (w_none rfl) rfl rfl (f_extract (vs := #[Sl.val r9.1, .bool r9.2]) rfl rfl rfl) ?_
                  refine EvK.pure (v := Sl.val r9.1) (w_none rfl) rfl rfl (f_assign rfl rfl) ?_
                  refine EvK.pure (v := .bool r9.2) (w_none rfl) rfl rfl (f_assign rfl rfl) ?_
                  refine EvK.nil ?_
                  refine WP.seq ?_
                  refine WP.region ?_
                  refine EvK.pure (v := .pointer r3.1) (w_none rfl) rfl rfl (f_move rfl rfl) ?_
                  refine EvK.call (w_none rfl) rfl rfl (enterH Try.func24 rfl rfl rfl rfl (net_Net_Is.sound hF)) ?_
                  rintro _ h19 ⟨r10, rfl, hF⟩
                  refine EvK.pure (v := .tuple #[.bool r10.1, .bool r10.2]) (w_none rfl) rfl rfl (f_move rfl rfl) ?_
                  refine EvK.pure (v := .bool r10.1) (w_none rfl) rfl rfl (f_extract (vs := #[.bool r10.1, .bool r10.2]) rfl rfl rfl) ?_
                  refine EvK.pure (v := .bool r10.2) (w_none rfl) rfl rfl (f_extract (vs := #[.bool r10.1, .bool r10.2]) rfl rfl rfl) ?_
                  refine EvK.pure (v := .bool r10.1) (w_none rfl) rfl rfl (f_assign rfl rfl) ?_
                  refine EvK.pure (v := .bool r10.2) (w_none rfl) rfl rfl (f_assign rfl rfl) ?_
                  refine EvK.nil ?_
                  refine WP.seq ?_
                  refine WP.region ?_
                  refine EvK.pure (v := .pointer r4.1) (w_none rfl) rfl rfl (f_move rfl rfl) ?_
                  refine EvK.call (w_none rfl) rfl rfl (enterH Try.func24 rfl rfl rfl rfl (net_Net_Is.sound hF)) ?_
                  rintro _ h20 ⟨r11, rfl, hF⟩
                  refine EvK.pure (v := .tuple #[.bool r11.1, .bool r11.2]) (w_none rfl) rfl rfl (f_move rfl rfl) ?_
                  refine EvK.pure (v := .bool r11.1) (w_none rfl) rfl rfl (f_extract (vs := #[.bool r11.1, .bool r11.2]) rfl rfl rfl) ?_
                  refine EvK.pure (v := .bool r11.2) (w_none rfl) rfl rfl (f_extract (vs := #[.bool r11.1, .bool r11.2]) rfl rfl rfl) ?_
                  refine EvK.pure (v := .bool r11.1) (w_none rfl) rfl rfl (f_assign rfl rfl) ?_
                  refine EvK.pure (v := .bool r11.2) (w_none rfl) rfl rfl (f_assign rfl rfl) ?_
                  refine EvK.nil ?_
                  refine WP.seq ?_
                  refine WP.region ?_
                  refine EvK.pure (v := .pointer r3.1) (w_none rfl) rfl rfl (f_move rfl rfl) ?_
                  refine EvK.call (w_none rfl) rfl rfl (enterH Try.func25 rfl rfl rfl rfl (net_Net_Under.sound hF)) ?_
                  rintro _ h21 ⟨r12, rfl, hF⟩
                  refine EvK.pure (v := .tuple #[.int .i64 r12.1, .int .i64 r12.2]) (w_none rfl) rfl rfl (f_move rfl rfl) ?_
                  refine EvK.pure (v := .int .i64 r12.1) (w_none rfl) rfl rfl (f_extract (vs := #[.int .i64 r12.1, .int .i64 r12.2]) rfl rfl rfl) ?_
                  refine EvK.pure (v := .int .i64 r12.2) (w_none rfl) rfl rfl (f_extract (vs := #[.int .i64 r12.1, .int .i64 r12.2]) rfl rfl rfl) ?_
                  refine EvK.pure (v := .int .i64 r12.1) (w_none rfl) rfl rfl (f_assign rfl rfl) ?_
                  refine EvK.pure (v := .int .i64 r12.2) (w_none rfl) rfl rfl (f_assign rfl rfl) ?_
                  refine EvK.nil ?_
                  refine WP.seq ?_
                  refine WP.region ?_
                  refine EvK.pure (v := .pointer r4.1) (w_none rfl) rfl rfl (f_move rfl rfl) ?_
                  refine EvK.call (w_none rfl) rfl rfl (enterH Try.func25 rfl rfl rfl rfl (net_Net_Under.sound hF)) ?_
                  rintro _ h22 ⟨r13, rfl, hF⟩
                  refine EvK.pure (v := .tuple #[.int .i64 r13.1, .int .i64 r13.2]) (w_none rfl) rfl rfl (f_move rfl rfl) ?_
                  refine EvK.pure (v := .int .i64 r13.1) (w_none rfl) rfl rfl (f_extract (vs := #[.int .i64 r13.1, .int .i64 r13.2]) rfl rfl rfl) ?_
                  refine EvK.pure (v := .int .i64 r13.2) (w_none rfl) rfl rfl (f_extract (vs := #[.int .i64 r13.1, .int .i64 r13.2]) rfl rfl rfl) ?_
                  refine EvK.pure (v := .int .i64 r13.1) (w_none rfl) rfl rfl (f_assign rfl rfl) ?_
                  refine EvK.pure (v := .int .i64 r13.2) (w_none rfl) rfl rfl (f_assign rfl rfl) ?_
                  refine EvK.nil ?_
                  refine WP.joinF (fun (s7 : Bool) => [(184, .bool s7), (2, Sl.val a2), (3, Sl.val a3), (9, .pointer r3.1), (11, .pointer r4.1), (13, .int .i64 s3)]) hF ?_ ?_
                  · intro s7 E0 h23 hF
                    rcases ite_inv hF with ⟨c4, hF⟩ | ⟨c4, hF⟩
                    · refine WP.cond_true _ rfl c4 ?_
                      refine WP.seq ?_
                      refine WP.region ?_
                      refine EvK.pure (v := .bool false) (w_none rfl) rfl rfl (f_assign rfl rfl) ?_
                      refine EvK.nil ?_
                      refine WP.ret ?_
                      exact Ret.mk (vs := [.bool false]) false ⟨rfl, trivial⟩ rfl hF
                    · refine WP.cond_false _ rfl c4 ?_
                      refine WP.skip ?_
                      refine WP.region ?_
                      refine EvK.pure (v := .int .i64 s3) (w_none rfl) rfl rfl (f_move rfl rfl) ?_
                      refine EvK.pure (v := .int .i64 (IntKind.i64.wrap (s3 + 1))) (w_none rfl) rfl rfl (f_add rfl rfl rfl) ?_
                      refine EvK.pure (v := .int .i64 (IntKind.i64.wrap (s3 + 1))) (w_none rfl) rfl rfl (f_assign rfl rfl) ?_
                      refine EvK.nil ?_
                      exact KE.mk (IntKind.i64.wrap (s3 + 1)) ⟨rfl, rfl, rfl, rfl, rfl, trivial⟩ hF
                  · intro k7 hF
                    refine WP.region ?_
                    refine EvK.pure (v := Sl.val r8.1) (w_none rfl) rfl rfl (f_move rfl rfl) ?_
                    obtain ⟨x4, hx4, hF⟩ := hF
                    refine EvK.read (v := .string x4) (w_none rfl) rfl rfl (f_b2s Try.underlying29 Try.underlying9 Try.underlying5 rfl rfl hx4) ?_
                    refine EvK.pure (v := Sl.val r9.1) (w_none rfl) rfl rfl (f_move rfl rfl) ?_
                    obtain ⟨x5, hx5, hF⟩ := hF
                    refine EvK.read (v := .string x5) (w_none rfl) rfl rfl (f_b2s Try.underlying29 Try.underlying9 Try.underlying5 rfl rfl hx5) ?_
                    refine EvK.pure (v := .bool (!(x4.toList == x5.toList))) (w_none rfl) rfl rfl (f_sneq rfl rfl rfl) ?_
                    refine EvK.pure (v := .bool (!(x4.toList == x5.toList))) (w_none rfl) rfl rfl (f_move rfl rfl) ?_
                    rcases ite_inv hF with ⟨c5, hF⟩ | ⟨c5, hF⟩
                    · refine EvK.not (w_not rfl rfl c5) rfl rfl ?_
                      refine EvK.not (w_not rfl rfl c5) rfl rfl ?_
                      refine EvK.not (w_not rfl rfl c5) rfl rfl ?_
                      refine EvK.pure (v := .bool true) (w_none rfl) rfl rfl (f_pickT rfl rfl c5 rfl) ?_
                      refine EvK.pure (v := .bool true) (w_none rfl) rfl rfl (f_move rfl rfl) ?_
                      refine EvK.not (w_not rfl rfl rfl) rfl rfl ?_
                      refine EvK.not (w_not rfl rfl rfl) rfl rfl ?_
                      refine EvK.not (w_not rfl rfl rfl) rfl rfl ?_
                      refine EvK.pure (v := .bool true) (w_none rfl) rfl rfl (f_pickT rfl rfl rfl rfl) ?_
                      refine EvK.pure (v := .bool true) (w_none rfl) rfl rfl (f_move rfl rfl) ?_
                      refine EvK.not (w_not rfl rfl rfl) rfl rfl ?_
                      refine EvK.not (w_not rfl rfl rfl) rfl rfl ?_
                      refine EvK.not (w_not rfl rfl rfl) rfl rfl ?_
                      refine EvK.pure (v := .bool true) (w_none rfl) rfl rfl (f_pickT rfl rfl rfl rfl) ?_
                      refine EvK.pure (v := .bool true) (w_none rfl) rfl rfl (f_move rfl rfl) ?_
                      refine EvK.not (w_not rfl rfl rfl) rfl rfl ?_
                      refine EvK.not (w_not rfl rfl rfl) rfl rfl ?_
                      refine EvK.not (w_not rfl rfl rfl) rfl rfl ?_
                      refine EvK.pure (v := .bool true) (w_none rfl) rfl rfl (f_pickT rfl rfl rfl rfl) ?_
                      refine EvK.pure (v := .bool true) (w_none rfl) rfl rfl (f_move rfl rfl) ?_
                      refine EvK.not (w_not rfl rfl rfl) rfl rfl ?_
                      refine EvK.not (w_not rfl rfl rfl) rfl rfl ?_
                      refine EvK.not (w_not rfl rfl rfl) rfl rfl ?_
                      refine EvK.pure (v := .bool true) (w_none rfl) rfl rfl (f_pickT rfl rfl rfl rfl) ?_
                      refine EvK.nil ?_
                      exact KE.mk true ⟨rfl, rfl, rfl, rfl, rfl, rfl, trivial⟩ hF
                    · refine EvK.pure (v := .bool r8.2) (w_some rfl rfl c5) rfl rfl (f_move rfl rfl) ?_
                      refine EvK.pure (v := .bool r9.2) (w_some rfl rfl c5) rfl rfl (f_move rfl rfl) ?_
                      refine EvK.pure (v := .bool (!(r8.2 == r9.2))) (w_some rfl rfl c5) rfl rfl (f_bneq Try.underlying4 rfl rfl rfl) ?_
                      refine EvK.pure (v := .bool (!(r8.2 == r9.2))) (w_none rfl) rfl rfl (f_pickF rfl rfl c5 rfl) ?_
                      refine EvK.pure (v := .bool (!(r8.2 == r9.2))) (w_none rfl) rfl rfl (f_move rfl rfl) ?_
                      rcases ite_inv hF with ⟨c6, hF⟩ | ⟨c6, hF⟩
                      · refine EvK.not (w_not rfl rfl c6) rfl rfl ?_
                        refine EvK.not (w_not rfl rfl c6) rfl rfl ?_
                        refine EvK.not (w_not rfl rfl c6) rfl rfl ?_
                        refine EvK.pure (v := .bool true) (w_none rfl) rfl rfl (f_pickT rfl rfl c6 rfl) ?_
                        refine EvK.pure (v := .bool true) (w_none rfl) rfl rfl (f_move rfl rfl) ?_
                        refine EvK.not (w_not rfl rfl rfl) rfl rfl ?_
                        refine EvK.not (w_not rfl rfl rfl) rfl rfl ?_
                        refine EvK.not (w_not rfl rfl rfl) rfl rfl ?_
                        refine EvK.pure (v := .bool true) (w_none rfl) rfl rfl (f_pickT rfl rfl rfl rfl) ?_
                        refine EvK.pure (v := .bool true) (w_none rfl) rfl rfl (f_move rfl rfl) ?_
                        refine EvK.not (w_not rfl rfl rfl) rfl rfl ?_
                        refine EvK.not (w_not rfl rfl rfl) rfl rfl ?_
                        refine EvK.not (w_not rfl rfl rfl) rfl rfl ?_
                        refine EvK.pure (v := .bool true) (w_none rfl) rfl rfl (f_pickT rfl rfl rfl rfl) ?_
                        refine EvK.pure (v := .bool true) (w_none rfl) rfl rfl (f_move rfl rfl) ?_
                        refine EvK.not (w_not rfl rfl rfl) rfl rfl ?_
                        refine EvK.not (w_not rfl rfl rfl) rfl rfl ?_
                        refine EvK.not (w_not rfl rfl rfl) rfl rfl ?_
                        refine EvK.pure (v := .bool true) (w_none rfl) rfl rfl (f_pickT rfl rfl rfl rfl) ?_
                        refine EvK.nil ?_
                        exact KE.mk true ⟨rfl, rfl, rfl, rfl, rfl, rfl, trivial⟩ hF
                      · refine EvK.pure (v := .bool r10.1) (w_some rfl rfl c6) rfl rfl (f_move rfl rfl) ?_
                        refine EvK.pure (v := .bool r11.1) (w_some rfl rfl c6) rfl rfl (f_move rfl rfl) ?_
                        refine EvK.pure (v := .bool (!(r10.1 == r11.1))) (w_some rfl rfl c6) rfl rfl (f_bneq Try.underlying4 rfl rfl rfl) ?_
                        refine EvK.pure (v := .bool (!(r10.1 == r11.1))) (w_none rfl) rfl rfl (f_pickF rfl rfl c6 rfl) ?_
                        refine EvK.pure (v := .bool (!(r10.1 == r11.1))) (w_none rfl) rfl rfl (f_move rfl rfl) ?_
                        rcases ite_inv hF with ⟨c7, hF⟩ | ⟨c7, hF⟩
                        · refine EvK.not (w_not rfl rfl c7) rfl rfl ?_
                          refine EvK.not (w_not rfl rfl c7) rfl rfl ?_
                          refine EvK.not (w_not rfl rfl c7) rfl rfl ?_
                          refine EvK.pure (v := .bool true) (w_none rfl) rfl rfl (f_pickT rfl rfl c7 rfl) ?_
                          refine EvK.pure (v := .bool true) (w_none rfl) rfl rfl (f_move rfl rfl) ?_
                          refine EvK.not (w_not rfl rfl rfl) rfl rfl ?_
                          refine EvK.not (w_not rfl rfl rfl) rfl rfl ?_
                          refine EvK.not (w_not rfl rfl rfl) rfl rfl ?_
                          refine EvK.pure (v := .bool true) (w_none rfl) rfl rfl (f_pickT rfl rfl rfl rfl) ?_
                          refine EvK.pure (v := .bool true) (w_none rfl) rfl rfl (f_move rfl rfl) ?_
                          refine EvK.not (w_not rfl rfl rfl) rfl rfl ?_
                          refine EvK.not (w_not rfl rfl rfl) rfl rfl ?_
                          refine EvK.not (w_not rfl rfl rfl) rfl rfl ?_
                          refine EvK.pure (v := .bool true) (w_none rfl) rfl rfl (f_pickT rfl rfl rfl rfl) ?_
                          refine EvK.nil ?_
                          exact KE.mk true ⟨rfl, rfl, rfl, rfl, rfl, rfl, trivial⟩ hF
                        · refine EvK.pure (v := .bool r10.2) (w_some rfl rfl c7) rfl rfl (f_move rfl rfl) ?_
                          refine EvK.pure (v := .bool r11.2) (w_some rfl rfl c7) rfl rfl (f_move rfl rfl) ?_
                          refine EvK.pure (v := .bool (!(r10.2 == r11.2))) (w_some rfl rfl c7) rfl rfl (f_bneq Try.underlying4 rfl rfl rfl) ?_
                          refine EvK.pure (v := .bool (!(r10.2 == r11.2))) (w_none rfl) rfl rfl (f_pickF rfl rfl c7 rfl) ?_
                          refine EvK.pure (v := .bool (!(r10.2 == r11.2))) (w_none rfl) rfl rfl (f_move rfl rfl) ?_
                          rcases ite_inv hF with ⟨c8, hF⟩ | ⟨c8, hF⟩
                          · refine EvK.not (w_not rfl rfl c8) rfl rfl ?_
                            refine EvK.not (w_not rfl rfl c8) rfl rfl ?_
                            refine EvK.not (w_not rfl rfl c8) rfl rfl ?_
                            refine EvK.pure (v := .bool true) (w_none rfl) rfl rfl (f_pickT rfl rfl c8 rfl) ?_
                            refine EvK.pure (v := .bool true) (w_none rfl) rfl rfl (f_move rfl rfl) ?_
                            refine EvK.not (w_not rfl rfl rfl) rfl rfl ?_
                            refine EvK.not (w_not rfl rfl rfl) rfl rfl ?_
                            refine EvK.not (w_not rfl rfl rfl) rfl rfl ?_
                            refine EvK.pure (v := .bool true) (w_none rfl) rfl rfl (f_pickT rfl rfl rfl rfl) ?_
                            refine EvK.nil ?_
                            exact KE.mk true ⟨rfl, rfl, rfl, rfl, rfl, rfl, trivial⟩ hF
                          · refine EvK.pure (v := .int .i64 r12.1) (w_some rfl rfl c8) rfl rfl (f_move rfl rfl) ?_
                            refine EvK.pure (v := .int .i64 r13.1) (w_some rfl rfl c8) rfl rfl (f_move rfl rfl) ?_
                            refine EvK.pure (v := .bool (r12.1 != r13.1)) (w_some rfl rfl c8) rfl rfl (f_neq rfl rfl rfl) ?_
                            refine EvK.pure (v := .bool (r12.1 != r13.1)) (w_none rfl) rfl rfl (f_pickF rfl rfl c8 rfl) ?_
                            refine EvK.pure (v := .bool (r12.1 != r13.1)) (w_none rfl) rfl rfl (f_move rfl rfl) ?_
                            rcases ite_inv hF with ⟨c9, hF⟩ | ⟨c9, hF⟩
                            · refine EvK.not (w_not rfl rfl c9) rfl rfl ?_
                              refine EvK.not (w_not rfl rfl c9) rfl rfl ?_
                              refine EvK.not (w_not rfl rfl c9) rfl rfl ?_
                              refine EvK.pure (v := .bool true) (w_none rfl) rfl rfl (f_pickT rfl rfl c9 rfl) ?_
                              refine EvK.nil ?_
                              exact KE.mk true ⟨rfl, rfl, rfl, rfl, rfl, rfl, trivial⟩ hF
                            · refine EvK.pure (v := .int .i64 r12.2) (w_some rfl rfl c9) rfl rfl (f_move rfl rfl) ?_
                              refine EvK.pure (v := .int .i64 r13.2) (w_some rfl rfl c9) rfl rfl (f_move rfl rfl) ?_
                              refine EvK.pure (v := .bool (r12.2 != r13.2)) (w_some rfl rfl c9) rfl rfl (f_neq rfl rfl rfl) ?_
                              refine EvK.pure (v := .bool (r12.2 != r13.2)) (w_none rfl) rfl rfl (f_pickF rfl rfl c9 rfl) ?_
                              refine EvK.nil ?_
                              exact KE.mk (r12.2 != r13.2) ⟨rfl, rfl, rfl, rfl, rfl, rfl, trivial⟩ hF
              · intro k6 hF
                refine WP.region ?_
                refine EvK.pure (v := .int .i64 r6.1) (w_none rfl) rfl rfl (f_move rfl rfl) ?_
                refine EvK.pure (v := .int .i64 r7.1) (w_none rfl) rfl rfl (f_move rfl rfl) ?_
                refine EvK.pure (v := .bool (r6.1 != r7.1)) (w_none rfl) rfl rfl (f_neq rfl rfl rfl) ?_
                refine EvK.pure (v := .bool (r6.1 != r7.1)) (w_none rfl) rfl rfl (f_move rfl rfl) ?_
                rcases ite_inv hF with ⟨c10, hF⟩ | ⟨c10, hF⟩
                · refine EvK.not (w_not rfl rfl c10) rfl rfl ?_
                  refine EvK.not (w_not rfl rfl c10) rfl rfl ?_
                  refine EvK.not (w_not rfl rfl c10) rfl rfl ?_
                  refine EvK.pure (v := .bool true) (w_none rfl) rfl rfl (f_pickT rfl rfl c10 rfl) ?_
                  refine EvK.nil ?_
                  exact KE.mk true ⟨rfl, rfl, rfl, rfl, rfl, rfl, trivial⟩ hF
                · refine EvK.pure (v := .string r6.2) (w_some rfl rfl c10) rfl rfl (f_move rfl rfl) ?_
                  refine EvK.pure (v := .string r7.2) (w_some rfl rfl c10) rfl rfl (f_move rfl rfl) ?_
                  refine EvK.pure (v := .bool (!(r6.2.toList == r7.2.toList))) (w_some rfl rfl c10) rfl rfl (f_sneq rfl rfl rfl) ?_
                  refine EvK.pure (v := .bool (!(r6.2.toList == r7.2.toList))) (w_none rfl) rfl rfl (f_pickF rfl rfl c10 rfl) ?_
                  refine EvK.nil ?_
                  exact KE.mk (!(r6.2.toList == r7.2.toList)) ⟨rfl, rfl, rfl, rfl, rfl, rfl, trivial⟩ hF
            · intro k5 hF
              refine WP.seq ?_
              refine WP.region ?_
              refine EvK.pure (v := .int .i64 s3) (w_none rfl) rfl rfl (f_move rfl rfl) ?_
              refine EvK.pure (v := Sl.val a3) (w_none rfl) rfl rfl (f_move rfl rfl) ?_
              refine EvK.pure (v := .int .i64 (a3.len : Int)) (w_none rfl) rfl rfl (f_lenL (s := a3) Try.underlying43 rfl rfl) ?_
              refine EvK.pure (v := .bool (decide (s3 < (a3.len : Int)))) (w_none rfl) rfl rfl (f_lss rfl rfl rfl) ?_
              refine EvK.nil ?_
              rcases ite_inv hF with ⟨c11, hF⟩ | ⟨c11, hF⟩
              · refine WP.cond_true _ rfl c11 ?_
                refine WP.seq ?_
                refine WP.region ?_
                refine EvK.pure (v := Sl.val a3) (w_none rfl) rfl rfl (f_move rfl rfl) ?_
                refine EvK.pure (v := .int .i64 s3) (w_none rfl) rfl rfl (f_move rfl rfl) ?_
                obtain ⟨q3, hq2, hF⟩ := hF
                refine EvK.pure (v := .pointer (some q3)) (w_none rfl) rfl rfl (f_indexAddr (s := a3) Try.underlying43 ty49.size rfl rfl rfl hq2) ?_
                obtain ⟨x6, hx6, hF⟩ := hF
                refine EvK.read (v := k48.val x6) (w_none rfl) rfl rfl (f_load k48 ty49 rfl rfl hx6 rfl) ?_
                refine EvK.alloc (w_none rfl) rfl rfl (f_allocF zero49 rfl rfl hF) ?_
                rintro _ h24 ⟨q4, rfl, hF⟩
                obtain ⟨h25, hs3, hF⟩ := hF
                refine EvK.runN (w_none rfl) rfl (f_store k48 ty49.size (z := x6) rfl rfl rfl hs3) ?_
                rintro _ _ ⟨rfl, rfl⟩
                refine EvK.nil ?_
                refine WP.seq ?_
                refine WP.region ?_
                refine EvK.pure (v := .pointer (some (q4.add 1))) (w_none rfl) rfl rfl (f_fieldAddr fd49_1 rfl rfl) ?_
                obtain ⟨x7, hx7, hF⟩ := hF
                refine EvK.read (v := .int .i64 x7) (w_none rfl) rfl rfl (f_load (kI .i64) ty3 rfl rfl hx7 rfl) ?_
                refine EvK.call (w_none rfl) rfl rfl (enterH Try.func6 rfl rfl rfl rfl (spatelaw16_within.sound hF)) ?_
                rintro _ h26 ⟨r14, rfl, hF⟩
                refine EvK.pure (v := .int .i64 (IntKind.i64.wrap (4 + r14))) (w_none rfl) rfl rfl (f_add rfl rfl rfl) ?_
                refine EvK.pure (v := .pointer (some (q4.add 1))) (w_none rfl) rfl rfl (f_fieldAddr fd49_1 rfl rfl) ?_
                obtain ⟨h27, hs4, hF⟩ := hF
                refine EvK.runN (w_none rfl) rfl (f_store (kI .i64) ty3.size (z := IntKind.i64.wrap (4 + r14)) rfl rfl rfl hs4) ?_
                rintro _ _ ⟨rfl, rfl⟩
                refine EvK.nil ?_
                refine WP.region ?_
                refine EvK.pure (v := .pointer r4.1) (w_none rfl) rfl rfl (f_move rfl rfl) ?_
                obtain ⟨x8, hx8, hF⟩ := hF
                refine EvK.read (v := k48.val x8) (w_none rfl) rfl rfl (f_load k48 ty49 rfl rfl hx8 rfl) ?_
                refine EvK.call (w_none rfl) rfl rfl (enterH Try.func23 rfl rfl rfl rfl (spatelaw16_did.sound hF)) ?_
                rintro _ h28 ⟨r15, rfl, hF⟩
                refine EvK.nil ?_
                exact KE.mk () ⟨rfl, rfl, rfl, rfl, rfl, rfl, trivial⟩ hF
              · refine WP.cond_false _ rfl c11 ?_
                refine WP.skip ?_
                exact KE.mk () ⟨rfl, rfl, rfl, rfl, rfl, rfl, trivial⟩ hF
          · refine WP.cond_false _ rfl c2 ?_
            refine WP.exit ?_
            exact KE.mk () trivial hF
        · intro k4 hF
          refine WP.region ?_
          refine EvK.pure (v := .int .i64 s3) (w_none rfl) rfl rfl (f_move rfl rfl) ?_
          refine EvK.pure (v := Sl.val a2) (w_none rfl) rfl rfl (f_move rfl rfl) ?_
          refine EvK.pure (v := .int .i64 (a2.len : Int)) (w_none rfl) rfl rfl (f_lenL (s := a2) Try.underlying43 rfl rfl) ?_
          refine EvK.pure (v := .bool (decide (s3 < (a2.len : Int)))) (w_none rfl) rfl rfl (f_lss rfl rfl rfl) ?_
          refine EvK.pure (v := .bool (decide (s3 < (a2.len : Int)))) (w_none rfl) rfl rfl (f_move rfl rfl) ?_
          rcases ite_inv hF with ⟨c12, hF⟩ | ⟨c12, hF⟩
          · refine EvK.pure (v := .int .i64 s3) (w_some rfl rfl c12) rfl rfl (f_move rfl rfl) ?_
            refine EvK.pure (v := .bool (decide (s3 < 80))) (w_some rfl rfl c12) rfl rfl (f_lss rfl rfl rfl) ?_
            refine EvK.pure (v := .bool (decide (s3 < 80))) (w_none rfl) rfl rfl (f_pickT rfl rfl c12 rfl) ?_
            refine EvK.nil ?_
            exact KE.mk (decide (s3 < 80)) ⟨rfl, rfl, rfl, rfl, rfl, rfl, trivial⟩ hF
          · refine EvK.not (w_not rfl rfl c12) rfl rfl ?_
            refine EvK.not (w_not rfl rfl c12) rfl rfl ?_
            refine EvK.pure (v := .bool false) (w_none rfl) rfl rfl (f_pickF rfl rfl c12 rfl) ?_
            refine EvK.nil ?_
            exact KE.mk false ⟨rfl, rfl, rfl, rfl, rfl, rfl, trivial⟩ hF
  · intro k1 hF
    refine WP.region ?_
    refine EvK.pure (v := .int .i64 r3.2) (w_none rfl) rfl rfl (f_move rfl rfl) ?_
    refine EvK.pure (v := .bool (r3.2 != 0)) (w_none rfl) rfl rfl (f_neq rfl rfl rfl) ?_
    refine EvK.pure (v := .bool (r3.2 != 0)) (w_none rfl) rfl rfl (f_move rfl rfl) ?_
    rcases ite_inv hF with ⟨c13, hF⟩ | ⟨c13, hF⟩
    · refine EvK.not (w_not rfl rfl c13) rfl rfl ?_
      refine EvK.not (w_not rfl rfl c13) rfl rfl ?_
      refine EvK.pure (v := .bool true) (w_none rfl) rfl rfl (f_pickT rfl rfl c13 rfl) ?_
      refine EvK.pure (v := .bool true) (w_none rfl) rfl rfl (f_move rfl rfl) ?_
      refine EvK.not (w_not rfl rfl rfl) rfl rfl ?_
      refine EvK.not (w_not rfl rfl rfl) rfl rfl ?_
      refine EvK.pure (v := .bool true) (w_none rfl) rfl rfl (f_pickT rfl rfl rfl rfl) ?_
      refine EvK.pure (v := .bool true) (w_none rfl) rfl rfl (f_move rfl rfl) ?_
      refine EvK.not (w_not rfl rfl rfl) rfl rfl ?_
      refine EvK.not (w_not rfl rfl rfl) rfl rfl ?_
      refine EvK.pure (v := .bool true) (w_none rfl) rfl rfl (f_pickT rfl rfl rfl rfl) ?_
      refine EvK.pure (v := .bool true) (w_none rfl) rfl rfl (f_move rfl rfl) ?_
      refine EvK.not (w_not rfl rfl rfl) rfl rfl ?_
      refine EvK.not (w_not rfl rfl rfl) rfl rfl ?_
      refine EvK.not (w_not rfl rfl rfl) rfl rfl ?_
      refine EvK.pure (v := .bool true) (w_none rfl) rfl rfl (f_pickT rfl rfl rfl rfl) ?_
      refine EvK.pure (v := .bool true) (w_none rfl) rfl rfl (f_move rfl rfl) ?_
      refine EvK.not (w_not rfl rfl rfl) rfl rfl ?_
      refine EvK.not (w_not rfl rfl rfl) rfl rfl ?_
      refine EvK.not (w_not rfl rfl rfl) rfl rfl ?_
      refine EvK.pure (v := .bool true) (w_none rfl) rfl rfl (f_pickT rfl rfl rfl rfl) ?_
      refine EvK.nil ?_
      exact KE.mk true ⟨rfl, rfl, rfl, rfl, rfl, trivial⟩ hF
    · refine EvK.pure (v := .int .i64 r4.2) (w_some rfl rfl c13) rfl rfl (f_move rfl rfl) ?_
      refine EvK.pure (v := .bool (r4.2 != 0)) (w_some rfl rfl c13) rfl rfl (f_neq rfl rfl rfl) ?_
      refine EvK.pure (v := .bool (r4.2 != 0)) (w_none rfl) rfl rfl (f_pickF rfl rfl c13 rfl) ?_
      refine EvK.pure (v := .bool (r4.2 != 0)) (w_none rfl) rfl rfl (f_move rfl rfl) ?_
      rcases ite_inv hF with ⟨c14, hF⟩ | ⟨c14, hF⟩
      · refine EvK.not (w_not rfl rfl c14) rfl rfl ?_
        refine EvK.not (w_not rfl rfl c14) rfl rfl ?_
        refine EvK.pure (v := .bool true) (w_none rfl) rfl rfl (f_pickT rfl rfl c14 rfl) ?_
        refine EvK.pure (v := .bool true) (w_none rfl) rfl rfl (f_move rfl rfl) ?_
        refine EvK.not (w_not rfl rfl rfl) rfl rfl ?_
        refine EvK.not (w_not rfl rfl rfl) rfl rfl ?_
        refine EvK.pure (v := .bool true) (w_none rfl) rfl rfl (f_pickT rfl rfl rfl rfl) ?_
        refine EvK.pure (v := .bool true) (w_none rfl) rfl rfl (f_move rfl rfl) ?_
        refine EvK.not (w_not rfl rfl rfl) rfl rfl ?_
        refine EvK.not (w_not rfl rfl rfl) rfl rfl ?_
        refine EvK.not (w_not rfl rfl rfl) rfl rfl ?_
        refine EvK.pure (v := .bool true) (w_none rfl) rfl rfl (f_pickT rfl rfl rfl rfl) ?_
        refine EvK.pure (v := .bool true) (w_none rfl) rfl rfl (f_move rfl rfl) ?_
        refine EvK.not (w_not rfl rfl rfl) rfl rfl ?_
        refine EvK.not (w_not rfl rfl rfl) rfl rfl ?_
        refine EvK.not (w_not rfl rfl rfl) rfl rfl ?_
        refine EvK.pure (v := .bool true) (w_none rfl) rfl rfl (f_pickT rfl rfl rfl rfl) ?_
        refine EvK.nil ?_
        exact KE.mk true ⟨rfl, rfl, rfl, rfl, rfl, trivial⟩ hF
      · refine EvK.pure (v := .pointer r3.1) (w_some rfl rfl c14) rfl rfl (f_move rfl rfl) ?_
        refine EvK.pure (v := .bool r3.1.isNone) (w_some rfl rfl c14) rfl rfl (f_peqln Try.underlying23 rfl rfl rfl) ?_
        refine EvK.pure (v := .bool r3.1.isNone) (w_none rfl) rfl rfl (f_pickF rfl rfl c14 rfl) ?_
        refine EvK.pure (v := .bool r3.1.isNone) (w_none rfl) rfl rfl (f_move rfl rfl) ?_
        rcases ite_inv hF with ⟨c15, hF⟩ | ⟨c15, hF⟩
        · refine EvK.not (w_not rfl rfl c15) rfl rfl ?_
          refine EvK.not (w_not rfl rfl c15) rfl rfl ?_
          refine EvK.pure (v := .bool true) (w_none rfl) rfl rfl (f_pickT rfl rfl c15 rfl) ?_
          refine EvK.pure (v := .bool true) (w_none rfl) rfl rfl (f_move rfl rfl) ?_
          refine EvK.not (w_not rfl rfl rfl) rfl rfl ?_
          refine EvK.not (w_not rfl rfl rfl) rfl rfl ?_
          refine EvK.not (w_not rfl rfl rfl) rfl rfl ?_
          refine EvK.pure (v := .bool true) (w_none rfl) rfl rfl (f_pickT rfl rfl rfl rfl) ?_
          refine EvK.pure (v := .bool true) (w_none rfl) rfl rfl (f_move rfl rfl) ?_
          refine EvK.not (w_not rfl rfl rfl) rfl rfl ?_
          refine EvK.not (w_not rfl rfl rfl) rfl rfl ?_
          refine EvK.not (w_not rfl rfl rfl) rfl rfl ?_
          refine EvK.pure (v := .bool true) (w_none rfl) rfl rfl (f_pickT rfl rfl rfl rfl) ?_
          refine EvK.nil ?_
          exact KE.mk true ⟨rfl, rfl, rfl, rfl, rfl, trivial⟩ hF
        · refine EvK.pure (v := .pointer r4.1) (w_some rfl rfl c15) rfl rfl (f_move rfl rfl) ?_
          refine EvK.pure (v := .bool r4.1.isNone) (w_some rfl rfl c15) rfl rfl (f_peqln Try.underlying23 rfl rfl rfl) ?_
          refine EvK.pure (v := .bool r4.1.isNone) (w_none rfl) rfl rfl (f_pickF rfl rfl c15 rfl) ?_
          refine EvK.pure (v := .bool r4.1.isNone) (w_none rfl) rfl rfl (f_move rfl rfl) ?_
          rcases ite_inv hF with ⟨c16, hF⟩ | ⟨c16, hF⟩
          · refine EvK.not (w_not rfl rfl c16) rfl rfl ?_
            refine EvK.not (w_not rfl rfl c16) rfl rfl ?_
            refine EvK.not (w_not rfl rfl c16) rfl rfl ?_
            refine EvK.pure (v := .bool true) (w_none rfl) rfl rfl (f_pickT rfl rfl c16 rfl) ?_
            refine EvK.pure (v := .bool true) (w_none rfl) rfl rfl (f_move rfl rfl) ?_
            refine EvK.not (w_not rfl rfl rfl) rfl rfl ?_
            refine EvK.not (w_not rfl rfl rfl) rfl rfl ?_
            refine EvK.not (w_not rfl rfl rfl) rfl rfl ?_
            refine EvK.pure (v := .bool true) (w_none rfl) rfl rfl (f_pickT rfl rfl rfl rfl) ?_
            refine EvK.nil ?_
            exact KE.mk true ⟨rfl, rfl, rfl, rfl, rfl, trivial⟩ hF
          · refine EvK.pure (v := .pointer r3.1) (w_some rfl rfl c16) rfl rfl (f_move rfl rfl) ?_
            refine EvK.call (w_some rfl rfl c16) rfl rfl (enterH Try.func8 rfl rfl rfl rfl (net_Net_Open.sound hF)) ?_
            rintro _ h29 ⟨r18, rfl, hF⟩
            refine EvK.pure (v := .bool (r18 != 0)) (w_some rfl rfl c16) rfl rfl (f_neq rfl rfl rfl) ?_
            refine EvK.pure (v := .bool (r18 != 0)) (w_none rfl) rfl rfl (f_pickF rfl rfl c16 rfl) ?_
            refine EvK.pure (v := .bool (r18 != 0)) (w_none rfl) rfl rfl (f_move rfl rfl) ?_
            rcases ite_inv hF with ⟨c17, hF⟩ | ⟨c17, hF⟩
            · refine EvK.not (w_not rfl rfl c17) rfl rfl ?_
              refine EvK.not (w_not rfl rfl c17) rfl rfl ?_
              refine EvK.not (w_not rfl rfl c17) rfl rfl ?_
              refine EvK.pure (v := .bool true) (w_none rfl) rfl rfl (f_pickT rfl rfl c17 rfl) ?_
              refine EvK.nil ?_
              exact KE.mk true ⟨rfl, rfl, rfl, rfl, rfl, trivial⟩ hF
            · refine EvK.pure (v := .pointer r4.1) (w_some rfl rfl c17) rfl rfl (f_move rfl rfl) ?_
              refine EvK.call (w_some rfl rfl c17) rfl rfl (enterH Try.func8 rfl rfl rfl rfl (net_Net_Open.sound hF)) ?_
              rintro _ h30 ⟨r19, rfl, hF⟩
              refine EvK.pure (v := .bool (r19 != 0)) (w_some rfl rfl c17) rfl rfl (f_neq rfl rfl rfl) ?_
              refine EvK.pure (v := .bool (r19 != 0)) (w_none rfl) rfl rfl (f_pickF rfl rfl c17 rfl) ?_
              refine EvK.nil ?_
              exact KE.mk (r19 != 0) ⟨rfl, rfl, rfl, rfl, rfl, trivial⟩ hF
end Go.Proofs.Ytbdopnhfbjdegaa
