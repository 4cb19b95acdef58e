/- Functions as predicates over the heap, and that the code comes to them. Printed by gen.py, merged by group.py. -/
import Derived.Test.YtbdopnhfbjdegaaG4
import Derived.Test.YtbdopnhfbjdegaaTy
namespace Go.Proofs.Ytbdopnhfbjdegaa
open Go Go.Tr
set_option linter.unusedVariables false
set_option maxRecDepth 100000
set_option maxHeartbeats 400000
/-- spate/spateref16.part -/
def spateref16_part (a0 : Int) (a1 : Int) (a2 : Int) (h : H) (Q : Int → H → Prop) : Prop :=
  jn (fun (k1 : Int → H → Prop) =>
    if (decide (a1 < a0)) = true then
      k1 a1 h
    else
      k1 a0 h) fun s1 h1 =>
  jn (fun (k2 : Int → H → Prop) =>
    if (decide (a2 < s1)) = true then
      k2 a2 h1
    else
      k2 s1 h1) fun s2 h2 =>
  jn (fun (k3 : Int → H → Prop) =>
    if (decide (s2 < 0)) = true then
      k3 0 h2
    else
      k3 s2 h2) fun s3 h3 =>
  Q s3 h3
theorem spateref16_part.sound {a0 : Int} {a1 : Int} {a2 : Int} {h : H} {Q : Int → H → Prop} (hF : spateref16_part a0 a1 a2 h Q) :
    CallsH Try.prog 52 (List.toArray (α := Value) [.int .i64 a0, .int .i64 a1, .int .i64 a2]) h fun v h' => ∃ x : Int, v = .int .i64 x ∧ Q x h' := by
  refine CallsH.of_body Try.func52 rfl 20 rfl rfl ?_
  refine WP.seq ?_
  refine WP.region ?_
  refine EvK.pure (v := .int .i64 0) (w_none rfl) rfl rfl (f_assign rfl rfl) ?_
  refine EvK.nil ?_
  refine WP.seq ?_
  refine WP.region ?_
  refine EvK.pure (v := .int .i64 a0) (w_none rfl) rfl rfl (f_move rfl rfl) ?_
  refine EvK.pure (v := .int .i64 a0) (w_none rfl) rfl rfl (f_assign rfl rfl) ?_
  refine EvK.nil ?_
  refine WP.joinF (fun (s1 : Int) => [(7, .int .i64 s1), (2, .int .i64 a2)]) hF ?_ ?_
  · intro s1 E0 h1 hF
    refine WP.joinF (fun (s2 : Int) => [(7, .int .i64 s2)]) hF ?_ ?_
    · intro s2 E0 h2 hF
      refine WP.joinF (fun (s3 : Int) => [(7, .int .i64 s3)]) hF ?_ ?_
      · intro s3 E0 h3 hF
        refine WP.seq ?_
        refine WP.region ?_
        refine EvK.pure (v := .int .i64 s3) (w_none rfl) rfl rfl (f_move rfl rfl) ?_
        refine EvK.pure (v := .int .i64 s3) (w_none rfl) rfl rfl (f_assign rfl rfl) ?_
        refine EvK.nil ?_
        refine WP.ret ?_
        exact Ret.mk (vs := [.int .i64 s3]) s3 ⟨rfl, trivial⟩ rfl hF
      · intro k3 hF
        refine WP.seq ?_
        refine WP.region ?_
        refine EvK.pure (v := .int .i64 s2) (w_none rfl) rfl rfl (f_move rfl rfl) ?_
        refine EvK.pure (v := .bool (decide (s2 < 0))) (w_none rfl) rfl rfl (f_lss rfl rfl rfl) ?_
        refine EvK.nil ?_
        rcases ite_inv hF with ⟨c1, hF⟩ | ⟨c1, hF⟩
        · refine WP.cond_true _ rfl c1 ?_
          refine WP.region ?_
          refine EvK.pure (v := .int .i64 0) (w_none rfl) rfl rfl (f_assign rfl rfl) ?_
          refine EvK.nil ?_
          exact KE.mk 0 ⟨rfl, trivial⟩ hF
        · refine WP.cond_false _ rfl c1 ?_
          refine WP.skip ?_
          exact KE.mk s2 ⟨rfl, trivial⟩ hF
    · intro k2 hF
      refine WP.seq ?_
      refine WP.region ?_
      refine EvK.pure (v := .int .i64 a2) (w_none rfl) rfl rfl (f_move rfl rfl) ?_
      refine EvK.pure (v := .int .i64 s1) (w_none rfl) rfl rfl (f_move rfl rfl) ?_
      refine EvK.pure (v := .bool (decide (a2 < s1))) (w_none rfl) rfl rfl (f_lss rfl rfl rfl) ?_
      refine EvK.nil ?_
      rcases ite_inv hF with ⟨c2, hF⟩ | ⟨c2, hF⟩
      · refine WP.cond_true _ rfl c2 ?_
        refine WP.region ?_
        refine EvK.pure (v := .int .i64 a2) (w_none rfl) rfl rfl (f_move rfl rfl) ?_
        refine EvK.pure (v := .int .i64 a2) (w_none rfl) rfl rfl (f_assign rfl rfl) ?_
        refine EvK.nil ?_
        exact KE.mk a2 ⟨rfl, trivial⟩ hF
      · refine WP.cond_false _ rfl c2 ?_
        refine WP.skip ?_
        exact KE.mk s1 ⟨rfl, trivial⟩ hF
  · intro k1 hF
    refine WP.seq ?_
    refine WP.region ?_
    refine EvK.pure (v := .int .i64 a1) (w_none rfl) rfl rfl (f_move rfl rfl) ?_
    refine EvK.pure (v := .int .i64 a0) (w_none rfl) rfl rfl (f_move rfl rfl) ?_
    refine EvK.pure (v := .bool (decide (a1 < a0))) (w_none rfl) rfl rfl (f_lss rfl rfl rfl) ?_
    refine EvK.nil ?_
    rcases ite_inv hF with ⟨c3, hF⟩ | ⟨c3, hF⟩
    · refine WP.cond_true _ rfl c3 ?_
      refine WP.region ?_
      refine EvK.pure (v := .int .i64 a1) (w_none rfl) rfl rfl (f_move rfl rfl) ?_
      refine EvK.pure (v := .int .i64 a1) (w_none rfl) rfl rfl (f_assign rfl rfl) ?_
      refine EvK.nil ?_
      exact KE.mk a1 ⟨rfl, rfl, trivial⟩ hF
    · refine WP.cond_false _ rfl c3 ?_
      refine WP.skip ?_
      exact KE.mk a0 ⟨rfl, rfl, trivial⟩ hF
end Go.Proofs.Ytbdopnhfbjdegaa

namespace Go.Proofs.Ytbdopnhfbjdegaa
open Go Go.Tr
set_option linter.unusedVariables false
set_option maxRecDepth 100000
set_option maxHeartbeats 400000
/-- (*spate/spateref16.Net).Bring -/
def spateref16_Net_Bring (a0 : Option Addr) (a1 : Int) (a2 : Int) (h : H) (Q : (Int × Int) → H → Prop) : Prop :=
  spateref16_Net_gone a0 a1 false h fun r1 h1 =>
  if (r1 != 0) = true then
    Q (0, r1) h1
  else
    rd a0 fun q1 =>
    rd (ld kL (q1.add 2) h1) fun x1 =>
    rd (ixA 7 x1 a1) fun q2 =>
    rd (ld k97 q2 h1) fun x2 =>
    al 98 (k97.enc z97) h1 fun q3 h2 =>
    rd (st k97 q3 x2 h2) fun h3 =>
    rd (ld kL (q3.add 3) h3) fun x3 =>
    rd a0 fun q4 =>
    rd (ld (kI .i64) (q4.add 0) h3) fun x4 =>
    rd (ld kL (q3.add 4) h3) fun x5 =>
    spateref16_part (x3.len : Int) (IntKind.i64.wrap (x4 - (x5.len : Int))) a2 h3 fun r2 h4 =>
    rd (ld kL (q3.add 4) h4) fun x6 =>
    rd (ld kL (q3.add 3) h4) fun x7 =>
    rd (slx 1 x7 none (some r2) none) fun x8 =>
    spateref16_join x6 x8 h4 fun r3 h5 =>
    rd (st kL (q3.add 4) r3 h5) fun h6 =>
    rd (ld kL (q3.add 3) h6) fun x9 =>
    rd (slx 1 x9 (some r2) none none) fun x10 =>
    spateref16_join x10 Sl.nil h6 fun r4 h7 =>
    rd (st kL (q3.add 3) r4 h7) fun h8 =>
    rd a0 fun q5 =>
    rd (ld kL (q5.add 2) h8) fun x11 =>
    rd (ld k97 q3 h8) fun x12 =>
    rd (ixA 7 x11 a1) fun q6 =>
    rd (st k97 q6 x12 h8) fun h9 =>
    rd a0 fun q7 =>
    rd (ld (kI .i64) (q7.add 3) h9) fun x13 =>
    rd a0 fun q8 =>
    rd (st (kI .i64) (q8.add 3) (IntKind.i64.wrap (x13 + r2)) h9) fun h10 =>
    Q (r2, 0) h10
theorem spateref16_Net_Bring.sound {a0 : Option Addr} {a1 : Int} {a2 : Int} {h : H} {Q : (Int × Int) → H → Prop} (hF : spateref16_Net_Bring a0 a1 a2 h Q) :
    CallsH Try.prog 37 (List.toArray (α := Value) [.pointer a0, .int .i64 a1, .int .i64 a2]) h fun v h' => ∃ x : Int × Int, v = .tuple #[.int .i64 x.1, .int .i64 x.2] ∧ Q x h' := by
  refine CallsH.of_body Try.func37 rfl 68 rfl rfl ?_
  refine WP.seq ?_
  refine WP.region ?_
  refine EvK.pure (v := .int .i64 0) (w_none rfl) rfl rfl (f_assign rfl rfl) ?_
  refine EvK.pure (v := .int .i64 0) (w_none rfl) rfl rfl (f_assign rfl rfl) ?_
  refine EvK.nil ?_
  refine WP.seq ?_
  refine WP.region ?_
  refine EvK.pure (v := .pointer a0) (w_none rfl) rfl rfl (f_move rfl rfl) ?_
  refine EvK.pure (v := .int .i64 a1) (w_none rfl) rfl rfl (f_move rfl rfl) ?_
  refine EvK.call (w_none rfl) rfl rfl (enterH Try.func50 rfl rfl rfl rfl (spateref16_Net_gone.sound hF)) ?_
  rintro _ h1 ⟨r1, rfl, hF⟩
  refine EvK.pure (v := .int .i64 r1) (w_none rfl) rfl rfl (f_assign rfl rfl) ?_
  refine EvK.nil ?_
  refine WP.seq ?_
  refine WP.seq ?_
  refine WP.region ?_
  refine EvK.pure (v := .int .i64 r1) (w_none rfl) rfl rfl (f_move rfl rfl) ?_
  refine EvK.pure (v := .bool (r1 != 0)) (w_none rfl) rfl rfl (f_neq rfl rfl rfl) ?_
  refine EvK.nil ?_
  rcases ite_inv hF with ⟨c1, hF⟩ | ⟨c1, hF⟩
  · refine WP.cond_true _ rfl c1 ?_
    refine WP.seq ?_
    refine WP.region ?_
    refine EvK.pure (v := .int .i64 r1) (w_none rfl) rfl rfl (f_move rfl rfl) ?_
    refine EvK.pure (v := .int .i64 0) (w_none rfl) rfl rfl (f_assign rfl rfl) ?_
    refine EvK.pure (v := .int .i64 r1) (w_none rfl) rfl rfl (f_assign rfl rfl) ?_
    refine EvK.nil ?_
    refine WP.ret ?_
    exact Ret.mk (vs := [.int .i64 0, .int .i64 r1]) (0, r1) ⟨rfl, rfl, trivial⟩ rfl hF
  · refine WP.cond_false _ rfl c1 ?_
    refine WP.skip ?_
    refine WP.seq ?_
    refine WP.region ?_
    refine EvK.pure (v := .pointer a0) (w_none rfl) rfl rfl (f_move rfl rfl) ?_
    obtain ⟨q1, hq1, hF⟩ := hF
    refine EvK.pure (v := .pointer (some q1)) (w_none rfl) rfl rfl (f_nilCheck rfl (congrArg Value.pointer hq1)) ?_
    refine EvK.pure (v := .pointer (some (q1.add 2))) (w_none rfl) rfl rfl (f_fieldAddr fd83_2 rfl rfl) ?_
    obtain ⟨x1, hx1, hF⟩ := hF
    refine EvK.read (v := Sl.val x1) (w_none rfl) rfl rfl (f_load kL ty81 rfl rfl hx1 rfl) ?_
    refine EvK.pure (v := .int .i64 a1) (w_none rfl) rfl rfl (f_move rfl rfl) ?_
    obtain ⟨q2, hq2, hF⟩ := hF
    refine EvK.pure (v := .pointer (some q2)) (w_none rfl) rfl rfl (f_indexAddr (s := x1) Try.underlying81 ty98.size rfl rfl rfl hq2) ?_
    obtain ⟨x2, hx2, hF⟩ := hF
    refine EvK.read (v := k97.val x2) (w_none rfl) rfl rfl (f_load k97 ty98 rfl rfl hx2 rfl) ?_
    refine EvK.alloc (w_none rfl) rfl rfl (f_allocF zero98 rfl rfl hF) ?_
    rintro _ h2 ⟨q3, rfl, hF⟩
    obtain ⟨h3, hs1, hF⟩ := hF
    refine EvK.runN (w_none rfl) rfl (f_store k97 ty98.size (z := x2) rfl rfl rfl hs1) ?_
    rintro _ _ ⟨rfl, rfl⟩
    refine EvK.nil ?_
    refine WP.seq ?_
    refine WP.draw mixed [.pure, .read, .pure, .pure, .pure, .pure, .read, .pure, .read, .pure, .pure, .pure, .eff [], .pure] [[], [0], [0, 1], [], [3], [3, 4], [3, 4, 5], [], [7], [7, 8], [3, 4, 5, 6, 7, 8, 9], [], [0, 1, 2, 3, 4, 5, 6, 7, 8, 9, 10, 11], [0, 1, 2, 3, 4, 5, 6, 7, 8, 9, 10, 11, 12]] [0, 1, 2, 3, 4, 5, 6, 7, 8, 9, 10, 11, 12, 13] (by kernel_rfl) (by kernel_rfl) ?_
    refine EvI.pure (v := .pointer (some (q3.add 3))) rfl rfl (w_none rfl) rfl (f_fieldAddr fd98_3 rfl rfl) ?_
    obtain ⟨x3, hx3, hF⟩ := hF
    refine EvI.read (v := Sl.val x3) rfl rfl (w_none rfl) rfl (f_load kL ty29 rfl rfl hx3 rfl) ?_
    refine EvI.pure (v := .int .i64 (x3.len : Int)) rfl rfl (w_none rfl) rfl (f_lenL (s := x3) Try.underlying29 rfl rfl) ?_
    refine EvI.pure (v := .pointer a0) rfl rfl (w_none rfl) rfl (f_move rfl rfl) ?_
    obtain ⟨q4, hq3, hF⟩ := hF
    refine EvI.pure (v := .pointer (some q4)) rfl rfl (w_none rfl) rfl (f_nilCheck rfl (congrArg Value.pointer hq3)) ?_
    refine EvI.pure (v := .pointer (some (q4.add 0))) rfl rfl (w_none rfl) rfl (f_fieldAddr fd83_0 rfl rfl) ?_
    obtain ⟨x4, hx4, hF⟩ := hF
    refine EvI.read (v := .int .i64 x4) rfl rfl (w_none rfl) rfl (f_load (kI .i64) ty3 rfl rfl hx4 rfl) ?_
    refine EvI.pure (v := .pointer (some (q3.add 4))) rfl rfl (w_none rfl) rfl (f_fieldAddr fd98_4 rfl rfl) ?_
    obtain ⟨x5, hx5, hF⟩ := hF
    refine EvI.read (v := Sl.val x5) rfl rfl (w_none rfl) rfl (f_load kL ty29 rfl rfl hx5 rfl) ?_
    refine EvI.pure (v := .int .i64 (x5.len : Int)) rfl rfl (w_none rfl) rfl (f_lenL (s := x5) Try.underlying29 rfl rfl) ?_
    refine EvI.pure (v := .int .i64 (IntKind.i64.wrap (x4 - (x5.len : Int)))) rfl rfl (w_none rfl) rfl (f_sub rfl rfl rfl) ?_
    refine EvI.pure (v := .int .i64 a2) rfl rfl (w_none rfl) rfl (f_move rfl rfl) ?_
    refine EvI.call rfl rfl (w_none rfl) rfl (enterH Try.func52 rfl rfl rfl rfl (spateref16_part.sound hF)) ?_
    rintro _ h4 ⟨r2, rfl, hF⟩
    refine ⟨⟨chk_no rfl, chk_no rfl, chk_no rfl, trivial⟩, ?_⟩
    refine EvI.pure (v := .int .i64 r2) rfl rfl (w_none rfl) rfl (f_assign rfl rfl) ?_
    refine EvI.nil ?_
    refine WP.seq ?_
    refine WP.draw mixed [.pure, .read, .pure, .read, .pure, .pure, .eff [], .pure, .eff []] [[], [0], [], [2], [], [2, 3, 4], [0, 1, 2, 3, 4, 5], [0, 1, 2, 3, 4, 5, 6], [0, 1, 2, 3, 4, 5, 6, 7]] [0, 1, 2, 3, 4, 5, 6, 7, 8] (by kernel_rfl) (by kernel_rfl) ?_
    refine EvI.pure (v := .pointer (some (q3.add 4))) rfl rfl (w_none rfl) rfl (f_fieldAddr fd98_4 rfl rfl) ?_
    obtain ⟨x6, hx6, hF⟩ := hF
    refine EvI.read (v := Sl.val x6) rfl rfl (w_none rfl) rfl (f_load kL ty29 rfl rfl hx6 rfl) ?_
    refine EvI.pure (v := .pointer (some (q3.add 3))) rfl rfl (w_none rfl) rfl (f_fieldAddr fd98_3 rfl rfl) ?_
    obtain ⟨x7, hx7, hF⟩ := hF
    refine EvI.read (v := Sl.val x7) rfl rfl (w_none rfl) rfl (f_load kL ty29 rfl rfl hx7 rfl) ?_
    refine EvI.pure (v := .int .i64 r2) rfl rfl (w_none rfl) rfl (f_move rfl rfl) ?_
    obtain ⟨x8, hx8, hF⟩ := hF
    refine EvI.pure (v := Sl.val x8) rfl rfl (w_none rfl) rfl (f_slice Try.underlying29 ty5.size rfl rfl bndV_none (bndV_some rfl) bndV_none hx8) ?_
    refine EvI.call rfl rfl (w_none rfl) rfl (enterH Try.func51 rfl rfl rfl rfl (spateref16_join.sound hF)) ?_
    rintro _ h5 ⟨r3, rfl, hF⟩
    refine ⟨⟨chk_no rfl, chk_no rfl, trivial⟩, ?_⟩
    refine EvI.pure (v := .pointer (some (q3.add 4))) rfl rfl (w_none rfl) rfl (f_fieldAddr fd98_4 rfl rfl) ?_
    obtain ⟨h6, hs2, hF⟩ := hF
    refine EvI.runN rfl rfl (w_none rfl) rfl (f_store kL ty29.size (z := r3) rfl rfl rfl hs2) ?_
    rintro _ _ ⟨rfl, rfl⟩
    refine ⟨⟨chk_no rfl, chk_no rfl, trivial⟩, ?_⟩
    refine EvI.nil ?_
    refine WP.seq ?_
    refine WP.region ?_
    refine EvK.pure (v := .pointer (some (q3.add 3))) (w_none rfl) rfl rfl (f_fieldAddr fd98_3 rfl rfl) ?_
    obtain ⟨x9, hx9, hF⟩ := hF
    refine EvK.read (v := Sl.val x9) (w_none rfl) rfl rfl (f_load kL ty29 rfl rfl hx9 rfl) ?_
    refine EvK.pure (v := .int .i64 r2) (w_none rfl) rfl rfl (f_move rfl rfl) ?_
    obtain ⟨x10, hx10, hF⟩ := hF
    refine EvK.pure (v := Sl.val x10) (w_none rfl) rfl rfl (f_slice Try.underlying29 ty5.size rfl rfl (bndV_some rfl) bndV_none bndV_none hx10) ?_
    refine EvK.call (w_none rfl) rfl rfl (enterH (vs := [Sl.val x10, Sl.val Sl.nil]) Try.func51 rfl rfl rfl rfl (spateref16_join.sound hF)) ?_
    rintro _ h7 ⟨r4, rfl, hF⟩
    refine EvK.pure (v := .pointer (some (q3.add 3))) (w_none rfl) rfl rfl (f_fieldAddr fd98_3 rfl rfl) ?_
    obtain ⟨h8, hs3, hF⟩ := hF
    refine EvK.runN (w_none rfl) rfl (f_store kL ty29.size (z := r4) rfl rfl rfl hs3) ?_
    rintro _ _ ⟨rfl, rfl⟩
    refine EvK.nil ?_
    refine WP.seq ?_
    refine WP.draw mixed [.pure, .pure, .pure, .read, .pure, .read, .pure, .eff []] [[], [0], [0, 1], [0, 1, 2], [], [], [0, 1, 2, 3, 4, 5], [0, 1, 2, 3, 4, 5, 6]] [0, 1, 2, 3, 4, 5, 6, 7] (by kernel_rfl) (by kernel_rfl) ?_
    refine EvI.pure (v := .pointer a0) rfl rfl (w_none rfl) rfl (f_move rfl rfl) ?_
    obtain ⟨q5, hq4, hF⟩ := hF
    refine EvI.pure (v := .pointer (some q5)) rfl rfl (w_none rfl) rfl (f_nilCheck rfl (congrArg Value.pointer hq4)) ?_
    refine EvI.pure (v := .pointer (some (q5.add 2))) rfl rfl (w_none rfl) rfl (f_fieldAddr fd83_2 rfl rfl) ?_
    obtain ⟨x11, hx11, hF⟩ := hF
    refine EvI.read (v := Sl.val x11) rfl rfl (w_none rfl) rfl (f_load kL ty81 rfl rfl hx11 rfl) ?_
    refine EvI.pure (v := .int .i64 a1) rfl rfl (w_none rfl) rfl (f_move rfl rfl) ?_
    obtain ⟨x12, hx12, hF⟩ := hF
    refine EvI.read (v := k97.val x12) rfl rfl (w_none rfl) rfl (f_load k97 ty98 rfl rfl hx12 rfl) ?_
    obtain ⟨q6, hq5, hF⟩ := hF
    refine EvI.pure (v := .pointer (some q6)) rfl rfl (w_none rfl) rfl (f_indexAddr (s := x11) Try.underlying81 ty98.size rfl rfl rfl hq5) ?_
    obtain ⟨h9, hs4, hF⟩ := hF
    refine EvI.runN rfl rfl (w_none rfl) rfl (f_store k97 ty98.size (z := x12) rfl rfl rfl hs4) ?_
    rintro _ _ ⟨rfl, rfl⟩
    refine ⟨⟨chk_no rfl, chk_no rfl, trivial⟩, ?_⟩
    refine EvI.nil ?_
    refine WP.seq ?_
    refine WP.region ?_
    refine EvK.pure (v := .pointer a0) (w_none rfl) rfl rfl (f_move rfl rfl) ?_
    refine EvK.pure (v := .pointer a0) (w_none rfl) rfl rfl (f_move rfl rfl) ?_
    obtain ⟨q7, hq6, hF⟩ := hF
    refine EvK.pure (v := .pointer (some q7)) (w_none rfl) rfl rfl (f_nilCheck rfl (congrArg Value.pointer hq6)) ?_
    refine EvK.pure (v := .pointer (some (q7.add 3))) (w_none rfl) rfl rfl (f_fieldAddr fd83_3 rfl rfl) ?_
    obtain ⟨x13, hx13, hF⟩ := hF
    refine EvK.read (v := .int .i64 x13) (w_none rfl) rfl rfl (f_load (kI .i64) ty3 rfl rfl hx13 rfl) ?_
    refine EvK.pure (v := .int .i64 r2) (w_none rfl) rfl rfl (f_move rfl rfl) ?_
    refine EvK.pure (v := .int .i64 (IntKind.i64.wrap (x13 + r2))) (w_none rfl) rfl rfl (f_add rfl rfl rfl) ?_
    obtain ⟨q8, hq7, hF⟩ := hF
    refine EvK.pure (v := .pointer (some q8)) (w_none rfl) rfl rfl (f_nilCheck rfl (congrArg Value.pointer hq7)) ?_
    refine EvK.pure (v := .pointer (some (q8.add 3))) (w_none rfl) rfl rfl (f_fieldAddr fd83_3 rfl rfl) ?_
    obtain ⟨h10, hs5, hF⟩ := hF
    refine EvK.runN (w_none rfl) rfl (f_store (kI .i64) ty3.size (z := IntKind.i64.wrap (x13 + r2)) rfl rfl rfl hs5) ?_
    rintro _ _ ⟨rfl, rfl⟩
    refine EvK.nil ?_
    refine WP.seq ?_
    refine WP.region ?_
    refine EvK.pure (v := .int .i64 r2) (w_none rfl) rfl rfl (f_move rfl rfl) ?_
    refine EvK.pure (v := .int .i64 r2) (w_none rfl) rfl rfl (f_assign rfl rfl) ?_
    refine EvK.pure (v := .int .i64 0) (w_none rfl) rfl rfl (f_assign rfl rfl) ?_
    refine EvK.nil ?_
    refine WP.ret ?_
    exact Ret.mk (vs := [.int .i64 r2, .int .i64 0]) (r2, 0) ⟨rfl, rfl, trivial⟩ rfl hF
end Go.Proofs.Ytbdopnhfbjdegaa

namespace Go.Proofs.Ytbdopnhfbjdegaa
open Go Go.Tr
set_option linter.unusedVariables false
set_option maxRecDepth 100000
set_option maxHeartbeats 400000
/-- (*spate/spateref16.Net).Take -/
def spateref16_Net_Take (a0 : Option Addr) (a1 : Int) (h : H) (Q : (Sl × Int) → H → Prop) : Prop :=
  spateref16_Net_gone a0 a1 true h fun r1 h1 =>
  if (r1 != 0) = true then
    Q (Sl.nil, r1) h1
  else
    rd a0 fun q1 =>
    rd (ld kL (q1.add 2) h1) fun x1 =>
    rd (ixA 7 x1 a1) fun q2 =>
    rd (ld kL (q2.add 4) h1) fun x2 =>
    rd a0 fun q3 =>
    rd (ld kL (q3.add 2) h1) fun x3 =>
    rd (ixA 7 x3 a1) fun q4 =>
    rd (st kL (q4.add 4) Sl.nil h1) fun h2 =>
    Q (x2, 0) h2
theorem spateref16_Net_Take.sound {a0 : Option Addr} {a1 : Int} {h : H} {Q : (Sl × Int) → H → Prop} (hF : spateref16_Net_Take a0 a1 h Q) :
    CallsH Try.prog 38 (List.toArray (α := Value) [.pointer a0, .int .i64 a1]) h fun v h' => ∃ x : Sl × Int, v = .tuple #[Sl.val x.1, .int .i64 x.2] ∧ Q x h' := by
  refine CallsH.of_body Try.func38 rfl 30 rfl rfl ?_
  refine WP.seq ?_
  refine WP.region ?_
  refine EvK.pure (v := Sl.val Sl.nil) (w_none rfl) rfl rfl (f_assign rfl rfl) ?_
  refine EvK.pure (v := .int .i64 0) (w_none rfl) rfl rfl (f_assign rfl rfl) ?_
  refine EvK.nil ?_
  refine WP.seq ?_
  refine WP.region ?_
  refine EvK.pure (v := .pointer a0) (w_none rfl) rfl rfl (f_move rfl rfl) ?_
  refine EvK.pure (v := .int .i64 a1) (w_none rfl) rfl rfl (f_move rfl rfl) ?_
  refine EvK.call (w_none rfl) rfl rfl (enterH Try.func50 rfl rfl rfl rfl (spateref16_Net_gone.sound hF)) ?_
  rintro _ h1 ⟨r1, rfl, hF⟩
  refine EvK.pure (v := .int .i64 r1) (w_none rfl) rfl rfl (f_assign rfl rfl) ?_
  refine EvK.nil ?_
  refine WP.seq ?_
  refine WP.seq ?_
  refine WP.region ?_
  refine EvK.pure (v := .int .i64 r1) (w_none rfl) rfl rfl (f_move rfl rfl) ?_
  refine EvK.pure (v := .bool (r1 != 0)) (w_none rfl) rfl rfl (f_neq rfl rfl rfl) ?_
  refine EvK.nil ?_
  rcases ite_inv hF with ⟨c1, hF⟩ | ⟨c1, hF⟩
  · refine WP.cond_true _ rfl c1 ?_
    refine WP.seq ?_
    refine WP.region ?_
    refine EvK.pure (v := .int .i64 r1) (w_none rfl) rfl rfl (f_move rfl rfl) ?_
    refine EvK.pure (v := Sl.val Sl.nil) (w_none rfl) rfl rfl (f_assign rfl rfl) ?_
    refine EvK.pure (v := .int .i64 r1) (w_none rfl) rfl rfl (f_assign rfl rfl) ?_
    refine EvK.nil ?_
    refine WP.ret ?_
    exact Ret.mk (vs := [Sl.val Sl.nil, .int .i64 r1]) (Sl.nil, r1) ⟨rfl, rfl, trivial⟩ rfl hF
  · refine WP.cond_false _ rfl c1 ?_
    refine WP.skip ?_
    refine WP.seq ?_
    refine WP.region ?_
    refine EvK.pure (v := .pointer a0) (w_none rfl) rfl rfl (f_move rfl rfl) ?_
    obtain ⟨q1, hq1, hF⟩ := hF
    refine EvK.pure (v := .pointer (some q1)) (w_none rfl) rfl rfl (f_nilCheck rfl (congrArg Value.pointer hq1)) ?_
    refine EvK.pure (v := .pointer (some (q1.add 2))) (w_none rfl) rfl rfl (f_fieldAddr fd83_2 rfl rfl) ?_
    obtain ⟨x1, hx1, hF⟩ := hF
    refine EvK.read (v := Sl.val x1) (w_none rfl) rfl rfl (f_load kL ty81 rfl rfl hx1 rfl) ?_
    refine EvK.pure (v := .int .i64 a1) (w_none rfl) rfl rfl (f_move rfl rfl) ?_
    obtain ⟨q2, hq2, hF⟩ := hF
    refine EvK.pure (v := .pointer (some q2)) (w_none rfl) rfl rfl (f_indexAddr (s := x1) Try.underlying81 ty98.size rfl rfl rfl hq2) ?_
    refine EvK.pure (v := .pointer (some (q2.add 4))) (w_none rfl) rfl rfl (f_fieldAddr fd98_4 rfl rfl) ?_
    obtain ⟨x2, hx2, hF⟩ := hF
    refine EvK.read (v := Sl.val x2) (w_none rfl) rfl rfl (f_load kL ty29 rfl rfl hx2 rfl) ?_
    refine EvK.pure (v := Sl.val x2) (w_none rfl) rfl rfl (f_assign rfl rfl) ?_
    refine EvK.nil ?_
    refine WP.seq ?_
    refine WP.region ?_
    refine EvK.pure (v := .pointer a0) (w_none rfl) rfl rfl (f_move rfl rfl) ?_
    obtain ⟨q3, hq3, hF⟩ := hF
    refine EvK.pure (v := .pointer (some q3)) (w_none rfl) rfl rfl (f_nilCheck rfl (congrArg Value.pointer hq3)) ?_
    refine EvK.pure (v := .pointer (some (q3.add 2))) (w_none rfl) rfl rfl (f_fieldAddr fd83_2 rfl rfl) ?_
    obtain ⟨x3, hx3, hF⟩ := hF
    refine EvK.read (v := Sl.val x3) (w_none rfl) rfl rfl (f_load kL ty81 rfl rfl hx3 rfl) ?_
    refine EvK.pure (v := .int .i64 a1) (w_none rfl) rfl rfl (f_move rfl rfl) ?_
    obtain ⟨q4, hq4, hF⟩ := hF
    refine EvK.pure (v := .pointer (some q4)) (w_none rfl) rfl rfl (f_indexAddr (s := x3) Try.underlying81 ty98.size rfl rfl rfl hq4) ?_
    refine EvK.pure (v := .pointer (some (q4.add 4))) (w_none rfl) rfl rfl (f_fieldAddr fd98_4 rfl rfl) ?_
    obtain ⟨h2, hs1, hF⟩ := hF
    refine EvK.runN (w_none rfl) rfl (f_store kL ty29.size (z := Sl.nil) rfl rfl rfl hs1) ?_
    rintro _ _ ⟨rfl, rfl⟩
    refine EvK.nil ?_
    refine WP.seq ?_
    refine WP.region ?_
    refine EvK.pure (v := Sl.val x2) (w_none rfl) rfl rfl (f_move rfl rfl) ?_
    refine EvK.pure (v := Sl.val x2) (w_none rfl) rfl rfl (f_assign rfl rfl) ?_
    refine EvK.pure (v := .int .i64 0) (w_none rfl) rfl rfl (f_assign rfl rfl) ?_
    refine EvK.nil ?_
    refine WP.ret ?_
    exact Ret.mk (vs := [Sl.val x2, .int .i64 0]) (x2, 0) ⟨rfl, rfl, trivial⟩ rfl hF
end Go.Proofs.Ytbdopnhfbjdegaa

namespace Go.Proofs.Ytbdopnhfbjdegaa
open Go Go.Tr
set_option linter.unusedVariables false
set_option maxRecDepth 100000
set_option maxHeartbeats 400000
/-- (*spate/spateref16.Net).Write -/
def spateref16_Net_Write (a0 : Option Addr) (a1 : Int) (a2 : Sl) (h : H) (Q : (Int × Int) → H → Prop) : Prop :=
  spateref16_Net_gone a0 a1 true h fun r1 h1 =>
  if (r1 != 0) = true then
    Q (0, r1) h1
  else
    rd a0 fun q1 =>
    rd (ld (kI .i64) (q1.add 1) h1) fun x1 =>
    rd a0 fun q2 =>
    rd (ld kL (q2.add 2) h1) fun x2 =>
    rd (ixA 7 x2 a1) fun q3 =>
    rd (ld kL (q3.add 5) h1) fun x3 =>
    spateref16_part (a2.len : Int) (IntKind.i64.wrap (x1 - (x3.len : Int))) (a2.len : Int) h1 fun r2 h2 =>
    rd a0 fun q4 =>
    rd (ld kL (q4.add 2) h2) fun x4 =>
    rd a0 fun q5 =>
    rd (ld kL (q5.add 2) h2) fun x5 =>
    rd (ixA 7 x5 a1) fun q6 =>
    rd (ld kL (q6.add 5) h2) fun x6 =>
    rd (slx 1 a2 none (some r2) none) fun x7 =>
    spateref16_join x6 x7 h2 fun r3 h3 =>
    ld kL (q4.add 2) h3 = some x4 ∧
    rd (ixA 7 x4 a1) fun q7 =>
    rd (st kL (q7.add 5) r3 h3) fun h4 =>
    Q (r2, 0) h4
theorem spateref16_Net_Write.sound {a0 : Option Addr} {a1 : Int} {a2 : Sl} {h : H} {Q : (Int × Int) → H → Prop} (hF : spateref16_Net_Write a0 a1 a2 h Q) :
    CallsH Try.prog 39 (List.toArray (α := Value) [.pointer a0, .int .i64 a1, Sl.val a2]) h fun v h' => ∃ x : Int × Int, v = .tuple #[.int .i64 x.1, .int .i64 x.2] ∧ Q x h' := by
  refine CallsH.of_body Try.func39 rfl 55 rfl rfl ?_
  refine WP.seq ?_
  refine WP.region ?_
  refine EvK.pure (v := .int .i64 0) (w_none rfl) rfl rfl (f_assign rfl rfl) ?_
  refine EvK.pure (v := .int .i64 0) (w_none rfl) rfl rfl (f_assign rfl rfl) ?_
  refine EvK.nil ?_
  refine WP.seq ?_
  refine WP.region ?_
  refine EvK.pure (v := .pointer a0) (w_none rfl) rfl rfl (f_move rfl rfl) ?_
  refine EvK.pure (v := .int .i64 a1) (w_none rfl) rfl rfl (f_move rfl rfl) ?_
  refine EvK.call (w_none rfl) rfl rfl (enterH Try.func50 rfl rfl rfl rfl (spateref16_Net_gone.sound hF)) ?_
  rintro _ h1 ⟨r1, rfl, hF⟩
  refine EvK.pure (v := .int .i64 r1) (w_none rfl) rfl rfl (f_assign rfl rfl) ?_
  refine EvK.nil ?_
  refine WP.seq ?_
  refine WP.seq ?_
  refine WP.region ?_
  refine EvK.pure (v := .int .i64 r1) (w_none rfl) rfl rfl (f_move rfl rfl) ?_
  refine EvK.pure (v := .bool (r1 != 0)) (w_none rfl) rfl rfl (f_neq rfl rfl rfl) ?_
  refine EvK.nil ?_
  rcases ite_inv hF with ⟨c1, hF⟩ | ⟨c1, hF⟩
  · refine WP.cond_true _ rfl c1 ?_
    refine WP.seq ?_
    refine WP.region ?_
    refine EvK.pure (v := .int .i64 r1) (w_none rfl) rfl rfl (f_move rfl rfl) ?_
    refine EvK.pure (v := .int .i64 0) (w_none rfl) rfl rfl (f_assign rfl rfl) ?_
    refine EvK.pure (v := .int .i64 r1) (w_none rfl) rfl rfl (f_assign rfl rfl) ?_
    refine EvK.nil ?_
    refine WP.ret ?_
    exact Ret.mk (vs := [.int .i64 0, .int .i64 r1]) (0, r1) ⟨rfl, rfl, trivial⟩ rfl hF
  · refine WP.cond_false _ rfl c1 ?_
    refine WP.skip ?_
    refine WP.seq ?_
    refine WP.draw mixed [.pure, .pure, .pure, .pure, .pure, .read, .pure, .pure, .pure, .read, .pure, .pure, .pure, .read, .pure, .pure, .pure, .pure, .eff [], .pure] [[], [0], [], [2], [2, 3], [2, 3, 4], [], [6], [6, 7], [6, 7, 8], [], [6, 7, 8, 9, 10], [6, 7, 8, 9, 10, 11], [6, 7, 8, 9, 10, 11, 12], [6, 7, 8, 9, 10, 11, 12, 13], [2, 3, 4, 5, 6, 7, 8, 9, 10, 11, 12, 13, 14], [], [16], [0, 1, 2, 3, 4, 5, 6, 7, 8, 9, 10, 11, 12, 13, 14, 15, 16, 17], [0, 1, 2, 3, 4, 5, 6, 7, 8, 9, 10, 11, 12, 13, 14, 15, 16, 17, 18]] [0, 1, 2, 3, 4, 5, 6, 7, 8, 9, 10, 11, 12, 13, 14, 15, 16, 17, 18, 19] (by kernel_rfl) (by kernel_rfl) ?_
    refine EvI.pure (v := Sl.val a2) rfl rfl (w_none rfl) rfl (f_move rfl rfl) ?_
    refine EvI.pure (v := .int .i64 (a2.len : Int)) rfl rfl (w_none rfl) rfl (f_lenL (s := a2) Try.underlying29 rfl rfl) ?_
    refine EvI.pure (v := .pointer a0) rfl rfl (w_none rfl) rfl (f_move rfl rfl) ?_
    obtain ⟨q1, hq1, hF⟩ := hF
    refine EvI.pure (v := .pointer (some q1)) rfl rfl (w_none rfl) rfl (f_nilCheck rfl (congrArg Value.pointer hq1)) ?_
    refine EvI.pure (v := .pointer (some (q1.add 1))) rfl rfl (w_none rfl) rfl (f_fieldAddr fd83_1 rfl rfl) ?_
    obtain ⟨x1, hx1, hF⟩ := hF
    refine EvI.read (v := .int .i64 x1) rfl rfl (w_none rfl) rfl (f_load (kI .i64) ty3 rfl rfl hx1 rfl) ?_
    refine EvI.pure (v := .pointer a0) rfl rfl (w_none rfl) rfl (f_move rfl rfl) ?_
    obtain ⟨q2, hq2, hF⟩ := hF
    refine EvI.pure (v := .pointer (some q2)) rfl rfl (w_none rfl) rfl (f_nilCheck rfl (congrArg Value.pointer hq2)) ?_
    refine EvI.pure (v := .pointer (some (q2.add 2))) rfl rfl (w_none rfl) rfl (f_fieldAddr fd83_2 rfl rfl) ?_
    obtain ⟨x2, hx2, hF⟩ := hF
    refine EvI.read (v := Sl.val x2) rfl rfl (w_none rfl) rfl (f_load kL ty81 rfl rfl hx2 rfl) ?_
    refine EvI.pure (v := .int .i64 a1) rfl rfl (w_none rfl) rfl (f_move rfl rfl) ?_
    obtain ⟨q3, hq3, hF⟩ := hF
    refine EvI.pure (v := .pointer (some q3)) rfl rfl (w_none rfl) rfl (f_indexAddr (s := x2) Try.underlying81 ty98.size rfl rfl rfl hq3) ?_
    refine EvI.pure (v := .pointer (some (q3.add 5))) rfl rfl (w_none rfl) rfl (f_fieldAddr fd98_5 rfl rfl) ?_
    obtain ⟨x3, hx3, hF⟩ := hF
    refine EvI.read (v := Sl.val x3) rfl rfl (w_none rfl) rfl (f_load kL ty29 rfl rfl hx3 rfl) ?_
    refine EvI.pure (v := .int .i64 (x3.len : Int)) rfl rfl (w_none rfl) rfl (f_lenL (s := x3) Try.underlying29 rfl rfl) ?_
    refine EvI.pure (v := .int .i64 (IntKind.i64.wrap (x1 - (x3.len : Int)))) rfl rfl (w_none rfl) rfl (f_sub rfl rfl rfl) ?_
    refine EvI.pure (v := Sl.val a2) rfl rfl (w_none rfl) rfl (f_move rfl rfl) ?_
    refine EvI.pure (v := .int .i64 (a2.len : Int)) rfl rfl (w_none rfl) rfl (f_lenL (s := a2) Try.underlying29 rfl rfl) ?_
    refine EvI.call rfl rfl (w_none rfl) rfl (enterH Try.func52 rfl rfl rfl rfl (spateref16_part.sound hF)) ?_
    rintro _ h2 ⟨r2, rfl, hF⟩
    refine ⟨⟨chk_no rfl, chk_no rfl, chk_no rfl, trivial⟩, ?_⟩
    refine EvI.pure (v := .int .i64 r2) rfl rfl (w_none rfl) rfl (f_assign rfl rfl) ?_
    refine EvI.nil ?_
    refine WP.seq ?_
    refine WP.draw mixed [.pure, .pure, .pure, .read, .pure, .pure, .pure, .pure, .read, .pure, .pure, .pure, .read, .pure, .pure, .pure, .eff [3], .pure, .pure, .eff []] [[], [0], [0, 1], [0, 1, 2], [], [], [5], [5, 6], [5, 6, 7], [], [5, 6, 7, 8, 9], [5, 6, 7, 8, 9, 10], [5, 6, 7, 8, 9, 10, 11], [], [], [13, 14], [5, 6, 7, 8, 9, 10, 11, 12, 13, 14, 15], [0, 1, 2, 3, 4, 5, 6, 7, 8, 9, 10, 11, 12, 13, 14, 15, 16], [0, 1, 2, 3, 4, 5, 6, 7, 8, 9, 10, 11, 12, 13, 14, 15, 16, 17], [0, 1, 2, 3, 4, 5, 6, 7, 8, 9, 10, 11, 12, 13, 14, 15, 16, 17, 18]] [0, 1, 2, 3, 4, 5, 6, 7, 8, 9, 10, 11, 12, 13, 14, 15, 16, 17, 18, 19] (by kernel_rfl) (by kernel_rfl) ?_
    refine EvI.pure (v := .pointer a0) rfl rfl (w_none rfl) rfl (f_move rfl rfl) ?_
    obtain ⟨q4, hq4, hF⟩ := hF
    refine EvI.pure (v := .pointer (some q4)) rfl rfl (w_none rfl) rfl (f_nilCheck rfl (congrArg Value.pointer hq4)) ?_
    refine EvI.pure (v := .pointer (some (q4.add 2))) rfl rfl (w_none rfl) rfl (f_fieldAddr fd83_2 rfl rfl) ?_
    obtain ⟨x4, hx4, hF⟩ := hF
    refine EvI.read (v := Sl.val x4) rfl rfl (w_none rfl) rfl (f_load kL ty81 rfl rfl hx4 rfl) ?_
    refine EvI.pure (v := .int .i64 a1) rfl rfl (w_none rfl) rfl (f_move rfl rfl) ?_
    refine EvI.pure (v := .pointer a0) rfl rfl (w_none rfl) rfl (f_move rfl rfl) ?_
    obtain ⟨q5, hq5, hF⟩ := hF
    refine EvI.pure (v := .pointer (some q5)) rfl rfl (w_none rfl) rfl (f_nilCheck rfl (congrArg Value.pointer hq5)) ?_
    refine EvI.pure (v := .pointer (some (q5.add 2))) rfl rfl (w_none rfl) rfl (f_fieldAddr fd83_2 rfl rfl) ?_
    obtain ⟨x5, hx5, hF⟩ := hF
    refine EvI.read (v := Sl.val x5) rfl rfl (w_none rfl) rfl (f_load kL ty81 rfl rfl hx5 rfl) ?_
    refine EvI.pure (v := .int .i64 a1) rfl rfl (w_none rfl) rfl (f_move rfl rfl) ?_
    obtain ⟨q6, hq6, hF⟩ := hF
    refine EvI.pure (v := .pointer (some q6)) rfl rfl (w_none rfl) rfl (f_indexAddr (s := x5) Try.underlying81 ty98.size rfl rfl rfl hq6) ?_
    refine EvI.pure (v := .pointer (some (q6.add 5))) rfl rfl (w_none rfl) rfl (f_fieldAddr fd98_5 rfl rfl) ?_
    obtain ⟨x6, hx6, hF⟩ := hF
    refine EvI.read (v := Sl.val x6) rfl rfl (w_none rfl) rfl (f_load kL ty29 rfl rfl hx6 rfl) ?_
    refine EvI.pure (v := Sl.val a2) rfl rfl (w_none rfl) rfl (f_move rfl rfl) ?_
    refine EvI.pure (v := .int .i64 r2) rfl rfl (w_none rfl) rfl (f_move rfl rfl) ?_
    obtain ⟨x7, hx7, hF⟩ := hF
    refine EvI.pure (v := Sl.val x7) rfl rfl (w_none rfl) rfl (f_slice Try.underlying29 ty5.size rfl rfl bndV_none (bndV_some rfl) bndV_none hx7) ?_
    refine EvI.call rfl rfl (w_none rfl) rfl (enterH Try.func51 rfl rfl rfl rfl (spateref16_join.sound hF)) ?_
    rintro _ h3 ⟨r3, rfl, hF⟩
    obtain ⟨hy1, hF⟩ := hF
    refine ⟨⟨chk_no rfl, chk_no rfl, chk_yes rfl (f_load kL ty81 rfl rfl hy1 rfl), trivial⟩, ?_⟩
    obtain ⟨q7, hq7, hF⟩ := hF
    refine EvI.pure (v := .pointer (some q7)) rfl rfl (w_none rfl) rfl (f_indexAddr (s := x4) Try.underlying81 ty98.size rfl rfl rfl hq7) ?_
    refine EvI.pure (v := .pointer (some (q7.add 5))) rfl rfl (w_none rfl) rfl (f_fieldAddr fd98_5 rfl rfl) ?_
    obtain ⟨h4, hs1, hF⟩ := hF
    refine EvI.runN rfl rfl (w_none rfl) rfl (f_store kL ty29.size (z := r3) rfl rfl rfl hs1) ?_
    rintro _ _ ⟨rfl, rfl⟩
    refine ⟨⟨chk_no rfl, chk_no rfl, chk_no rfl, trivial⟩, ?_⟩
    refine EvI.nil ?_
    refine WP.seq ?_
    refine WP.region ?_
    refine EvK.pure (v := .int .i64 r2) (w_none rfl) rfl rfl (f_move rfl rfl) ?_
    refine EvK.pure (v := .int .i64 r2) (w_none rfl) rfl rfl (f_assign rfl rfl) ?_
    refine EvK.pure (v := .int .i64 0) (w_none rfl) rfl rfl (f_assign rfl rfl) ?_
    refine EvK.nil ?_
    refine WP.ret ?_
    exact Ret.mk (vs := [.int .i64 r2, .int .i64 0]) (r2, 0) ⟨rfl, rfl, trivial⟩ rfl hF
end Go.Proofs.Ytbdopnhfbjdegaa

namespace Go.Proofs.Ytbdopnhfbjdegaa
open Go Go.Tr
set_option linter.unusedVariables false
set_option maxRecDepth 100000
set_option maxHeartbeats 400000
/-- (*spate/spateref16.Net).Fetch -/
def spateref16_Net_Fetch (a0 : Option Addr) (a1 : Int) (a2 : Int) (h : H) (Q : (Int × Int) → H → Prop) : Prop :=
  spateref16_Net_gone a0 a1 false h fun r1 h1 =>
  if (r1 != 0) = true then
    Q (0, r1) h1
  else
    rd a0 fun q1 =>
    rd (ld kL (q1.add 2) h1) fun x1 =>
    rd (ixA 7 x1 a1) fun q2 =>
    rd (ld k97 q2 h1) fun x2 =>
    al 98 (k97.enc z97) h1 fun q3 h2 =>
    rd (st k97 q3 x2 h2) fun h3 =>
    rd (ld kL (q3.add 5) h3) fun x3 =>
    rd (ld kL (q3.add 5) h3) fun x4 =>
    spateref16_part (x3.len : Int) (x4.len : Int) a2 h3 fun r2 h4 =>
    rd (ld kL (q3.add 6) h4) fun x5 =>
    rd (ld kL (q3.add 5) h4) fun x6 =>
    rd (slx 1 x6 none (some r2) none) fun x7 =>
    spateref16_join x5 x7 h4 fun r3 h5 =>
    rd (st kL (q3.add 6) r3 h5) fun h6 =>
    rd (ld kL (q3.add 5) h6) fun x8 =>
    rd (slx 1 x8 (some r2) none none) fun x9 =>
    spateref16_join x9 Sl.nil h6 fun r4 h7 =>
    rd (st kL (q3.add 5) r4 h7) fun h8 =>
    rd a0 fun q4 =>
    rd (ld kL (q4.add 2) h8) fun x10 =>
    rd (ld k97 q3 h8) fun x11 =>
    rd (ixA 7 x10 a1) fun q5 =>
    rd (st k97 q5 x11 h8) fun h9 =>
    rd a0 fun q6 =>
    rd (ld (kI .i64) (q6.add 3) h9) fun x12 =>
    rd a0 fun q7 =>
    rd (st (kI .i64) (q7.add 3) (IntKind.i64.wrap (x12 + r2)) h9) fun h10 =>
    Q (r2, 0) h10
theorem spateref16_Net_Fetch.sound {a0 : Option Addr} {a1 : Int} {a2 : Int} {h : H} {Q : (Int × Int) → H → Prop} (hF : spateref16_Net_Fetch a0 a1 a2 h Q) :
    CallsH Try.prog 40 (List.toArray (α := Value) [.pointer a0, .int .i64 a1, .int .i64 a2]) h fun v h' => ∃ x : Int × Int, v = .tuple #[.int .i64 x.1, .int .i64 x.2] ∧ Q x h' := by
  refine CallsH.of_body Try.func40 rfl 63 rfl rfl ?_
  refine WP.seq ?_
  refine WP.region ?_
  refine EvK.pure (v := .int .i64 0) (w_none rfl) rfl rfl (f_assign rfl rfl) ?_
  refine EvK.pure (v := .int .i64 0) (w_none rfl) rfl rfl (f_assign rfl rfl) ?_
  refine EvK.nil ?_
  refine WP.seq ?_
  refine WP.region ?_
  refine EvK.pure (v := .pointer a0) (w_none rfl) rfl rfl (f_move rfl rfl) ?_
  refine EvK.pure (v := .int .i64 a1) (w_none rfl) rfl rfl (f_move rfl rfl) ?_
  refine EvK.call (w_none rfl) rfl rfl (enterH Try.func50 rfl rfl rfl rfl (spateref16_Net_gone.sound hF)) ?_
  rintro _ h1 ⟨r1, rfl, hF⟩
  refine EvK.pure (v := .int .i64 r1) (w_none rfl) rfl rfl (f_assign rfl rfl) ?_
  refine EvK.nil ?_
  refine WP.seq ?_
  refine WP.seq ?_
  refine WP.region ?_
  refine EvK.pure (v := .int .i64 r1) (w_none rfl) rfl rfl (f_move rfl rfl) ?_
  refine EvK.pure (v := .bool (r1 != 0)) (w_none rfl) rfl rfl (f_neq rfl rfl rfl) ?_
  refine EvK.nil ?_
  rcases ite_inv hF with ⟨c1, hF⟩ | ⟨c1, hF⟩
  · refine WP.cond_true _ rfl c1 ?_
    refine WP.seq ?_
    refine WP.region ?_
    refine EvK.pure (v := .int .i64 r1) (w_none rfl) rfl rfl (f_move rfl rfl) ?_
    refine EvK.pure (v := .int .i64 0) (w_none rfl) rfl rfl (f_assign rfl rfl) ?_
    refine EvK.pure (v := .int .i64 r1) (w_none rfl) rfl rfl (f_assign rfl rfl) ?_
    refine EvK.nil ?_
    refine WP.ret ?_
    exact Ret.mk (vs := [.int .i64 0, .int .i64 r1]) (0, r1) ⟨rfl, rfl, trivial⟩ rfl hF
  · refine WP.cond_false _ rfl c1 ?_
    refine WP.skip ?_
    refine WP.seq ?_
    refine WP.region ?_
    refine EvK.pure (v := .pointer a0) (w_none rfl) rfl rfl (f_move rfl rfl) ?_
    obtain ⟨q1, hq1, hF⟩ := hF
    refine EvK.pure (v := .pointer (some q1)) (w_none rfl) rfl rfl (f_nilCheck rfl (congrArg Value.pointer hq1)) ?_
    refine EvK.pure (v := .pointer (some (q1.add 2))) (w_none rfl) rfl rfl (f_fieldAddr fd83_2 rfl rfl) ?_
    obtain ⟨x1, hx1, hF⟩ := hF
    refine EvK.read (v := Sl.val x1) (w_none rfl) rfl rfl (f_load kL ty81 rfl rfl hx1 rfl) ?_
    refine EvK.pure (v := .int .i64 a1) (w_none rfl) rfl rfl (f_move rfl rfl) ?_
    obtain ⟨q2, hq2, hF⟩ := hF
    refine EvK.pure (v := .pointer (some q2)) (w_none rfl) rfl rfl (f_indexAddr (s := x1) Try.underlying81 ty98.size rfl rfl rfl hq2) ?_
    obtain ⟨x2, hx2, hF⟩ := hF
    refine EvK.read (v := k97.val x2) (w_none rfl) rfl rfl (f_load k97 ty98 rfl rfl hx2 rfl) ?_
    refine EvK.alloc (w_none rfl) rfl rfl (f_allocF zero98 rfl rfl hF) ?_
    rintro _ h2 ⟨q3, rfl, hF⟩
    obtain ⟨h3, hs1, hF⟩ := hF
    refine EvK.runN (w_none rfl) rfl (f_store k97 ty98.size (z := x2) rfl rfl rfl hs1) ?_
    rintro _ _ ⟨rfl, rfl⟩
    refine EvK.nil ?_
    refine WP.seq ?_
    refine WP.region ?_
    refine EvK.pure (v := .pointer (some (q3.add 5))) (w_none rfl) rfl rfl (f_fieldAddr fd98_5 rfl rfl) ?_
    obtain ⟨x3, hx3, hF⟩ := hF
    refine EvK.read (v := Sl.val x3) (w_none rfl) rfl rfl (f_load kL ty29 rfl rfl hx3 rfl) ?_
    refine EvK.pure (v := .int .i64 (x3.len : Int)) (w_none rfl) rfl rfl (f_lenL (s := x3) Try.underlying29 rfl rfl) ?_
    refine EvK.pure (v := .pointer (some (q3.add 5))) (w_none rfl) rfl rfl (f_fieldAddr fd98_5 rfl rfl) ?_
    obtain ⟨x4, hx4, hF⟩ := hF
    refine EvK.read (v := Sl.val x4) (w_none rfl) rfl rfl (f_load kL ty29 rfl rfl hx4 rfl) ?_
    refine EvK.pure (v := .int .i64 (x4.len : Int)) (w_none rfl) rfl rfl (f_lenL (s := x4) Try.underlying29 rfl rfl) ?_
    refine EvK.pure (v := .int .i64 a2) (w_none rfl) rfl rfl (f_move rfl rfl) ?_
    refine EvK.call (w_none rfl) rfl rfl (enterH Try.func52 rfl rfl rfl rfl (spateref16_part.sound hF)) ?_
    rintro _ h4 ⟨r2, rfl, hF⟩
    refine EvK.pure (v := .int .i64 r2) (w_none rfl) rfl rfl (f_assign rfl rfl) ?_
    refine EvK.nil ?_
    refine WP.seq ?_
    refine WP.draw mixed [.pure, .read, .pure, .read, .pure, .pure, .eff [], .pure, .eff []] [[], [0], [], [2], [], [2, 3, 4], [0, 1, 2, 3, 4, 5], [0, 1, 2, 3, 4, 5, 6], [0, 1, 2, 3, 4, 5, 6, 7]] [0, 1, 2, 3, 4, 5, 6, 7, 8] (by kernel_rfl) (by kernel_rfl) ?_
    refine EvI.pure (v := .pointer (some (q3.add 6))) rfl rfl (w_none rfl) rfl (f_fieldAddr fd98_6 rfl rfl) ?_
    obtain ⟨x5, hx5, hF⟩ := hF
    refine EvI.read (v := Sl.val x5) rfl rfl (w_none rfl) rfl (f_load kL ty29 rfl rfl hx5 rfl) ?_
    refine EvI.pure (v := .pointer (some (q3.add 5))) rfl rfl (w_none rfl) rfl (f_fieldAddr fd98_5 rfl rfl) ?_
    obtain ⟨x6, hx6, hF⟩ := hF
    refine EvI.read (v := Sl.val x6) rfl rfl (w_none rfl) rfl (f_load kL ty29 rfl rfl hx6 rfl) ?_
    refine EvI.pure (v := .int .i64 r2) rfl rfl (w_none rfl) rfl (f_move rfl rfl) ?_
    obtain ⟨x7, hx7, hF⟩ := hF
    refine EvI.pure (v := Sl.val x7) rfl rfl (w_none rfl) rfl (f_slice Try.underlying29 ty5.size rfl rfl bndV_none (bndV_some rfl) bndV_none hx7) ?_
    refine EvI.call rfl rfl (w_none rfl) rfl (enterH Try.func51 rfl rfl rfl rfl (spateref16_join.sound hF)) ?_
    rintro _ h5 ⟨r3, rfl, hF⟩
    refine ⟨⟨chk_no rfl, chk_no rfl, trivial⟩, ?_⟩
    refine EvI.pure (v := .pointer (some (q3.add 6))) rfl rfl (w_none rfl) rfl (f_fieldAddr fd98_6 rfl rfl) ?_
    obtain ⟨h6, hs2, hF⟩ := hF
    refine EvI.runN rfl rfl (w_none rfl) rfl (f_store kL ty29.size (z := r3) rfl rfl rfl hs2) ?_
    rintro _ _ ⟨rfl, rfl⟩
    refine ⟨⟨chk_no rfl, chk_no rfl, trivial⟩, ?_⟩
    refine EvI.nil ?_
    refine WP.seq ?_
    refine WP.region ?_
    refine EvK.pure (v := .pointer (some (q3.add 5))) (w_none rfl) rfl rfl (f_fieldAddr fd98_5 rfl rfl) ?_
    obtain ⟨x8, hx8, hF⟩ := hF
    refine EvK.read (v := Sl.val x8) (w_none rfl) rfl rfl (f_load kL ty29 rfl rfl hx8 rfl) ?_
    refine EvK.pure (v := .int .i64 r2) (w_none rfl) rfl rfl (f_move rfl rfl) ?_
    obtain ⟨x9, hx9, hF⟩ := hF
    refine EvK.pure (v := Sl.val x9) (w_none rfl) rfl rfl (f_slice Try.underlying29 ty5.size rfl rfl (bndV_some rfl) bndV_none bndV_none hx9) ?_
    refine EvK.call (w_none rfl) rfl rfl (enterH (vs := [Sl.val x9, Sl.val Sl.nil]) Try.func51 rfl rfl rfl rfl (spateref16_join.sound hF)) ?_
    rintro _ h7 ⟨r4, rfl, hF⟩
    refine EvK.pure (v := .pointer (some (q3.add 5))) (w_none rfl) rfl rfl (f_fieldAddr fd98_5 rfl rfl) ?_
    obtain ⟨h8, hs3, hF⟩ := hF
    refine EvK.runN (w_none rfl) rfl (f_store kL ty29.size (z := r4) rfl rfl rfl hs3) ?_
    rintro _ _ ⟨rfl, rfl⟩
    refine EvK.nil ?_
    refine WP.seq ?_
    refine WP.draw mixed [.pure, .pure, .pure, .read, .pure, .read, .pure, .eff []] [[], [0], [0, 1], [0, 1, 2], [], [], [0, 1, 2, 3, 4, 5], [0, 1, 2, 3, 4, 5, 6]] [0, 1, 2, 3, 4, 5, 6, 7] (by kernel_rfl) (by kernel_rfl) ?_
    refine EvI.pure (v := .pointer a0) rfl rfl (w_none rfl) rfl (f_move rfl rfl) ?_
    obtain ⟨q4, hq3, hF⟩ := hF
    refine EvI.pure (v := .pointer (some q4)) rfl rfl (w_none rfl) rfl (f_nilCheck rfl (congrArg Value.pointer hq3)) ?_
    refine EvI.pure (v := .pointer (some (q4.add 2))) rfl rfl (w_none rfl) rfl (f_fieldAddr fd83_2 rfl rfl) ?_
    obtain ⟨x10, hx10, hF⟩ := hF
    refine EvI.read (v := Sl.val x10) rfl rfl (w_none rfl) rfl (f_load kL ty81 rfl rfl hx10 rfl) ?_
    refine EvI.pure (v := .int .i64 a1) rfl rfl (w_none rfl) rfl (f_move rfl rfl) ?_
    obtain ⟨x11, hx11, hF⟩ := hF
    refine EvI.read (v := k97.val x11) rfl rfl (w_none rfl) rfl (f_load k97 ty98 rfl rfl hx11 rfl) ?_
    obtain ⟨q5, hq4, hF⟩ := hF
    refine EvI.pure (v := .pointer (some q5)) rfl rfl (w_none rfl) rfl (f_indexAddr (s := x10) Try.underlying81 ty98.size rfl rfl rfl hq4) ?_
    obtain ⟨h9, hs4, hF⟩ := hF
    refine EvI.runN rfl rfl (w_none rfl) rfl (f_store k97 ty98.size (z := x11) rfl rfl rfl hs4) ?_
    rintro _ _ ⟨rfl, rfl⟩
    refine ⟨⟨chk_no rfl, chk_no rfl, trivial⟩, ?_⟩
    refine EvI.nil ?_
    refine WP.seq ?_
    refine WP.region ?_
    refine EvK.pure (v := .pointer a0) (w_none rfl) rfl rfl (f_move rfl rfl) ?_
    refine EvK.pure (v := .pointer a0) (w_none rfl) rfl rfl (f_move rfl rfl) ?_
    obtain ⟨q6, hq5, hF⟩ := hF
    refine EvK.pure (v := .pointer (some q6)) (w_none rfl) rfl rfl (f_nilCheck rfl (congrArg Value.pointer hq5)) ?_
    refine EvK.pure (v := .pointer (some (q6.add 3))) (w_none rfl) rfl rfl (f_fieldAddr fd83_3 rfl rfl) ?_
    obtain ⟨x12, hx12, hF⟩ := hF
    refine EvK.read (v := .int .i64 x12) (w_none rfl) rfl rfl (f_load (kI .i64) ty3 rfl rfl hx12 rfl) ?_
    refine EvK.pure (v := .int .i64 r2) (w_none rfl) rfl rfl (f_move rfl rfl) ?_
    refine EvK.pure (v := .int .i64 (IntKind.i64.wrap (x12 + r2))) (w_none rfl) rfl rfl (f_add rfl rfl rfl) ?_
    obtain ⟨q7, hq6, hF⟩ := hF
    refine EvK.pure (v := .pointer (some q7)) (w_none rfl) rfl rfl (f_nilCheck rfl (congrArg Value.pointer hq6)) ?_
    refine EvK.pure (v := .pointer (some (q7.add 3))) (w_none rfl) rfl rfl (f_fieldAddr fd83_3 rfl rfl) ?_
    obtain ⟨h10, hs5, hF⟩ := hF
    refine EvK.runN (w_none rfl) rfl (f_store (kI .i64) ty3.size (z := IntKind.i64.wrap (x12 + r2)) rfl rfl rfl hs5) ?_
    rintro _ _ ⟨rfl, rfl⟩
    refine EvK.nil ?_
    refine WP.seq ?_
    refine WP.region ?_
    refine EvK.pure (v := .int .i64 r2) (w_none rfl) rfl rfl (f_move rfl rfl) ?_
    refine EvK.pure (v := .int .i64 r2) (w_none rfl) rfl rfl (f_assign rfl rfl) ?_
    refine EvK.pure (v := .int .i64 0) (w_none rfl) rfl rfl (f_assign rfl rfl) ?_
    refine EvK.nil ?_
    refine WP.ret ?_
    exact Ret.mk (vs := [.int .i64 r2, .int .i64 0]) (r2, 0) ⟨rfl, rfl, trivial⟩ rfl hF
end Go.Proofs.Ytbdopnhfbjdegaa

namespace Go.Proofs.Ytbdopnhfbjdegaa
open Go Go.Tr
set_option linter.unusedVariables false
set_option maxRecDepth 100000
set_option maxHeartbeats 400000
/-- (*spate/spateref16.Net).Close -/
def spateref16_Net_Close (a0 : Option Addr) (a1 : Int) (h : H) (Q : Int → H → Prop) : Prop :=
  spateref16_Net_gone a0 a1 true h fun r1 h1 =>
  if (r1 != 0) = true then
    Q r1 h1
  else
    rd a0 fun q1 =>
    rd (ld kL (q1.add 2) h1) fun x1 =>
    rd (ixA 7 x1 a1) fun q2 =>
    rd (st kB (q2.add 1) true h1) fun h2 =>
    rd a0 fun q3 =>
    rd (ld kL (q3.add 2) h2) fun x2 =>
    rd (ixA 7 x2 a1) fun q4 =>
    rd (st kL (q4.add 3) Sl.nil h2) fun h3 =>
    rd a0 fun q5 =>
    rd (ld kL (q5.add 2) h3) fun x3 =>
    rd (ixA 7 x3 a1) fun q6 =>
    rd (st kL (q6.add 4) Sl.nil h3) fun h4 =>
    Q 0 h4
theorem spateref16_Net_Close.sound {a0 : Option Addr} {a1 : Int} {h : H} {Q : Int → H → Prop} (hF : spateref16_Net_Close a0 a1 h Q) :
    CallsH Try.prog 41 (List.toArray (α := Value) [.pointer a0, .int .i64 a1]) h fun v h' => ∃ x : Int, v = .int .i64 x ∧ Q x h' := by
  refine CallsH.of_body Try.func41 rfl 33 rfl rfl ?_
  refine WP.seq ?_
  refine WP.region ?_
  refine EvK.pure (v := .int .i64 0) (w_none rfl) rfl rfl (f_assign rfl rfl) ?_
  refine EvK.nil ?_
  refine WP.seq ?_
  refine WP.region ?_
  refine EvK.pure (v := .pointer a0) (w_none rfl) rfl rfl (f_move rfl rfl) ?_
  refine EvK.pure (v := .int .i64 a1) (w_none rfl) rfl rfl (f_move rfl rfl) ?_
  refine EvK.call (w_none rfl) rfl rfl (enterH Try.func50 rfl rfl rfl rfl (spateref16_Net_gone.sound hF)) ?_
  rintro _ h1 ⟨r1, rfl, hF⟩
  refine EvK.pure (v := .int .i64 r1) (w_none rfl) rfl rfl (f_assign rfl rfl) ?_
  refine EvK.nil ?_
  refine WP.seq ?_
  refine WP.seq ?_
  refine WP.region ?_
  refine EvK.pure (v := .int .i64 r1) (w_none rfl) rfl rfl (f_move rfl rfl) ?_
  refine EvK.pure (v := .bool (r1 != 0)) (w_none rfl) rfl rfl (f_neq rfl rfl rfl) ?_
  refine EvK.nil ?_
  rcases ite_inv hF with ⟨c1, hF⟩ | ⟨c1, hF⟩
  · refine WP.cond_true _ rfl c1 ?_
    refine WP.seq ?_
    refine WP.region ?_
    refine EvK.pure (v := .int .i64 r1) (w_none rfl) rfl rfl (f_move rfl rfl) ?_
    refine EvK.pure (v := .int .i64 r1) (w_none rfl) rfl rfl (f_assign rfl rfl) ?_
    refine EvK.nil ?_
    refine WP.ret ?_
    exact Ret.mk (vs := [.int .i64 r1]) r1 ⟨rfl, trivial⟩ rfl hF
  · refine WP.cond_false _ rfl c1 ?_
    refine WP.skip ?_
    refine WP.seq ?_
    refine WP.region ?_
    refine EvK.pure (v := .pointer a0) (w_none rfl) rfl rfl (f_move rfl rfl) ?_
    obtain ⟨q1, hq1, hF⟩ := hF
    refine EvK.pure (v := .pointer (some q1)) (w_none rfl) rfl rfl (f_nilCheck rfl (congrArg Value.pointer hq1)) ?_
    refine EvK.pure (v := .pointer (some (q1.add 2))) (w_none rfl) rfl rfl (f_fieldAddr fd83_2 rfl rfl) ?_
    obtain ⟨x1, hx1, hF⟩ := hF
    refine EvK.read (v := Sl.val x1) (w_none rfl) rfl rfl (f_load kL ty81 rfl rfl hx1 rfl) ?_
    refine EvK.pure (v := .int .i64 a1) (w_none rfl) rfl rfl (f_move rfl rfl) ?_
    obtain ⟨q2, hq2, hF⟩ := hF
    refine EvK.pure (v := .pointer (some q2)) (w_none rfl) rfl rfl (f_indexAddr (s := x1) Try.underlying81 ty98.size rfl rfl rfl hq2) ?_
    refine EvK.pure (v := .pointer (some (q2.add 1))) (w_none rfl) rfl rfl (f_fieldAddr fd98_1 rfl rfl) ?_
    obtain ⟨h2, hs1, hF⟩ := hF
    refine EvK.runN (w_none rfl) rfl (f_store kB ty4.size (z := true) rfl rfl rfl hs1) ?_
    rintro _ _ ⟨rfl, rfl⟩
    refine EvK.nil ?_
    refine WP.seq ?_
    refine WP.region ?_
    refine EvK.pure (v := .pointer a0) (w_none rfl) rfl rfl (f_move rfl rfl) ?_
    obtain ⟨q3, hq3, hF⟩ := hF
    refine EvK.pure (v := .pointer (some q3)) (w_none rfl) rfl rfl (f_nilCheck rfl (congrArg Value.pointer hq3)) ?_
    refine EvK.pure (v := .pointer (some (q3.add 2))) (w_none rfl) rfl rfl (f_fieldAddr fd83_2 rfl rfl) ?_
    obtain ⟨x2, hx2, hF⟩ := hF
    refine EvK.read (v := Sl.val x2) (w_none rfl) rfl rfl (f_load kL ty81 rfl rfl hx2 rfl) ?_
    refine EvK.pure (v := .int .i64 a1) (w_none rfl) rfl rfl (f_move rfl rfl) ?_
    obtain ⟨q4, hq4, hF⟩ := hF
    refine EvK.pure (v := .pointer (some q4)) (w_none rfl) rfl rfl (f_indexAddr (s := x2) Try.underlying81 ty98.size rfl rfl rfl hq4) ?_
    refine EvK.pure (v := .pointer (some (q4.add 3))) (w_none rfl) rfl rfl (f_fieldAddr fd98_3 rfl rfl) ?_
    obtain ⟨h3, hs2, hF⟩ := hF
    refine EvK.runN (w_none rfl) rfl (f_store kL ty29.size (z := Sl.nil) rfl rfl rfl hs2) ?_
    rintro _ _ ⟨rfl, rfl⟩
    refine EvK.nil ?_
    refine WP.seq ?_
    refine WP.region ?_
    refine EvK.pure (v := .pointer a0) (w_none rfl) rfl rfl (f_move rfl rfl) ?_
    obtain ⟨q5, hq5, hF⟩ := hF
    refine EvK.pure (v := .pointer (some q5)) (w_none rfl) rfl rfl (f_nilCheck rfl (congrArg Value.pointer hq5)) ?_
    refine EvK.pure (v := .pointer (some (q5.add 2))) (w_none rfl) rfl rfl (f_fieldAddr fd83_2 rfl rfl) ?_
    obtain ⟨x3, hx3, hF⟩ := hF
    refine EvK.read (v := Sl.val x3) (w_none rfl) rfl rfl (f_load kL ty81 rfl rfl hx3 rfl) ?_
    refine EvK.pure (v := .int .i64 a1) (w_none rfl) rfl rfl (f_move rfl rfl) ?_
    obtain ⟨q6, hq6, hF⟩ := hF
    refine EvK.pure (v := .pointer (some q6)) (w_none rfl) rfl rfl (f_indexAddr (s := x3) Try.underlying81 ty98.size rfl rfl rfl hq6) ?_
    refine EvK.pure (v := .pointer (some (q6.add 4))) (w_none rfl) rfl rfl (f_fieldAddr fd98_4 rfl rfl) ?_
    obtain ⟨h4, hs3, hF⟩ := hF
    refine EvK.runN (w_none rfl) rfl (f_store kL ty29.size (z := Sl.nil) rfl rfl rfl hs3) ?_
    rintro _ _ ⟨rfl, rfl⟩
    refine EvK.nil ?_
    refine WP.seq ?_
    refine WP.region ?_
    refine EvK.pure (v := .int .i64 0) (w_none rfl) rfl rfl (f_assign rfl rfl) ?_
    refine EvK.nil ?_
    refine WP.ret ?_
    exact Ret.mk (vs := [.int .i64 0]) 0 ⟨rfl, trivial⟩ rfl hF
end Go.Proofs.Ytbdopnhfbjdegaa
