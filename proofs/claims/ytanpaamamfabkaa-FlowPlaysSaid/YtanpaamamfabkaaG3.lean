/- Functions as predicates over the heap, and that the code comes to them. Printed by gen.py, merged by group.py. -/
import Derived.Test.YtanpaamamfabkaaG2
import Derived.Test.YtanpaamamfabkaaTy
namespace Go.Proofs.Ytanpaamamfabkaa
open Go Go.Tr
set_option linter.unusedVariables false
set_option maxRecDepth 100000
set_option maxHeartbeats 400000
/-- spate/spateref15.May -/
def spateref15_May (a0 : S32) (h : H) (Q : Int → H → Prop) : Prop :=
  al 33 (k32.enc a0) h fun q1 h1 =>
  jn (fun (k1 : Bool → H → Prop) =>
    rd (ld kB (q1.add 0) h1) fun x5 =>
    if (!x5) = true then
      rd (ld kS (q1.add 1) h1) fun x6 =>
      spateref15_IsKey x6 h1 fun r2 h5 =>
      k1 (!r2) h5
    else
      k1 false h1) fun s1 h2 =>
  if s1 = true then
    Q 21 h2
  else
    rd (ld (kI .i64) (q1.add 2) h2) fun x1 =>
    spateref15_IsTime x1 h2 fun r1 h3 =>
    if (!r1) = true then
      Q 22 h3
    else
      jn (fun (k2 : Bool → H → Prop) =>
        rd (ld kB (q1.add 0) h3) fun x2 =>
        if x2 = true then
          rd (ld kS (q1.add 1) h3) fun x3 =>
          if (!(x3.toList == (⟨#[]⟩ : ByteArray).toList)) = true then
            k2 true h3
          else
            rd (ld (kI .i64) (q1.add 3) h3) fun x4 =>
            k2 (x4 != 0) h3
        else
          k2 false h3) fun s2 h4 =>
      if s2 = true then
        Q 16 h4
      else
        Q 0 h4
theorem spateref15_May.sound {a0 : S32} {h : H} {Q : Int → H → Prop} (hF : spateref15_May a0 h Q) :
    CallsH Try.prog 37 (List.toArray (α := Value) [k32.val a0]) h fun v h' => ∃ x : Int, v = .int .i64 x ∧ Q x h' := by
  refine CallsH.of_body Try.func37 rfl 28 rfl rfl ?_
  refine WP.seq ?_
  refine WP.region ?_
  refine EvK.alloc (w_none rfl) rfl rfl (f_boxF (v := k32.val a0) rfl rfl rfl hF) ?_
  rintro _ h1 ⟨q1, rfl, hF⟩
  refine EvK.pure (v := .int .i64 0) (w_none rfl) rfl rfl (f_assign rfl rfl) ?_
  refine EvK.nil ?_
  refine WP.seq ?_
  refine WP.joinF (fun (s1 : Bool) => [(11, .bool s1), (1, .pointer (some q1))]) hF ?_ ?_
  · intro s1 E0 h2 hF
    rcases ite_inv hF with ⟨c1, hF⟩ | ⟨c1, hF⟩
    · refine WP.cond_true _ rfl c1 ?_
      refine WP.seq ?_
      refine WP.region ?_
      refine EvK.pure (v := .int .i64 21) (w_none rfl) rfl rfl (f_assign rfl rfl) ?_
      refine EvK.nil ?_
      refine WP.ret ?_
      exact Ret.mk (vs := [.int .i64 21]) 21 ⟨rfl, trivial⟩ rfl hF
    · refine WP.cond_false _ rfl c1 ?_
      refine WP.skip ?_
      refine WP.seq ?_
      refine WP.seq ?_
      refine WP.region ?_
      refine EvK.pure (v := .pointer (some (q1.add 2))) (w_none rfl) rfl rfl (f_fieldAddr fd33_2 rfl rfl) ?_
      obtain ⟨x1, hx1, hF⟩ := hF
      refine EvK.read (v := .int .i64 x1) (w_none rfl) rfl rfl (f_load (kI .i64) ty2 rfl rfl hx1 rfl) ?_
      refine EvK.call (w_none rfl) rfl rfl (enterH Try.func40 rfl rfl rfl rfl (spateref15_IsTime.sound hF)) ?_
      rintro _ h3 ⟨r1, rfl, hF⟩
      refine EvK.pure (v := .bool (!r1)) (w_none rfl) rfl rfl (f_not rfl rfl) ?_
      refine EvK.nil ?_
      rcases ite_inv hF with ⟨c2, hF⟩ | ⟨c2, hF⟩
      · refine WP.cond_true _ rfl c2 ?_
        refine WP.seq ?_
        refine WP.region ?_
        refine EvK.pure (v := .int .i64 22) (w_none rfl) rfl rfl (f_assign rfl rfl) ?_
        refine EvK.nil ?_
        refine WP.ret ?_
        exact Ret.mk (vs := [.int .i64 22]) 22 ⟨rfl, trivial⟩ rfl hF
      · refine WP.cond_false _ rfl c2 ?_
        refine WP.skip ?_
        refine WP.seq ?_
        refine WP.joinF (fun (s2 : Bool) => [(27, .bool s2)]) hF ?_ ?_
        · intro s2 E0 h4 hF
          rcases ite_inv hF with ⟨c3, hF⟩ | ⟨c3, hF⟩
          · refine WP.cond_true _ rfl c3 ?_
            refine WP.seq ?_
            refine WP.region ?_
            refine EvK.pure (v := .int .i64 16) (w_none rfl) rfl rfl (f_assign rfl rfl) ?_
            refine EvK.nil ?_
            refine WP.ret ?_
            exact Ret.mk (vs := [.int .i64 16]) 16 ⟨rfl, trivial⟩ rfl hF
          · refine WP.cond_false _ rfl c3 ?_
            refine WP.skip ?_
            refine WP.seq ?_
            refine WP.region ?_
            refine EvK.pure (v := .int .i64 0) (w_none rfl) rfl rfl (f_assign rfl rfl) ?_
            refine EvK.nil ?_
            refine WP.ret ?_
            exact Ret.mk (vs := [.int .i64 0]) 0 ⟨rfl, trivial⟩ rfl hF
        · intro k2 hF
          refine WP.region ?_
          refine EvK.pure (v := .pointer (some (q1.add 0))) (w_none rfl) rfl rfl (f_fieldAddr fd33_0 rfl rfl) ?_
          obtain ⟨x2, hx2, hF⟩ := hF
          refine EvK.read (v := .bool x2) (w_none rfl) rfl rfl (f_load kB ty4 rfl rfl hx2 rfl) ?_
          refine EvK.pure (v := .bool x2) (w_none rfl) rfl rfl (f_move rfl rfl) ?_
          rcases ite_inv hF with ⟨c4, hF⟩ | ⟨c4, hF⟩
          · refine EvK.pure (v := .pointer (some (q1.add 1))) (w_some rfl rfl c4) rfl rfl (f_fieldAddr fd33_1 rfl rfl) ?_
            obtain ⟨x3, hx3, hF⟩ := hF
            refine EvK.read (v := .string x3) (w_some rfl rfl c4) rfl rfl (f_load kS ty9 rfl rfl hx3 rfl) ?_
            refine EvK.pure (v := .bool (!(x3.toList == (⟨#[]⟩ : ByteArray).toList))) (w_some rfl rfl c4) rfl rfl (f_sneq rfl rfl rfl) ?_
            refine EvK.pure (v := .bool (!(x3.toList == (⟨#[]⟩ : ByteArray).toList))) (w_some rfl rfl c4) rfl rfl (f_move rfl rfl) ?_
            rcases ite_inv hF with ⟨c5, hF⟩ | ⟨c5, hF⟩
            · refine EvK.not (w_not rfl rfl c5) rfl rfl ?_
              refine EvK.not (w_not rfl rfl c5) rfl rfl ?_
              refine EvK.not (w_not rfl rfl c5) rfl rfl ?_
              refine EvK.pure (v := .bool true) (w_some rfl rfl c4) rfl rfl (f_pickT rfl rfl c5 rfl) ?_
              refine EvK.pure (v := .bool true) (w_none rfl) rfl rfl (f_pickT rfl rfl c4 rfl) ?_
              refine EvK.nil ?_
              exact KE.mk true ⟨rfl, trivial⟩ hF
            · refine EvK.pure (v := .pointer (some (q1.add 3))) (w_some rfl rfl c5) rfl rfl (f_fieldAddr fd33_3 rfl rfl) ?_
              obtain ⟨x4, hx4, hF⟩ := hF
              refine EvK.read (v := .int .i64 x4) (w_some rfl rfl c5) rfl rfl (f_load (kI .i64) ty2 rfl rfl hx4 rfl) ?_
              refine EvK.pure (v := .bool (x4 != 0)) (w_some rfl rfl c5) rfl rfl (f_neq rfl rfl rfl) ?_
              refine EvK.pure (v := .bool (x4 != 0)) (w_some rfl rfl c4) rfl rfl (f_pickF rfl rfl c5 rfl) ?_
              refine EvK.pure (v := .bool (x4 != 0)) (w_none rfl) rfl rfl (f_pickT rfl rfl c4 rfl) ?_
              refine EvK.nil ?_
              exact KE.mk (x4 != 0) ⟨rfl, trivial⟩ hF
          · refine EvK.not (w_not rfl rfl c4) rfl rfl ?_
            refine EvK.not (w_not rfl rfl c4) rfl rfl ?_
            refine EvK.not (w_not rfl rfl c4) rfl rfl ?_
            refine EvK.not (w_not rfl rfl c4) rfl rfl ?_
            refine EvK.not (w_undef rfl rfl) rfl rfl ?_
            refine EvK.not (w_undef rfl rfl) rfl rfl ?_
            refine EvK.not (w_undef rfl rfl) rfl rfl ?_
            refine EvK.not (w_not rfl rfl c4) rfl rfl ?_
            refine EvK.pure (v := .bool false) (w_none rfl) rfl rfl (f_pickF rfl rfl c4 rfl) ?_
            refine EvK.nil ?_
            exact KE.mk false ⟨rfl, trivial⟩ hF
  · intro k1 hF
    refine WP.region ?_
    refine EvK.pure (v := .pointer (some (q1.add 0))) (w_none rfl) rfl rfl (f_fieldAddr fd33_0 rfl rfl) ?_
    obtain ⟨x5, hx5, hF⟩ := hF
    refine EvK.read (v := .bool x5) (w_none rfl) rfl rfl (f_load kB ty4 rfl rfl hx5 rfl) ?_
    refine EvK.pure (v := .bool (!x5)) (w_none rfl) rfl rfl (f_not rfl rfl) ?_
    refine EvK.pure (v := .bool (!x5)) (w_none rfl) rfl rfl (f_move rfl rfl) ?_
    rcases ite_inv hF with ⟨c6, hF⟩ | ⟨c6, hF⟩
    · refine EvK.pure (v := .pointer (some (q1.add 1))) (w_some rfl rfl c6) rfl rfl (f_fieldAddr fd33_1 rfl rfl) ?_
      obtain ⟨x6, hx6, hF⟩ := hF
      refine EvK.read (v := .string x6) (w_some rfl rfl c6) rfl rfl (f_load kS ty9 rfl rfl hx6 rfl) ?_
      refine EvK.call (w_some rfl rfl c6) rfl rfl (enterH Try.func39 rfl rfl rfl rfl (spateref15_IsKey.sound hF)) ?_
      rintro _ h5 ⟨r2, rfl, hF⟩
      refine EvK.pure (v := .bool (!r2)) (w_some rfl rfl c6) rfl rfl (f_not rfl rfl) ?_
      refine EvK.pure (v := .bool (!r2)) (w_none rfl) rfl rfl (f_pickT rfl rfl c6 rfl) ?_
      refine EvK.nil ?_
      exact KE.mk (!r2) ⟨rfl, rfl, trivial⟩ hF
    · refine EvK.not (w_not rfl rfl c6) rfl rfl ?_
      refine EvK.not (w_not rfl rfl c6) rfl rfl ?_
      refine EvK.not (w_not rfl rfl c6) rfl rfl ?_
      refine EvK.not (w_not rfl rfl c6) rfl rfl ?_
      refine EvK.pure (v := .bool false) (w_none rfl) rfl rfl (f_pickF rfl rfl c6 rfl) ?_
      refine EvK.nil ?_
      exact KE.mk false ⟨rfl, rfl, trivial⟩ hF
end Go.Proofs.Ytanpaamamfabkaa

namespace Go.Proofs.Ytanpaamamfabkaa
open Go Go.Tr
set_option linter.unusedVariables false
set_option maxRecDepth 100000
set_option maxHeartbeats 400000
/-- (*spate/spateref15.Flow).Put -/
def spateref15_Flow_Put (a0 : Option Addr) (a1 : Int) (a2 : S32) (h : H) (Q : Int → H → Prop) : Prop :=
  al 33 (k32.enc a2) h fun q1 h1 =>
  jn (fun (k1 : Bool → H → Prop) =>
    if (decide (a1 < 0)) = true then
      k1 true h1
    else
      rd a0 fun q8 =>
      rd (ld kL (q8.add 1) h1) fun x10 =>
      k1 (decide (a1 ≥ (x10.len : Int))) h1) fun s1 h2 =>
  if s1 = true then
    Q 1 h2
  else
    rd (ld k32 q1 h2) fun x1 =>
    spateref15_May x1 h2 fun r1 h3 =>
    if (r1 != 0) = true then
      Q r1 h3
    else
      rd a0 fun q2 =>
      rd (ld kL (q2.add 1) h3) fun x2 =>
      rd (ixA 1 x2 a1) fun q3 =>
      rd (ld kL q3 h3) fun x3 =>
      if (decide ((x3.len : Int) ≥ 65536)) = true then
        Q 2 h3
      else
        rd a0 fun q4 =>
        rd (ld kL (q4.add 1) h3) fun x4 =>
        rd a0 fun q5 =>
        rd (ld kL (q5.add 1) h3) fun x5 =>
        rd (ixA 1 x5 a1) fun q6 =>
        rd (ld kL q6 h3) fun x6 =>
        rd (ld k32 q1 h3) fun x7 =>
        bs 33 1 (k32.enc x7) h3 fun x8 h4 =>
        ap k32.n 40 33 (k32.enc z32) x6 x8 h4 fun x9 h5 =>
        ld kL (q4.add 1) h5 = some x4 ∧
        rd (ixA 1 x4 a1) fun q7 =>
        rd (st kL q7 x9 h5) fun h6 =>
        Q 0 h6
theorem spateref15_Flow_Put.sound {a0 : Option Addr} {a1 : Int} {a2 : S32} {h : H} {Q : Int → H → Prop} (hF : spateref15_Flow_Put a0 a1 a2 h Q) :
    CallsH Try.prog 24 (List.toArray (α := Value) [.pointer a0, .int .i64 a1, k32.val a2]) h fun v h' => ∃ x : Int, v = .int .i64 x ∧ Q x h' := by
  refine CallsH.of_body Try.func24 rfl 49 rfl rfl ?_
  refine WP.seq ?_
  refine WP.region ?_
  refine EvK.alloc (w_none rfl) rfl rfl (f_boxF (v := k32.val a2) rfl rfl rfl hF) ?_
  rintro _ h1 ⟨q1, rfl, hF⟩
  refine EvK.pure (v := .int .i64 0) (w_none rfl) rfl rfl (f_assign rfl rfl) ?_
  refine EvK.nil ?_
  refine WP.seq ?_
  refine WP.joinF (fun (s1 : Bool) => [(18, .bool s1), (0, .pointer a0), (1, .int .i64 a1), (5, .pointer (some q1))]) hF ?_ ?_
  · intro s1 E0 h2 hF
    rcases ite_inv hF with ⟨c1, hF⟩ | ⟨c1, hF⟩
    · refine WP.cond_true _ rfl c1 ?_
      refine WP.seq ?_
      refine WP.region ?_
      refine EvK.pure (v := .int .i64 1) (w_none rfl) rfl rfl (f_assign rfl rfl) ?_
      refine EvK.nil ?_
      refine WP.ret ?_
      exact Ret.mk (vs := [.int .i64 1]) 1 ⟨rfl, trivial⟩ rfl hF
    · refine WP.cond_false _ rfl c1 ?_
      refine WP.skip ?_
      refine WP.seq ?_
      refine WP.region ?_
      obtain ⟨x1, hx1, hF⟩ := hF
      refine EvK.read (v := k32.val x1) (w_none rfl) rfl rfl (f_load k32 ty33 rfl rfl hx1 rfl) ?_
      refine EvK.call (w_none rfl) rfl rfl (enterH Try.func37 rfl rfl rfl rfl (spateref15_May.sound hF)) ?_
      rintro _ h3 ⟨r1, rfl, hF⟩
      refine EvK.pure (v := .int .i64 r1) (w_none rfl) rfl rfl (f_assign rfl rfl) ?_
      refine EvK.nil ?_
      refine WP.seq ?_
      refine WP.seq ?_
      refine WP.region ?_
      refine EvK.pure (v := .int .i64 r1) (w_none rfl) rfl rfl (f_move rfl rfl) ?_
      refine EvK.pure (v := .bool (r1 != 0)) (w_none rfl) rfl rfl (f_neq rfl rfl rfl) ?_
      refine EvK.nil ?_
      rcases ite_inv hF with ⟨c2, hF⟩ | ⟨c2, hF⟩
      · refine WP.cond_true _ rfl c2 ?_
        refine WP.seq ?_
        refine WP.region ?_
        refine EvK.pure (v := .int .i64 r1) (w_none rfl) rfl rfl (f_move rfl rfl) ?_
        refine EvK.pure (v := .int .i64 r1) (w_none rfl) rfl rfl (f_assign rfl rfl) ?_
        refine EvK.nil ?_
        refine WP.ret ?_
        exact Ret.mk (vs := [.int .i64 r1]) r1 ⟨rfl, trivial⟩ rfl hF
      · refine WP.cond_false _ rfl c2 ?_
        refine WP.skip ?_
        refine WP.seq ?_
        refine WP.seq ?_
        refine WP.region ?_
        refine EvK.pure (v := .pointer a0) (w_none rfl) rfl rfl (f_move rfl rfl) ?_
        obtain ⟨q2, hq1, hF⟩ := hF
        refine EvK.pure (v := .pointer (some q2)) (w_none rfl) rfl rfl (f_nilCheck rfl (congrArg Value.pointer hq1)) ?_
        refine EvK.pure (v := .pointer (some (q2.add 1))) (w_none rfl) rfl rfl (f_fieldAddr fd66_1 rfl rfl) ?_
        obtain ⟨x2, hx2, hF⟩ := hF
        refine EvK.read (v := Sl.val x2) (w_none rfl) rfl rfl (f_load kL ty42 rfl rfl hx2 rfl) ?_
        refine EvK.pure (v := .int .i64 a1) (w_none rfl) rfl rfl (f_move rfl rfl) ?_
        obtain ⟨q3, hq2, hF⟩ := hF
        refine EvK.pure (v := .pointer (some q3)) (w_none rfl) rfl rfl (f_indexAddr (s := x2) Try.underlying42 ty45.size rfl rfl rfl hq2) ?_
        obtain ⟨x3, hx3, hF⟩ := hF
        refine EvK.read (v := Sl.val x3) (w_none rfl) rfl rfl (f_load kL ty45 rfl rfl hx3 rfl) ?_
        refine EvK.pure (v := .int .i64 (x3.len : Int)) (w_none rfl) rfl rfl (f_lenL (s := x3) Try.underlying45 rfl rfl) ?_
        refine EvK.pure (v := .bool (decide ((x3.len : Int) ≥ 65536))) (w_none rfl) rfl rfl (f_geq rfl rfl rfl) ?_
        refine EvK.nil ?_
        rcases ite_inv hF with ⟨c3, hF⟩ | ⟨c3, hF⟩
        · refine WP.cond_true _ rfl c3 ?_
          refine WP.seq ?_
          refine WP.region ?_
          refine EvK.pure (v := .int .i64 2) (w_none rfl) rfl rfl (f_assign rfl rfl) ?_
          refine EvK.nil ?_
          refine WP.ret ?_
          exact Ret.mk (vs := [.int .i64 2]) 2 ⟨rfl, trivial⟩ rfl hF
        · refine WP.cond_false _ rfl c3 ?_
          refine WP.skip ?_
          refine WP.seq ?_
          refine WP.draw mixed [.pure, .pure, .pure, .read, .pure, .pure, .pure, .pure, .read, .pure, .pure, .read, .read, .alloc, .eff [3], .pure, .eff []] [[], [0], [0, 1], [0, 1, 2], [], [], [5], [5, 6], [5, 6, 7], [], [5, 6, 7, 8, 9], [5, 6, 7, 8, 9, 10], [], [12], [5, 6, 7, 8, 9, 10, 11, 12, 13], [0, 1, 2, 3, 4, 5, 6, 7, 8, 9, 10, 11, 12, 13, 14], [0, 1, 2, 3, 4, 5, 6, 7, 8, 9, 10, 11, 12, 13, 14, 15]] [0, 1, 2, 3, 4, 5, 6, 7, 8, 9, 10, 11, 12, 13, 14, 15, 16] (by kernel_rfl) (by kernel_rfl) ?_
          refine EvI.pure (v := .pointer a0) rfl rfl (w_none rfl) rfl (f_move rfl rfl) ?_
          obtain ⟨q4, hq3, hF⟩ := hF
          refine EvI.pure (v := .pointer (some q4)) rfl rfl (w_none rfl) rfl (f_nilCheck rfl (congrArg Value.pointer hq3)) ?_
          refine EvI.pure (v := .pointer (some (q4.add 1))) rfl rfl (w_none rfl) rfl (f_fieldAddr fd66_1 rfl rfl) ?_
          obtain ⟨x4, hx4, hF⟩ := hF
          refine EvI.read (v := Sl.val x4) rfl rfl (w_none rfl) rfl (f_load kL ty42 rfl rfl hx4 rfl) ?_
          refine EvI.pure (v := .int .i64 a1) rfl rfl (w_none rfl) rfl (f_move rfl rfl) ?_
          refine EvI.pure (v := .pointer a0) rfl rfl (w_none rfl) rfl (f_move rfl rfl) ?_
          obtain ⟨q5, hq4, hF⟩ := hF
          refine EvI.pure (v := .pointer (some q5)) rfl rfl (w_none rfl) rfl (f_nilCheck rfl (congrArg Value.pointer hq4)) ?_
          refine EvI.pure (v := .pointer (some (q5.add 1))) rfl rfl (w_none rfl) rfl (f_fieldAddr fd66_1 rfl rfl) ?_
          obtain ⟨x5, hx5, hF⟩ := hF
          refine EvI.read (v := Sl.val x5) rfl rfl (w_none rfl) rfl (f_load kL ty42 rfl rfl hx5 rfl) ?_
          refine EvI.pure (v := .int .i64 a1) rfl rfl (w_none rfl) rfl (f_move rfl rfl) ?_
          obtain ⟨q6, hq5, hF⟩ := hF
          refine EvI.pure (v := .pointer (some q6)) rfl rfl (w_none rfl) rfl (f_indexAddr (s := x5) Try.underlying42 ty45.size rfl rfl rfl hq5) ?_
          obtain ⟨x6, hx6, hF⟩ := hF
          refine EvI.read (v := Sl.val x6) rfl rfl (w_none rfl) rfl (f_load kL ty45 rfl rfl hx6 rfl) ?_
          obtain ⟨x7, hx7, hF⟩ := hF
          refine EvI.read (v := k32.val x7) rfl rfl (w_none rfl) rfl (f_load k32 ty33 rfl rfl hx7 rfl) ?_
          refine EvI.alloc rfl rfl (w_none rfl) rfl (f_buildSliceF Try.underlying45 el33 (by decide) rfl rfl rfl hF) ?_
          rintro _ h4 ⟨x8, rfl, hF⟩
          refine EvI.run rfl rfl (w_none rfl) rfl (f_appendE (s := x6) (x := x8) Try.underlying45 el33 rfl rfl rfl hF) ?_
          rintro _ h5 ⟨x9, rfl, hF⟩
          obtain ⟨hy1, hF⟩ := hF
          refine ⟨⟨chk_no rfl, chk_no rfl, chk_no rfl, chk_yes rfl (f_load kL ty42 rfl rfl hy1 rfl), trivial⟩, ?_⟩
          obtain ⟨q7, hq6, hF⟩ := hF
          refine EvI.pure (v := .pointer (some q7)) rfl rfl (w_none rfl) rfl (f_indexAddr (s := x4) Try.underlying42 ty45.size rfl rfl rfl hq6) ?_
          obtain ⟨h6, hs1, hF⟩ := hF
          refine EvI.runN rfl rfl (w_none rfl) rfl (f_store kL ty45.size (z := x9) rfl rfl rfl hs1) ?_
          rintro _ _ ⟨rfl, rfl⟩
          refine ⟨⟨chk_no rfl, chk_no rfl, chk_no rfl, chk_no rfl, trivial⟩, ?_⟩
          refine EvI.nil ?_
          refine WP.seq ?_
          refine WP.region ?_
          refine EvK.pure (v := .int .i64 0) (w_none rfl) rfl rfl (f_assign rfl rfl) ?_
          refine EvK.nil ?_
          refine WP.ret ?_
          exact Ret.mk (vs := [.int .i64 0]) 0 ⟨rfl, trivial⟩ rfl hF
  · intro k1 hF
    refine WP.region ?_
    refine EvK.pure (v := .int .i64 a1) (w_none rfl) rfl rfl (f_move rfl rfl) ?_
    refine EvK.pure (v := .bool (decide (a1 < 0))) (w_none rfl) rfl rfl (f_lss rfl rfl rfl) ?_
    refine EvK.pure (v := .bool (decide (a1 < 0))) (w_none rfl) rfl rfl (f_move rfl rfl) ?_
    rcases ite_inv hF with ⟨c4, hF⟩ | ⟨c4, hF⟩
    · refine EvK.not (w_not rfl rfl c4) rfl rfl ?_
      refine EvK.not (w_not rfl rfl c4) rfl rfl ?_
      refine EvK.not (w_not rfl rfl c4) rfl rfl ?_
      refine EvK.not (w_not rfl rfl c4) rfl rfl ?_
      refine EvK.not (w_not rfl rfl c4) rfl rfl ?_
      refine EvK.not (w_not rfl rfl c4) rfl rfl ?_
      refine EvK.not (w_not rfl rfl c4) rfl rfl ?_
      refine EvK.pure (v := .bool true) (w_none rfl) rfl rfl (f_pickT rfl rfl c4 rfl) ?_
      refine EvK.nil ?_
      exact KE.mk true ⟨rfl, rfl, rfl, rfl, trivial⟩ hF
    · refine EvK.pure (v := .int .i64 a1) (w_some rfl rfl c4) rfl rfl (f_move rfl rfl) ?_
      refine EvK.pure (v := .pointer a0) (w_some rfl rfl c4) rfl rfl (f_move rfl rfl) ?_
      obtain ⟨q8, hq7, hF⟩ := hF
      refine EvK.pure (v := .pointer (some q8)) (w_some rfl rfl c4) rfl rfl (f_nilCheck rfl (congrArg Value.pointer hq7)) ?_
      refine EvK.pure (v := .pointer (some (q8.add 1))) (w_some rfl rfl c4) rfl rfl (f_fieldAddr fd66_1 rfl rfl) ?_
      obtain ⟨x10, hx8, hF⟩ := hF
      refine EvK.read (v := Sl.val x10) (w_some rfl rfl c4) rfl rfl (f_load kL ty42 rfl rfl hx8 rfl) ?_
      refine EvK.pure (v := .int .i64 (x10.len : Int)) (w_some rfl rfl c4) rfl rfl (f_lenL (s := x10) Try.underlying42 rfl rfl) ?_
      refine EvK.pure (v := .bool (decide (a1 ≥ (x10.len : Int)))) (w_some rfl rfl c4) rfl rfl (f_geq rfl rfl rfl) ?_
      refine EvK.pure (v := .bool (decide (a1 ≥ (x10.len : Int)))) (w_none rfl) rfl rfl (f_pickF rfl rfl c4 rfl) ?_
      refine EvK.nil ?_
      exact KE.mk (decide (a1 ≥ (x10.len : Int))) ⟨rfl, rfl, rfl, rfl, trivial⟩ hF
end Go.Proofs.Ytanpaamamfabkaa

namespace Go.Proofs.Ytanpaamamfabkaa
open Go Go.Tr
set_option linter.unusedVariables false
set_option maxRecDepth 100000
set_option maxHeartbeats 400000
def spateref15_Hash.b1 (p0 : ByteArray) (s : Int × Int) (h : H) (K : (Int × Int) ⊕ Int → H → Prop) : Prop :=
  if (decide (s.2 < (p0.size : Int))) = true then
    rd (ixS p0 s.2) fun x1 =>
    K (.inl (IntKind.u64.wrap ((bitI .xor .u64 s.1 (IntKind.u64.wrap x1)) * 1099511628211), IntKind.i64.wrap (s.2 + 1))) h
  else
    K (.inr s.1) h
/-- spate/spateref15.Hash -/
def spateref15_Hash (a0 : ByteArray) (h : H) (Q : Int → H → Prop) : Prop :=
  jn (fun (k1 : Int → H → Prop) =>
    loopE (spateref15_Hash.b1 a0) (14695981039346656037, 0) h (fun r1 hh => k1 r1 hh)) fun s1 h1 =>
  Q s1 h1
theorem spateref15_Hash.sound {a0 : ByteArray} {h : H} {Q : Int → H → Prop} (hF : spateref15_Hash a0 h Q) :
    CallsH Try.prog 32 (List.toArray (α := Value) [.string a0]) h fun v h' => ∃ x : Int, v = .int .u64 x ∧ Q x h' := by
  refine CallsH.of_body Try.func32 rfl 19 rfl rfl ?_
  refine WP.seq ?_
  refine WP.region ?_
  refine EvK.pure (v := .int .u64 0) (w_none rfl) rfl rfl (f_assign rfl rfl) ?_
  refine EvK.nil ?_
  refine WP.seq ?_
  refine WP.region ?_
  refine EvK.pure (v := .int .u64 14695981039346656037) (w_none rfl) rfl rfl (f_assign rfl rfl) ?_
  refine EvK.nil ?_
  refine WP.joinF (fun (s1 : Int) => [(3, .int .u64 s1)]) hF ?_ ?_
  · intro s1 E0 h1 hF
    refine WP.seq ?_
    refine WP.region ?_
    refine EvK.pure (v := .int .u64 s1) (w_none rfl) rfl rfl (f_move rfl rfl) ?_
    refine EvK.pure (v := .int .u64 s1) (w_none rfl) rfl rfl (f_assign rfl rfl) ?_
    refine EvK.nil ?_
    refine WP.ret ?_
    exact Ret.mk (vs := [.int .u64 s1]) s1 ⟨rfl, trivial⟩ rfl hF
  · intro k1 hF
    refine WP.seq ?_
    refine WP.region ?_
    refine EvK.pure (v := .int .i64 0) (w_none rfl) rfl rfl (f_assign rfl rfl) ?_
    refine EvK.nil ?_
    refine WP.block ?_
    refine WP.loopF (fun (s2 : Int × Int) => [(3, .int .u64 s2.1), (4, .int .i64 s2.2), (0, .string a0)]) hF ⟨rfl, rfl, rfl, trivial⟩ ?_
    intro k2 s2 E0 h2 hF
    refine WP.seq ?_
    refine WP.seq ?_
    refine WP.region ?_
    refine EvK.pure (v := .int .i64 s2.2) (w_none rfl) rfl rfl (f_move rfl rfl) ?_
    refine EvK.pure (v := .string a0) (w_none rfl) rfl rfl (f_move rfl rfl) ?_
    refine EvK.pure (v := .int .i64 (a0.size : Int)) (w_none rfl) rfl rfl (f_lenS Try.underlying9 rfl rfl) ?_
    refine EvK.pure (v := .bool (decide (s2.2 < (a0.size : Int)))) (w_none rfl) rfl rfl (f_lss rfl rfl rfl) ?_
    refine EvK.nil ?_
    rcases ite_inv hF with ⟨c1, hF⟩ | ⟨c1, hF⟩
    · refine WP.cond_true _ rfl c1 ?_
      refine WP.skip ?_
      refine WP.seq ?_
      refine WP.block ?_
      refine WP.region ?_
      refine EvK.pure (v := .int .u64 s2.1) (w_none rfl) rfl rfl (f_move rfl rfl) ?_
      refine EvK.pure (v := .string a0) (w_none rfl) rfl rfl (f_move rfl rfl) ?_
      refine EvK.pure (v := .int .i64 s2.2) (w_none rfl) rfl rfl (f_move rfl rfl) ?_
      obtain ⟨x1, hx1, hF⟩ := hF
      refine EvK.pure (v := .int .u8 x1) (w_none rfl) rfl rfl (f_indexS Try.underlying9 rfl rfl rfl hx1) ?_
      refine EvK.pure (v := .int .u64 (IntKind.u64.wrap x1)) (w_none rfl) rfl rfl (f_convI Try.underlying5 Try.underlying72 rfl rfl) ?_
      refine EvK.pure (v := .int .u64 (bitI .xor .u64 s2.1 (IntKind.u64.wrap x1))) (w_none rfl) rfl rfl (f_xor rfl rfl rfl) ?_
      refine EvK.pure (v := .int .u64 (IntKind.u64.wrap ((bitI .xor .u64 s2.1 (IntKind.u64.wrap x1)) * 1099511628211))) (w_none rfl) rfl rfl (f_mul rfl rfl rfl) ?_
      refine EvK.pure (v := .int .u64 (IntKind.u64.wrap ((bitI .xor .u64 s2.1 (IntKind.u64.wrap x1)) * 1099511628211))) (w_none rfl) rfl rfl (f_assign rfl rfl) ?_
      refine EvK.nil ?_
      refine WP.region ?_
      refine EvK.pure (v := .int .i64 s2.2) (w_none rfl) rfl rfl (f_move rfl rfl) ?_
      refine EvK.pure (v := .int .i64 (IntKind.i64.wrap (s2.2 + 1))) (w_none rfl) rfl rfl (f_add rfl rfl rfl) ?_
      refine EvK.pure (v := .int .i64 (IntKind.i64.wrap (s2.2 + 1))) (w_none rfl) rfl rfl (f_assign rfl rfl) ?_
      refine EvK.nil ?_
      exact KE.mk (IntKind.u64.wrap ((bitI .xor .u64 s2.1 (IntKind.u64.wrap x1)) * 1099511628211), IntKind.i64.wrap (s2.2 + 1)) ⟨rfl, rfl, rfl, trivial⟩ hF
    · refine WP.cond_false _ rfl c1 ?_
      refine WP.exit ?_
      exact KE.mk s2.1 ⟨rfl, trivial⟩ hF
end Go.Proofs.Ytanpaamamfabkaa

namespace Go.Proofs.Ytanpaamamfabkaa
open Go Go.Tr
set_option linter.unusedVariables false
set_option maxRecDepth 100000
set_option maxHeartbeats 400000
/-- spate/spateref15.Operator -/
def spateref15_Operator (a0 : ByteArray) (a1 : Int) (h : H) (Q : Int → H → Prop) : Prop :=
  spateref15_Hash a0 h fun r1 h1 =>
  rd (shrI .u64 (IntKind.u64.wrap (r1 * 11400714819323198485)) 32) fun x1 =>
  rd (remI x1 (IntKind.u64.wrap a1)) fun x2 =>
  Q (IntKind.i64.wrap x2) h1
theorem spateref15_Operator.sound {a0 : ByteArray} {a1 : Int} {h : H} {Q : Int → H → Prop} (hF : spateref15_Operator a0 a1 h Q) :
    CallsH Try.prog 14 (List.toArray (α := Value) [.string a0, .int .i64 a1]) h fun v h' => ∃ x : Int, v = .int .i64 x ∧ Q x h' := by
  refine CallsH.of_body Try.func14 rfl 13 rfl rfl ?_
  refine WP.seq ?_
  refine WP.region ?_
  refine EvK.pure (v := .int .i64 0) (w_none rfl) rfl rfl (f_assign rfl rfl) ?_
  refine EvK.nil ?_
  refine WP.seq ?_
  refine WP.region ?_
  refine EvK.pure (v := .string a0) (w_none rfl) rfl rfl (f_move rfl rfl) ?_
  refine EvK.call (w_none rfl) rfl rfl (enterH Try.func32 rfl rfl rfl rfl (spateref15_Hash.sound hF)) ?_
  rintro _ h1 ⟨r1, rfl, hF⟩
  refine EvK.pure (v := .int .u64 (IntKind.u64.wrap (r1 * 11400714819323198485))) (w_none rfl) rfl rfl (f_mul rfl rfl rfl) ?_
  obtain ⟨x1, hx1, hF⟩ := hF
  refine EvK.pure (v := .int .u64 x1) (w_none rfl) rfl rfl (f_shr rfl rfl rfl hx1) ?_
  refine EvK.pure (v := .int .i64 a1) (w_none rfl) rfl rfl (f_move rfl rfl) ?_
  refine EvK.pure (v := .int .u64 (IntKind.u64.wrap a1)) (w_none rfl) rfl rfl (f_convI Try.underlying3 Try.underlying72 rfl rfl) ?_
  obtain ⟨x2, hx2, hF⟩ := hF
  refine EvK.pure (v := .int .u64 x2) (w_none rfl) rfl rfl (f_rem rfl rfl rfl hx2) ?_
  refine EvK.pure (v := .int .i64 (IntKind.i64.wrap x2)) (w_none rfl) rfl rfl (f_convI Try.underlying72 Try.underlying3 rfl rfl) ?_
  refine EvK.pure (v := .int .i64 (IntKind.i64.wrap x2)) (w_none rfl) rfl rfl (f_assign rfl rfl) ?_
  refine EvK.nil ?_
  refine WP.ret ?_
  exact Ret.mk (vs := [.int .i64 (IntKind.i64.wrap x2)]) (IntKind.i64.wrap x2) ⟨rfl, trivial⟩ rfl hF
end Go.Proofs.Ytanpaamamfabkaa

namespace Go.Proofs.Ytanpaamamfabkaa
open Go Go.Tr
set_option linter.unusedVariables false
set_option maxRecDepth 100000
set_option maxHeartbeats 400000
/-- (*spate/spateref15.Flow).Route -/
def spateref15_Flow_Route (a0 : Option Addr) (a1 : ByteArray) (h : H) (Q : Int → H → Prop) : Prop :=
  rd a0 fun q1 =>
  rd (ld kL (q1.add 2) h) fun x1 =>
  spateref15_Operator a1 (x1.len : Int) h fun r1 h1 =>
  Q r1 h1
theorem spateref15_Flow_Route.sound {a0 : Option Addr} {a1 : ByteArray} {h : H} {Q : Int → H → Prop} (hF : spateref15_Flow_Route a0 a1 h Q) :
    CallsH Try.prog 38 (List.toArray (α := Value) [.pointer a0, .string a1]) h fun v h' => ∃ x : Int, v = .int .i64 x ∧ Q x h' := by
  refine CallsH.of_body Try.func38 rfl 12 rfl rfl ?_
  refine WP.seq ?_
  refine WP.region ?_
  refine EvK.pure (v := .int .i64 0) (w_none rfl) rfl rfl (f_assign rfl rfl) ?_
  refine EvK.nil ?_
  refine WP.seq ?_
  refine WP.region ?_
  refine EvK.pure (v := .string a1) (w_none rfl) rfl rfl (f_move rfl rfl) ?_
  refine EvK.pure (v := .pointer a0) (w_none rfl) rfl rfl (f_move rfl rfl) ?_
  obtain ⟨q1, hq1, hF⟩ := hF
  refine EvK.pure (v := .pointer (some q1)) (w_none rfl) rfl rfl (f_nilCheck rfl (congrArg Value.pointer hq1)) ?_
  refine EvK.pure (v := .pointer (some (q1.add 2))) (w_none rfl) rfl rfl (f_fieldAddr fd66_2 rfl rfl) ?_
  obtain ⟨x1, hx1, hF⟩ := hF
  refine EvK.read (v := Sl.val x1) (w_none rfl) rfl rfl (f_load kL ty63 rfl rfl hx1 rfl) ?_
  refine EvK.pure (v := .int .i64 (x1.len : Int)) (w_none rfl) rfl rfl (f_lenL (s := x1) Try.underlying63 rfl rfl) ?_
  refine EvK.call (w_none rfl) rfl rfl (enterH Try.func14 rfl rfl rfl rfl (spateref15_Operator.sound hF)) ?_
  rintro _ h1 ⟨r1, rfl, hF⟩
  refine EvK.pure (v := .int .i64 r1) (w_none rfl) rfl rfl (f_assign rfl rfl) ?_
  refine EvK.nil ?_
  refine WP.ret ?_
  exact Ret.mk (vs := [.int .i64 r1]) r1 ⟨rfl, trivial⟩ rfl hF
end Go.Proofs.Ytanpaamamfabkaa

namespace Go.Proofs.Ytanpaamamfabkaa
open Go Go.Tr
set_option linter.unusedVariables false
set_option maxRecDepth 100000
set_option maxHeartbeats 400000
/-- (*spate/spateref15.Flow).Toward -/
def spateref15_Flow_Toward (a0 : Option Addr) (a1 : Int) (h : H) (Q : (Int × Int) → H → Prop) : Prop :=
  jn (fun (k1 : Bool → H → Prop) =>
    if (decide (a1 < 0)) = true then
      k1 true h
    else
      rd a0 fun q9 =>
      rd (ld kL (q9.add 1) h) fun x10 =>
      k1 (decide (a1 ≥ (x10.len : Int))) h) fun s1 h1 =>
  if s1 = true then
    Q (0, 1) h1
  else
    rd a0 fun q1 =>
    rd (ld kL (q1.add 1) h1) fun x1 =>
    rd (ixA 1 x1 a1) fun q2 =>
    rd (ld kL q2 h1) fun x2 =>
    if ((x2.len : Int) == 0) = true then
      Q (0, 44) h1
    else
      rd a0 fun q3 =>
      rd (ld kL (q3.add 1) h1) fun x3 =>
      rd (ixA 1 x3 a1) fun q4 =>
      rd (ld kL q4 h1) fun x4 =>
      rd (ixA 4 x4 0) fun q5 =>
      rd (ld k32 q5 h1) fun x5 =>
      al 33 (k32.enc z32) h1 fun q6 h2 =>
      rd (st k32 q6 x5 h2) fun h3 =>
      rd (ld kB (q6.add 0) h3) fun x6 =>
      if x6 = true then
        rd a0 fun q7 =>
        rd (ld kL (q7.add 3) h3) fun x7 =>
        rd (ixA 1 x7 a1) fun q8 =>
        rd (ld (kI .i64) q8 h3) fun x8 =>
        Q (x8, 0) h3
      else
        rd (ld kS (q6.add 1) h3) fun x9 =>
        spateref15_Flow_Route a0 x9 h3 fun r1 h4 =>
        Q (r1, 0) h4
theorem spateref15_Flow_Toward.sound {a0 : Option Addr} {a1 : Int} {h : H} {Q : (Int × Int) → H → Prop} (hF : spateref15_Flow_Toward a0 a1 h Q) :
    CallsH Try.prog 27 (List.toArray (α := Value) [.pointer a0, .int .i64 a1]) h fun v h' => ∃ x : Int × Int, v = .tuple #[.int .i64 x.1, .int .i64 x.2] ∧ Q x h' := by
  refine CallsH.of_body Try.func27 rfl 49 rfl rfl ?_
  refine WP.seq ?_
  refine WP.region ?_
  refine EvK.pure (v := .int .i64 0) (w_none rfl) rfl rfl (f_assign rfl rfl) ?_
  refine EvK.pure (v := .int .i64 0) (w_none rfl) rfl rfl (f_assign rfl rfl) ?_
  refine EvK.nil ?_
  refine WP.seq ?_
  refine WP.joinF (fun (s1 : Bool) => [(17, .bool s1), (0, .pointer a0), (1, .int .i64 a1)]) hF ?_ ?_
  · intro s1 E0 h1 hF
    rcases ite_inv hF with ⟨c1, hF⟩ | ⟨c1, hF⟩
    · refine WP.cond_true _ rfl c1 ?_
      refine WP.seq ?_
      refine WP.region ?_
      refine EvK.pure (v := .int .i64 0) (w_none rfl) rfl rfl (f_assign rfl rfl) ?_
      refine EvK.pure (v := .int .i64 1) (w_none rfl) rfl rfl (f_assign rfl rfl) ?_
      refine EvK.nil ?_
      refine WP.ret ?_
      exact Ret.mk (vs := [.int .i64 0, .int .i64 1]) (0, 1) ⟨rfl, rfl, trivial⟩ rfl hF
    · refine WP.cond_false _ rfl c1 ?_
      refine WP.skip ?_
      refine WP.seq ?_
      refine WP.seq ?_
      refine WP.region ?_
      refine EvK.pure (v := .pointer a0) (w_none rfl) rfl rfl (f_move rfl rfl) ?_
      obtain ⟨q1, hq1, hF⟩ := hF
      refine EvK.pure (v := .pointer (some q1)) (w_none rfl) rfl rfl (f_nilCheck rfl (congrArg Value.pointer hq1)) ?_
      refine EvK.pure (v := .pointer (some (q1.add 1))) (w_none rfl) rfl rfl (f_fieldAddr fd66_1 rfl rfl) ?_
      obtain ⟨x1, hx1, hF⟩ := hF
      refine EvK.read (v := Sl.val x1) (w_none rfl) rfl rfl (f_load kL ty42 rfl rfl hx1 rfl) ?_
      refine EvK.pure (v := .int .i64 a1) (w_none rfl) rfl rfl (f_move rfl rfl) ?_
      obtain ⟨q2, hq2, hF⟩ := hF
      refine EvK.pure (v := .pointer (some q2)) (w_none rfl) rfl rfl (f_indexAddr (s := x1) Try.underlying42 ty45.size rfl rfl rfl hq2) ?_
      obtain ⟨x2, hx2, hF⟩ := hF
      refine EvK.read (v := Sl.val x2) (w_none rfl) rfl rfl (f_load kL ty45 rfl rfl hx2 rfl) ?_
      refine EvK.pure (v := .int .i64 (x2.len : Int)) (w_none rfl) rfl rfl (f_lenL (s := x2) Try.underlying45 rfl rfl) ?_
      refine EvK.pure (v := .bool ((x2.len : Int) == 0)) (w_none rfl) rfl rfl (f_eql rfl rfl rfl) ?_
      refine EvK.nil ?_
      rcases ite_inv hF with ⟨c2, hF⟩ | ⟨c2, hF⟩
      · refine WP.cond_true _ rfl c2 ?_
        refine WP.seq ?_
        refine WP.region ?_
        refine EvK.pure (v := .int .i64 0) (w_none rfl) rfl rfl (f_assign rfl rfl) ?_
        refine EvK.pure (v := .int .i64 44) (w_none rfl) rfl rfl (f_assign rfl rfl) ?_
        refine EvK.nil ?_
        refine WP.ret ?_
        exact Ret.mk (vs := [.int .i64 0, .int .i64 44]) (0, 44) ⟨rfl, rfl, trivial⟩ rfl hF
      · refine WP.cond_false _ rfl c2 ?_
        refine WP.skip ?_
        refine WP.seq ?_
        refine WP.region ?_
        refine EvK.pure (v := .pointer a0) (w_none rfl) rfl rfl (f_move rfl rfl) ?_
        obtain ⟨q3, hq3, hF⟩ := hF
        refine EvK.pure (v := .pointer (some q3)) (w_none rfl) rfl rfl (f_nilCheck rfl (congrArg Value.pointer hq3)) ?_
        refine EvK.pure (v := .pointer (some (q3.add 1))) (w_none rfl) rfl rfl (f_fieldAddr fd66_1 rfl rfl) ?_
        obtain ⟨x3, hx3, hF⟩ := hF
        refine EvK.read (v := Sl.val x3) (w_none rfl) rfl rfl (f_load kL ty42 rfl rfl hx3 rfl) ?_
        refine EvK.pure (v := .int .i64 a1) (w_none rfl) rfl rfl (f_move rfl rfl) ?_
        obtain ⟨q4, hq4, hF⟩ := hF
        refine EvK.pure (v := .pointer (some q4)) (w_none rfl) rfl rfl (f_indexAddr (s := x3) Try.underlying42 ty45.size rfl rfl rfl hq4) ?_
        obtain ⟨x4, hx4, hF⟩ := hF
        refine EvK.read (v := Sl.val x4) (w_none rfl) rfl rfl (f_load kL ty45 rfl rfl hx4 rfl) ?_
        obtain ⟨q5, hq5, hF⟩ := hF
        refine EvK.pure (v := .pointer (some q5)) (w_none rfl) rfl rfl (f_indexAddr (s := x4) Try.underlying45 ty33.size rfl rfl rfl hq5) ?_
        obtain ⟨x5, hx5, hF⟩ := hF
        refine EvK.read (v := k32.val x5) (w_none rfl) rfl rfl (f_load k32 ty33 rfl rfl hx5 rfl) ?_
        refine EvK.alloc (w_none rfl) rfl rfl (f_allocF zero33 rfl rfl hF) ?_
        rintro _ h2 ⟨q6, rfl, hF⟩
        obtain ⟨h3, hs1, hF⟩ := hF
        refine EvK.runN (w_none rfl) rfl (f_store k32 ty33.size (z := x5) rfl rfl rfl hs1) ?_
        rintro _ _ ⟨rfl, rfl⟩
        refine EvK.nil ?_
        refine WP.seq ?_
        refine WP.seq ?_
        refine WP.region ?_
        refine EvK.pure (v := .pointer (some (q6.add 0))) (w_none rfl) rfl rfl (f_fieldAddr fd33_0 rfl rfl) ?_
        obtain ⟨x6, hx6, hF⟩ := hF
        refine EvK.read (v := .bool x6) (w_none rfl) rfl rfl (f_load kB ty4 rfl rfl hx6 rfl) ?_
        refine EvK.nil ?_
        rcases ite_inv hF with ⟨c3, hF⟩ | ⟨c3, hF⟩
        · refine WP.cond_true _ rfl c3 ?_
          refine WP.seq ?_
          refine WP.region ?_
          refine EvK.pure (v := .pointer a0) (w_none rfl) rfl rfl (f_move rfl rfl) ?_
          obtain ⟨q7, hq6, hF⟩ := hF
          refine EvK.pure (v := .pointer (some q7)) (w_none rfl) rfl rfl (f_nilCheck rfl (congrArg Value.pointer hq6)) ?_
          refine EvK.pure (v := .pointer (some (q7.add 3))) (w_none rfl) rfl rfl (f_fieldAddr fd66_3 rfl rfl) ?_
          obtain ⟨x7, hx7, hF⟩ := hF
          refine EvK.read (v := Sl.val x7) (w_none rfl) rfl rfl (f_load kL ty64 rfl rfl hx7 rfl) ?_
          refine EvK.pure (v := .int .i64 a1) (w_none rfl) rfl rfl (f_move rfl rfl) ?_
          obtain ⟨q8, hq7, hF⟩ := hF
          refine EvK.pure (v := .pointer (some q8)) (w_none rfl) rfl rfl (f_indexAddr (s := x7) Try.underlying64 ty3.size rfl rfl rfl hq7) ?_
          obtain ⟨x8, hx8, hF⟩ := hF
          refine EvK.read (v := .int .i64 x8) (w_none rfl) rfl rfl (f_load (kI .i64) ty3 rfl rfl hx8 rfl) ?_
          refine EvK.pure (v := .int .i64 x8) (w_none rfl) rfl rfl (f_assign rfl rfl) ?_
          refine EvK.pure (v := .int .i64 0) (w_none rfl) rfl rfl (f_assign rfl rfl) ?_
          refine EvK.nil ?_
          refine WP.ret ?_
          exact Ret.mk (vs := [.int .i64 x8, .int .i64 0]) (x8, 0) ⟨rfl, rfl, trivial⟩ rfl hF
        · refine WP.cond_false _ rfl c3 ?_
          refine WP.skip ?_
          refine WP.seq ?_
          refine WP.region ?_
          refine EvK.pure (v := .pointer a0) (w_none rfl) rfl rfl (f_move rfl rfl) ?_
          refine EvK.pure (v := .pointer (some (q6.add 1))) (w_none rfl) rfl rfl (f_fieldAddr fd33_1 rfl rfl) ?_
          obtain ⟨x9, hx9, hF⟩ := hF
          refine EvK.read (v := .string x9) (w_none rfl) rfl rfl (f_load kS ty9 rfl rfl hx9 rfl) ?_
          refine EvK.call (w_none rfl) rfl rfl (enterH Try.func38 rfl rfl rfl rfl (spateref15_Flow_Route.sound hF)) ?_
          rintro _ h4 ⟨r1, rfl, hF⟩
          refine EvK.pure (v := .int .i64 r1) (w_none rfl) rfl rfl (f_assign rfl rfl) ?_
          refine EvK.pure (v := .int .i64 0) (w_none rfl) rfl rfl (f_assign rfl rfl) ?_
          refine EvK.nil ?_
          refine WP.ret ?_
          exact Ret.mk (vs := [.int .i64 r1, .int .i64 0]) (r1, 0) ⟨rfl, rfl, trivial⟩ rfl hF
  · intro k1 hF
    refine WP.region ?_
    refine EvK.pure (v := .int .i64 a1) (w_none rfl) rfl rfl (f_move rfl rfl) ?_
    refine EvK.pure (v := .bool (decide (a1 < 0))) (w_none rfl) rfl rfl (f_lss rfl rfl rfl) ?_
    refine EvK.pure (v := .bool (decide (a1 < 0))) (w_none rfl) rfl rfl (f_move rfl rfl) ?_
    rcases ite_inv hF with ⟨c4, hF⟩ | ⟨c4, hF⟩
    · refine EvK.not (w_not rfl rfl c4) rfl rfl ?_
      refine EvK.not (w_not rfl rfl c4) rfl rfl ?_
      refine EvK.not (w_not rfl rfl c4) rfl rfl ?_
      refine EvK.not (w_not rfl rfl c4) rfl rfl ?_
      refine EvK.not (w_not rfl rfl c4) rfl rfl ?_
      refine EvK.not (w_not rfl rfl c4) rfl rfl ?_
      refine EvK.not (w_not rfl rfl c4) rfl rfl ?_
      refine EvK.pure (v := .bool true) (w_none rfl) rfl rfl (f_pickT rfl rfl c4 rfl) ?_
      refine EvK.nil ?_
      exact KE.mk true ⟨rfl, rfl, rfl, trivial⟩ hF
    · refine EvK.pure (v := .int .i64 a1) (w_some rfl rfl c4) rfl rfl (f_move rfl rfl) ?_
      refine EvK.pure (v := .pointer a0) (w_some rfl rfl c4) rfl rfl (f_move rfl rfl) ?_
      obtain ⟨q9, hq8, hF⟩ := hF
      refine EvK.pure (v := .pointer (some q9)) (w_some rfl rfl c4) rfl rfl (f_nilCheck rfl (congrArg Value.pointer hq8)) ?_
      refine EvK.pure (v := .pointer (some (q9.add 1))) (w_some rfl rfl c4) rfl rfl (f_fieldAddr fd66_1 rfl rfl) ?_
      obtain ⟨x10, hx10, hF⟩ := hF
      refine EvK.read (v := Sl.val x10) (w_some rfl rfl c4) rfl rfl (f_load kL ty42 rfl rfl hx10 rfl) ?_
      refine EvK.pure (v := .int .i64 (x10.len : Int)) (w_some rfl rfl c4) rfl rfl (f_lenL (s := x10) Try.underlying42 rfl rfl) ?_
      refine EvK.pure (v := .bool (decide (a1 ≥ (x10.len : Int)))) (w_some rfl rfl c4) rfl rfl (f_geq rfl rfl rfl) ?_
      refine EvK.pure (v := .bool (decide (a1 ≥ (x10.len : Int)))) (w_none rfl) rfl rfl (f_pickF rfl rfl c4 rfl) ?_
      refine EvK.nil ?_
      exact KE.mk (decide (a1 ≥ (x10.len : Int))) ⟨rfl, rfl, rfl, trivial⟩ hF
end Go.Proofs.Ytanpaamamfabkaa
