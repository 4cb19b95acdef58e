/- spate/spatelaw12.right, as a predicate over the heap, and that the code comes to it. Printed by gen.py. -/
import Derived.Test.YtomngllmnhdmlaaB0
namespace Go.Proofs.Ytomngllmnhdmlaa
open Go Go.Tr
set_option linter.unusedVariables false
set_option maxRecDepth 100000
set_option maxHeartbeats 400000
def spatelaw12_right.b1 (p0 : Sl) (p4 : Option Nat) (s : Sl × Int) (h : H) (K : (Sl × Int) ⊕ Sl → H → Prop) : Prop :=
  if (decide (s.2 < (p0.len : Int))) = true then
    rd (ixA 2 p0 s.2) fun q1 =>
    rd (ld (kI .i64) (q1.add 0) h) fun x3 =>
    rd (remI x3 16) fun x4 =>
    jn (fun (k2 : Int → H → Prop) =>
      if (decide (x4 < 0)) = true then
        k2 (IntKind.i64.wrap (0 - x4)) h
      else
        k2 x4 h) fun s2 h4 =>
    jn (fun (k3 : Sl → H → Prop) =>
      rd (mlk kB false .i64 p4 s2 h4) fun x5 =>
      if (!x5.1) = true then
        rd (ixA 2 p0 s.2) fun q2 =>
        rd (ld kB (q2.add 1) h4) fun x6 =>
        bs 45 1 (k44.enc (S44.mk s2 x6)) h4 fun x7 h7 =>
        ap k44.n 16 45 (k44.enc z44) s.1 x7 h7 fun x8 h8 =>
        k3 x8 h8
      else
        k3 s.1 h4) fun s3 h5 =>
    rd (mup kB .i64 p4 s2 true h5) fun h6 =>
    K (.inl (s3, IntKind.i64.wrap (s.2 + 1))) h6
  else
    K (.inr s.1) h
/-- spate/spatelaw12.right -/
def spatelaw12_right (a0 : Sl) (h : H) (Q : Sl → H → Prop) : Prop :=
  mmk h fun x1 h1 =>
  jn (fun (k1 : Sl → H → Prop) =>
    loopE (spatelaw12_right.b1 a0 x1) (Sl.nil, 0) h1 (fun r1 hh => k1 r1 hh)) fun s1 h2 =>
  if ((s1.len : Int) == 0) = true then
    bs 45 1 (k44.enc (S44.mk 0 false)) h2 fun x2 h3 =>
    Q x2 h3
  else
    Q s1 h2
theorem spatelaw12_right.sound {a0 : Sl} {h : H} {Q : Sl → H → Prop} (hF : spatelaw12_right a0 h Q) :
    CallsH Try.prog 20 (List.toArray (α := Value) [Sl.val a0]) h fun v h' => ∃ x : Sl, v = Sl.val x ∧ Q x h' := by
  refine CallsH.of_body Try.func20 rfl 46 rfl rfl ?_
  refine WP.seq ?_
  refine WP.region ?_
  refine EvK.pure (v := Sl.val Sl.nil) (w_none rfl) rfl rfl (f_assign rfl rfl) ?_
  refine EvK.nil ?_
  refine WP.seq ?_
  refine WP.region ?_
  refine EvK.pure (v := Sl.val Sl.nil) (w_none rfl) rfl rfl (f_assign rfl rfl) ?_
  refine EvK.nil ?_
  refine WP.seq ?_
  refine WP.region ?_
  refine EvK.alloc (w_none rfl) rfl rfl (f_makeMap rfl hF) ?_
  rintro _ h1 ⟨x1, rfl, hF⟩
  refine EvK.pure (v := .map x1) (w_none rfl) rfl rfl (f_assign rfl rfl) ?_
  refine EvK.nil ?_
  refine WP.joinF (fun (s1 : Sl) => [(3, Sl.val s1)]) hF ?_ ?_
  · intro s1 E0 h2 hF
    refine WP.seq ?_
    refine WP.seq ?_
    refine WP.region ?_
    refine EvK.pure (v := Sl.val s1) (w_none rfl) rfl rfl (f_move rfl rfl) ?_
    refine EvK.pure (v := .int .i64 (s1.len : Int)) (w_none rfl) rfl rfl (f_lenL (s := s1) Try.underlying46 rfl rfl) ?_
    refine EvK.pure (v := .bool ((s1.len : Int) == 0)) (w_none rfl) rfl rfl (f_eql rfl rfl rfl) ?_
    refine EvK.nil ?_
    rcases ite_inv hF with ⟨c1, hF⟩ | ⟨c1, hF⟩
    · refine WP.cond_true _ rfl c1 ?_
      refine WP.seq ?_
      refine WP.region ?_
      refine EvK.pure (v := k44.val (S44.mk 0 false)) (w_none rfl) rfl rfl (f_build (cells := k44.enc (S44.mk 0 false)) st45 rfl rfl rfl) ?_
      refine EvK.alloc (w_none rfl) rfl rfl (f_buildSliceF Try.underlying46 el45 (by decide) rfl rfl rfl hF) ?_
      rintro _ h3 ⟨x2, rfl, hF⟩
      refine EvK.pure (v := Sl.val x2) (w_none rfl) rfl rfl (f_assign rfl rfl) ?_
      refine EvK.nil ?_
      refine WP.ret ?_
      exact Ret.mk (vs := [Sl.val x2]) x2 ⟨rfl, trivial⟩ rfl hF
    · refine WP.cond_false _ rfl c1 ?_
      refine WP.skip ?_
      refine WP.seq ?_
      refine WP.region ?_
      refine EvK.pure (v := Sl.val s1) (w_none rfl) rfl rfl (f_move rfl rfl) ?_
      refine EvK.pure (v := Sl.val s1) (w_none rfl) rfl rfl (f_assign rfl rfl) ?_
      refine EvK.nil ?_
      refine WP.ret ?_
      exact Ret.mk (vs := [Sl.val s1]) s1 ⟨rfl, trivial⟩ rfl hF
  · intro k1 hF
    refine WP.seq ?_
    refine WP.region ?_
    refine EvK.pure (v := .int .i64 0) (w_none rfl) rfl rfl (f_assign rfl rfl) ?_
    refine EvK.nil ?_
    refine WP.block ?_
    refine WP.loopF (fun (s2 : Sl × Int) => [(3, Sl.val s2.1), (5, .int .i64 s2.2), (0, Sl.val a0), (4, .map x1)]) hF ⟨rfl, rfl, rfl, rfl, trivial⟩ ?_
    intro k2 s2 E0 h4 hF
    refine WP.seq ?_
    refine WP.seq ?_
    refine WP.region ?_
    refine EvK.pure (v := .int .i64 s2.2) (w_none rfl) rfl rfl (f_move rfl rfl) ?_
    refine EvK.pure (v := Sl.val a0) (w_none rfl) rfl rfl (f_move rfl rfl) ?_
    refine EvK.pure (v := .int .i64 (a0.len : Int)) (w_none rfl) rfl rfl (f_lenL (s := a0) Try.underlying46 rfl rfl) ?_
    refine EvK.pure (v := .bool (decide (s2.2 < (a0.len : Int)))) (w_none rfl) rfl rfl (f_lss rfl rfl rfl) ?_
    refine EvK.nil ?_
    rcases ite_inv hF with ⟨c2, hF⟩ | ⟨c2, hF⟩
    · refine WP.cond_true _ rfl c2 ?_
      refine WP.skip ?_
      refine WP.seq ?_
      refine WP.block ?_
      refine WP.seq ?_
      refine WP.region ?_
      refine EvK.pure (v := Sl.val a0) (w_none rfl) rfl rfl (f_move rfl rfl) ?_
      refine EvK.pure (v := .int .i64 s2.2) (w_none rfl) rfl rfl (f_move rfl rfl) ?_
      obtain ⟨q1, hq1, hF⟩ := hF
      refine EvK.pure (v := .pointer (some q1)) (w_none rfl) rfl rfl (f_indexAddr (s := a0) Try.underlying46 ty45.size rfl rfl rfl hq1) ?_
      refine EvK.pure (v := .pointer (some (q1.add 0))) (w_none rfl) rfl rfl (f_fieldAddr fd45_0 rfl rfl) ?_
      obtain ⟨x3, hx1, hF⟩ := hF
      refine EvK.read (v := .int .i64 x3) (w_none rfl) rfl rfl (f_load (kI .i64) ty3 rfl rfl hx1 rfl) ?_
      obtain ⟨x4, hx2, hF⟩ := hF
      refine EvK.pure (v := .int .i64 x4) (w_none rfl) rfl rfl (f_rem rfl rfl rfl hx2) ?_
      refine EvK.pure (v := .int .i64 x4) (w_none rfl) rfl rfl (f_assign rfl rfl) ?_
      refine EvK.nil ?_
      refine WP.joinF (fun (s3 : Int) => [(6, .int .i64 s3), (0, Sl.val a0), (3, Sl.val s2.1), (4, .map x1), (5, .int .i64 s2.2)]) hF ?_ ?_
      · intro s3 E0 h5 hF
        refine WP.joinF (fun (s4 : Sl) => [(3, Sl.val s4), (0, Sl.val a0), (4, .map x1), (5, .int .i64 s2.2), (6, .int .i64 s3)]) hF ?_ ?_
        · intro s4 E0 h6 hF
          refine WP.region ?_
          refine EvK.pure (v := .map x1) (w_none rfl) rfl rfl (f_move rfl rfl) ?_
          refine EvK.pure (v := .int .i64 s3) (w_none rfl) rfl rfl (f_move rfl rfl) ?_
          obtain ⟨h7, hs1, hF⟩ := hF
          refine EvK.runN (w_none rfl) rfl (f_mapUpdate (K := kB) (x := true) mt85 rfl rfl rfl rfl hs1) ?_
          rintro _ _ ⟨rfl, rfl⟩
          refine EvK.nil ?_
          refine WP.region ?_
          refine EvK.pure (v := .int .i64 s2.2) (w_none rfl) rfl rfl (f_move rfl rfl) ?_
          refine EvK.pure (v := .int .i64 (IntKind.i64.wrap (s2.2 + 1))) (w_none rfl) rfl rfl (f_add rfl rfl rfl) ?_
          refine EvK.pure (v := .int .i64 (IntKind.i64.wrap (s2.2 + 1))) (w_none rfl) rfl rfl (f_assign rfl rfl) ?_
          refine EvK.nil ?_
          exact KE.mk (s4, IntKind.i64.wrap (s2.2 + 1)) ⟨rfl, rfl, rfl, rfl, trivial⟩ hF
        · intro k4 hF
          refine WP.seq ?_
          refine WP.region ?_
          refine EvK.pure (v := .map x1) (w_none rfl) rfl rfl (f_move rfl rfl) ?_
          refine EvK.pure (v := .int .i64 s3) (w_none rfl) rfl rfl (f_move rfl rfl) ?_
          obtain ⟨x5, hx3, hF⟩ := hF
          refine EvK.read (v := .bool x5.1) (w_none rfl) rfl rfl (f_lookup (K := kB) (z := false) rfl mt85 zero4 rfl rfl rfl hx3) ?_
          refine EvK.pure (v := .bool (!x5.1)) (w_none rfl) rfl rfl (f_not rfl rfl) ?_
          refine EvK.nil ?_
          rcases ite_inv hF with ⟨c3, hF⟩ | ⟨c3, hF⟩
          · refine WP.cond_true _ rfl c3 ?_
            refine WP.region ?_
            refine EvK.pure (v := Sl.val s2.1) (w_none rfl) rfl rfl (f_move rfl rfl) ?_
            refine EvK.pure (v := .int .i64 s3) (w_none rfl) rfl rfl (f_move rfl rfl) ?_
            refine EvK.pure (v := Sl.val a0) (w_none rfl) rfl rfl (f_move rfl rfl) ?_
            refine EvK.pure (v := .int .i64 s2.2) (w_none rfl) rfl rfl (f_move rfl rfl) ?_
            obtain ⟨q2, hq2, hF⟩ := hF
            refine EvK.pure (v := .pointer (some q2)) (w_none rfl) rfl rfl (f_indexAddr (s := a0) Try.underlying46 ty45.size rfl rfl rfl hq2) ?_
            refine EvK.pure (v := .pointer (some (q2.add 1))) (w_none rfl) rfl rfl (f_fieldAddr fd45_1 rfl rfl) ?_
            obtain ⟨x6, hx4, hF⟩ := hF
            refine EvK.read (v := .bool x6) (w_none rfl) rfl rfl (f_load kB ty4 rfl rfl hx4 rfl) ?_
            refine EvK.pure (v := k44.val (S44.mk s3 x6)) (w_none rfl) rfl rfl (f_build (cells := k44.enc (S44.mk s3 x6)) st45 rfl rfl rfl) ?_
            refine EvK.alloc (w_none rfl) rfl rfl (f_buildSliceF Try.underlying46 el45 (by decide) rfl rfl rfl hF) ?_
            rintro _ h8 ⟨x7, rfl, hF⟩
            refine EvK.run (w_none rfl) rfl rfl (f_appendE (s := s2.1) (x := x7) Try.underlying46 el45 rfl rfl rfl hF) ?_
            rintro _ h9 ⟨x8, rfl, hF⟩
            refine EvK.pure (v := Sl.val x8) (w_none rfl) rfl rfl (f_assign rfl rfl) ?_
            refine EvK.nil ?_
            exact KE.mk x8 ⟨rfl, rfl, rfl, rfl, rfl, trivial⟩ hF
          · refine WP.cond_false _ rfl c3 ?_
            refine WP.skip ?_
            exact KE.mk s2.1 ⟨rfl, rfl, rfl, rfl, rfl, trivial⟩ hF
      · intro k3 hF
        refine WP.seq ?_
        refine WP.region ?_
        refine EvK.pure (v := .int .i64 x4) (w_none rfl) rfl rfl (f_move rfl rfl) ?_
        refine EvK.pure (v := .bool (decide (x4 < 0))) (w_none rfl) rfl rfl (f_lss rfl rfl rfl) ?_
        refine EvK.nil ?_
        rcases ite_inv hF with ⟨c4, hF⟩ | ⟨c4, hF⟩
        · refine WP.cond_true _ rfl c4 ?_
          refine WP.region ?_
          refine EvK.pure (v := .int .i64 x4) (w_none rfl) rfl rfl (f_move rfl rfl) ?_
          refine EvK.pure (v := .int .i64 (IntKind.i64.wrap (0 - x4))) (w_none rfl) rfl rfl (f_sub rfl rfl rfl) ?_
          refine EvK.pure (v := .int .i64 (IntKind.i64.wrap (0 - x4))) (w_none rfl) rfl rfl (f_assign rfl rfl) ?_
          refine EvK.nil ?_
          exact KE.mk (IntKind.i64.wrap (0 - x4)) ⟨rfl, rfl, rfl, rfl, rfl, trivial⟩ hF
        · refine WP.cond_false _ rfl c4 ?_
          refine WP.skip ?_
          exact KE.mk x4 ⟨rfl, rfl, rfl, rfl, rfl, trivial⟩ hF
    · refine WP.cond_false _ rfl c2 ?_
      refine WP.exit ?_
      exact KE.mk s2.1 ⟨rfl, trivial⟩ hF
end Go.Proofs.Ytomngllmnhdmlaa
