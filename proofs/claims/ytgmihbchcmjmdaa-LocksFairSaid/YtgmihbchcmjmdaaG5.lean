/- Functions as predicates over the heap, and that the code comes to them. Printed by gen.py, merged by group.py. -/
import Derived.Test.YtgmihbchcmjmdaaG3
import Derived.Test.YtgmihbchcmjmdaaG4
import Derived.Test.YtgmihbchcmjmdaaHand
import Derived.Test.YtgmihbchcmjmdaaTy
namespace Go.Proofs.Ytgmihbchcmjmdaa
open Go Go.Tr
set_option linter.unusedVariables false
set_option maxRecDepth 100000
set_option maxHeartbeats 400000
def spateref11_conflicts.b1 (p0 : Sl) (p3 : Addr) (s : Int) (h : H) (K : Int ⊕ (Unit ⊕ Bool) → H → Prop) : Prop :=
  if (decide (s < (p0.len : Int))) = true then
    rd (ixA 2 p0 s) fun q2 =>
    rd (ld k98 q2 h) fun x1 =>
    rd (ld k98 p3 h) fun x2 =>
    spateref11_conflict x1 x2 h fun r1 h3 =>
    if r1 = true then
      K (.inr (.inr true)) h3
    else
      K (.inl (IntKind.i64.wrap (s + 1))) h3
  else
    K (.inr (.inl ())) h
/-- spate/spateref11.conflicts -/
def spateref11_conflicts (a0 : Sl) (a1 : S98) (h : H) (Q : Bool → H → Prop) : Prop :=
  al 99 (k98.enc a1) h fun q1 h1 =>
  jn (fun (k1 : Unit → H → Prop) =>
    loopE (spateref11_conflicts.b1 a0 q1) 0 h1 (sumK (fun r2 hh => k1 r2 hh) (fun r3 hh => Q r3 hh))) fun s1 h2 =>
  Q false h2
theorem spateref11_conflicts.sound {a0 : Sl} {a1 : S98} {h : H} {Q : Bool → H → Prop} (hF : spateref11_conflicts a0 a1 h Q) :
    CallsH Try.prog 60 (List.toArray (α := Value) [Sl.val a0, k98.val a1]) h fun v h' => ∃ x : Bool, v = .bool x ∧ Q x h' := by
  refine CallsH.of_body Try.func60 rfl 18 rfl rfl ?_
  refine WP.seq ?_
  refine WP.region ?_
  refine EvK.alloc (w_none rfl) rfl rfl (f_boxF (v := k98.val a1) rfl rfl rfl hF) ?_
  rintro _ h1 ⟨q1, rfl, hF⟩
  refine EvK.pure (v := .bool false) (w_none rfl) rfl rfl (f_assign rfl rfl) ?_
  refine EvK.nil ?_
  refine WP.joinF (fun (s1 : Unit) => []) hF ?_ ?_
  · intro s1 E0 h2 hF
    refine WP.seq ?_
    refine WP.region ?_
    refine EvK.pure (v := .bool false) (w_none rfl) rfl rfl (f_assign rfl rfl) ?_
    refine EvK.nil ?_
    refine WP.ret ?_
    exact Ret.mk (vs := [.bool false]) false ⟨rfl, trivial⟩ rfl hF
  · intro k1 hF
    refine WP.seq ?_
    refine WP.region ?_
    refine EvK.pure (v := .int .i64 0) (w_none rfl) rfl rfl (f_assign rfl rfl) ?_
    refine EvK.nil ?_
    refine WP.block ?_
    refine WP.loopF (fun (s2 : Int) => [(5, .int .i64 s2), (0, Sl.val a0), (3, .pointer (some q1))]) hF ⟨rfl, rfl, rfl, trivial⟩ ?_
    intro k2 s2 E0 h3 hF
    refine WP.seq ?_
    refine WP.seq ?_
    refine WP.region ?_
    refine EvK.pure (v := .int .i64 s2) (w_none rfl) rfl rfl (f_move rfl rfl) ?_
    refine EvK.pure (v := Sl.val a0) (w_none rfl) rfl rfl (f_move rfl rfl) ?_
    refine EvK.pure (v := .int .i64 (a0.len : Int)) (w_none rfl) rfl rfl (f_lenL (s := a0) Try.underlying91 rfl rfl) ?_
    refine EvK.pure (v := .bool (decide (s2 < (a0.len : Int)))) (w_none rfl) rfl rfl (f_lss rfl rfl rfl) ?_
    refine EvK.nil ?_
    rcases ite_inv hF with ⟨c1, hF⟩ | ⟨c1, hF⟩
    · refine WP.cond_true _ rfl c1 ?_
      refine WP.skip ?_
      refine WP.seq ?_
      refine WP.block ?_
      refine WP.seq ?_
      refine WP.draw mixed [.pure, .pure, .pure, .read, .read, .eff []] [[], [], [0, 1], [0, 1, 2], [], [0, 1, 2, 3, 4]] [0, 1, 2, 3, 4, 5] (by kernel_rfl) (by kernel_rfl) ?_
      refine EvI.pure (v := Sl.val a0) rfl rfl (w_none rfl) rfl (f_move rfl rfl) ?_
      refine EvI.pure (v := .int .i64 s2) rfl rfl (w_none rfl) rfl (f_move rfl rfl) ?_
      obtain ⟨q2, hq1, hF⟩ := hF
      refine EvI.pure (v := .pointer (some q2)) rfl rfl (w_none rfl) rfl (f_indexAddr (s := a0) Try.underlying91 ty99.size rfl rfl rfl hq1) ?_
      obtain ⟨x1, hx1, hF⟩ := hF
      refine EvI.read (v := k98.val x1) rfl rfl (w_none rfl) rfl (f_load k98 ty99 rfl rfl hx1 rfl) ?_
      obtain ⟨x2, hx2, hF⟩ := hF
      refine EvI.read (v := k98.val x2) rfl rfl (w_none rfl) rfl (f_load k98 ty99 rfl rfl hx2 rfl) ?_
      refine EvI.call rfl rfl (w_none rfl) rfl (enterH Try.func61 rfl rfl rfl rfl (spateref11_conflict.sound hF)) ?_
      rintro _ h4 ⟨r1, rfl, hF⟩
      refine ⟨⟨chk_no rfl, chk_no rfl, trivial⟩, ?_⟩
      refine EvI.nil ?_
      rcases ite_inv hF with ⟨c2, hF⟩ | ⟨c2, hF⟩
      · refine WP.cond_true _ rfl c2 ?_
        refine WP.seq ?_
        refine WP.region ?_
        refine EvK.pure (v := .bool true) (w_none rfl) rfl rfl (f_assign rfl rfl) ?_
        refine EvK.nil ?_
        refine WP.ret ?_
        exact Ret.mk (vs := [.bool true]) true ⟨rfl, trivial⟩ rfl hF
      · refine WP.cond_false _ rfl c2 ?_
        refine WP.skip ?_
        refine WP.region ?_
        refine EvK.pure (v := .int .i64 s2) (w_none rfl) rfl rfl (f_move rfl rfl) ?_
        refine EvK.pure (v := .int .i64 (IntKind.i64.wrap (s2 + 1))) (w_none rfl) rfl rfl (f_add rfl rfl rfl) ?_
        refine EvK.pure (v := .int .i64 (IntKind.i64.wrap (s2 + 1))) (w_none rfl) rfl rfl (f_assign rfl rfl) ?_
        refine EvK.nil ?_
        exact KE.mk (IntKind.i64.wrap (s2 + 1)) ⟨rfl, rfl, rfl, trivial⟩ hF
    · refine WP.cond_false _ rfl c1 ?_
      refine WP.exit ?_
      exact KE.mk () trivial hF
end Go.Proofs.Ytgmihbchcmjmdaa

namespace Go.Proofs.Ytgmihbchcmjmdaa
open Go Go.Tr
set_option linter.unusedVariables false
set_option maxRecDepth 100000
set_option maxHeartbeats 400000
def spateref11_Manager_through.b1 (p0 : Option Addr) (s : Sl × Sl × Int) (h : H) (K : (Sl × Sl × Int) ⊕ (Sl × Sl) → H → Prop) : Prop :=
  rd p0 fun q2 =>
  rd (ld kL (q2.add 2) h) fun x1 =>
  if (decide (s.2.2 < (x1.len : Int))) = true then
    jn (fun (k2 : (Sl × Sl) → H → Prop) =>
      rd p0 fun q3 =>
      rd (ld kL (q3.add 2) h) fun x2 =>
      rd (ixA 2 x2 s.2.2) fun q4 =>
      rd (ld k98 q4 h) fun x3 =>
      al 99 (k98.enc z98) h fun q5 h4 =>
      rd (st k98 q5 x3 h4) fun h5 =>
      jn (fun (k3 : Bool → H → Prop) =>
        rd p0 fun q8 =>
        rd (ld kL (q8.add 1) h5) fun x14 =>
        rd (ld k98 q5 h5) fun x15 =>
        spateref11_conflicts x14 x15 h5 fun r1 h14 =>
        if r1 = true then
          k3 true h14
        else
          rd (ld k98 q5 h14) fun x16 =>
          spateref11_conflicts s.2.1 x16 h14 fun r2 h15 =>
          k3 r2 h15) fun s3 h6 =>
      if s3 = true then
        rd (ld k98 q5 h6) fun x4 =>
        bs 99 1 (k98.enc x4) h6 fun x5 h7 =>
        ap k98.n 32 99 (k98.enc z98) s.2.1 x5 h7 fun x6 h8 =>
        k2 (s.1, x6) h8
      else
        rd p0 fun q6 =>
        rd (ld kL (q6.add 1) h6) fun x7 =>
        rd (ld k98 q5 h6) fun x8 =>
        bs 99 1 (k98.enc x8) h6 fun x9 h9 =>
        ap k98.n 32 99 (k98.enc z98) x7 x9 h9 fun x10 h10 =>
        rd p0 fun q7 =>
        rd (st kL (q7.add 1) x10 h10) fun h11 =>
        rd (ld (kI .i64) (q5.add 0) h11) fun x11 =>
        bs 3 1 ((kI .i64).enc x11) h11 fun x12 h12 =>
        ap (kI .i64).n 8 3 ((kI .i64).enc 0) s.1 x12 h12 fun x13 h13 =>
        k2 (x13, s.2.1) h13) fun s2 h3 =>
    K (.inl (s2.1, s2.2, IntKind.i64.wrap (s.2.2 + 1))) h3
  else
    K (.inr (s.1, s.2.1)) h
/-- (*spate/spateref11.Manager).through -/
def spateref11_Manager_through (a0 : Option Addr) (h : H) (Q : Sl → H → Prop) : Prop :=
  jn (fun (k1 : (Sl × Sl) → H → Prop) =>
    loopE (spateref11_Manager_through.b1 a0) (Sl.nil, Sl.nil, 0) h (fun r3 hh => k1 r3 hh)) fun s1 h1 =>
  rd a0 fun q1 =>
  rd (st kL (q1.add 2) s1.2 h1) fun h2 =>
  Q s1.1 h2
theorem spateref11_Manager_through.sound {a0 : Option Addr} {h : H} {Q : Sl → H → Prop} (hF : spateref11_Manager_through a0 h Q) :
    CallsH Try.prog 54 (List.toArray (α := Value) [.pointer a0]) h fun v h' => ∃ x : Sl, v = Sl.val x ∧ Q x h' := by
  refine CallsH.of_body Try.func54 rfl 58 rfl rfl ?_
  refine WP.seq ?_
  refine WP.region ?_
  refine EvK.pure (v := Sl.val Sl.nil) (w_none rfl) rfl rfl (f_assign rfl rfl) ?_
  refine EvK.nil ?_
  refine WP.seq ?_
  refine WP.region ?_
  refine EvK.pure (v := Sl.val Sl.nil) (w_none rfl) rfl rfl (f_assign rfl rfl) ?_
  refine EvK.nil ?_
  refine WP.seq ?_
  refine WP.region ?_
  refine EvK.pure (v := Sl.val Sl.nil) (w_none rfl) rfl rfl (f_assign rfl rfl) ?_
  refine EvK.nil ?_
  refine WP.joinF (fun (s1 : Sl × Sl) => [(3, Sl.val s1.1), (4, Sl.val s1.2), (0, .pointer a0)]) hF ?_ ?_
  · intro s1 E0 h1 hF
    refine WP.seq ?_
    refine WP.region ?_
    refine EvK.pure (v := .pointer a0) (w_none rfl) rfl rfl (f_move rfl rfl) ?_
    refine EvK.pure (v := Sl.val s1.2) (w_none rfl) rfl rfl (f_move rfl rfl) ?_
    obtain ⟨q1, hq1, hF⟩ := hF
    refine EvK.pure (v := .pointer (some q1)) (w_none rfl) rfl rfl (f_nilCheck rfl (congrArg Value.pointer hq1)) ?_
    refine EvK.pure (v := .pointer (some (q1.add 2))) (w_none rfl) rfl rfl (f_fieldAddr fd93_2 rfl rfl) ?_
    obtain ⟨h2, hs1, hF⟩ := hF
    refine EvK.runN (w_none rfl) rfl (f_store kL ty91.size (z := s1.2) rfl rfl rfl hs1) ?_
    rintro _ _ ⟨rfl, rfl⟩
    refine EvK.nil ?_
    refine WP.seq ?_
    refine WP.region ?_
    refine EvK.pure (v := Sl.val s1.1) (w_none rfl) rfl rfl (f_move rfl rfl) ?_
    refine EvK.pure (v := Sl.val s1.1) (w_none rfl) rfl rfl (f_assign rfl rfl) ?_
    refine EvK.nil ?_
    refine WP.ret ?_
    exact Ret.mk (vs := [Sl.val s1.1]) s1.1 ⟨rfl, trivial⟩ rfl hF
  · intro k1 hF
    refine WP.seq ?_
    refine WP.region ?_
    refine EvK.pure (v := .int .i64 0) (w_none rfl) rfl rfl (f_assign rfl rfl) ?_
    refine EvK.nil ?_
    refine WP.block ?_
    refine WP.loopF (fun (s2 : Sl × Sl × Int) => [(3, Sl.val s2.1), (4, Sl.val s2.2.1), (5, .int .i64 s2.2.2), (0, .pointer a0)]) hF ⟨rfl, rfl, rfl, rfl, trivial⟩ ?_
    intro k2 s2 E0 h3 hF
    refine WP.seq ?_
    refine WP.seq ?_
    refine WP.region ?_
    refine EvK.pure (v := .int .i64 s2.2.2) (w_none rfl) rfl rfl (f_move rfl rfl) ?_
    refine EvK.pure (v := .pointer a0) (w_none rfl) rfl rfl (f_move rfl rfl) ?_
    obtain ⟨q2, hq2, hF⟩ := hF
    refine EvK.pure (v := .pointer (some q2)) (w_none rfl) rfl rfl (f_nilCheck rfl (congrArg Value.pointer hq2)) ?_
    refine EvK.pure (v := .pointer (some (q2.add 2))) (w_none rfl) rfl rfl (f_fieldAddr fd93_2 rfl rfl) ?_
    obtain ⟨x1, hx1, hF⟩ := hF
    refine EvK.read (v := Sl.val x1) (w_none rfl) rfl rfl (f_load kL ty91 rfl rfl hx1 rfl) ?_
    refine EvK.pure (v := .int .i64 (x1.len : Int)) (w_none rfl) rfl rfl (f_lenL (s := x1) Try.underlying91 rfl rfl) ?_
    refine EvK.pure (v := .bool (decide (s2.2.2 < (x1.len : Int)))) (w_none rfl) rfl rfl (f_lss rfl rfl rfl) ?_
    refine EvK.nil ?_
    rcases ite_inv hF with ⟨c1, hF⟩ | ⟨c1, hF⟩
    · refine WP.cond_true _ rfl c1 ?_
      refine WP.skip ?_
      refine WP.joinF (fun (s3 : Sl × Sl) => [(3, Sl.val s3.1), (4, Sl.val s3.2), (0, .pointer a0), (5, .int .i64 s2.2.2)]) hF ?_ ?_
      · intro s3 E0 h4 hF
        refine WP.region ?_
        refine EvK.pure (v := .int .i64 s2.2.2) (w_none rfl) rfl rfl (f_move rfl rfl) ?_
        refine EvK.pure (v := .int .i64 (IntKind.i64.wrap (s2.2.2 + 1))) (w_none rfl) rfl rfl (f_add rfl rfl rfl) ?_
        refine EvK.pure (v := .int .i64 (IntKind.i64.wrap (s2.2.2 + 1))) (w_none rfl) rfl rfl (f_assign rfl rfl) ?_
        refine EvK.nil ?_
        exact KE.mk (s3.1, s3.2, IntKind.i64.wrap (s2.2.2 + 1)) ⟨rfl, rfl, rfl, rfl, trivial⟩ hF
      · intro k3 hF
        refine WP.block ?_
        refine WP.seq ?_
        refine WP.region ?_
        refine EvK.pure (v := .pointer a0) (w_none rfl) rfl rfl (f_move rfl rfl) ?_
        obtain ⟨q3, hq3, hF⟩ := hF
        refine EvK.pure (v := .pointer (some q3)) (w_none rfl) rfl rfl (f_nilCheck rfl (congrArg Value.pointer hq3)) ?_
        refine EvK.pure (v := .pointer (some (q3.add 2))) (w_none rfl) rfl rfl (f_fieldAddr fd93_2 rfl rfl) ?_
        obtain ⟨x2, hx2, hF⟩ := hF
        refine EvK.read (v := Sl.val x2) (w_none rfl) rfl rfl (f_load kL ty91 rfl rfl hx2 rfl) ?_
        refine EvK.pure (v := .int .i64 s2.2.2) (w_none rfl) rfl rfl (f_move rfl rfl) ?_
        obtain ⟨q4, hq4, hF⟩ := hF
        refine EvK.pure (v := .pointer (some q4)) (w_none rfl) rfl rfl (f_indexAddr (s := x2) Try.underlying91 ty99.size rfl rfl rfl hq4) ?_
        obtain ⟨x3, hx3, hF⟩ := hF
        refine EvK.read (v := k98.val x3) (w_none rfl) rfl rfl (f_load k98 ty99 rfl rfl hx3 rfl) ?_
        refine EvK.alloc (w_none rfl) rfl rfl (f_allocF zero99 rfl rfl hF) ?_
        rintro _ h5 ⟨q5, rfl, hF⟩
        obtain ⟨h6, hs2, hF⟩ := hF
        refine EvK.runN (w_none rfl) rfl (f_store k98 ty99.size (z := x3) rfl rfl rfl hs2) ?_
        rintro _ _ ⟨rfl, rfl⟩
        refine EvK.nil ?_
        refine WP.seq ?_
        refine WP.joinF (fun (s4 : Bool) => [(33, .bool s4), (0, .pointer a0), (3, Sl.val s2.1), (4, Sl.val s2.2.1), (5, .int .i64 s2.2.2), (6, .pointer (some q5))]) hF ?_ ?_
        · intro s4 E0 h7 hF
          rcases ite_inv hF with ⟨c2, hF⟩ | ⟨c2, hF⟩
          · refine WP.cond_true _ rfl c2 ?_
            refine WP.seq ?_
            refine WP.region ?_
            refine EvK.pure (v := Sl.val s2.2.1) (w_none rfl) rfl rfl (f_move rfl rfl) ?_
            obtain ⟨x4, hx4, hF⟩ := hF
            refine EvK.read (v := k98.val x4) (w_none rfl) rfl rfl (f_load k98 ty99 rfl rfl hx4 rfl) ?_
            refine EvK.alloc (w_none rfl) rfl rfl (f_buildSliceF Try.underlying91 el99 (by decide) rfl rfl rfl hF) ?_
            rintro _ h8 ⟨x5, rfl, hF⟩
            refine EvK.run (w_none rfl) rfl rfl (f_appendE (s := s2.2.1) (x := x5) Try.underlying91 el99 rfl rfl rfl hF) ?_
            rintro _ h9 ⟨x6, rfl, hF⟩
            refine EvK.pure (v := Sl.val x6) (w_none rfl) rfl rfl (f_assign rfl rfl) ?_
            refine EvK.nil ?_
            refine WP.exit ?_
            exact KE.mk (s2.1, x6) ⟨rfl, rfl, rfl, rfl, trivial⟩ hF
          · refine WP.cond_false _ rfl c2 ?_
            refine WP.skip ?_
            refine WP.seq ?_
            refine WP.draw mixed [.pure, .pure, .pure, .pure, .read, .read, .alloc, .eff [], .pure, .pure, .eff []] [[], [], [1], [1, 2], [1, 2, 3], [], [5], [1, 2, 3, 4, 5, 6], [0, 1, 2, 3, 4, 5, 6, 7], [0, 1, 2, 3, 4, 5, 6, 7, 8], [0, 1, 2, 3, 4, 5, 6, 7, 8, 9]] [0, 1, 2, 3, 4, 5, 6, 7, 8, 9, 10] (by kernel_rfl) (by kernel_rfl) ?_
            refine EvI.pure (v := .pointer a0) rfl rfl (w_none rfl) rfl (f_move rfl rfl) ?_
            refine EvI.pure (v := .pointer a0) rfl rfl (w_none rfl) rfl (f_move rfl rfl) ?_
            obtain ⟨q6, hq5, hF⟩ := hF
            refine EvI.pure (v := .pointer (some q6)) rfl rfl (w_none rfl) rfl (f_nilCheck rfl (congrArg Value.pointer hq5)) ?_
            refine EvI.pure (v := .pointer (some (q6.add 1))) rfl rfl (w_none rfl) rfl (f_fieldAddr fd93_1 rfl rfl) ?_
            obtain ⟨x7, hx5, hF⟩ := hF
            refine EvI.read (v := Sl.val x7) rfl rfl (w_none rfl) rfl (f_load kL ty91 rfl rfl hx5 rfl) ?_
            obtain ⟨x8, hx6, hF⟩ := hF
            refine EvI.read (v := k98.val x8) rfl rfl (w_none rfl) rfl (f_load k98 ty99 rfl rfl hx6 rfl) ?_
            refine EvI.alloc rfl rfl (w_none rfl) rfl (f_buildSliceF Try.underlying91 el99 (by decide) rfl rfl rfl hF) ?_
            rintro _ h10 ⟨x9, rfl, hF⟩
            refine EvI.run rfl rfl (w_none rfl) rfl (f_appendE (s := x7) (x := x9) Try.underlying91 el99 rfl rfl rfl hF) ?_
            rintro _ h11 ⟨x10, rfl, hF⟩
            refine ⟨⟨chk_no rfl, chk_no rfl, trivial⟩, ?_⟩
            obtain ⟨q7, hq6, hF⟩ := hF
            refine EvI.pure (v := .pointer (some q7)) rfl rfl (w_none rfl) rfl (f_nilCheck rfl (congrArg Value.pointer hq6)) ?_
            refine EvI.pure (v := .pointer (some (q7.add 1))) rfl rfl (w_none rfl) rfl (f_fieldAddr fd93_1 rfl rfl) ?_
            obtain ⟨h12, hs3, hF⟩ := hF
            refine EvI.runN rfl rfl (w_none rfl) rfl (f_store kL ty91.size (z := x10) rfl rfl rfl hs3) ?_
            rintro _ _ ⟨rfl, rfl⟩
            refine ⟨⟨chk_no rfl, chk_no rfl, trivial⟩, ?_⟩
            refine EvI.nil ?_
            refine WP.region ?_
            refine EvK.pure (v := Sl.val s2.1) (w_none rfl) rfl rfl (f_move rfl rfl) ?_
            refine EvK.pure (v := .pointer (some (q5.add 0))) (w_none rfl) rfl rfl (f_fieldAddr fd99_0 rfl rfl) ?_
            obtain ⟨x11, hx7, hF⟩ := hF
            refine EvK.read (v := .int .i64 x11) (w_none rfl) rfl rfl (f_load (kI .i64) ty3 rfl rfl hx7 rfl) ?_
            refine EvK.alloc (w_none rfl) rfl rfl (f_buildSliceF Try.underlying22 el3 (by decide) rfl rfl rfl hF) ?_
            rintro _ h13 ⟨x12, rfl, hF⟩
            refine EvK.run (w_none rfl) rfl rfl (f_appendE (s := s2.1) (x := x12) Try.underlying22 el3 rfl rfl rfl hF) ?_
            rintro _ h14 ⟨x13, rfl, hF⟩
            refine EvK.pure (v := Sl.val x13) (w_none rfl) rfl rfl (f_assign rfl rfl) ?_
            refine EvK.nil ?_
            exact KE.mk (x13, s2.2.1) ⟨rfl, rfl, rfl, rfl, trivial⟩ hF
        · intro k4 hF
          refine WP.draw mixed [.pure, .pure, .pure, .read, .read, .eff [], .pure, .pure, .read, .eff [], .pure] [[], [0], [0, 1], [0, 1, 2], [], [0, 1, 2, 3, 4], [0, 1, 2, 3, 4, 5], [0, 1, 2, 3, 4, 5, 6], [0, 1, 2, 3, 4, 5, 6], [0, 1, 2, 3, 4, 5, 6, 7, 8], [0, 1, 2, 3, 4, 5, 6, 7, 8, 9]] [0, 1, 2, 3, 4, 5, 6, 7, 8, 9, 10] (by kernel_rfl) (by kernel_rfl) ?_
          refine EvI.pure (v := .pointer a0) rfl rfl (w_none rfl) rfl (f_move rfl rfl) ?_
          obtain ⟨q8, hq7, hF⟩ := hF
          refine EvI.pure (v := .pointer (some q8)) rfl rfl (w_none rfl) rfl (f_nilCheck rfl (congrArg Value.pointer hq7)) ?_
          refine EvI.pure (v := .pointer (some (q8.add 1))) rfl rfl (w_none rfl) rfl (f_fieldAddr fd93_1 rfl rfl) ?_
          obtain ⟨x14, hx8, hF⟩ := hF
          refine EvI.read (v := Sl.val x14) rfl rfl (w_none rfl) rfl (f_load kL ty91 rfl rfl hx8 rfl) ?_
          obtain ⟨x15, hx9, hF⟩ := hF
          refine EvI.read (v := k98.val x15) rfl rfl (w_none rfl) rfl (f_load k98 ty99 rfl rfl hx9 rfl) ?_
          refine EvI.call rfl rfl (w_none rfl) rfl (enterH Try.func60 rfl rfl rfl rfl (spateref11_conflicts.sound hF)) ?_
          rintro _ h15 ⟨r1, rfl, hF⟩
          refine ⟨⟨chk_no rfl, chk_no rfl, trivial⟩, ?_⟩
          refine EvI.pure (v := .bool r1) rfl rfl (w_none rfl) rfl (f_move rfl rfl) ?_
          rcases ite_inv hF with ⟨c3, hF⟩ | ⟨c3, hF⟩
          · refine EvI.not rfl (w_not rfl rfl c3) rfl ?_
            refine EvI.not rfl (w_not rfl rfl c3) rfl ?_
            refine EvI.not rfl (w_not rfl rfl c3) rfl ?_
            refine EvI.pure (v := .bool true) rfl rfl (w_none rfl) rfl (f_pickT rfl rfl c3 rfl) ?_
            refine EvI.nil ?_
            exact KE.mk true ⟨rfl, rfl, rfl, rfl, rfl, rfl, trivial⟩ hF
          · refine EvI.pure (v := Sl.val s2.2.1) rfl rfl (w_some rfl rfl c3) rfl (f_move rfl rfl) ?_
            obtain ⟨x16, hx10, hF⟩ := hF
            refine EvI.read (v := k98.val x16) rfl rfl (w_some rfl rfl c3) rfl (f_load k98 ty99 rfl rfl hx10 rfl) ?_
            refine EvI.call rfl rfl (w_some rfl rfl c3) rfl (enterH Try.func60 rfl rfl rfl rfl (spateref11_conflicts.sound hF)) ?_
            rintro _ h16 ⟨r2, rfl, hF⟩
            refine ⟨⟨chk_no rfl, chk_no rfl, chk_no rfl, trivial⟩, ?_⟩
            refine EvI.pure (v := .bool r2) rfl rfl (w_none rfl) rfl (f_pickF rfl rfl c3 rfl) ?_
            refine EvI.nil ?_
            exact KE.mk r2 ⟨rfl, rfl, rfl, rfl, rfl, rfl, trivial⟩ hF
    · refine WP.cond_false _ rfl c1 ?_
      refine WP.exit ?_
      exact KE.mk (s2.1, s2.2.1) ⟨rfl, rfl, rfl, trivial⟩ hF
end Go.Proofs.Ytgmihbchcmjmdaa

namespace Go.Proofs.Ytgmihbchcmjmdaa
open Go Go.Tr
set_option linter.unusedVariables false
set_option maxRecDepth 100000
set_option maxHeartbeats 400000
/-- (*spate/spateref11.Manager).Free -/
def spateref11_Manager_Free (a0 : Option Addr) (a1 : Int) (h : H) (Q : (Sl × Int) → H → Prop) : Prop :=
  rd a0 fun q1 =>
  rd (ld kL (q1.add 1) h) fun x1 =>
  spateref11_find x1 a1 h fun r1 h1 =>
  if (decide (r1 < 0)) = true then
    Q (Sl.nil, 42) h1
  else
    rd a0 fun q2 =>
    rd (ld kL (q2.add 1) h1) fun x2 =>
    spateref11_without x2 r1 h1 fun r2 h2 =>
    rd a0 fun q3 =>
    rd (st kL (q3.add 1) r2 h2) fun h3 =>
    spateref11_Manager_through a0 h3 fun r3 h4 =>
    Q (r3, 0) h4
theorem spateref11_Manager_Free.sound {a0 : Option Addr} {a1 : Int} {h : H} {Q : (Sl × Int) → H → Prop} (hF : spateref11_Manager_Free a0 a1 h Q) :
    CallsH Try.prog 35 (List.toArray (α := Value) [.pointer a0, .int .i64 a1]) h fun v h' => ∃ x : Sl × Int, v = .tuple #[Sl.val x.1, .int .i64 x.2] ∧ Q x h' := by
  refine CallsH.of_body Try.func35 rfl 26 rfl rfl ?_
  refine WP.seq ?_
  refine WP.region ?_
  refine EvK.pure (v := Sl.val Sl.nil) (w_none rfl) rfl rfl (f_assign rfl rfl) ?_
  refine EvK.pure (v := .int .i64 0) (w_none rfl) rfl rfl (f_assign rfl rfl) ?_
  refine EvK.nil ?_
  refine WP.seq ?_
  refine WP.region ?_
  refine EvK.pure (v := .pointer a0) (w_none rfl) rfl rfl (f_move rfl rfl) ?_
  obtain ⟨q1, hq1, hF⟩ := hF
  refine EvK.pure (v := .pointer (some q1)) (w_none rfl) rfl rfl (f_nilCheck rfl (congrArg Value.pointer hq1)) ?_
  refine EvK.pure (v := .pointer (some (q1.add 1))) (w_none rfl) rfl rfl (f_fieldAddr fd93_1 rfl rfl) ?_
  obtain ⟨x1, hx1, hF⟩ := hF
  refine EvK.read (v := Sl.val x1) (w_none rfl) rfl rfl (f_load kL ty91 rfl rfl hx1 rfl) ?_
  refine EvK.pure (v := .int .i64 a1) (w_none rfl) rfl rfl (f_move rfl rfl) ?_
  refine EvK.call (w_none rfl) rfl rfl (enterH Try.func52 rfl rfl rfl rfl (spateref11_find.sound hF)) ?_
  rintro _ h1 ⟨r1, rfl, hF⟩
  refine EvK.pure (v := .int .i64 r1) (w_none rfl) rfl rfl (f_assign rfl rfl) ?_
  refine EvK.nil ?_
  refine WP.seq ?_
  refine WP.seq ?_
  refine WP.region ?_
  refine EvK.pure (v := .int .i64 r1) (w_none rfl) rfl rfl (f_move rfl rfl) ?_
  refine EvK.pure (v := .bool (decide (r1 < 0))) (w_none rfl) rfl rfl (f_lss rfl rfl rfl) ?_
  refine EvK.nil ?_
  rcases ite_inv hF with ⟨c1, hF⟩ | ⟨c1, hF⟩
  · refine WP.cond_true _ rfl c1 ?_
    refine WP.seq ?_
    refine WP.region ?_
    refine EvK.pure (v := Sl.val Sl.nil) (w_none rfl) rfl rfl (f_assign rfl rfl) ?_
    refine EvK.pure (v := .int .i64 42) (w_none rfl) rfl rfl (f_assign rfl rfl) ?_
    refine EvK.nil ?_
    refine WP.ret ?_
    exact Ret.mk (vs := [Sl.val Sl.nil, .int .i64 42]) (Sl.nil, 42) ⟨rfl, rfl, trivial⟩ rfl hF
  · refine WP.cond_false _ rfl c1 ?_
    refine WP.skip ?_
    refine WP.seq ?_
    refine WP.region ?_
    refine EvK.pure (v := .pointer a0) (w_none rfl) rfl rfl (f_move rfl rfl) ?_
    refine EvK.pure (v := .pointer a0) (w_none rfl) rfl rfl (f_move rfl rfl) ?_
    obtain ⟨q2, hq2, hF⟩ := hF
    refine EvK.pure (v := .pointer (some q2)) (w_none rfl) rfl rfl (f_nilCheck rfl (congrArg Value.pointer hq2)) ?_
    refine EvK.pure (v := .pointer (some (q2.add 1))) (w_none rfl) rfl rfl (f_fieldAddr fd93_1 rfl rfl) ?_
    obtain ⟨x2, hx2, hF⟩ := hF
    refine EvK.read (v := Sl.val x2) (w_none rfl) rfl rfl (f_load kL ty91 rfl rfl hx2 rfl) ?_
    refine EvK.pure (v := .int .i64 r1) (w_none rfl) rfl rfl (f_move rfl rfl) ?_
    refine EvK.call (w_none rfl) rfl rfl (enterH Try.func53 rfl rfl rfl rfl (spateref11_without.sound hF)) ?_
    rintro _ h2 ⟨r2, rfl, hF⟩
    obtain ⟨q3, hq3, hF⟩ := hF
    refine EvK.pure (v := .pointer (some q3)) (w_none rfl) rfl rfl (f_nilCheck rfl (congrArg Value.pointer hq3)) ?_
    refine EvK.pure (v := .pointer (some (q3.add 1))) (w_none rfl) rfl rfl (f_fieldAddr fd93_1 rfl rfl) ?_
    obtain ⟨h3, hs1, hF⟩ := hF
    refine EvK.runN (w_none rfl) rfl (f_store kL ty91.size (z := r2) rfl rfl rfl hs1) ?_
    rintro _ _ ⟨rfl, rfl⟩
    refine EvK.nil ?_
    refine WP.seq ?_
    refine WP.region ?_
    refine EvK.pure (v := .pointer a0) (w_none rfl) rfl rfl (f_move rfl rfl) ?_
    refine EvK.call (w_none rfl) rfl rfl (enterH Try.func54 rfl rfl rfl rfl (spateref11_Manager_through.sound hF)) ?_
    rintro _ h4 ⟨r3, rfl, hF⟩
    refine EvK.pure (v := Sl.val r3) (w_none rfl) rfl rfl (f_assign rfl rfl) ?_
    refine EvK.pure (v := .int .i64 0) (w_none rfl) rfl rfl (f_assign rfl rfl) ?_
    refine EvK.nil ?_
    refine WP.ret ?_
    exact Ret.mk (vs := [Sl.val r3, .int .i64 0]) (r3, 0) ⟨rfl, rfl, trivial⟩ rfl hF
end Go.Proofs.Ytgmihbchcmjmdaa

namespace Go.Proofs.Ytgmihbchcmjmdaa
open Go Go.Tr
set_option linter.unusedVariables false
set_option maxRecDepth 100000
set_option maxHeartbeats 400000
/-- spate/spatelaw11.is -/
def spatelaw11_is (a0 : IF) (a1 : Int) (h : H) (Q : Bool → H → Prop) : Prop :=
  if (a1 == 0) = true then
    Q a0.isNone h
  else
    jn (fun (k1 : Bool → H → Prop) =>
      if (!a0.isNone) = true then
        errors_Is a0 (some (26, .int .i64 a1) : IF) h fun r1 h2 =>
        k1 r1 h2
      else
        k1 false h) fun s1 h1 =>
    Q s1 h1
theorem spatelaw11_is.sound {a0 : IF} {a1 : Int} {h : H} {Q : Bool → H → Prop} (hF : spatelaw11_is a0 a1 h Q) :
    CallsH Try.prog 36 (List.toArray (α := Value) [IF.val a0, .int .i64 a1]) h fun v h' => ∃ x : Bool, v = .bool x ∧ Q x h' := by
  refine CallsH.of_body Try.func36 rfl 17 rfl rfl ?_
  refine WP.seq ?_
  refine WP.region ?_
  refine EvK.pure (v := .bool false) (w_none rfl) rfl rfl (f_assign rfl rfl) ?_
  refine EvK.nil ?_
  refine WP.seq ?_
  refine WP.seq ?_
  refine WP.region ?_
  refine EvK.pure (v := .int .i64 a1) (w_none rfl) rfl rfl (f_move rfl rfl) ?_
  refine EvK.pure (v := .bool (a1 == 0)) (w_none rfl) rfl rfl (f_eql rfl rfl rfl) ?_
  refine EvK.nil ?_
  rcases ite_inv hF with ⟨c1, hF⟩ | ⟨c1, hF⟩
  · refine WP.cond_true _ rfl c1 ?_
    refine WP.seq ?_
    refine WP.region ?_
    refine EvK.pure (v := IF.val a0) (w_none rfl) rfl rfl (f_move rfl rfl) ?_
    refine EvK.pure (v := .bool a0.isNone) (w_none rfl) rfl rfl (f_ieqln (a := a0) Try.underlying37 rfl rfl) ?_
    refine EvK.pure (v := .bool a0.isNone) (w_none rfl) rfl rfl (f_assign rfl rfl) ?_
    refine EvK.nil ?_
    refine WP.ret ?_
    exact Ret.mk (vs := [.bool a0.isNone]) a0.isNone ⟨rfl, trivial⟩ rfl hF
  · refine WP.cond_false _ rfl c1 ?_
    refine WP.skip ?_
    refine WP.joinF (fun (s1 : Bool) => [(4, .bool s1)]) hF ?_ ?_
    · intro s1 E0 h1 hF
      refine WP.ret ?_
      exact Ret.mk (vs := [.bool s1]) s1 ⟨rfl, trivial⟩ rfl hF
    · intro k1 hF
      refine WP.region ?_
      refine EvK.pure (v := IF.val a0) (w_none rfl) rfl rfl (f_move rfl rfl) ?_
      refine EvK.pure (v := .bool (!a0.isNone)) (w_none rfl) rfl rfl (f_ineqn (a := a0) Try.underlying37 rfl rfl) ?_
      refine EvK.pure (v := .bool (!a0.isNone)) (w_none rfl) rfl rfl (f_move rfl rfl) ?_
      rcases ite_inv hF with ⟨c2, hF⟩ | ⟨c2, hF⟩
      · refine EvK.pure (v := IF.val a0) (w_some rfl rfl c2) rfl rfl (f_move rfl rfl) ?_
        refine EvK.pure (v := .int .i64 a1) (w_some rfl rfl c2) rfl rfl (f_move rfl rfl) ?_
        refine EvK.pure (v := IF.val (some (26, .int .i64 a1) : IF)) (w_some rfl rfl c2) rfl rfl (f_makeIf Try.underlying26 rfl rfl rfl) ?_
        refine EvK.call (w_some rfl rfl c2) rfl rfl (enterH (vs := [IF.val a0, IF.val (some (26, .int .i64 a1) : IF)]) Try.func46 rfl rfl rfl rfl (errors_Is.sound hF)) ?_
        rintro _ h2 ⟨r1, rfl, hF⟩
        refine EvK.pure (v := .bool r1) (w_none rfl) rfl rfl (f_pickT rfl rfl c2 rfl) ?_
        refine EvK.pure (v := .bool r1) (w_none rfl) rfl rfl (f_assign rfl rfl) ?_
        refine EvK.nil ?_
        exact KE.mk r1 ⟨rfl, trivial⟩ hF
      · refine EvK.not (w_not rfl rfl c2) rfl rfl ?_
        refine EvK.not (w_not rfl rfl c2) rfl rfl ?_
        refine EvK.not (w_not rfl rfl c2) rfl rfl ?_
        refine EvK.not (w_not rfl rfl c2) rfl rfl ?_
        refine EvK.pure (v := .bool false) (w_none rfl) rfl rfl (f_pickF rfl rfl c2 rfl) ?_
        refine EvK.pure (v := .bool false) (w_none rfl) rfl rfl (f_assign rfl rfl) ?_
        refine EvK.nil ?_
        exact KE.mk false ⟨rfl, trivial⟩ hF
end Go.Proofs.Ytgmihbchcmjmdaa

namespace Go.Proofs.Ytgmihbchcmjmdaa
open Go Go.Tr
set_option linter.unusedVariables false
set_option maxRecDepth 100000
set_option maxHeartbeats 400000
/-- (*spate/spateref11.Manager).Quit -/
def spateref11_Manager_Quit (a0 : Option Addr) (a1 : Int) (h : H) (Q : Sl → H → Prop) : Prop :=
  rd a0 fun q1 =>
  rd (ld kL (q1.add 1) h) fun x1 =>
  spateref11_find x1 a1 h fun r1 h1 =>
  if (decide (r1 ≥ 0)) = true then
    rd a0 fun q2 =>
    rd (ld kL (q2.add 1) h1) fun x2 =>
    spateref11_without x2 r1 h1 fun r2 h2 =>
    rd a0 fun q3 =>
    rd (st kL (q3.add 1) r2 h2) fun h3 =>
    spateref11_Manager_through a0 h3 fun r3 h4 =>
    Q r3 h4
  else
    rd a0 fun q4 =>
    rd (ld kL (q4.add 2) h1) fun x3 =>
    spateref11_find x3 a1 h1 fun r4 h5 =>
    if (decide (r4 ≥ 0)) = true then
      rd a0 fun q5 =>
      rd (ld kL (q5.add 2) h5) fun x4 =>
      spateref11_without x4 r4 h5 fun r5 h6 =>
      rd a0 fun q6 =>
      rd (st kL (q6.add 2) r5 h6) fun h7 =>
      spateref11_Manager_through a0 h7 fun r6 h8 =>
      Q r6 h8
    else
      Q Sl.nil h5
theorem spateref11_Manager_Quit.sound {a0 : Option Addr} {a1 : Int} {h : H} {Q : Sl → H → Prop} (hF : spateref11_Manager_Quit a0 a1 h Q) :
    CallsH Try.prog 37 (List.toArray (α := Value) [.pointer a0, .int .i64 a1]) h fun v h' => ∃ x : Sl, v = Sl.val x ∧ Q x h' := by
  refine CallsH.of_body Try.func37 rfl 44 rfl rfl ?_
  refine WP.seq ?_
  refine WP.region ?_
  refine EvK.pure (v := Sl.val Sl.nil) (w_none rfl) rfl rfl (f_assign rfl rfl) ?_
  refine EvK.nil ?_
  refine WP.seq ?_
  refine WP.region ?_
  refine EvK.pure (v := .pointer a0) (w_none rfl) rfl rfl (f_move rfl rfl) ?_
  obtain ⟨q1, hq1, hF⟩ := hF
  refine EvK.pure (v := .pointer (some q1)) (w_none rfl) rfl rfl (f_nilCheck rfl (congrArg Value.pointer hq1)) ?_
  refine EvK.pure (v := .pointer (some (q1.add 1))) (w_none rfl) rfl rfl (f_fieldAddr fd93_1 rfl rfl) ?_
  obtain ⟨x1, hx1, hF⟩ := hF
  refine EvK.read (v := Sl.val x1) (w_none rfl) rfl rfl (f_load kL ty91 rfl rfl hx1 rfl) ?_
  refine EvK.pure (v := .int .i64 a1) (w_none rfl) rfl rfl (f_move rfl rfl) ?_
  refine EvK.call (w_none rfl) rfl rfl (enterH Try.func52 rfl rfl rfl rfl (spateref11_find.sound hF)) ?_
  rintro _ h1 ⟨r1, rfl, hF⟩
  refine EvK.pure (v := .int .i64 r1) (w_none rfl) rfl rfl (f_assign rfl rfl) ?_
  refine EvK.nil ?_
  refine WP.seq ?_
  refine WP.seq ?_
  refine WP.region ?_
  refine EvK.pure (v := .int .i64 r1) (w_none rfl) rfl rfl (f_move rfl rfl) ?_
  refine EvK.pure (v := .bool (decide (r1 ≥ 0))) (w_none rfl) rfl rfl (f_geq rfl rfl rfl) ?_
  refine EvK.nil ?_
  rcases ite_inv hF with ⟨c1, hF⟩ | ⟨c1, hF⟩
  · refine WP.cond_true _ rfl c1 ?_
    refine WP.seq ?_
    refine WP.region ?_
    refine EvK.pure (v := .pointer a0) (w_none rfl) rfl rfl (f_move rfl rfl) ?_
    refine EvK.pure (v := .pointer a0) (w_none rfl) rfl rfl (f_move rfl rfl) ?_
    obtain ⟨q2, hq2, hF⟩ := hF
    refine EvK.pure (v := .pointer (some q2)) (w_none rfl) rfl rfl (f_nilCheck rfl (congrArg Value.pointer hq2)) ?_
    refine EvK.pure (v := .pointer (some (q2.add 1))) (w_none rfl) rfl rfl (f_fieldAddr fd93_1 rfl rfl) ?_
    obtain ⟨x2, hx2, hF⟩ := hF
    refine EvK.read (v := Sl.val x2) (w_none rfl) rfl rfl (f_load kL ty91 rfl rfl hx2 rfl) ?_
    refine EvK.pure (v := .int .i64 r1) (w_none rfl) rfl rfl (f_move rfl rfl) ?_
    refine EvK.call (w_none rfl) rfl rfl (enterH Try.func53 rfl rfl rfl rfl (spateref11_without.sound hF)) ?_
    rintro _ h2 ⟨r2, rfl, hF⟩
    obtain ⟨q3, hq3, hF⟩ := hF
    refine EvK.pure (v := .pointer (some q3)) (w_none rfl) rfl rfl (f_nilCheck rfl (congrArg Value.pointer hq3)) ?_
    refine EvK.pure (v := .pointer (some (q3.add 1))) (w_none rfl) rfl rfl (f_fieldAddr fd93_1 rfl rfl) ?_
    obtain ⟨h3, hs1, hF⟩ := hF
    refine EvK.runN (w_none rfl) rfl (f_store kL ty91.size (z := r2) rfl rfl rfl hs1) ?_
    rintro _ _ ⟨rfl, rfl⟩
    refine EvK.nil ?_
    refine WP.seq ?_
    refine WP.region ?_
    refine EvK.pure (v := .pointer a0) (w_none rfl) rfl rfl (f_move rfl rfl) ?_
    refine EvK.call (w_none rfl) rfl rfl (enterH Try.func54 rfl rfl rfl rfl (spateref11_Manager_through.sound hF)) ?_
    rintro _ h4 ⟨r3, rfl, hF⟩
    refine EvK.pure (v := Sl.val r3) (w_none rfl) rfl rfl (f_assign rfl rfl) ?_
    refine EvK.nil ?_
    refine WP.ret ?_
    exact Ret.mk (vs := [Sl.val r3]) r3 ⟨rfl, trivial⟩ rfl hF
  · refine WP.cond_false _ rfl c1 ?_
    refine WP.skip ?_
    refine WP.seq ?_
    refine WP.region ?_
    refine EvK.pure (v := .pointer a0) (w_none rfl) rfl rfl (f_move rfl rfl) ?_
    obtain ⟨q4, hq4, hF⟩ := hF
    refine EvK.pure (v := .pointer (some q4)) (w_none rfl) rfl rfl (f_nilCheck rfl (congrArg Value.pointer hq4)) ?_
    refine EvK.pure (v := .pointer (some (q4.add 2))) (w_none rfl) rfl rfl (f_fieldAddr fd93_2 rfl rfl) ?_
    obtain ⟨x3, hx3, hF⟩ := hF
    refine EvK.read (v := Sl.val x3) (w_none rfl) rfl rfl (f_load kL ty91 rfl rfl hx3 rfl) ?_
    refine EvK.pure (v := .int .i64 a1) (w_none rfl) rfl rfl (f_move rfl rfl) ?_
    refine EvK.call (w_none rfl) rfl rfl (enterH Try.func52 rfl rfl rfl rfl (spateref11_find.sound hF)) ?_
    rintro _ h5 ⟨r4, rfl, hF⟩
    refine EvK.pure (v := .int .i64 r4) (w_none rfl) rfl rfl (f_assign rfl rfl) ?_
    refine EvK.nil ?_
    refine WP.seq ?_
    refine WP.seq ?_
    refine WP.region ?_
    refine EvK.pure (v := .int .i64 r4) (w_none rfl) rfl rfl (f_move rfl rfl) ?_
    refine EvK.pure (v := .bool (decide (r4 ≥ 0))) (w_none rfl) rfl rfl (f_geq rfl rfl rfl) ?_
    refine EvK.nil ?_
    rcases ite_inv hF with ⟨c2, hF⟩ | ⟨c2, hF⟩
    · refine WP.cond_true _ rfl c2 ?_
      refine WP.seq ?_
      refine WP.region ?_
      refine EvK.pure (v := .pointer a0) (w_none rfl) rfl rfl (f_move rfl rfl) ?_
      refine EvK.pure (v := .pointer a0) (w_none rfl) rfl rfl (f_move rfl rfl) ?_
      obtain ⟨q5, hq5, hF⟩ := hF
      refine EvK.pure (v := .pointer (some q5)) (w_none rfl) rfl rfl (f_nilCheck rfl (congrArg Value.pointer hq5)) ?_
      refine EvK.pure (v := .pointer (some (q5.add 2))) (w_none rfl) rfl rfl (f_fieldAddr fd93_2 rfl rfl) ?_
      obtain ⟨x4, hx4, hF⟩ := hF
      refine EvK.read (v := Sl.val x4) (w_none rfl) rfl rfl (f_load kL ty91 rfl rfl hx4 rfl) ?_
      refine EvK.pure (v := .int .i64 r4) (w_none rfl) rfl rfl (f_move rfl rfl) ?_
      refine EvK.call (w_none rfl) rfl rfl (enterH Try.func53 rfl rfl rfl rfl (spateref11_without.sound hF)) ?_
      rintro _ h6 ⟨r5, rfl, hF⟩
      obtain ⟨q6, hq6, hF⟩ := hF
      refine EvK.pure (v := .pointer (some q6)) (w_none rfl) rfl rfl (f_nilCheck rfl (congrArg Value.pointer hq6)) ?_
      refine EvK.pure (v := .pointer (some (q6.add 2))) (w_none rfl) rfl rfl (f_fieldAddr fd93_2 rfl rfl) ?_
      obtain ⟨h7, hs2, hF⟩ := hF
      refine EvK.runN (w_none rfl) rfl (f_store kL ty91.size (z := r5) rfl rfl rfl hs2) ?_
      rintro _ _ ⟨rfl, rfl⟩
      refine EvK.nil ?_
      refine WP.seq ?_
      refine WP.region ?_
      refine EvK.pure (v := .pointer a0) (w_none rfl) rfl rfl (f_move rfl rfl) ?_
      refine EvK.call (w_none rfl) rfl rfl (enterH Try.func54 rfl rfl rfl rfl (spateref11_Manager_through.sound hF)) ?_
      rintro _ h8 ⟨r6, rfl, hF⟩
      refine EvK.pure (v := Sl.val r6) (w_none rfl) rfl rfl (f_assign rfl rfl) ?_
      refine EvK.nil ?_
      refine WP.ret ?_
      exact Ret.mk (vs := [Sl.val r6]) r6 ⟨rfl, trivial⟩ rfl hF
    · refine WP.cond_false _ rfl c2 ?_
      refine WP.skip ?_
      refine WP.seq ?_
      refine WP.region ?_
      refine EvK.pure (v := Sl.val Sl.nil) (w_none rfl) rfl rfl (f_assign rfl rfl) ?_
      refine EvK.nil ?_
      refine WP.ret ?_
      exact Ret.mk (vs := [Sl.val Sl.nil]) Sl.nil ⟨rfl, trivial⟩ rfl hF
end Go.Proofs.Ytgmihbchcmjmdaa

namespace Go.Proofs.Ytgmihbchcmjmdaa
open Go Go.Tr
set_option linter.unusedVariables false
set_option maxRecDepth 100000
set_option maxHeartbeats 400000
def spatelaw11_lend.b1 (p0 : Sl) (p3 : Sl) (s : Int) (h : H) (K : Int ⊕ Unit → H → Prop) : Prop :=
  if (decide (s < (p3.len : Int))) = true then
    rd (ixA 2 p3 s) fun q1 =>
    rd (st k31 q1 (S31.mk (IntKind.i64.wrap ((-5) - s)) false) h) fun h4 =>
    K (.inl (IntKind.i64.wrap (s + 1))) h4
  else
    K (.inr ()) h
/-- spate/spatelaw11.lend -/
def spatelaw11_lend (a0 : Sl) (h : H) (Q : Sl → H → Prop) : Prop :=
  mk k31.n 16 32 (k31.enc z31) (IntKind.i64.wrap ((a0.len : Int) + 3)) (IntKind.i64.wrap ((a0.len : Int) + 3)) h fun x1 h1 =>
  rd (cpy 2 x1 a0 h1) fun h2 =>
  jn (fun (k1 : Unit → H → Prop) =>
    loopE (spatelaw11_lend.b1 a0 x1) (a0.len : Int) h2 (fun r1 hh => k1 r1 hh)) fun s1 h3 =>
  rd (slx 2 x1 none (some (a0.len : Int)) none) fun x2 =>
  Q x2 h3
theorem spatelaw11_lend.sound {a0 : Sl} {h : H} {Q : Sl → H → Prop} (hF : spatelaw11_lend a0 h Q) :
    CallsH Try.prog 49 (List.toArray (α := Value) [Sl.val a0]) h fun v h' => ∃ x : Sl, v = Sl.val x ∧ Q x h' := by
  refine CallsH.of_body Try.func49 rfl 30 rfl rfl ?_
  refine WP.seq ?_
  refine WP.region ?_
  refine EvK.pure (v := Sl.val Sl.nil) (w_none rfl) rfl rfl (f_assign rfl rfl) ?_
  refine EvK.nil ?_
  refine WP.seq ?_
  refine WP.region ?_
  refine EvK.pure (v := Sl.val a0) (w_none rfl) rfl rfl (f_move rfl rfl) ?_
  refine EvK.pure (v := .int .i64 (a0.len : Int)) (w_none rfl) rfl rfl (f_lenL (s := a0) Try.underlying30 rfl rfl) ?_
  refine EvK.pure (v := .int .i64 (IntKind.i64.wrap ((a0.len : Int) + 3))) (w_none rfl) rfl rfl (f_add rfl rfl rfl) ?_
  refine EvK.alloc (w_none rfl) rfl rfl (f_makeSlice Try.underlying30 el32 rfl rfl rfl hF) ?_
  rintro _ h1 ⟨x1, rfl, hF⟩
  refine EvK.pure (v := Sl.val x1) (w_none rfl) rfl rfl (f_assign rfl rfl) ?_
  refine EvK.nil ?_
  refine WP.seq ?_
  refine WP.region ?_
  refine EvK.pure (v := Sl.val x1) (w_none rfl) rfl rfl (f_move rfl rfl) ?_
  refine EvK.pure (v := Sl.val a0) (w_none rfl) rfl rfl (f_move rfl rfl) ?_
  obtain ⟨h2, hs1, hF⟩ := hF
  refine EvK.run (w_none rfl) rfl rfl (f_copy (s := x1) (r := a0) Try.underlying30 ty32.size rfl rfl rfl rfl hs1) ?_
  rintro _ _ ⟨rfl, rfl⟩
  refine EvK.nil ?_
  refine WP.joinF (fun (s1 : Unit) => [(0, Sl.val a0), (3, Sl.val x1)]) hF ?_ ?_
  · intro s1 E0 h3 hF
    refine WP.seq ?_
    refine WP.region ?_
    refine EvK.pure (v := Sl.val x1) (w_none rfl) rfl rfl (f_move rfl rfl) ?_
    refine EvK.pure (v := Sl.val a0) (w_none rfl) rfl rfl (f_move rfl rfl) ?_
    refine EvK.pure (v := .int .i64 (a0.len : Int)) (w_none rfl) rfl rfl (f_lenL (s := a0) Try.underlying30 rfl rfl) ?_
    obtain ⟨x2, hx1, hF⟩ := hF
    refine EvK.pure (v := Sl.val x2) (w_none rfl) rfl rfl (f_slice Try.underlying30 ty32.size rfl rfl bndV_none (bndV_some rfl) bndV_none hx1) ?_
    refine EvK.pure (v := Sl.val x2) (w_none rfl) rfl rfl (f_assign rfl rfl) ?_
    refine EvK.nil ?_
    refine WP.ret ?_
    exact Ret.mk (vs := [Sl.val x2]) x2 ⟨rfl, trivial⟩ rfl hF
  · intro k1 hF
    refine WP.seq ?_
    refine WP.region ?_
    refine EvK.pure (v := Sl.val a0) (w_none rfl) rfl rfl (f_move rfl rfl) ?_
    refine EvK.pure (v := .int .i64 (a0.len : Int)) (w_none rfl) rfl rfl (f_lenL (s := a0) Try.underlying30 rfl rfl) ?_
    refine EvK.pure (v := .int .i64 (a0.len : Int)) (w_none rfl) rfl rfl (f_assign rfl rfl) ?_
    refine EvK.nil ?_
    refine WP.block ?_
    refine WP.loopF (fun (s2 : Int) => [(4, .int .i64 s2), (0, Sl.val a0), (3, Sl.val x1)]) hF ⟨rfl, rfl, rfl, trivial⟩ ?_
    intro k2 s2 E0 h4 hF
    refine WP.seq ?_
    refine WP.seq ?_
    refine WP.region ?_
    refine EvK.pure (v := .int .i64 s2) (w_none rfl) rfl rfl (f_move rfl rfl) ?_
    refine EvK.pure (v := Sl.val x1) (w_none rfl) rfl rfl (f_move rfl rfl) ?_
    refine EvK.pure (v := .int .i64 (x1.len : Int)) (w_none rfl) rfl rfl (f_lenL (s := x1) Try.underlying30 rfl rfl) ?_
    refine EvK.pure (v := .bool (decide (s2 < (x1.len : Int)))) (w_none rfl) rfl rfl (f_lss rfl rfl rfl) ?_
    refine EvK.nil ?_
    rcases ite_inv hF with ⟨c1, hF⟩ | ⟨c1, hF⟩
    · refine WP.cond_true _ rfl c1 ?_
      refine WP.skip ?_
      refine WP.seq ?_
      refine WP.block ?_
      refine WP.region ?_
      refine EvK.pure (v := Sl.val x1) (w_none rfl) rfl rfl (f_move rfl rfl) ?_
      refine EvK.pure (v := .int .i64 s2) (w_none rfl) rfl rfl (f_move rfl rfl) ?_
      refine EvK.pure (v := .int .i64 s2) (w_none rfl) rfl rfl (f_move rfl rfl) ?_
      refine EvK.pure (v := .int .i64 (IntKind.i64.wrap ((-5) - s2))) (w_none rfl) rfl rfl (f_sub rfl rfl rfl) ?_
      refine EvK.pure (v := k31.val (S31.mk (IntKind.i64.wrap ((-5) - s2)) false)) (w_none rfl) rfl rfl (f_build (cells := k31.enc (S31.mk (IntKind.i64.wrap ((-5) - s2)) false)) st32 rfl rfl rfl) ?_
      obtain ⟨q1, hq1, hF⟩ := hF
      refine EvK.pure (v := .pointer (some q1)) (w_none rfl) rfl rfl (f_indexAddr (s := x1) Try.underlying30 ty32.size rfl rfl rfl hq1) ?_
      obtain ⟨h5, hs2, hF⟩ := hF
      refine EvK.runN (w_none rfl) rfl (f_store k31 ty32.size (z := (S31.mk (IntKind.i64.wrap ((-5) - s2)) false)) rfl rfl rfl hs2) ?_
      rintro _ _ ⟨rfl, rfl⟩
      refine EvK.nil ?_
      refine WP.region ?_
      refine EvK.pure (v := .int .i64 s2) (w_none rfl) rfl rfl (f_move rfl rfl) ?_
      refine EvK.pure (v := .int .i64 (IntKind.i64.wrap (s2 + 1))) (w_none rfl) rfl rfl (f_add rfl rfl rfl) ?_
      refine EvK.pure (v := .int .i64 (IntKind.i64.wrap (s2 + 1))) (w_none rfl) rfl rfl (f_assign rfl rfl) ?_
      refine EvK.nil ?_
      exact KE.mk (IntKind.i64.wrap (s2 + 1)) ⟨rfl, rfl, rfl, trivial⟩ hF
    · refine WP.cond_false _ rfl c1 ?_
      refine WP.exit ?_
      exact KE.mk () ⟨rfl, rfl, trivial⟩ hF
end Go.Proofs.Ytgmihbchcmjmdaa
