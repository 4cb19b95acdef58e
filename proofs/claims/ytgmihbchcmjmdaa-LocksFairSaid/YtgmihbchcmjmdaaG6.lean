/- Functions as predicates over the heap, and that the code comes to them. Printed by gen.py, merged by group.py. -/
import Derived.Test.YtgmihbchcmjmdaaG0
import Derived.Test.YtgmihbchcmjmdaaG1
import Derived.Test.YtgmihbchcmjmdaaG2
import Derived.Test.YtgmihbchcmjmdaaG3
import Derived.Test.YtgmihbchcmjmdaaG4
import Derived.Test.YtgmihbchcmjmdaaG5
import Derived.Test.YtgmihbchcmjmdaaTy
namespace Go.Proofs.Ytgmihbchcmjmdaa
open Go Go.Tr
set_option linter.unusedVariables false
set_option maxRecDepth 100000
set_option maxHeartbeats 400000
def spatelaw11_kept.b1 (p1 : Sl) (p5 : Sl) (s : Bool × Int) (h : H) (K : (Bool × Int) ⊕ Bool → H → Prop) : Prop :=
  if (decide (s.2 < (p5.len : Int))) = true then
    jn (fun (k2 : Bool → H → Prop) =>
      if (decide (s.2 < (p1.len : Int))) = true then
        if s.1 = true then
          rd (ixA 2 p5 s.2) fun q3 =>
          rd (ld k31 q3 h) fun x3 =>
          rd (ixA 2 p1 s.2) fun q4 =>
          rd (ld k31 q4 h) fun x4 =>
          k2 (eq32 x3 x4) h
        else
          k2 false h
      else
        if s.1 = true then
          rd (ixA 2 p5 s.2) fun q5 =>
          rd (ld k31 q5 h) fun x5 =>
          k2 (eq32 x5 (S31.mk (IntKind.i64.wrap ((-5) - s.2)) false)) h
        else
          k2 false h) fun s2 h2 =>
    rd (ixA 2 p5 s.2) fun q1 =>
    rd (ld kB (q1.add 1) h2) fun x2 =>
    rd (ixA 2 p5 s.2) fun q2 =>
    rd (st k31 q2 (S31.mk 1 (!x2)) h2) fun h3 =>
    K (.inl (s2, IntKind.i64.wrap (s.2 + 1))) h3
  else
    K (.inr s.1) h
/-- spate/spatelaw11.kept -/
def spatelaw11_kept (a0 : Sl) (a1 : Sl) (h : H) (Q : Bool → H → Prop) : Prop :=
  rd (slx 2 a0 none (some (IntKind.i64.wrap ((a1.len : Int) + 3))) none) fun x1 =>
  jn (fun (k1 : Bool → H → Prop) =>
    loopE (spatelaw11_kept.b1 a1 x1) (true, 0) h (fun r1 hh => k1 r1 hh)) fun s1 h1 =>
  Q s1 h1
theorem spatelaw11_kept.sound {a0 : Sl} {a1 : Sl} {h : H} {Q : Bool → H → Prop} (hF : spatelaw11_kept a0 a1 h Q) :
    CallsH Try.prog 50 (List.toArray (α := Value) [Sl.val a0, Sl.val a1]) h fun v h' => ∃ x : Bool, v = .bool x ∧ Q x h' := by
  refine CallsH.of_body Try.func50 rfl 57 rfl rfl ?_
  refine WP.seq ?_
  refine WP.region ?_
  refine EvK.pure (v := .bool false) (w_none rfl) rfl rfl (f_assign rfl rfl) ?_
  refine EvK.nil ?_
  refine WP.seq ?_
  refine WP.region ?_
  refine EvK.pure (v := Sl.val a0) (w_none rfl) rfl rfl (f_move rfl rfl) ?_
  refine EvK.pure (v := Sl.val a1) (w_none rfl) rfl rfl (f_move rfl rfl) ?_
  refine EvK.pure (v := .int .i64 (a1.len : Int)) (w_none rfl) rfl rfl (f_lenL (s := a1) Try.underlying30 rfl rfl) ?_
  refine EvK.pure (v := .int .i64 (IntKind.i64.wrap ((a1.len : Int) + 3))) (w_none rfl) rfl rfl (f_add rfl rfl rfl) ?_
  obtain ⟨x1, hx1, hF⟩ := hF
  refine EvK.pure (v := Sl.val x1) (w_none rfl) rfl rfl (f_slice Try.underlying30 ty32.size rfl rfl bndV_none (bndV_some rfl) bndV_none hx1) ?_
  refine EvK.pure (v := Sl.val x1) (w_none rfl) rfl rfl (f_assign rfl rfl) ?_
  refine EvK.nil ?_
  refine WP.seq ?_
  refine WP.region ?_
  refine EvK.pure (v := .bool true) (w_none rfl) rfl rfl (f_assign rfl rfl) ?_
  refine EvK.nil ?_
  refine WP.joinF (fun (s1 : Bool) => [(6, .bool s1)]) hF ?_ ?_
  · intro s1 E0 h1 hF
    refine WP.seq ?_
    refine WP.region ?_
    refine EvK.pure (v := .bool s1) (w_none rfl) rfl rfl (f_move rfl rfl) ?_
    refine EvK.pure (v := .bool s1) (w_none rfl) rfl rfl (f_assign rfl rfl) ?_
    refine EvK.nil ?_
    refine WP.ret ?_
    exact Ret.mk (vs := [.bool s1]) s1 ⟨rfl, trivial⟩ rfl hF
  · intro k1 hF
    refine WP.seq ?_
    refine WP.region ?_
    refine EvK.pure (v := .int .i64 0) (w_none rfl) rfl rfl (f_assign rfl rfl) ?_
    refine EvK.nil ?_
    refine WP.block ?_
    refine WP.loopF (fun (s2 : Bool × Int) => [(6, .bool s2.1), (7, .int .i64 s2.2), (1, Sl.val a1), (5, Sl.val x1)]) hF ⟨rfl, rfl, rfl, rfl, trivial⟩ ?_
    intro k2 s2 E0 h2 hF
    refine WP.seq ?_
    refine WP.seq ?_
    refine WP.region ?_
    refine EvK.pure (v := .int .i64 s2.2) (w_none rfl) rfl rfl (f_move rfl rfl) ?_
    refine EvK.pure (v := Sl.val x1) (w_none rfl) rfl rfl (f_move rfl rfl) ?_
    refine EvK.pure (v := .int .i64 (x1.len : Int)) (w_none rfl) rfl rfl (f_lenL (s := x1) Try.underlying30 rfl rfl) ?_
    refine EvK.pure (v := .bool (decide (s2.2 < (x1.len : Int)))) (w_none rfl) rfl rfl (f_lss rfl rfl rfl) ?_
    refine EvK.nil ?_
    rcases ite_inv hF with ⟨c1, hF⟩ | ⟨c1, hF⟩
    · refine WP.cond_true _ rfl c1 ?_
      refine WP.skip ?_
      refine WP.seq ?_
      refine WP.block ?_
      refine WP.joinF (fun (s3 : Bool) => [(6, .bool s3), (1, Sl.val a1), (5, Sl.val x1), (7, .int .i64 s2.2)]) hF ?_ ?_
      · intro s3 E0 h3 hF
        refine WP.region ?_
        refine EvK.pure (v := Sl.val x1) (w_none rfl) rfl rfl (f_move rfl rfl) ?_
        refine EvK.pure (v := .int .i64 s2.2) (w_none rfl) rfl rfl (f_move rfl rfl) ?_
        refine EvK.pure (v := Sl.val x1) (w_none rfl) rfl rfl (f_move rfl rfl) ?_
        refine EvK.pure (v := .int .i64 s2.2) (w_none rfl) rfl rfl (f_move rfl rfl) ?_
        obtain ⟨q1, hq1, hF⟩ := hF
        refine EvK.pure (v := .pointer (some q1)) (w_none rfl) rfl rfl (f_indexAddr (s := x1) Try.underlying30 ty32.size rfl rfl rfl hq1) ?_
        refine EvK.pure (v := .pointer (some (q1.add 1))) (w_none rfl) rfl rfl (f_fieldAddr fd32_1 rfl rfl) ?_
        obtain ⟨x2, hx2, hF⟩ := hF
        refine EvK.read (v := .bool x2) (w_none rfl) rfl rfl (f_load kB ty4 rfl rfl hx2 rfl) ?_
        refine EvK.pure (v := .bool (!x2)) (w_none rfl) rfl rfl (f_not rfl rfl) ?_
        refine EvK.pure (v := k31.val (S31.mk 1 (!x2))) (w_none rfl) rfl rfl (f_build (cells := k31.enc (S31.mk 1 (!x2))) st32 rfl rfl rfl) ?_
        obtain ⟨q2, hq2, hF⟩ := hF
        refine EvK.pure (v := .pointer (some q2)) (w_none rfl) rfl rfl (f_indexAddr (s := x1) Try.underlying30 ty32.size rfl rfl rfl hq2) ?_
        obtain ⟨h4, hs1, hF⟩ := hF
        refine EvK.runN (w_none rfl) rfl (f_store k31 ty32.size (z := (S31.mk 1 (!x2))) rfl rfl rfl hs1) ?_
        rintro _ _ ⟨rfl, rfl⟩
        refine EvK.nil ?_
        refine WP.region ?_
        refine EvK.pure (v := .int .i64 s2.2) (w_none rfl) rfl rfl (f_move rfl rfl) ?_
        refine EvK.pure (v := .int .i64 (IntKind.i64.wrap (s2.2 + 1))) (w_none rfl) rfl rfl (f_add rfl rfl rfl) ?_
        refine EvK.pure (v := .int .i64 (IntKind.i64.wrap (s2.2 + 1))) (w_none rfl) rfl rfl (f_assign rfl rfl) ?_
        refine EvK.nil ?_
        exact KE.mk (s3, IntKind.i64.wrap (s2.2 + 1)) ⟨rfl, rfl, rfl, rfl, trivial⟩ hF
      · intro k3 hF
        refine WP.seq ?_
        refine WP.region ?_
        refine EvK.pure (v := .int .i64 s2.2) (w_none rfl) rfl rfl (f_move rfl rfl) ?_
        refine EvK.pure (v := Sl.val a1) (w_none rfl) rfl rfl (f_move rfl rfl) ?_
        refine EvK.pure (v := .int .i64 (a1.len : Int)) (w_none rfl) rfl rfl (f_lenL (s := a1) Try.underlying30 rfl rfl) ?_
        refine EvK.pure (v := .bool (decide (s2.2 < (a1.len : Int)))) (w_none rfl) rfl rfl (f_lss rfl rfl rfl) ?_
        refine EvK.nil ?_
        rcases ite_inv hF with ⟨c2, hF⟩ | ⟨c2, hF⟩
        · refine WP.cond_true _ rfl c2 ?_
          refine WP.draw mixed [.pure, .pure, .pure, .pure, .pure, .read, .pure, .pure, .pure, .read, .pure, .pure, .pure] [[], [0], [0, 1], [0, 1], [0, 1, 2, 3], [0, 1, 2, 3, 4], [0, 1], [0, 1], [0, 1, 6, 7], [0, 1, 6, 7, 8], [0, 1, 2, 3, 4, 5, 6, 7, 8, 9], [0, 1, 2, 3, 4, 5, 6, 7, 8, 9, 10], [0, 1, 2, 3, 4, 5, 6, 7, 8, 9, 10, 11]] [0, 1, 2, 3, 4, 5, 6, 7, 8, 9, 10, 11, 12] (by kernel_rfl) (by kernel_rfl) ?_
          refine EvI.pure (v := .bool s2.1) rfl rfl (w_none rfl) rfl (f_move rfl rfl) ?_
          refine EvI.pure (v := .bool s2.1) rfl rfl (w_none rfl) rfl (f_move rfl rfl) ?_
          rcases ite_inv hF with ⟨c3, hF⟩ | ⟨c3, hF⟩
          · refine EvI.pure (v := Sl.val x1) rfl rfl (w_some rfl rfl c3) rfl (f_move rfl rfl) ?_
            refine EvI.pure (v := .int .i64 s2.2) rfl rfl (w_some rfl rfl c3) rfl (f_move rfl rfl) ?_
            obtain ⟨q3, hq3, hF⟩ := hF
            refine EvI.pure (v := .pointer (some q3)) rfl rfl (w_some rfl rfl c3) rfl (f_indexAddr (s := x1) Try.underlying30 ty32.size rfl rfl rfl hq3) ?_
            obtain ⟨x3, hx3, hF⟩ := hF
            refine EvI.read (v := k31.val x3) rfl rfl (w_some rfl rfl c3) rfl (f_load k31 ty32 rfl rfl hx3 rfl) ?_
            refine EvI.pure (v := Sl.val a1) rfl rfl (w_some rfl rfl c3) rfl (f_move rfl rfl) ?_
            refine EvI.pure (v := .int .i64 s2.2) rfl rfl (w_some rfl rfl c3) rfl (f_move rfl rfl) ?_
            obtain ⟨q4, hq4, hF⟩ := hF
            refine EvI.pure (v := .pointer (some q4)) rfl rfl (w_some rfl rfl c3) rfl (f_indexAddr (s := a1) Try.underlying30 ty32.size rfl rfl rfl hq4) ?_
            obtain ⟨x4, hx4, hF⟩ := hF
            refine EvI.read (v := k31.val x4) rfl rfl (w_some rfl rfl c3) rfl (f_load k31 ty32 rfl rfl hx4 rfl) ?_
            refine EvI.pure (v := .bool (eq32 x3 x4)) rfl rfl (w_some rfl rfl c3) rfl (f_eqlOf rfl rfl rfl (guard32 _ _) rfl (eqIn32 _ _)) ?_
            refine EvI.pure (v := .bool (eq32 x3 x4)) rfl rfl (w_none rfl) rfl (f_pickT rfl rfl c3 rfl) ?_
            refine EvI.pure (v := .bool (eq32 x3 x4)) rfl rfl (w_none rfl) rfl (f_assign rfl rfl) ?_
            refine EvI.nil ?_
            exact KE.mk (eq32 x3 x4) ⟨rfl, rfl, rfl, rfl, trivial⟩ hF
          · refine EvI.not rfl (w_not rfl rfl c3) rfl ?_
            refine EvI.not rfl (w_not rfl rfl c3) rfl ?_
            refine EvI.not rfl (w_not rfl rfl c3) rfl ?_
            refine EvI.not rfl (w_not rfl rfl c3) rfl ?_
            refine EvI.not rfl (w_not rfl rfl c3) rfl ?_
            refine EvI.not rfl (w_not rfl rfl c3) rfl ?_
            refine EvI.not rfl (w_not rfl rfl c3) rfl ?_
            refine EvI.not rfl (w_not rfl rfl c3) rfl ?_
            refine EvI.not rfl (w_not rfl rfl c3) rfl ?_
            refine EvI.pure (v := .bool false) rfl rfl (w_none rfl) rfl (f_pickF rfl rfl c3 rfl) ?_
            refine EvI.pure (v := .bool false) rfl rfl (w_none rfl) rfl (f_assign rfl rfl) ?_
            refine EvI.nil ?_
            exact KE.mk false ⟨rfl, rfl, rfl, rfl, trivial⟩ hF
        · refine WP.cond_false _ rfl c2 ?_
          refine WP.region ?_
          refine EvK.pure (v := .bool s2.1) (w_none rfl) rfl rfl (f_move rfl rfl) ?_
          refine EvK.pure (v := .bool s2.1) (w_none rfl) rfl rfl (f_move rfl rfl) ?_
          rcases ite_inv hF with ⟨c4, hF⟩ | ⟨c4, hF⟩
          · refine EvK.pure (v := Sl.val x1) (w_some rfl rfl c4) rfl rfl (f_move rfl rfl) ?_
            refine EvK.pure (v := .int .i64 s2.2) (w_some rfl rfl c4) rfl rfl (f_move rfl rfl) ?_
            obtain ⟨q5, hq5, hF⟩ := hF
            refine EvK.pure (v := .pointer (some q5)) (w_some rfl rfl c4) rfl rfl (f_indexAddr (s := x1) Try.underlying30 ty32.size rfl rfl rfl hq5) ?_
            obtain ⟨x5, hx5, hF⟩ := hF
            refine EvK.read (v := k31.val x5) (w_some rfl rfl c4) rfl rfl (f_load k31 ty32 rfl rfl hx5 rfl) ?_
            refine EvK.pure (v := .int .i64 s2.2) (w_some rfl rfl c4) rfl rfl (f_move rfl rfl) ?_
            refine EvK.pure (v := .int .i64 (IntKind.i64.wrap ((-5) - s2.2))) (w_some rfl rfl c4) rfl rfl (f_sub rfl rfl rfl) ?_
            refine EvK.pure (v := k31.val (S31.mk (IntKind.i64.wrap ((-5) - s2.2)) false)) (w_some rfl rfl c4) rfl rfl (f_build (cells := k31.enc (S31.mk (IntKind.i64.wrap ((-5) - s2.2)) false)) st32 rfl rfl rfl) ?_
            refine EvK.pure (v := .bool (eq32 x5 (S31.mk (IntKind.i64.wrap ((-5) - s2.2)) false))) (w_some rfl rfl c4) rfl rfl (f_eqlOf rfl rfl rfl (guard32 _ _) rfl (eqIn32 _ _)) ?_
            refine EvK.pure (v := .bool (eq32 x5 (S31.mk (IntKind.i64.wrap ((-5) - s2.2)) false))) (w_none rfl) rfl rfl (f_pickT rfl rfl c4 rfl) ?_
            refine EvK.pure (v := .bool (eq32 x5 (S31.mk (IntKind.i64.wrap ((-5) - s2.2)) false))) (w_none rfl) rfl rfl (f_assign rfl rfl) ?_
            refine EvK.nil ?_
            exact KE.mk (eq32 x5 (S31.mk (IntKind.i64.wrap ((-5) - s2.2)) false)) ⟨rfl, rfl, rfl, rfl, trivial⟩ hF
          · refine EvK.not (w_not rfl rfl c4) rfl rfl ?_
            refine EvK.not (w_not rfl rfl c4) rfl rfl ?_
            refine EvK.not (w_not rfl rfl c4) rfl rfl ?_
            refine EvK.not (w_not rfl rfl c4) rfl rfl ?_
            refine EvK.not (w_not rfl rfl c4) rfl rfl ?_
            refine EvK.not (w_not rfl rfl c4) rfl rfl ?_
            refine EvK.not (w_not rfl rfl c4) rfl rfl ?_
            refine EvK.not (w_not rfl rfl c4) rfl rfl ?_
            refine EvK.pure (v := .bool false) (w_none rfl) rfl rfl (f_pickF rfl rfl c4 rfl) ?_
            refine EvK.pure (v := .bool false) (w_none rfl) rfl rfl (f_assign rfl rfl) ?_
            refine EvK.nil ?_
            exact KE.mk false ⟨rfl, rfl, rfl, rfl, trivial⟩ hF
    · refine WP.cond_false _ rfl c1 ?_
      refine WP.exit ?_
      exact KE.mk s2.1 ⟨rfl, trivial⟩ hF
end Go.Proofs.Ytgmihbchcmjmdaa

namespace Go.Proofs.Ytgmihbchcmjmdaa
open Go Go.Tr
set_option linter.unusedVariables false
set_option maxRecDepth 100000
set_option maxHeartbeats 400000
def spateref11_Manager_ordered.b1 (p1 : Sl) (p6 : Sl) (s : Int) (h : H) (K : Int ⊕ (Unit ⊕ (Sl × Bool)) → H → Prop) : Prop :=
  if (decide (s < (p6.len : Int))) = true then
    rd (ixA 2 p6 s) fun q1 =>
    rd (ld (kI .i64) (q1.add 0) h) fun x1 =>
    rd (ixA 2 p6 (IntKind.i64.wrap (s - 1))) fun q2 =>
    rd (ld (kI .i64) (q2.add 0) h) fun x2 =>
    if (x1 == x2) = true then
      K (.inr (.inr (Sl.nil, false))) h
    else
      K (.inl (IntKind.i64.wrap (s + 1))) h
  else
    K (.inr (.inl ())) h
def spateref11_Manager_ordered.b3 (p0 : Option Addr) (p1 : Sl) (p7 : Int) (s : Sl × Int) (h : H) (K : (Sl × Int) ⊕ Sl → H → Prop) : Prop :=
  if (decide (s.2 < (p1.len : Int))) = true then
    jn (fun (k6 : Sl → H → Prop) =>
      rd (ixA 2 p1 s.2) fun q4 =>
      rd (ld (kI .i64) (q4.add 0) h) fun x4 =>
      if (x4 == p7) = true then
        rd (ixA 2 p1 s.2) fun q5 =>
        rd (ld k31 q5 h) fun x5 =>
        bs 32 1 (k31.enc x5) h fun x6 h7 =>
        ap k31.n 16 32 (k31.enc z31) s.1 x6 h7 fun x7 h8 =>
        k6 x7 h8
      else
        k6 s.1 h) fun s6 h6 =>
    K (.inl (s6, IntKind.i64.wrap (s.2 + 1))) h6
  else
    K (.inr s.1) h
def spateref11_Manager_ordered.b2 (p0 : Option Addr) (p1 : Sl) (s : Sl × Int) (h : H) (K : (Sl × Int) ⊕ Sl → H → Prop) : Prop :=
  rd p0 fun q3 =>
  rd (ld (kI .i64) (q3.add 0) h) fun x3 =>
  if (decide (s.2 < x3)) = true then
    jn (fun (k5 : Sl → H → Prop) =>
      loopE (spateref11_Manager_ordered.b3 p0 p1 s.2) (s.1, 0) h (fun r3 hh => k5 r3 hh)) fun s5 h5 =>
    K (.inl (s5, IntKind.i64.wrap (s.2 + 1))) h5
  else
    K (.inr s.1) h
/-- (*spate/spateref11.Manager).ordered -/
def spateref11_Manager_ordered (a0 : Option Addr) (a1 : Sl) (h : H) (Q : (Sl × Bool) → H → Prop) : Prop :=
  jn (fun (k1 : Sl → H → Prop) =>
    loopE (spateref11_Manager_ordered.b2 a0 a1) (Sl.nil, 0) h (fun r4 hh => k1 r4 hh)) fun s1 h1 =>
  jn (fun (k2 : Unit → H → Prop) =>
    loopE (spateref11_Manager_ordered.b1 a1 s1) 1 h1 (sumK (fun r1 hh => k2 r1 hh) (fun r2 hh => Q r2 hh))) fun s2 h2 =>
  jn (fun (k3 : (Sl × Bool) → H → Prop) =>
    if ((s1.len : Int) == (a1.len : Int)) = true then
      k3 (s1, decide ((a1.len : Int) > 0)) h2
    else
      k3 (s1, false) h2) fun s3 h3 =>
  Q (s3.1, s3.2) h3
theorem spateref11_Manager_ordered.sound {a0 : Option Addr} {a1 : Sl} {h : H} {Q : (Sl × Bool) → H → Prop} (hF : spateref11_Manager_ordered a0 a1 h Q) :
    CallsH Try.prog 59 (List.toArray (α := Value) [.pointer a0, Sl.val a1]) h fun v h' => ∃ x : Sl × Bool, v = .tuple #[Sl.val x.1, .bool x.2] ∧ Q x h' := by
  refine CallsH.of_body Try.func59 rfl 67 rfl rfl ?_
  refine WP.seq ?_
  refine WP.region ?_
  refine EvK.pure (v := Sl.val Sl.nil) (w_none rfl) rfl rfl (f_assign rfl rfl) ?_
  refine EvK.pure (v := .bool false) (w_none rfl) rfl rfl (f_assign rfl rfl) ?_
  refine EvK.nil ?_
  refine WP.seq ?_
  refine WP.region ?_
  refine EvK.pure (v := Sl.val Sl.nil) (w_none rfl) rfl rfl (f_assign rfl rfl) ?_
  refine EvK.nil ?_
  refine WP.joinF (fun (s1 : Sl) => [(6, Sl.val s1), (1, Sl.val a1)]) hF ?_ ?_
  · intro s1 E0 h1 hF
    refine WP.joinF (fun (s2 : Unit) => [(1, Sl.val a1), (6, Sl.val s1)]) hF ?_ ?_
    · intro s2 E0 h2 hF
      refine WP.joinF (fun (s3 : Sl × Bool) => [(4, Sl.val s3.1), (5, .bool s3.2)]) hF ?_ ?_
      · intro s3 E0 h3 hF
        refine WP.ret ?_
        exact Ret.mk (vs := [Sl.val s3.1, .bool s3.2]) (s3.1, s3.2) ⟨rfl, rfl, trivial⟩ rfl hF
      · intro k3 hF
        refine WP.region ?_
        refine EvK.pure (v := Sl.val s1) (w_none rfl) rfl rfl (f_move rfl rfl) ?_
        refine EvK.pure (v := Sl.val s1) (w_none rfl) rfl rfl (f_move rfl rfl) ?_
        refine EvK.pure (v := .int .i64 (s1.len : Int)) (w_none rfl) rfl rfl (f_lenL (s := s1) Try.underlying30 rfl rfl) ?_
        refine EvK.pure (v := Sl.val a1) (w_none rfl) rfl rfl (f_move rfl rfl) ?_
        refine EvK.pure (v := .int .i64 (a1.len : Int)) (w_none rfl) rfl rfl (f_lenL (s := a1) Try.underlying30 rfl rfl) ?_
        refine EvK.pure (v := .bool ((s1.len : Int) == (a1.len : Int))) (w_none rfl) rfl rfl (f_eql rfl rfl rfl) ?_
        refine EvK.pure (v := .bool ((s1.len : Int) == (a1.len : Int))) (w_none rfl) rfl rfl (f_move rfl rfl) ?_
        rcases ite_inv hF with ⟨c1, hF⟩ | ⟨c1, hF⟩
        · refine EvK.pure (v := Sl.val a1) (w_some rfl rfl c1) rfl rfl (f_move rfl rfl) ?_
          refine EvK.pure (v := .int .i64 (a1.len : Int)) (w_some rfl rfl c1) rfl rfl (f_lenL (s := a1) Try.underlying30 rfl rfl) ?_
          refine EvK.pure (v := .bool (decide ((a1.len : Int) > 0))) (w_some rfl rfl c1) rfl rfl (f_gtr rfl rfl rfl) ?_
          refine EvK.pure (v := .bool (decide ((a1.len : Int) > 0))) (w_none rfl) rfl rfl (f_pickT rfl rfl c1 rfl) ?_
          refine EvK.pure (v := Sl.val s1) (w_none rfl) rfl rfl (f_assign rfl rfl) ?_
          refine EvK.pure (v := .bool (decide ((a1.len : Int) > 0))) (w_none rfl) rfl rfl (f_assign rfl rfl) ?_
          refine EvK.nil ?_
          exact KE.mk (s1, decide ((a1.len : Int) > 0)) ⟨rfl, rfl, trivial⟩ hF
        · refine EvK.not (w_not rfl rfl c1) rfl rfl ?_
          refine EvK.not (w_not rfl rfl c1) rfl rfl ?_
          refine EvK.not (w_not rfl rfl c1) rfl rfl ?_
          refine EvK.pure (v := .bool false) (w_none rfl) rfl rfl (f_pickF rfl rfl c1 rfl) ?_
          refine EvK.pure (v := Sl.val s1) (w_none rfl) rfl rfl (f_assign rfl rfl) ?_
          refine EvK.pure (v := .bool false) (w_none rfl) rfl rfl (f_assign rfl rfl) ?_
          refine EvK.nil ?_
          exact KE.mk (s1, false) ⟨rfl, rfl, trivial⟩ hF
    · intro k2 hF
      refine WP.seq ?_
      refine WP.region ?_
      refine EvK.pure (v := .int .i64 1) (w_none rfl) rfl rfl (f_assign rfl rfl) ?_
      refine EvK.nil ?_
      refine WP.block ?_
      refine WP.loopF (fun (s4 : Int) => [(9, .int .i64 s4), (1, Sl.val a1), (6, Sl.val s1)]) hF ⟨rfl, rfl, rfl, trivial⟩ ?_
      intro k4 s4 E0 h4 hF
      refine WP.seq ?_
      refine WP.seq ?_
      refine WP.region ?_
      refine EvK.pure (v := .int .i64 s4) (w_none rfl) rfl rfl (f_move rfl rfl) ?_
      refine EvK.pure (v := Sl.val s1) (w_none rfl) rfl rfl (f_move rfl rfl) ?_
      refine EvK.pure (v := .int .i64 (s1.len : Int)) (w_none rfl) rfl rfl (f_lenL (s := s1) Try.underlying30 rfl rfl) ?_
      refine EvK.pure (v := .bool (decide (s4 < (s1.len : Int)))) (w_none rfl) rfl rfl (f_lss rfl rfl rfl) ?_
      refine EvK.nil ?_
      rcases ite_inv hF with ⟨c2, hF⟩ | ⟨c2, hF⟩
      · refine WP.cond_true _ rfl c2 ?_
        refine WP.skip ?_
        refine WP.seq ?_
        refine WP.block ?_
        refine WP.seq ?_
        refine WP.draw mixed [.pure, .pure, .pure, .pure, .read, .pure, .pure, .pure, .pure, .pure, .read, .pure] [[], [], [0, 1], [0, 1, 2], [0, 1, 2, 3], [], [], [6], [5, 6, 7], [5, 6, 7, 8], [5, 6, 7, 8, 9], [0, 1, 2, 3, 4, 5, 6, 7, 8, 9, 10]] [0, 1, 2, 3, 4, 5, 6, 7, 8, 9, 10, 11] (by kernel_rfl) (by kernel_rfl) ?_
        refine EvI.pure (v := Sl.val s1) rfl rfl (w_none rfl) rfl (f_move rfl rfl) ?_
        refine EvI.pure (v := .int .i64 s4) rfl rfl (w_none rfl) rfl (f_move rfl rfl) ?_
        obtain ⟨q1, hq1, hF⟩ := hF
        refine EvI.pure (v := .pointer (some q1)) rfl rfl (w_none rfl) rfl (f_indexAddr (s := s1) Try.underlying30 ty32.size rfl rfl rfl hq1) ?_
        refine EvI.pure (v := .pointer (some (q1.add 0))) rfl rfl (w_none rfl) rfl (f_fieldAddr fd32_0 rfl rfl) ?_
        obtain ⟨x1, hx1, hF⟩ := hF
        refine EvI.read (v := .int .i64 x1) rfl rfl (w_none rfl) rfl (f_load (kI .i64) ty3 rfl rfl hx1 rfl) ?_
        refine EvI.pure (v := Sl.val s1) rfl rfl (w_none rfl) rfl (f_move rfl rfl) ?_
        refine EvI.pure (v := .int .i64 s4) rfl rfl (w_none rfl) rfl (f_move rfl rfl) ?_
        refine EvI.pure (v := .int .i64 (IntKind.i64.wrap (s4 - 1))) rfl rfl (w_none rfl) rfl (f_sub rfl rfl rfl) ?_
        obtain ⟨q2, hq2, hF⟩ := hF
        refine EvI.pure (v := .pointer (some q2)) rfl rfl (w_none rfl) rfl (f_indexAddr (s := s1) Try.underlying30 ty32.size rfl rfl rfl hq2) ?_
        refine EvI.pure (v := .pointer (some (q2.add 0))) rfl rfl (w_none rfl) rfl (f_fieldAddr fd32_0 rfl rfl) ?_
        obtain ⟨x2, hx2, hF⟩ := hF
        refine EvI.read (v := .int .i64 x2) rfl rfl (w_none rfl) rfl (f_load (kI .i64) ty3 rfl rfl hx2 rfl) ?_
        refine EvI.pure (v := .bool (x1 == x2)) rfl rfl (w_none rfl) rfl (f_eql rfl rfl rfl) ?_
        refine EvI.nil ?_
        rcases ite_inv hF with ⟨c3, hF⟩ | ⟨c3, hF⟩
        · refine WP.cond_true _ rfl c3 ?_
          refine WP.seq ?_
          refine WP.region ?_
          refine EvK.pure (v := Sl.val Sl.nil) (w_none rfl) rfl rfl (f_assign rfl rfl) ?_
          refine EvK.pure (v := .bool false) (w_none rfl) rfl rfl (f_assign rfl rfl) ?_
          refine EvK.nil ?_
          refine WP.ret ?_
          exact Ret.mk (vs := [Sl.val Sl.nil, .bool false]) (Sl.nil, false) ⟨rfl, rfl, trivial⟩ rfl hF
        · refine WP.cond_false _ rfl c3 ?_
          refine WP.skip ?_
          refine WP.region ?_
          refine EvK.pure (v := .int .i64 s4) (w_none rfl) rfl rfl (f_move rfl rfl) ?_
          refine EvK.pure (v := .int .i64 (IntKind.i64.wrap (s4 + 1))) (w_none rfl) rfl rfl (f_add rfl rfl rfl) ?_
          refine EvK.pure (v := .int .i64 (IntKind.i64.wrap (s4 + 1))) (w_none rfl) rfl rfl (f_assign rfl rfl) ?_
          refine EvK.nil ?_
          exact KE.mk (IntKind.i64.wrap (s4 + 1)) ⟨rfl, rfl, rfl, trivial⟩ hF
      · refine WP.cond_false _ rfl c2 ?_
        refine WP.exit ?_
        exact KE.mk () ⟨rfl, rfl, trivial⟩ hF
  · intro k1 hF
    refine WP.seq ?_
    refine WP.region ?_
    refine EvK.pure (v := .int .i64 0) (w_none rfl) rfl rfl (f_assign rfl rfl) ?_
    refine EvK.nil ?_
    refine WP.block ?_
    refine WP.loopF (fun (s5 : Sl × Int) => [(6, Sl.val s5.1), (7, .int .i64 s5.2), (0, .pointer a0), (1, Sl.val a1)]) hF ⟨rfl, rfl, rfl, rfl, trivial⟩ ?_
    intro k5 s5 E0 h5 hF
    refine WP.seq ?_
    refine WP.seq ?_
    refine WP.region ?_
    refine EvK.pure (v := .int .i64 s5.2) (w_none rfl) rfl rfl (f_move rfl rfl) ?_
    refine EvK.pure (v := .pointer a0) (w_none rfl) rfl rfl (f_move rfl rfl) ?_
    obtain ⟨q3, hq3, hF⟩ := hF
    refine EvK.pure (v := .pointer (some q3)) (w_none rfl) rfl rfl (f_nilCheck rfl (congrArg Value.pointer hq3)) ?_
    refine EvK.pure (v := .pointer (some (q3.add 0))) (w_none rfl) rfl rfl (f_fieldAddr fd93_0 rfl rfl) ?_
    obtain ⟨x3, hx3, hF⟩ := hF
    refine EvK.read (v := .int .i64 x3) (w_none rfl) rfl rfl (f_load (kI .i64) ty3 rfl rfl hx3 rfl) ?_
    refine EvK.pure (v := .bool (decide (s5.2 < x3))) (w_none rfl) rfl rfl (f_lss rfl rfl rfl) ?_
    refine EvK.nil ?_
    rcases ite_inv hF with ⟨c4, hF⟩ | ⟨c4, hF⟩
    · refine WP.cond_true _ rfl c4 ?_
      refine WP.skip ?_
      refine WP.joinF (fun (s6 : Sl) => [(6, Sl.val s6), (0, .pointer a0), (1, Sl.val a1), (7, .int .i64 s5.2)]) hF ?_ ?_
      · intro s6 E0 h6 hF
        refine WP.region ?_
        refine EvK.pure (v := .int .i64 s5.2) (w_none rfl) rfl rfl (f_move rfl rfl) ?_
        refine EvK.pure (v := .int .i64 (IntKind.i64.wrap (s5.2 + 1))) (w_none rfl) rfl rfl (f_add rfl rfl rfl) ?_
        refine EvK.pure (v := .int .i64 (IntKind.i64.wrap (s5.2 + 1))) (w_none rfl) rfl rfl (f_assign rfl rfl) ?_
        refine EvK.nil ?_
        exact KE.mk (s6, IntKind.i64.wrap (s5.2 + 1)) ⟨rfl, rfl, rfl, rfl, trivial⟩ hF
      · intro k6 hF
        refine WP.block ?_
        refine WP.seq ?_
        refine WP.region ?_
        refine EvK.pure (v := .int .i64 0) (w_none rfl) rfl rfl (f_assign rfl rfl) ?_
        refine EvK.nil ?_
        refine WP.block ?_
        refine WP.loopF (fun (s7 : Sl × Int) => [(6, Sl.val s7.1), (8, .int .i64 s7.2), (0, .pointer a0), (1, Sl.val a1), (7, .int .i64 s5.2)]) hF ⟨rfl, rfl, rfl, rfl, rfl, trivial⟩ ?_
        intro k7 s7 E0 h7 hF
        refine WP.seq ?_
        refine WP.seq ?_
        refine WP.region ?_
        refine EvK.pure (v := .int .i64 s7.2) (w_none rfl) rfl rfl (f_move rfl rfl) ?_
        refine EvK.pure (v := Sl.val a1) (w_none rfl) rfl rfl (f_move rfl rfl) ?_
        refine EvK.pure (v := .int .i64 (a1.len : Int)) (w_none rfl) rfl rfl (f_lenL (s := a1) Try.underlying30 rfl rfl) ?_
        refine EvK.pure (v := .bool (decide (s7.2 < (a1.len : Int)))) (w_none rfl) rfl rfl (f_lss rfl rfl rfl) ?_
        refine EvK.nil ?_
        rcases ite_inv hF with ⟨c5, hF⟩ | ⟨c5, hF⟩
        · refine WP.cond_true _ rfl c5 ?_
          refine WP.skip ?_
          refine WP.joinF (fun (s8 : Sl) => [(6, Sl.val s8), (0, .pointer a0), (1, Sl.val a1), (7, .int .i64 s5.2), (8, .int .i64 s7.2)]) hF ?_ ?_
          · intro s8 E0 h8 hF
            refine WP.region ?_
            refine EvK.pure (v := .int .i64 s7.2) (w_none rfl) rfl rfl (f_move rfl rfl) ?_
            refine EvK.pure (v := .int .i64 (IntKind.i64.wrap (s7.2 + 1))) (w_none rfl) rfl rfl (f_add rfl rfl rfl) ?_
            refine EvK.pure (v := .int .i64 (IntKind.i64.wrap (s7.2 + 1))) (w_none rfl) rfl rfl (f_assign rfl rfl) ?_
            refine EvK.nil ?_
            exact KE.mk (s8, IntKind.i64.wrap (s7.2 + 1)) ⟨rfl, rfl, rfl, rfl, rfl, trivial⟩ hF
          · intro k8 hF
            refine WP.block ?_
            refine WP.seq ?_
            refine WP.region ?_
            refine EvK.pure (v := Sl.val a1) (w_none rfl) rfl rfl (f_move rfl rfl) ?_
            refine EvK.pure (v := .int .i64 s7.2) (w_none rfl) rfl rfl (f_move rfl rfl) ?_
            obtain ⟨q4, hq4, hF⟩ := hF
            refine EvK.pure (v := .pointer (some q4)) (w_none rfl) rfl rfl (f_indexAddr (s := a1) Try.underlying30 ty32.size rfl rfl rfl hq4) ?_
            refine EvK.pure (v := .pointer (some (q4.add 0))) (w_none rfl) rfl rfl (f_fieldAddr fd32_0 rfl rfl) ?_
            obtain ⟨x4, hx4, hF⟩ := hF
            refine EvK.read (v := .int .i64 x4) (w_none rfl) rfl rfl (f_load (kI .i64) ty3 rfl rfl hx4 rfl) ?_
            refine EvK.pure (v := .int .i64 s5.2) (w_none rfl) rfl rfl (f_move rfl rfl) ?_
            refine EvK.pure (v := .bool (x4 == s5.2)) (w_none rfl) rfl rfl (f_eql rfl rfl rfl) ?_
            refine EvK.nil ?_
            rcases ite_inv hF with ⟨c6, hF⟩ | ⟨c6, hF⟩
            · refine WP.cond_true _ rfl c6 ?_
              refine WP.region ?_
              refine EvK.pure (v := Sl.val s7.1) (w_none rfl) rfl rfl (f_move rfl rfl) ?_
              refine EvK.pure (v := Sl.val a1) (w_none rfl) rfl rfl (f_move rfl rfl) ?_
              refine EvK.pure (v := .int .i64 s7.2) (w_none rfl) rfl rfl (f_move rfl rfl) ?_
              obtain ⟨q5, hq5, hF⟩ := hF
              refine EvK.pure (v := .pointer (some q5)) (w_none rfl) rfl rfl (f_indexAddr (s := a1) Try.underlying30 ty32.size rfl rfl rfl hq5) ?_
              obtain ⟨x5, hx5, hF⟩ := hF
              refine EvK.read (v := k31.val x5) (w_none rfl) rfl rfl (f_load k31 ty32 rfl rfl hx5 rfl) ?_
              refine EvK.alloc (w_none rfl) rfl rfl (f_buildSliceF Try.underlying30 el32 (by decide) rfl rfl rfl hF) ?_
              rintro _ h9 ⟨x6, rfl, hF⟩
              refine EvK.run (w_none rfl) rfl rfl (f_appendE (s := s7.1) (x := x6) Try.underlying30 el32 rfl rfl rfl hF) ?_
              rintro _ h10 ⟨x7, rfl, hF⟩
              refine EvK.pure (v := Sl.val x7) (w_none rfl) rfl rfl (f_assign rfl rfl) ?_
              refine EvK.nil ?_
              exact KE.mk x7 ⟨rfl, rfl, rfl, rfl, rfl, trivial⟩ hF
            · refine WP.cond_false _ rfl c6 ?_
              refine WP.skip ?_
              exact KE.mk s7.1 ⟨rfl, rfl, rfl, rfl, rfl, trivial⟩ hF
        · refine WP.cond_false _ rfl c5 ?_
          refine WP.exit ?_
          exact KE.mk s7.1 ⟨rfl, rfl, rfl, rfl, trivial⟩ hF
    · refine WP.cond_false _ rfl c4 ?_
      refine WP.exit ?_
      exact KE.mk s5.1 ⟨rfl, rfl, trivial⟩ hF
end Go.Proofs.Ytgmihbchcmjmdaa

namespace Go.Proofs.Ytgmihbchcmjmdaa
open Go Go.Tr
set_option linter.unusedVariables false
set_option maxRecDepth 100000
set_option maxHeartbeats 400000
/-- (*spate/spateref11.Manager).Ask -/
def spateref11_Manager_Ask (a0 : Option Addr) (a1 : Int) (a2 : Sl) (h : H) (Q : (Bool × Int) → H → Prop) : Prop :=
  spateref11_Manager_ordered a0 a2 h fun r1 h1 =>
  jn (fun (k1 : Bool → H → Prop) =>
    if (decide (a1 < 0)) = true then
      k1 true h1
    else
      k1 (!r1.2) h1) fun s1 h2 =>
  if s1 = true then
    Q (false, 1) h2
  else
    jn (fun (k2 : Bool → H → Prop) =>
      rd a0 fun q8 =>
      rd (ld kL (q8.add 1) h2) fun x13 =>
      spateref11_find x13 a1 h2 fun r4 h15 =>
      if (decide (r4 ≥ 0)) = true then
        k2 true h15
      else
        rd a0 fun q9 =>
        rd (ld kL (q9.add 2) h15) fun x14 =>
        spateref11_find x14 a1 h15 fun r5 h16 =>
        k2 (decide (r5 ≥ 0)) h16) fun s2 h3 =>
    if s2 = true then
      Q (false, 41) h3
    else
      al 99 (k98.enc z98) h3 fun q1 h4 =>
      rd (st k98 q1 (S98.mk a1 r1.1) h4) fun h5 =>
      jn (fun (k3 : Bool → H → Prop) =>
        rd a0 fun q6 =>
        rd (ld kL (q6.add 1) h5) fun x9 =>
        rd (ld k98 q1 h5) fun x10 =>
        spateref11_conflicts x9 x10 h5 fun r2 h13 =>
        if r2 = true then
          k3 true h13
        else
          rd a0 fun q7 =>
          rd (ld kL (q7.add 2) h13) fun x11 =>
          rd (ld k98 q1 h13) fun x12 =>
          spateref11_conflicts x11 x12 h13 fun r3 h14 =>
          k3 r3 h14) fun s3 h6 =>
      if s3 = true then
        rd a0 fun q2 =>
        rd (ld kL (q2.add 2) h6) fun x1 =>
        rd (ld k98 q1 h6) fun x2 =>
        bs 99 1 (k98.enc x2) h6 fun x3 h7 =>
        ap k98.n 32 99 (k98.enc z98) x1 x3 h7 fun x4 h8 =>
        rd a0 fun q3 =>
        rd (st kL (q3.add 2) x4 h8) fun h9 =>
        Q (false, 0) h9
      else
        rd a0 fun q4 =>
        rd (ld kL (q4.add 1) h6) fun x5 =>
        rd (ld k98 q1 h6) fun x6 =>
        bs 99 1 (k98.enc x6) h6 fun x7 h10 =>
        ap k98.n 32 99 (k98.enc z98) x5 x7 h10 fun x8 h11 =>
        rd a0 fun q5 =>
        rd (st kL (q5.add 1) x8 h11) fun h12 =>
        Q (true, 0) h12
theorem spateref11_Manager_Ask.sound {a0 : Option Addr} {a1 : Int} {a2 : Sl} {h : H} {Q : (Bool × Int) → H → Prop} (hF : spateref11_Manager_Ask a0 a1 a2 h Q) :
    CallsH Try.prog 51 (List.toArray (α := Value) [.pointer a0, .int .i64 a1, Sl.val a2]) h fun v h' => ∃ x : Bool × Int, v = .tuple #[.bool x.1, .int .i64 x.2] ∧ Q x h' := by
  refine CallsH.of_body Try.func51 rfl 76 rfl rfl ?_
  refine WP.seq ?_
  refine WP.region ?_
  refine EvK.pure (v := .bool false) (w_none rfl) rfl rfl (f_assign rfl rfl) ?_
  refine EvK.pure (v := .int .i64 0) (w_none rfl) rfl rfl (f_assign rfl rfl) ?_
  refine EvK.nil ?_
  refine WP.seq ?_
  refine WP.region ?_
  refine EvK.pure (v := .pointer a0) (w_none rfl) rfl rfl (f_move rfl rfl) ?_
  refine EvK.pure (v := Sl.val a2) (w_none rfl) rfl rfl (f_move rfl rfl) ?_
  refine EvK.call (w_none rfl) rfl rfl (enterH Try.func59 rfl rfl rfl rfl (spateref11_Manager_ordered.sound hF)) ?_
  rintro _ h1 ⟨r1, rfl, hF⟩
  refine EvK.pure (v := .tuple #[Sl.val r1.1, .bool r1.2]) (w_none rfl) rfl rfl (f_move rfl rfl) ?_
  refine EvK.pure (v := Sl.val r1.1) (w_none rfl) rfl rfl (f_extract (vs := #[Sl.val r1.1, .bool r1.2]) rfl rfl rfl) ?_
  refine EvK.pure (v := .bool r1.2) (w_none rfl) rfl rfl (f_extract (vs := #[Sl.val r1.1, .bool r1.2]) rfl rfl rfl) ?_
  refine EvK.pure (v := Sl.val r1.1) (w_none rfl) rfl rfl (f_assign rfl rfl) ?_
  refine EvK.pure (v := .bool r1.2) (w_none rfl) rfl rfl (f_assign rfl rfl) ?_
  refine EvK.nil ?_
  refine WP.seq ?_
  refine WP.joinF (fun (s1 : Bool) => [(22, .bool s1), (0, .pointer a0), (1, .int .i64 a1), (8, Sl.val r1.1)]) hF ?_ ?_
  · intro s1 E0 h2 hF
    rcases ite_inv hF with ⟨c1, hF⟩ | ⟨c1, hF⟩
    · refine WP.cond_true _ rfl c1 ?_
      refine WP.seq ?_
      refine WP.region ?_
      refine EvK.pure (v := .bool false) (w_none rfl) rfl rfl (f_assign rfl rfl) ?_
      refine EvK.pure (v := .int .i64 1) (w_none rfl) rfl rfl (f_assign rfl rfl) ?_
      refine EvK.nil ?_
      refine WP.ret ?_
      exact Ret.mk (vs := [.bool false, .int .i64 1]) (false, 1) ⟨rfl, rfl, trivial⟩ rfl hF
    · refine WP.cond_false _ rfl c1 ?_
      refine WP.skip ?_
      refine WP.seq ?_
      refine WP.joinF (fun (s2 : Bool) => [(38, .bool s2), (0, .pointer a0), (1, .int .i64 a1), (8, Sl.val r1.1)]) hF ?_ ?_
      · intro s2 E0 h3 hF
        rcases ite_inv hF with ⟨c2, hF⟩ | ⟨c2, hF⟩
        · refine WP.cond_true _ rfl c2 ?_
          refine WP.seq ?_
          refine WP.region ?_
          refine EvK.pure (v := .bool false) (w_none rfl) rfl rfl (f_assign rfl rfl) ?_
          refine EvK.pure (v := .int .i64 41) (w_none rfl) rfl rfl (f_assign rfl rfl) ?_
          refine EvK.nil ?_
          refine WP.ret ?_
          exact Ret.mk (vs := [.bool false, .int .i64 41]) (false, 41) ⟨rfl, rfl, trivial⟩ rfl hF
        · refine WP.cond_false _ rfl c2 ?_
          refine WP.skip ?_
          refine WP.seq ?_
          refine WP.region ?_
          refine EvK.pure (v := .int .i64 a1) (w_none rfl) rfl rfl (f_move rfl rfl) ?_
          refine EvK.pure (v := Sl.val r1.1) (w_none rfl) rfl rfl (f_move rfl rfl) ?_
          refine EvK.pure (v := k98.val (S98.mk a1 r1.1)) (w_none rfl) rfl rfl (f_build (cells := k98.enc (S98.mk a1 r1.1)) st99 rfl rfl rfl) ?_
          refine EvK.alloc (w_none rfl) rfl rfl (f_allocF zero99 rfl rfl hF) ?_
          rintro _ h4 ⟨q1, rfl, hF⟩
          obtain ⟨h5, hs1, hF⟩ := hF
          refine EvK.runN (w_none rfl) rfl (f_store k98 ty99.size (z := (S98.mk a1 r1.1)) rfl rfl rfl hs1) ?_
          rintro _ _ ⟨rfl, rfl⟩
          refine EvK.nil ?_
          refine WP.seq ?_
          refine WP.joinF (fun (s3 : Bool) => [(55, .bool s3), (0, .pointer a0), (10, .pointer (some q1))]) hF ?_ ?_
          · intro s3 E0 h6 hF
            rcases ite_inv hF with ⟨c3, hF⟩ | ⟨c3, hF⟩
            · refine WP.cond_true _ rfl c3 ?_
              refine WP.seq ?_
              refine WP.draw mixed [.pure, .pure, .pure, .pure, .read, .read, .alloc, .eff [], .pure, .pure, .eff []] [[], [], [1], [1, 2], [1, 2, 3], [], [5], [1, 2, 3, 4, 5, 6], [0, 1, 2, 3, 4, 5, 6, 7], [0, 1, 2, 3, 4, 5, 6, 7, 8], [0, 1, 2, 3, 4, 5, 6, 7, 8, 9]] [0, 1, 2, 3, 4, 5, 6, 7, 8, 9, 10] (by kernel_rfl) (by kernel_rfl) ?_
              refine EvI.pure (v := .pointer a0) rfl rfl (w_none rfl) rfl (f_move rfl rfl) ?_
              refine EvI.pure (v := .pointer a0) rfl rfl (w_none rfl) rfl (f_move rfl rfl) ?_
              obtain ⟨q2, hq1, hF⟩ := hF
              refine EvI.pure (v := .pointer (some q2)) rfl rfl (w_none rfl) rfl (f_nilCheck rfl (congrArg Value.pointer hq1)) ?_
              refine EvI.pure (v := .pointer (some (q2.add 2))) rfl rfl (w_none rfl) rfl (f_fieldAddr fd93_2 rfl rfl) ?_
              obtain ⟨x1, hx1, hF⟩ := hF
              refine EvI.read (v := Sl.val x1) rfl rfl (w_none rfl) rfl (f_load kL ty91 rfl rfl hx1 rfl) ?_
              obtain ⟨x2, hx2, hF⟩ := hF
              refine EvI.read (v := k98.val x2) rfl rfl (w_none rfl) rfl (f_load k98 ty99 rfl rfl hx2 rfl) ?_
              refine EvI.alloc rfl rfl (w_none rfl) rfl (f_buildSliceF Try.underlying91 el99 (by decide) rfl rfl rfl hF) ?_
              rintro _ h7 ⟨x3, rfl, hF⟩
              refine EvI.run rfl rfl (w_none rfl) rfl (f_appendE (s := x1) (x := x3) Try.underlying91 el99 rfl rfl rfl hF) ?_
              rintro _ h8 ⟨x4, rfl, hF⟩
              refine ⟨⟨chk_no rfl, chk_no rfl, trivial⟩, ?_⟩
              obtain ⟨q3, hq2, hF⟩ := hF
              refine EvI.pure (v := .pointer (some q3)) rfl rfl (w_none rfl) rfl (f_nilCheck rfl (congrArg Value.pointer hq2)) ?_
              refine EvI.pure (v := .pointer (some (q3.add 2))) rfl rfl (w_none rfl) rfl (f_fieldAddr fd93_2 rfl rfl) ?_
              obtain ⟨h9, hs2, hF⟩ := hF
              refine EvI.runN rfl rfl (w_none rfl) rfl (f_store kL ty91.size (z := x4) rfl rfl rfl hs2) ?_
              rintro _ _ ⟨rfl, rfl⟩
              refine ⟨⟨chk_no rfl, chk_no rfl, trivial⟩, ?_⟩
              refine EvI.nil ?_
              refine WP.seq ?_
              refine WP.region ?_
              refine EvK.pure (v := .bool false) (w_none rfl) rfl rfl (f_assign rfl rfl) ?_
              refine EvK.pure (v := .int .i64 0) (w_none rfl) rfl rfl (f_assign rfl rfl) ?_
              refine EvK.nil ?_
              refine WP.ret ?_
              exact Ret.mk (vs := [.bool false, .int .i64 0]) (false, 0) ⟨rfl, rfl, trivial⟩ rfl hF
            · refine WP.cond_false _ rfl c3 ?_
              refine WP.skip ?_
              refine WP.seq ?_
              refine WP.draw mixed [.pure, .pure, .pure, .pure, .read, .read, .alloc, .eff [], .pure, .pure, .eff []] [[], [], [1], [1, 2], [1, 2, 3], [], [5], [1, 2, 3, 4, 5, 6], [0, 1, 2, 3, 4, 5, 6, 7], [0, 1, 2, 3, 4, 5, 6, 7, 8], [0, 1, 2, 3, 4, 5, 6, 7, 8, 9]] [0, 1, 2, 3, 4, 5, 6, 7, 8, 9, 10] (by kernel_rfl) (by kernel_rfl) ?_
              refine EvI.pure (v := .pointer a0) rfl rfl (w_none rfl) rfl (f_move rfl rfl) ?_
              refine EvI.pure (v := .pointer a0) rfl rfl (w_none rfl) rfl (f_move rfl rfl) ?_
              obtain ⟨q4, hq3, hF⟩ := hF
              refine EvI.pure (v := .pointer (some q4)) rfl rfl (w_none rfl) rfl (f_nilCheck rfl (congrArg Value.pointer hq3)) ?_
              refine EvI.pure (v := .pointer (some (q4.add 1))) rfl rfl (w_none rfl) rfl (f_fieldAddr fd93_1 rfl rfl) ?_
              obtain ⟨x5, hx3, hF⟩ := hF
              refine EvI.read (v := Sl.val x5) rfl rfl (w_none rfl) rfl (f_load kL ty91 rfl rfl hx3 rfl) ?_
              obtain ⟨x6, hx4, hF⟩ := hF
              refine EvI.read (v := k98.val x6) rfl rfl (w_none rfl) rfl (f_load k98 ty99 rfl rfl hx4 rfl) ?_
              refine EvI.alloc rfl rfl (w_none rfl) rfl (f_buildSliceF Try.underlying91 el99 (by decide) rfl rfl rfl hF) ?_
              rintro _ h10 ⟨x7, rfl, hF⟩
              refine EvI.run rfl rfl (w_none rfl) rfl (f_appendE (s := x5) (x := x7) Try.underlying91 el99 rfl rfl rfl hF) ?_
              rintro _ h11 ⟨x8, rfl, hF⟩
              refine ⟨⟨chk_no rfl, chk_no rfl, trivial⟩, ?_⟩
              obtain ⟨q5, hq4, hF⟩ := hF
              refine EvI.pure (v := .pointer (some q5)) rfl rfl (w_none rfl) rfl (f_nilCheck rfl (congrArg Value.pointer hq4)) ?_
              refine EvI.pure (v := .pointer (some (q5.add 1))) rfl rfl (w_none rfl) rfl (f_fieldAddr fd93_1 rfl rfl) ?_
              obtain ⟨h12, hs3, hF⟩ := hF
              refine EvI.runN rfl rfl (w_none rfl) rfl (f_store kL ty91.size (z := x8) rfl rfl rfl hs3) ?_
              rintro _ _ ⟨rfl, rfl⟩
              refine ⟨⟨chk_no rfl, chk_no rfl, trivial⟩, ?_⟩
              refine EvI.nil ?_
              refine WP.seq ?_
              refine WP.region ?_
              refine EvK.pure (v := .bool true) (w_none rfl) rfl rfl (f_assign rfl rfl) ?_
              refine EvK.pure (v := .int .i64 0) (w_none rfl) rfl rfl (f_assign rfl rfl) ?_
              refine EvK.nil ?_
              refine WP.ret ?_
              exact Ret.mk (vs := [.bool true, .int .i64 0]) (true, 0) ⟨rfl, rfl, trivial⟩ rfl hF
          · intro k3 hF
            refine WP.draw mixed [.pure, .pure, .pure, .read, .read, .eff [], .pure, .pure, .pure, .pure, .read, .read, .eff [], .pure] [[], [0], [0, 1], [0, 1, 2], [], [0, 1, 2, 3, 4], [0, 1, 2, 3, 4, 5], [0, 1, 2, 3, 4, 5, 6], [0, 1, 2, 3, 4, 5, 6, 7], [0, 1, 2, 3, 4, 5, 6, 7, 8], [0, 1, 2, 3, 4, 5, 6, 7, 8, 9], [0, 1, 2, 3, 4, 5, 6], [0, 1, 2, 3, 4, 5, 6, 7, 8, 9, 10, 11], [0, 1, 2, 3, 4, 5, 6, 7, 8, 9, 10, 11, 12]] [0, 1, 2, 3, 4, 5, 6, 7, 8, 9, 10, 11, 12, 13] (by kernel_rfl) (by kernel_rfl) ?_
            refine EvI.pure (v := .pointer a0) rfl rfl (w_none rfl) rfl (f_move rfl rfl) ?_
            obtain ⟨q6, hq5, hF⟩ := hF
            refine EvI.pure (v := .pointer (some q6)) rfl rfl (w_none rfl) rfl (f_nilCheck rfl (congrArg Value.pointer hq5)) ?_
            refine EvI.pure (v := .pointer (some (q6.add 1))) rfl rfl (w_none rfl) rfl (f_fieldAddr fd93_1 rfl rfl) ?_
            obtain ⟨x9, hx5, hF⟩ := hF
            refine EvI.read (v := Sl.val x9) rfl rfl (w_none rfl) rfl (f_load kL ty91 rfl rfl hx5 rfl) ?_
            obtain ⟨x10, hx6, hF⟩ := hF
            refine EvI.read (v := k98.val x10) rfl rfl (w_none rfl) rfl (f_load k98 ty99 rfl rfl hx6 rfl) ?_
            refine EvI.call rfl rfl (w_none rfl) rfl (enterH Try.func60 rfl rfl rfl rfl (spateref11_conflicts.sound hF)) ?_
            rintro _ h13 ⟨r2, rfl, hF⟩
            refine ⟨⟨chk_no rfl, chk_no rfl, trivial⟩, ?_⟩
            refine EvI.pure (v := .bool r2) rfl rfl (w_none rfl) rfl (f_move rfl rfl) ?_
            rcases ite_inv hF with ⟨c4, hF⟩ | ⟨c4, hF⟩
            · refine EvI.not rfl (w_not rfl rfl c4) rfl ?_
              refine EvI.not rfl (w_not rfl rfl c4) rfl ?_
              refine EvI.not rfl (w_not rfl rfl c4) rfl ?_
              refine EvI.not rfl (w_not rfl rfl c4) rfl ?_
              refine EvI.not rfl (w_not rfl rfl c4) rfl ?_
              refine EvI.not rfl (w_not rfl rfl c4) rfl ?_
              refine EvI.pure (v := .bool true) rfl rfl (w_none rfl) rfl (f_pickT rfl rfl c4 rfl) ?_
              refine EvI.nil ?_
              exact KE.mk true ⟨rfl, rfl, rfl, trivial⟩ hF
            · refine EvI.pure (v := .pointer a0) rfl rfl (w_some rfl rfl c4) rfl (f_move rfl rfl) ?_
              obtain ⟨q7, hq6, hF⟩ := hF
              refine EvI.pure (v := .pointer (some q7)) rfl rfl (w_some rfl rfl c4) rfl (f_nilCheck rfl (congrArg Value.pointer hq6)) ?_
              refine EvI.pure (v := .pointer (some (q7.add 2))) rfl rfl (w_some rfl rfl c4) rfl (f_fieldAddr fd93_2 rfl rfl) ?_
              obtain ⟨x11, hx7, hF⟩ := hF
              refine EvI.read (v := Sl.val x11) rfl rfl (w_some rfl rfl c4) rfl (f_load kL ty91 rfl rfl hx7 rfl) ?_
              obtain ⟨x12, hx8, hF⟩ := hF
              refine EvI.read (v := k98.val x12) rfl rfl (w_some rfl rfl c4) rfl (f_load k98 ty99 rfl rfl hx8 rfl) ?_
              refine EvI.call rfl rfl (w_some rfl rfl c4) rfl (enterH Try.func60 rfl rfl rfl rfl (spateref11_conflicts.sound hF)) ?_
              rintro _ h14 ⟨r3, rfl, hF⟩
              refine ⟨⟨chk_no rfl, chk_no rfl, chk_no rfl, chk_no rfl, trivial⟩, ?_⟩
              refine EvI.pure (v := .bool r3) rfl rfl (w_none rfl) rfl (f_pickF rfl rfl c4 rfl) ?_
              refine EvI.nil ?_
              exact KE.mk r3 ⟨rfl, rfl, rfl, trivial⟩ hF
      · intro k2 hF
        refine WP.region ?_
        refine EvK.pure (v := .pointer a0) (w_none rfl) rfl rfl (f_move rfl rfl) ?_
        obtain ⟨q8, hq7, hF⟩ := hF
        refine EvK.pure (v := .pointer (some q8)) (w_none rfl) rfl rfl (f_nilCheck rfl (congrArg Value.pointer hq7)) ?_
        refine EvK.pure (v := .pointer (some (q8.add 1))) (w_none rfl) rfl rfl (f_fieldAddr fd93_1 rfl rfl) ?_
        obtain ⟨x13, hx9, hF⟩ := hF
        refine EvK.read (v := Sl.val x13) (w_none rfl) rfl rfl (f_load kL ty91 rfl rfl hx9 rfl) ?_
        refine EvK.pure (v := .int .i64 a1) (w_none rfl) rfl rfl (f_move rfl rfl) ?_
        refine EvK.call (w_none rfl) rfl rfl (enterH Try.func52 rfl rfl rfl rfl (spateref11_find.sound hF)) ?_
        rintro _ h15 ⟨r4, rfl, hF⟩
        refine EvK.pure (v := .bool (decide (r4 ≥ 0))) (w_none rfl) rfl rfl (f_geq rfl rfl rfl) ?_
        refine EvK.pure (v := .bool (decide (r4 ≥ 0))) (w_none rfl) rfl rfl (f_move rfl rfl) ?_
        rcases ite_inv hF with ⟨c5, hF⟩ | ⟨c5, hF⟩
        · refine EvK.not (w_not rfl rfl c5) rfl rfl ?_
          refine EvK.not (w_not rfl rfl c5) rfl rfl ?_
          refine EvK.not (w_not rfl rfl c5) rfl rfl ?_
          refine EvK.not (w_not rfl rfl c5) rfl rfl ?_
          refine EvK.not (w_not rfl rfl c5) rfl rfl ?_
          refine EvK.not (w_not rfl rfl c5) rfl rfl ?_
          refine EvK.not (w_not rfl rfl c5) rfl rfl ?_
          refine EvK.pure (v := .bool true) (w_none rfl) rfl rfl (f_pickT rfl rfl c5 rfl) ?_
          refine EvK.nil ?_
          exact KE.mk true ⟨rfl, rfl, rfl, rfl, trivial⟩ hF
        · refine EvK.pure (v := .pointer a0) (w_some rfl rfl c5) rfl rfl (f_move rfl rfl) ?_
          obtain ⟨q9, hq8, hF⟩ := hF
          refine EvK.pure (v := .pointer (some q9)) (w_some rfl rfl c5) rfl rfl (f_nilCheck rfl (congrArg Value.pointer hq8)) ?_
          refine EvK.pure (v := .pointer (some (q9.add 2))) (w_some rfl rfl c5) rfl rfl (f_fieldAddr fd93_2 rfl rfl) ?_
          obtain ⟨x14, hx10, hF⟩ := hF
          refine EvK.read (v := Sl.val x14) (w_some rfl rfl c5) rfl rfl (f_load kL ty91 rfl rfl hx10 rfl) ?_
          refine EvK.pure (v := .int .i64 a1) (w_some rfl rfl c5) rfl rfl (f_move rfl rfl) ?_
          refine EvK.call (w_some rfl rfl c5) rfl rfl (enterH Try.func52 rfl rfl rfl rfl (spateref11_find.sound hF)) ?_
          rintro _ h16 ⟨r5, rfl, hF⟩
          refine EvK.pure (v := .bool (decide (r5 ≥ 0))) (w_some rfl rfl c5) rfl rfl (f_geq rfl rfl rfl) ?_
          refine EvK.pure (v := .bool (decide (r5 ≥ 0))) (w_none rfl) rfl rfl (f_pickF rfl rfl c5 rfl) ?_
          refine EvK.nil ?_
          exact KE.mk (decide (r5 ≥ 0)) ⟨rfl, rfl, rfl, rfl, trivial⟩ hF
  · intro k1 hF
    refine WP.region ?_
    refine EvK.pure (v := .int .i64 a1) (w_none rfl) rfl rfl (f_move rfl rfl) ?_
    refine EvK.pure (v := .bool (decide (a1 < 0))) (w_none rfl) rfl rfl (f_lss rfl rfl rfl) ?_
    refine EvK.pure (v := .bool (decide (a1 < 0))) (w_none rfl) rfl rfl (f_move rfl rfl) ?_
    rcases ite_inv hF with ⟨c6, hF⟩ | ⟨c6, hF⟩
    · refine EvK.not (w_not rfl rfl c6) rfl rfl ?_
      refine EvK.not (w_not rfl rfl c6) rfl rfl ?_
      refine EvK.pure (v := .bool true) (w_none rfl) rfl rfl (f_pickT rfl rfl c6 rfl) ?_
      refine EvK.nil ?_
      exact KE.mk true ⟨rfl, rfl, rfl, rfl, trivial⟩ hF
    · refine EvK.pure (v := .bool r1.2) (w_some rfl rfl c6) rfl rfl (f_move rfl rfl) ?_
      refine EvK.pure (v := .bool (!r1.2)) (w_some rfl rfl c6) rfl rfl (f_not rfl rfl) ?_
      refine EvK.pure (v := .bool (!r1.2)) (w_none rfl) rfl rfl (f_pickF rfl rfl c6 rfl) ?_
      refine EvK.nil ?_
      exact KE.mk (!r1.2) ⟨rfl, rfl, rfl, rfl, trivial⟩ hF
end Go.Proofs.Ytgmihbchcmjmdaa

namespace Go.Proofs.Ytgmihbchcmjmdaa
open Go Go.Tr
set_option linter.unusedVariables false
set_option maxRecDepth 100000
set_option maxHeartbeats 400000
/-- spate/spatelaw11.step -/
def spatelaw11_step (a0 : Option Addr) (a1 : Option Addr) (a2 : S52) (h : H) (Q : Bool → H → Prop) : Prop :=
  al 53 (k52.enc a2) h fun q1 h1 =>
  rd (ld (kI .i64) (q1.add 0) h1) fun x1 =>
  if (x1 == 1) = true then
    rd (ld kL (q1.add 2) h1) fun x2 =>
    spatelaw11_set x2 h1 fun r1 h2 =>
    spatelaw11_lend r1 h2 fun r2 h3 =>
    rd (ld (kI .i64) (q1.add 1) h3) fun x3 =>
    locks_Manager_Ask a0 x3 r2 h3 fun r3 h4 =>
    spatelaw11_kept r2 r1 h4 fun r4 h5 =>
    rd (ld (kI .i64) (q1.add 1) h5) fun x4 =>
    spateref11_Manager_Ask a1 x4 r1 h5 fun r5 h6 =>
    jn (fun (k1 : Bool → H → Prop) =>
      if r4 = true then
        if (r3.1 == r5.1) = true then
          spatelaw11_is r3.2 r5.2 h6 fun r6 h8 =>
          k1 r6 h8
        else
          k1 false h6
      else
        k1 false h6) fun s1 h7 =>
    Q s1 h7
  else
    if (x1 == 2) = true then
      rd (ld (kI .i64) (q1.add 1) h1) fun x5 =>
      locks_Manager_Free a0 x5 h1 fun r7 h9 =>
      rd (ld (kI .i64) (q1.add 1) h9) fun x6 =>
      spateref11_Manager_Free a1 x6 h9 fun r8 h10 =>
      jn (fun (k2 : Bool → H → Prop) =>
        spatelaw11_SameInts r7.1 r8.1 h10 fun r9 h12 =>
        if r9 = true then
          spatelaw11_is r7.2 r8.2 h12 fun r10 h13 =>
          k2 r10 h13
        else
          k2 false h12) fun s2 h11 =>
      Q s2 h11
    else
      if (x1 == 3) = true then
        rd (ld (kI .i64) (q1.add 1) h1) fun x7 =>
        rd (ld (kI .i64) (q1.add 1) h1) fun x8 =>
        locks_Manager_Quit a0 x7 h1 fun r11 h14 =>
        ld (kI .i64) (q1.add 1) h14 = some x8 ∧
        spateref11_Manager_Quit a1 x8 h14 fun r12 h15 =>
        spatelaw11_SameInts r11 r12 h15 fun r13 h16 =>
        Q r13 h16
      else
        if (x1 == 4) = true then
          rd (ld (kI .i64) (q1.add 1) h1) fun x9 =>
          spatelaw11_looks a0 a1 x9 h1 fun r14 h17 =>
          Q r14 h17
        else
          Q true h1
theorem spatelaw11_step.sound {a0 : Option Addr} {a1 : Option Addr} {a2 : S52} {h : H} {Q : Bool → H → Prop} (hF : spatelaw11_step a0 a1 a2 h Q) :
    CallsH Try.prog 22 (List.toArray (α := Value) [.pointer a0, .pointer a1, k52.val a2]) h fun v h' => ∃ x : Bool, v = .bool x ∧ Q x h' := by
  refine CallsH.of_body Try.func22 rfl 99 rfl rfl ?_
  refine WP.seq ?_
  refine WP.region ?_
  refine EvK.alloc (w_none rfl) rfl rfl (f_boxF (v := k52.val a2) rfl rfl rfl hF) ?_
  rintro _ h1 ⟨q1, rfl, hF⟩
  refine EvK.pure (v := .bool false) (w_none rfl) rfl rfl (f_assign rfl rfl) ?_
  refine EvK.nil ?_
  refine WP.seq ?_
  refine WP.seq ?_
  refine WP.region ?_
  refine EvK.pure (v := .pointer (some (q1.add 0))) (w_none rfl) rfl rfl (f_fieldAddr fd53_0 rfl rfl) ?_
  obtain ⟨x1, hx1, hF⟩ := hF
  refine EvK.read (v := .int .i64 x1) (w_none rfl) rfl rfl (f_load (kI .i64) ty3 rfl rfl hx1 rfl) ?_
  refine EvK.nil ?_
  refine WP.block ?_
  refine WP.seq ?_
  refine WP.region ?_
  refine EvK.pure (v := .bool (x1 == 1)) (w_none rfl) rfl rfl (f_eql rfl rfl rfl) ?_
  refine EvK.pure (v := .bool (x1 == 1)) (w_none rfl) rfl rfl (f_assign rfl rfl) ?_
  refine EvK.nil ?_
  rcases ite_inv hF with ⟨c1, hF⟩ | ⟨c1, hF⟩
  · refine WP.cond_true _ rfl c1 ?_
    refine WP.seq ?_
    refine WP.region ?_
    refine EvK.pure (v := .pointer (some (q1.add 2))) (w_none rfl) rfl rfl (f_fieldAddr fd53_2 rfl rfl) ?_
    obtain ⟨x2, hx2, hF⟩ := hF
    refine EvK.read (v := Sl.val x2) (w_none rfl) rfl rfl (f_load kL ty30 rfl rfl hx2 rfl) ?_
    refine EvK.call (w_none rfl) rfl rfl (enterH Try.func25 rfl rfl rfl rfl (spatelaw11_set.sound hF)) ?_
    rintro _ h2 ⟨r1, rfl, hF⟩
    refine EvK.pure (v := Sl.val r1) (w_none rfl) rfl rfl (f_assign rfl rfl) ?_
    refine EvK.nil ?_
    refine WP.seq ?_
    refine WP.region ?_
    refine EvK.pure (v := Sl.val r1) (w_none rfl) rfl rfl (f_move rfl rfl) ?_
    refine EvK.call (w_none rfl) rfl rfl (enterH Try.func49 rfl rfl rfl rfl (spatelaw11_lend.sound hF)) ?_
    rintro _ h3 ⟨r2, rfl, hF⟩
    refine EvK.pure (v := Sl.val r2) (w_none rfl) rfl rfl (f_assign rfl rfl) ?_
    refine EvK.nil ?_
    refine WP.seq ?_
    refine WP.region ?_
    refine EvK.pure (v := .pointer a0) (w_none rfl) rfl rfl (f_move rfl rfl) ?_
    refine EvK.pure (v := .pointer (some (q1.add 1))) (w_none rfl) rfl rfl (f_fieldAddr fd53_1 rfl rfl) ?_
    obtain ⟨x3, hx3, hF⟩ := hF
    refine EvK.read (v := .int .i64 x3) (w_none rfl) rfl rfl (f_load (kI .i64) ty3 rfl rfl hx3 rfl) ?_
    refine EvK.pure (v := Sl.val r2) (w_none rfl) rfl rfl (f_move rfl rfl) ?_
    refine EvK.call (w_none rfl) rfl rfl (enterH Try.func14 rfl rfl rfl rfl (locks_Manager_Ask.sound hF)) ?_
    rintro _ h4 ⟨r3, rfl, hF⟩
    refine EvK.pure (v := .tuple #[.bool r3.1, IF.val r3.2]) (w_none rfl) rfl rfl (f_move rfl rfl) ?_
    refine EvK.pure (v := .bool r3.1) (w_none rfl) rfl rfl (f_extract (vs := #[.bool r3.1, IF.val r3.2]) rfl rfl rfl) ?_
    refine EvK.pure (v := IF.val r3.2) (w_none rfl) rfl rfl (f_extract (vs := #[.bool r3.1, IF.val r3.2]) rfl rfl rfl) ?_
    refine EvK.pure (v := .bool r3.1) (w_none rfl) rfl rfl (f_assign rfl rfl) ?_
    refine EvK.pure (v := IF.val r3.2) (w_none rfl) rfl rfl (f_assign rfl rfl) ?_
    refine EvK.nil ?_
    refine WP.seq ?_
    refine WP.region ?_
    refine EvK.pure (v := Sl.val r2) (w_none rfl) rfl rfl (f_move rfl rfl) ?_
    refine EvK.pure (v := Sl.val r1) (w_none rfl) rfl rfl (f_move rfl rfl) ?_
    refine EvK.call (w_none rfl) rfl rfl (enterH Try.func50 rfl rfl rfl rfl (spatelaw11_kept.sound hF)) ?_
    rintro _ h5 ⟨r4, rfl, hF⟩
    refine EvK.pure (v := .bool r4) (w_none rfl) rfl rfl (f_assign rfl rfl) ?_
    refine EvK.nil ?_
    refine WP.seq ?_
    refine WP.region ?_
    refine EvK.pure (v := .pointer a1) (w_none rfl) rfl rfl (f_move rfl rfl) ?_
    refine EvK.pure (v := .pointer (some (q1.add 1))) (w_none rfl) rfl rfl (f_fieldAddr fd53_1 rfl rfl) ?_
    obtain ⟨x4, hx4, hF⟩ := hF
    refine EvK.read (v := .int .i64 x4) (w_none rfl) rfl rfl (f_load (kI .i64) ty3 rfl rfl hx4 rfl) ?_
    refine EvK.pure (v := Sl.val r1) (w_none rfl) rfl rfl (f_move rfl rfl) ?_
    refine EvK.call (w_none rfl) rfl rfl (enterH Try.func51 rfl rfl rfl rfl (spateref11_Manager_Ask.sound hF)) ?_
    rintro _ h6 ⟨r5, rfl, hF⟩
    refine EvK.pure (v := .tuple #[.bool r5.1, .int .i64 r5.2]) (w_none rfl) rfl rfl (f_move rfl rfl) ?_
    refine EvK.pure (v := .bool r5.1) (w_none rfl) rfl rfl (f_extract (vs := #[.bool r5.1, .int .i64 r5.2]) rfl rfl rfl) ?_
    refine EvK.pure (v := .int .i64 r5.2) (w_none rfl) rfl rfl (f_extract (vs := #[.bool r5.1, .int .i64 r5.2]) rfl rfl rfl) ?_
    refine EvK.pure (v := .bool r5.1) (w_none rfl) rfl rfl (f_assign rfl rfl) ?_
    refine EvK.pure (v := .int .i64 r5.2) (w_none rfl) rfl rfl (f_assign rfl rfl) ?_
    refine EvK.nil ?_
    refine WP.joinF (fun (s1 : Bool) => [(6, .bool s1)]) hF ?_ ?_
    · intro s1 E0 h7 hF
      refine WP.ret ?_
      exact Ret.mk (vs := [.bool s1]) s1 ⟨rfl, trivial⟩ rfl hF
    · intro k1 hF
      refine WP.region ?_
      refine EvK.pure (v := .bool r4) (w_none rfl) rfl rfl (f_move rfl rfl) ?_
      refine EvK.pure (v := .bool r4) (w_none rfl) rfl rfl (f_move rfl rfl) ?_
      rcases ite_inv hF with ⟨c2, hF⟩ | ⟨c2, hF⟩
      · refine EvK.pure (v := .bool r3.1) (w_some rfl rfl c2) rfl rfl (f_move rfl rfl) ?_
        refine EvK.pure (v := .bool r5.1) (w_some rfl rfl c2) rfl rfl (f_move rfl rfl) ?_
        refine EvK.pure (v := .bool (r3.1 == r5.1)) (w_some rfl rfl c2) rfl rfl (f_beql Try.underlying4 rfl rfl rfl) ?_
        refine EvK.pure (v := .bool (r3.1 == r5.1)) (w_none rfl) rfl rfl (f_pickT rfl rfl c2 rfl) ?_
        refine EvK.pure (v := .bool (r3.1 == r5.1)) (w_none rfl) rfl rfl (f_move rfl rfl) ?_
        rcases ite_inv hF with ⟨c3, hF⟩ | ⟨c3, hF⟩
        · refine EvK.pure (v := IF.val r3.2) (w_some rfl rfl c3) rfl rfl (f_move rfl rfl) ?_
          refine EvK.pure (v := .int .i64 r5.2) (w_some rfl rfl c3) rfl rfl (f_move rfl rfl) ?_
          refine EvK.call (w_some rfl rfl c3) rfl rfl (enterH (vs := [IF.val r3.2, .int .i64 r5.2]) Try.func36 rfl rfl rfl rfl (spatelaw11_is.sound hF)) ?_
          rintro _ h8 ⟨r6, rfl, hF⟩
          refine EvK.pure (v := .bool r6) (w_none rfl) rfl rfl (f_pickT rfl rfl c3 rfl) ?_
          refine EvK.pure (v := .bool r6) (w_none rfl) rfl rfl (f_assign rfl rfl) ?_
          refine EvK.nil ?_
          exact KE.mk r6 ⟨rfl, trivial⟩ hF
        · refine EvK.not (w_not rfl rfl c3) rfl rfl ?_
          refine EvK.not (w_not rfl rfl c3) rfl rfl ?_
          refine EvK.not (w_not rfl rfl c3) rfl rfl ?_
          refine EvK.pure (v := .bool false) (w_none rfl) rfl rfl (f_pickF rfl rfl c3 rfl) ?_
          refine EvK.pure (v := .bool false) (w_none rfl) rfl rfl (f_assign rfl rfl) ?_
          refine EvK.nil ?_
          exact KE.mk false ⟨rfl, trivial⟩ hF
      · refine EvK.not (w_not rfl rfl c2) rfl rfl ?_
        refine EvK.not (w_not rfl rfl c2) rfl rfl ?_
        refine EvK.not (w_not rfl rfl c2) rfl rfl ?_
        refine EvK.pure (v := .bool false) (w_none rfl) rfl rfl (f_pickF rfl rfl c2 rfl) ?_
        refine EvK.pure (v := .bool false) (w_none rfl) rfl rfl (f_move rfl rfl) ?_
        refine EvK.not (w_not rfl rfl rfl) rfl rfl ?_
        refine EvK.not (w_not rfl rfl rfl) rfl rfl ?_
        refine EvK.not (w_not rfl rfl rfl) rfl rfl ?_
        refine EvK.pure (v := .bool false) (w_none rfl) rfl rfl (f_pickF rfl rfl rfl rfl) ?_
        refine EvK.pure (v := .bool false) (w_none rfl) rfl rfl (f_assign rfl rfl) ?_
        refine EvK.nil ?_
        exact KE.mk false ⟨rfl, trivial⟩ hF
  · refine WP.cond_false _ rfl c1 ?_
    refine WP.seq ?_
    refine WP.region ?_
    refine EvK.pure (v := .bool (x1 == 2)) (w_none rfl) rfl rfl (f_eql rfl rfl rfl) ?_
    refine EvK.pure (v := .bool (x1 == 2)) (w_none rfl) rfl rfl (f_assign rfl rfl) ?_
    refine EvK.nil ?_
    rcases ite_inv hF with ⟨c4, hF⟩ | ⟨c4, hF⟩
    · refine WP.cond_true _ rfl c4 ?_
      refine WP.seq ?_
      refine WP.region ?_
      refine EvK.pure (v := .pointer a0) (w_none rfl) rfl rfl (f_move rfl rfl) ?_
      refine EvK.pure (v := .pointer (some (q1.add 1))) (w_none rfl) rfl rfl (f_fieldAddr fd53_1 rfl rfl) ?_
      obtain ⟨x5, hx5, hF⟩ := hF
      refine EvK.read (v := .int .i64 x5) (w_none rfl) rfl rfl (f_load (kI .i64) ty3 rfl rfl hx5 rfl) ?_
      refine EvK.call (w_none rfl) rfl rfl (enterH Try.func17 rfl rfl rfl rfl (locks_Manager_Free.sound hF)) ?_
      rintro _ h9 ⟨r7, rfl, hF⟩
      refine EvK.pure (v := .tuple #[Sl.val r7.1, IF.val r7.2]) (w_none rfl) rfl rfl (f_move rfl rfl) ?_
      refine EvK.pure (v := Sl.val r7.1) (w_none rfl) rfl rfl (f_extract (vs := #[Sl.val r7.1, IF.val r7.2]) rfl rfl rfl) ?_
      refine EvK.pure (v := IF.val r7.2) (w_none rfl) rfl rfl (f_extract (vs := #[Sl.val r7.1, IF.val r7.2]) rfl rfl rfl) ?_
      refine EvK.pure (v := Sl.val r7.1) (w_none rfl) rfl rfl (f_assign rfl rfl) ?_
      refine EvK.pure (v := IF.val r7.2) (w_none rfl) rfl rfl (f_assign rfl rfl) ?_
      refine EvK.nil ?_
      refine WP.seq ?_
      refine WP.region ?_
      refine EvK.pure (v := .pointer a1) (w_none rfl) rfl rfl (f_move rfl rfl) ?_
      refine EvK.pure (v := .pointer (some (q1.add 1))) (w_none rfl) rfl rfl (f_fieldAddr fd53_1 rfl rfl) ?_
      obtain ⟨x6, hx6, hF⟩ := hF
      refine EvK.read (v := .int .i64 x6) (w_none rfl) rfl rfl (f_load (kI .i64) ty3 rfl rfl hx6 rfl) ?_
      refine EvK.call (w_none rfl) rfl rfl (enterH Try.func35 rfl rfl rfl rfl (spateref11_Manager_Free.sound hF)) ?_
      rintro _ h10 ⟨r8, rfl, hF⟩
      refine EvK.pure (v := .tuple #[Sl.val r8.1, .int .i64 r8.2]) (w_none rfl) rfl rfl (f_move rfl rfl) ?_
      refine EvK.pure (v := Sl.val r8.1) (w_none rfl) rfl rfl (f_extract (vs := #[Sl.val r8.1, .int .i64 r8.2]) rfl rfl rfl) ?_
      refine EvK.pure (v := .int .i64 r8.2) (w_none rfl) rfl rfl (f_extract (vs := #[Sl.val r8.1, .int .i64 r8.2]) rfl rfl rfl) ?_
      refine EvK.pure (v := Sl.val r8.1) (w_none rfl) rfl rfl (f_assign rfl rfl) ?_
      refine EvK.pure (v := .int .i64 r8.2) (w_none rfl) rfl rfl (f_assign rfl rfl) ?_
      refine EvK.nil ?_
      refine WP.joinF (fun (s2 : Bool) => [(6, .bool s2)]) hF ?_ ?_
      · intro s2 E0 h11 hF
        refine WP.ret ?_
        exact Ret.mk (vs := [.bool s2]) s2 ⟨rfl, trivial⟩ rfl hF
      · intro k2 hF
        refine WP.region ?_
        refine EvK.pure (v := Sl.val r7.1) (w_none rfl) rfl rfl (f_move rfl rfl) ?_
        refine EvK.pure (v := Sl.val r8.1) (w_none rfl) rfl rfl (f_move rfl rfl) ?_
        refine EvK.call (w_none rfl) rfl rfl (enterH Try.func19 rfl rfl rfl rfl (spatelaw11_SameInts.sound hF)) ?_
        rintro _ h12 ⟨r9, rfl, hF⟩
        refine EvK.pure (v := .bool r9) (w_none rfl) rfl rfl (f_move rfl rfl) ?_
        rcases ite_inv hF with ⟨c5, hF⟩ | ⟨c5, hF⟩
        · refine EvK.pure (v := IF.val r7.2) (w_some rfl rfl c5) rfl rfl (f_move rfl rfl) ?_
          refine EvK.pure (v := .int .i64 r8.2) (w_some rfl rfl c5) rfl rfl (f_move rfl rfl) ?_
          refine EvK.call (w_some rfl rfl c5) rfl rfl (enterH (vs := [IF.val r7.2, .int .i64 r8.2]) Try.func36 rfl rfl rfl rfl (spatelaw11_is.sound hF)) ?_
          rintro _ h13 ⟨r10, rfl, hF⟩
          refine EvK.pure (v := .bool r10) (w_none rfl) rfl rfl (f_pickT rfl rfl c5 rfl) ?_
          refine EvK.pure (v := .bool r10) (w_none rfl) rfl rfl (f_assign rfl rfl) ?_
          refine EvK.nil ?_
          exact KE.mk r10 ⟨rfl, trivial⟩ hF
        · refine EvK.not (w_not rfl rfl c5) rfl rfl ?_
          refine EvK.not (w_not rfl rfl c5) rfl rfl ?_
          refine EvK.not (w_not rfl rfl c5) rfl rfl ?_
          refine EvK.pure (v := .bool false) (w_none rfl) rfl rfl (f_pickF rfl rfl c5 rfl) ?_
          refine EvK.pure (v := .bool false) (w_none rfl) rfl rfl (f_assign rfl rfl) ?_
          refine EvK.nil ?_
          exact KE.mk false ⟨rfl, trivial⟩ hF
    · refine WP.cond_false _ rfl c4 ?_
      refine WP.seq ?_
      refine WP.region ?_
      refine EvK.pure (v := .bool (x1 == 3)) (w_none rfl) rfl rfl (f_eql rfl rfl rfl) ?_
      refine EvK.pure (v := .bool (x1 == 3)) (w_none rfl) rfl rfl (f_assign rfl rfl) ?_
      refine EvK.nil ?_
      rcases ite_inv hF with ⟨c6, hF⟩ | ⟨c6, hF⟩
      · refine WP.cond_true _ rfl c6 ?_
        refine WP.seq ?_
        refine WP.draw mixed [.pure, .pure, .read, .eff [6], .pure, .pure, .read, .eff [], .eff [], .pure] [[], [], [1], [0, 1, 2], [], [], [5], [0, 1, 2, 3, 4, 5, 6], [0, 1, 2, 3, 4, 5, 6, 7], [0, 1, 2, 3, 4, 5, 6, 7, 8]] [0, 1, 2, 4, 5, 6, 3, 7, 8, 9] (by kernel_rfl) (by kernel_rfl) ?_
        refine EvI.pure (v := .pointer a0) rfl rfl (w_none rfl) rfl (f_move rfl rfl) ?_
        refine EvI.pure (v := .pointer (some (q1.add 1))) rfl rfl (w_none rfl) rfl (f_fieldAddr fd53_1 rfl rfl) ?_
        obtain ⟨x7, hx7, hF⟩ := hF
        refine EvI.read (v := .int .i64 x7) rfl rfl (w_none rfl) rfl (f_load (kI .i64) ty3 rfl rfl hx7 rfl) ?_
        refine EvI.pure (v := .pointer a1) rfl rfl (w_none rfl) rfl (f_move rfl rfl) ?_
        refine EvI.pure (v := .pointer (some (q1.add 1))) rfl rfl (w_none rfl) rfl (f_fieldAddr fd53_1 rfl rfl) ?_
        obtain ⟨x8, hx8, hF⟩ := hF
        refine EvI.read (v := .int .i64 x8) rfl rfl (w_none rfl) rfl (f_load (kI .i64) ty3 rfl rfl hx8 rfl) ?_
        refine EvI.call rfl rfl (w_none rfl) rfl (enterH Try.func28 rfl rfl rfl rfl (locks_Manager_Quit.sound hF)) ?_
        rintro _ h14 ⟨r11, rfl, hF⟩
        obtain ⟨hy1, hF⟩ := hF
        refine ⟨⟨chk_yes rfl (f_load (kI .i64) ty3 rfl rfl hy1 rfl), chk_no rfl, trivial⟩, ?_⟩
        refine EvI.call rfl rfl (w_none rfl) rfl (enterH Try.func37 rfl rfl rfl rfl (spateref11_Manager_Quit.sound hF)) ?_
        rintro _ h15 ⟨r12, rfl, hF⟩
        refine ⟨⟨chk_no rfl, chk_no rfl, trivial⟩, ?_⟩
        refine EvI.call rfl rfl (w_none rfl) rfl (enterH Try.func19 rfl rfl rfl rfl (spatelaw11_SameInts.sound hF)) ?_
        rintro _ h16 ⟨r13, rfl, hF⟩
        refine ⟨⟨chk_no rfl, chk_no rfl, trivial⟩, ?_⟩
        refine EvI.pure (v := .bool r13) rfl rfl (w_none rfl) rfl (f_assign rfl rfl) ?_
        refine EvI.nil ?_
        refine WP.ret ?_
        exact Ret.mk (vs := [.bool r13]) r13 ⟨rfl, trivial⟩ rfl hF
      · refine WP.cond_false _ rfl c6 ?_
        refine WP.seq ?_
        refine WP.region ?_
        refine EvK.pure (v := .bool (x1 == 4)) (w_none rfl) rfl rfl (f_eql rfl rfl rfl) ?_
        refine EvK.pure (v := .bool (x1 == 4)) (w_none rfl) rfl rfl (f_assign rfl rfl) ?_
        refine EvK.nil ?_
        rcases ite_inv hF with ⟨c7, hF⟩ | ⟨c7, hF⟩
        · refine WP.cond_true _ rfl c7 ?_
          refine WP.seq ?_
          refine WP.region ?_
          refine EvK.pure (v := .pointer a0) (w_none rfl) rfl rfl (f_move rfl rfl) ?_
          refine EvK.pure (v := .pointer a1) (w_none rfl) rfl rfl (f_move rfl rfl) ?_
          refine EvK.pure (v := .pointer (some (q1.add 1))) (w_none rfl) rfl rfl (f_fieldAddr fd53_1 rfl rfl) ?_
          obtain ⟨x9, hx9, hF⟩ := hF
          refine EvK.read (v := .int .i64 x9) (w_none rfl) rfl rfl (f_load (kI .i64) ty3 rfl rfl hx9 rfl) ?_
          refine EvK.call (w_none rfl) rfl rfl (enterH Try.func23 rfl rfl rfl rfl (spatelaw11_looks.sound hF)) ?_
          rintro _ h17 ⟨r14, rfl, hF⟩
          refine EvK.pure (v := .bool r14) (w_none rfl) rfl rfl (f_assign rfl rfl) ?_
          refine EvK.nil ?_
          refine WP.ret ?_
          exact Ret.mk (vs := [.bool r14]) r14 ⟨rfl, trivial⟩ rfl hF
        · refine WP.cond_false _ rfl c7 ?_
          refine WP.skip ?_
          refine WP.seq ?_
          refine WP.region ?_
          refine EvK.pure (v := .bool true) (w_none rfl) rfl rfl (f_assign rfl rfl) ?_
          refine EvK.nil ?_
          refine WP.ret ?_
          exact Ret.mk (vs := [.bool true]) true ⟨rfl, trivial⟩ rfl hF
end Go.Proofs.Ytgmihbchcmjmdaa

namespace Go.Proofs.Ytgmihbchcmjmdaa
open Go Go.Tr
set_option linter.unusedVariables false
set_option maxRecDepth 100000
set_option maxHeartbeats 400000
def spatelaw11_LocksPlays.b1 (p1 : Sl) (p5 : Option Addr) (p7 : Option Addr) (s : Int) (h : H) (K : Int ⊕ (Unit ⊕ Bool) → H → Prop) : Prop :=
  jn (fun (k4 : Bool → H → Prop) =>
    if (decide (s < (p1.len : Int))) = true then
      k4 (decide (s < 60)) h
    else
      k4 false h) fun s4 h7 =>
  if s4 = true then
    rd (ixA 3 p1 s) fun q1 =>
    rd (ld (kI .i64) (q1.add 1) h7) fun x1 =>
    spatelaw11_looks p5 p7 x1 h7 fun r4 h8 =>
    if (!r4) = true then
      K (.inr (.inr false)) h8
    else
      K (.inl (IntKind.i64.wrap (s + 1))) h8
  else
    K (.inr (.inl ())) h7
def spatelaw11_LocksPlays.b2 (p1 : Sl) (p5 : Option Addr) (p7 : Option Addr) (s : Int) (h : H) (K : Int ⊕ (Unit ⊕ Bool) → H → Prop) : Prop :=
  jn (fun (k6 : Bool → H → Prop) =>
    if (decide (s < (p1.len : Int))) = true then
      k6 (decide (s < 1500)) h
    else
      k6 false h) fun s6 h10 =>
  if s6 = true then
    rd (ixA 3 p1 s) fun q2 =>
    rd (ld k52 q2 h10) fun x2 =>
    spatelaw11_step p5 p7 x2 h10 fun r7 h11 =>
    if (!r7) = true then
      K (.inr (.inr false)) h11
    else
      K (.inl (IntKind.i64.wrap (s + 1))) h11
  else
    K (.inr (.inl ())) h10
/-- spate/spatelaw11.LocksPlays -/
def spatelaw11_LocksPlays (a0 : Int) (a1 : Sl) (h : H) (Q : Bool → H → Prop) : Prop :=
  spatelaw11_known  h fun r1 h1 =>
  if (!r1) = true then
    Q false h1
  else
    locks_New a0 h1 fun r2 h2 =>
    spateref11_New a0 h2 fun r3 h3 =>
    jn (fun (k1 : Bool → H → Prop) =>
      if (r2.2 != r3.2) = true then
        k1 true h3
      else
        k1 (!(r2.1.isNone == r3.1.isNone)) h3) fun s1 h4 =>
    if s1 = true then
      Q false h4
    else
      if r2.1.isNone = true then
        Q true h4
      else
        jn (fun (k2 : Unit → H → Prop) =>
          loopE (spatelaw11_LocksPlays.b2 a1 r2.1 r3.1) 0 h4 (sumK (fun r8 hh => k2 r8 hh) (fun r9 hh => Q r9 hh))) fun s2 h5 =>
        jn (fun (k3 : Unit → H → Prop) =>
          loopE (spatelaw11_LocksPlays.b1 a1 r2.1 r3.1) 0 h5 (sumK (fun r5 hh => k3 r5 hh) (fun r6 hh => Q r6 hh))) fun s3 h6 =>
        Q true h6
theorem spatelaw11_LocksPlays.sound {a0 : Int} {a1 : Sl} {h : H} {Q : Bool → H → Prop} (hF : spatelaw11_LocksPlays a0 a1 h Q) :
    CallsH Try.prog 4 (List.toArray (α := Value) [.int .i64 a0, Sl.val a1]) h fun v h' => ∃ x : Bool, v = .bool x ∧ Q x h' := by
  refine CallsH.of_body Try.func4 rfl 72 rfl rfl ?_
  refine WP.seq ?_
  refine WP.region ?_
  refine EvK.pure (v := .bool false) (w_none rfl) rfl rfl (f_assign rfl rfl) ?_
  refine EvK.nil ?_
  refine WP.seq ?_
  refine WP.seq ?_
  refine WP.region ?_
  refine EvK.call (w_none rfl) rfl rfl (enterH Try.func10 rfl rfl rfl rfl (spatelaw11_known.sound hF)) ?_
  rintro _ h1 ⟨r1, rfl, hF⟩
  refine EvK.pure (v := .bool (!r1)) (w_none rfl) rfl rfl (f_not rfl rfl) ?_
  refine EvK.nil ?_
  rcases ite_inv hF with ⟨c1, hF⟩ | ⟨c1, hF⟩
  · refine WP.cond_true _ rfl c1 ?_
    refine WP.seq ?_
    refine WP.region ?_
    refine EvK.pure (v := .bool false) (w_none rfl) rfl rfl (f_assign rfl rfl) ?_
    refine EvK.nil ?_
    refine WP.ret ?_
    exact Ret.mk (vs := [.bool false]) false ⟨rfl, trivial⟩ rfl hF
  · refine WP.cond_false _ rfl c1 ?_
    refine WP.skip ?_
    refine WP.seq ?_
    refine WP.region ?_
    refine EvK.pure (v := .int .i64 a0) (w_none rfl) rfl rfl (f_move rfl rfl) ?_
    refine EvK.call (w_none rfl) rfl rfl (enterH Try.func12 rfl rfl rfl rfl (locks_New.sound hF)) ?_
    rintro _ h2 ⟨r2, rfl, hF⟩
    refine EvK.pure (v := .tuple #[.pointer r2.1, .int .i64 r2.2]) (w_none rfl) rfl rfl (f_move rfl rfl) ?_
    refine EvK.pure (v := .pointer r2.1) (w_none rfl) rfl rfl (f_extract (vs := #[.pointer r2.1, .int .i64 r2.2]) rfl rfl rfl) ?_
    refine EvK.pure (v := .int .i64 r2.2) (w_none rfl) rfl rfl (f_extract (vs := #[.pointer r2.1, .int .i64 r2.2]) rfl rfl rfl) ?_
    refine EvK.pure (v := .pointer r2.1) (w_none rfl) rfl rfl (f_assign rfl rfl) ?_
    refine EvK.pure (v := .int .i64 r2.2) (w_none rfl) rfl rfl (f_assign rfl rfl) ?_
    refine EvK.nil ?_
    refine WP.seq ?_
    refine WP.region ?_
    refine EvK.pure (v := .int .i64 a0) (w_none rfl) rfl rfl (f_move rfl rfl) ?_
    refine EvK.call (w_none rfl) rfl rfl (enterH Try.func21 rfl rfl rfl rfl (spateref11_New.sound hF)) ?_
    rintro _ h3 ⟨r3, rfl, hF⟩
    refine EvK.pure (v := .tuple #[.pointer r3.1, .int .i64 r3.2]) (w_none rfl) rfl rfl (f_move rfl rfl) ?_
    refine EvK.pure (v := .pointer r3.1) (w_none rfl) rfl rfl (f_extract (vs := #[.pointer r3.1, .int .i64 r3.2]) rfl rfl rfl) ?_
    refine EvK.pure (v := .int .i64 r3.2) (w_none rfl) rfl rfl (f_extract (vs := #[.pointer r3.1, .int .i64 r3.2]) rfl rfl rfl) ?_
    refine EvK.pure (v := .pointer r3.1) (w_none rfl) rfl rfl (f_assign rfl rfl) ?_
    refine EvK.pure (v := .int .i64 r3.2) (w_none rfl) rfl rfl (f_assign rfl rfl) ?_
    refine EvK.nil ?_
    refine WP.seq ?_
    refine WP.joinF (fun (s1 : Bool) => [(32, .bool s1), (1, Sl.val a1), (5, .pointer r2.1), (7, .pointer r3.1)]) hF ?_ ?_
    · intro s1 E0 h4 hF
      rcases ite_inv hF with ⟨c2, hF⟩ | ⟨c2, hF⟩
      · refine WP.cond_true _ rfl c2 ?_
        refine WP.seq ?_
        refine WP.region ?_
        refine EvK.pure (v := .bool false) (w_none rfl) rfl rfl (f_assign rfl rfl) ?_
        refine EvK.nil ?_
        refine WP.ret ?_
        exact Ret.mk (vs := [.bool false]) false ⟨rfl, trivial⟩ rfl hF
      · refine WP.cond_false _ rfl c2 ?_
        refine WP.skip ?_
        refine WP.seq ?_
        refine WP.seq ?_
        refine WP.region ?_
        refine EvK.pure (v := .pointer r2.1) (w_none rfl) rfl rfl (f_move rfl rfl) ?_
        refine EvK.pure (v := .bool r2.1.isNone) (w_none rfl) rfl rfl (f_peqln Try.underlying25 rfl rfl rfl) ?_
        refine EvK.nil ?_
        rcases ite_inv hF with ⟨c3, hF⟩ | ⟨c3, hF⟩
        · refine WP.cond_true _ rfl c3 ?_
          refine WP.seq ?_
          refine WP.region ?_
          refine EvK.pure (v := .bool true) (w_none rfl) rfl rfl (f_assign rfl rfl) ?_
          refine EvK.nil ?_
          refine WP.ret ?_
          exact Ret.mk (vs := [.bool true]) true ⟨rfl, trivial⟩ rfl hF
        · refine WP.cond_false _ rfl c3 ?_
          refine WP.skip ?_
          refine WP.joinF (fun (s2 : Unit) => [(1, Sl.val a1), (5, .pointer r2.1), (7, .pointer r3.1)]) hF ?_ ?_
          · intro s2 E0 h5 hF
            refine WP.joinF (fun (s3 : Unit) => []) hF ?_ ?_
            · intro s3 E0 h6 hF
              refine WP.seq ?_
              refine WP.region ?_
              refine EvK.pure (v := .bool true) (w_none rfl) rfl rfl (f_assign rfl rfl) ?_
              refine EvK.nil ?_
              refine WP.ret ?_
              exact Ret.mk (vs := [.bool true]) true ⟨rfl, trivial⟩ rfl hF
            · intro k3 hF
              refine WP.seq ?_
              refine WP.region ?_
              refine EvK.pure (v := .int .i64 0) (w_none rfl) rfl rfl (f_assign rfl rfl) ?_
              refine EvK.nil ?_
              refine WP.block ?_
              refine WP.loopF (fun (s4 : Int) => [(10, .int .i64 s4), (1, Sl.val a1), (5, .pointer r2.1), (7, .pointer r3.1)]) hF ⟨rfl, rfl, rfl, rfl, trivial⟩ ?_
              intro k4 s4 E0 h7 hF
              refine WP.seq ?_
              refine WP.joinF (fun (s5 : Bool) => [(60, .bool s5), (1, Sl.val a1), (5, .pointer r2.1), (7, .pointer r3.1), (10, .int .i64 s4)]) hF ?_ ?_
              · intro s5 E0 h8 hF
                rcases ite_inv hF with ⟨c4, hF⟩ | ⟨c4, hF⟩
                · refine WP.cond_true _ rfl c4 ?_
                  refine WP.skip ?_
                  refine WP.seq ?_
                  refine WP.block ?_
                  refine WP.seq ?_
                  refine WP.region ?_
                  refine EvK.pure (v := .pointer r2.1) (w_none rfl) rfl rfl (f_move rfl rfl) ?_
                  refine EvK.pure (v := .pointer r3.1) (w_none rfl) rfl rfl (f_move rfl rfl) ?_
                  refine EvK.pure (v := Sl.val a1) (w_none rfl) rfl rfl (f_move rfl rfl) ?_
                  refine EvK.pure (v := .int .i64 s4) (w_none rfl) rfl rfl (f_move rfl rfl) ?_
                  obtain ⟨q1, hq1, hF⟩ := hF
                  refine EvK.pure (v := .pointer (some q1)) (w_none rfl) rfl rfl (f_indexAddr (s := a1) Try.underlying47 ty53.size rfl rfl rfl hq1) ?_
                  refine EvK.pure (v := .pointer (some (q1.add 1))) (w_none rfl) rfl rfl (f_fieldAddr fd53_1 rfl rfl) ?_
                  obtain ⟨x1, hx1, hF⟩ := hF
                  refine EvK.read (v := .int .i64 x1) (w_none rfl) rfl rfl (f_load (kI .i64) ty3 rfl rfl hx1 rfl) ?_
                  refine EvK.call (w_none rfl) rfl rfl (enterH Try.func23 rfl rfl rfl rfl (spatelaw11_looks.sound hF)) ?_
                  rintro _ h9 ⟨r4, rfl, hF⟩
                  refine EvK.pure (v := .bool (!r4)) (w_none rfl) rfl rfl (f_not rfl rfl) ?_
                  refine EvK.nil ?_
                  rcases ite_inv hF with ⟨c5, hF⟩ | ⟨c5, hF⟩
                  · refine WP.cond_true _ rfl c5 ?_
                    refine WP.seq ?_
                    refine WP.region ?_
                    refine EvK.pure (v := .bool false) (w_none rfl) rfl rfl (f_assign rfl rfl) ?_
                    refine EvK.nil ?_
                    refine WP.ret ?_
                    exact Ret.mk (vs := [.bool false]) false ⟨rfl, trivial⟩ rfl hF
                  · refine WP.cond_false _ rfl c5 ?_
                    refine WP.skip ?_
                    refine WP.region ?_
                    refine EvK.pure (v := .int .i64 s4) (w_none rfl) rfl rfl (f_move rfl rfl) ?_
                    refine EvK.pure (v := .int .i64 (IntKind.i64.wrap (s4 + 1))) (w_none rfl) rfl rfl (f_add rfl rfl rfl) ?_
                    refine EvK.pure (v := .int .i64 (IntKind.i64.wrap (s4 + 1))) (w_none rfl) rfl rfl (f_assign rfl rfl) ?_
                    refine EvK.nil ?_
                    exact KE.mk (IntKind.i64.wrap (s4 + 1)) ⟨rfl, rfl, rfl, rfl, trivial⟩ hF
                · refine WP.cond_false _ rfl c4 ?_
                  refine WP.exit ?_
                  exact KE.mk () trivial hF
              · intro k5 hF
                refine WP.region ?_
                refine EvK.pure (v := .int .i64 s4) (w_none rfl) rfl rfl (f_move rfl rfl) ?_
                refine EvK.pure (v := Sl.val a1) (w_none rfl) rfl rfl (f_move rfl rfl) ?_
                refine EvK.pure (v := .int .i64 (a1.len : Int)) (w_none rfl) rfl rfl (f_lenL (s := a1) Try.underlying47 rfl rfl) ?_
                refine EvK.pure (v := .bool (decide (s4 < (a1.len : Int)))) (w_none rfl) rfl rfl (f_lss rfl rfl rfl) ?_
                refine EvK.pure (v := .bool (decide (s4 < (a1.len : Int)))) (w_none rfl) rfl rfl (f_move rfl rfl) ?_
                rcases ite_inv hF with ⟨c6, hF⟩ | ⟨c6, hF⟩
                · refine EvK.pure (v := .int .i64 s4) (w_some rfl rfl c6) rfl rfl (f_move rfl rfl) ?_
                  refine EvK.pure (v := .bool (decide (s4 < 60))) (w_some rfl rfl c6) rfl rfl (f_lss rfl rfl rfl) ?_
                  refine EvK.pure (v := .bool (decide (s4 < 60))) (w_none rfl) rfl rfl (f_pickT rfl rfl c6 rfl) ?_
                  refine EvK.nil ?_
                  exact KE.mk (decide (s4 < 60)) ⟨rfl, rfl, rfl, rfl, rfl, trivial⟩ hF
                · refine EvK.not (w_not rfl rfl c6) rfl rfl ?_
                  refine EvK.not (w_not rfl rfl c6) rfl rfl ?_
                  refine EvK.pure (v := .bool false) (w_none rfl) rfl rfl (f_pickF rfl rfl c6 rfl) ?_
                  refine EvK.nil ?_
                  exact KE.mk false ⟨rfl, rfl, rfl, rfl, rfl, trivial⟩ hF
          · intro k2 hF
            refine WP.seq ?_
            refine WP.region ?_
            refine EvK.pure (v := .int .i64 0) (w_none rfl) rfl rfl (f_assign rfl rfl) ?_
            refine EvK.nil ?_
            refine WP.block ?_
            refine WP.loopF (fun (s6 : Int) => [(9, .int .i64 s6), (1, Sl.val a1), (5, .pointer r2.1), (7, .pointer r3.1)]) hF ⟨rfl, rfl, rfl, rfl, trivial⟩ ?_
            intro k6 s6 E0 h10 hF
            refine WP.seq ?_
            refine WP.joinF (fun (s7 : Bool) => [(42, .bool s7), (1, Sl.val a1), (5, .pointer r2.1), (7, .pointer r3.1), (9, .int .i64 s6)]) hF ?_ ?_
            · intro s7 E0 h11 hF
              rcases ite_inv hF with ⟨c7, hF⟩ | ⟨c7, hF⟩
              · refine WP.cond_true _ rfl c7 ?_
                refine WP.skip ?_
                refine WP.seq ?_
                refine WP.block ?_
                refine WP.seq ?_
                refine WP.region ?_
                refine EvK.pure (v := .pointer r2.1) (w_none rfl) rfl rfl (f_move rfl rfl) ?_
                refine EvK.pure (v := .pointer r3.1) (w_none rfl) rfl rfl (f_move rfl rfl) ?_
                refine EvK.pure (v := Sl.val a1) (w_none rfl) rfl rfl (f_move rfl rfl) ?_
                refine EvK.pure (v := .int .i64 s6) (w_none rfl) rfl rfl (f_move rfl rfl) ?_
                obtain ⟨q2, hq2, hF⟩ := hF
                refine EvK.pure (v := .pointer (some q2)) (w_none rfl) rfl rfl (f_indexAddr (s := a1) Try.underlying47 ty53.size rfl rfl rfl hq2) ?_
                obtain ⟨x2, hx2, hF⟩ := hF
                refine EvK.read (v := k52.val x2) (w_none rfl) rfl rfl (f_load k52 ty53 rfl rfl hx2 rfl) ?_
                refine EvK.call (w_none rfl) rfl rfl (enterH Try.func22 rfl rfl rfl rfl (spatelaw11_step.sound hF)) ?_
                rintro _ h12 ⟨r7, rfl, hF⟩
                refine EvK.pure (v := .bool (!r7)) (w_none rfl) rfl rfl (f_not rfl rfl) ?_
                refine EvK.nil ?_
                rcases ite_inv hF with ⟨c8, hF⟩ | ⟨c8, hF⟩
                · refine WP.cond_true _ rfl c8 ?_
                  refine WP.seq ?_
                  refine WP.region ?_
                  refine EvK.pure (v := .bool false) (w_none rfl) rfl rfl (f_assign rfl rfl) ?_
                  refine EvK.nil ?_
                  refine WP.ret ?_
                  exact Ret.mk (vs := [.bool false]) false ⟨rfl, trivial⟩ rfl hF
                · refine WP.cond_false _ rfl c8 ?_
                  refine WP.skip ?_
                  refine WP.region ?_
                  refine EvK.pure (v := .int .i64 s6) (w_none rfl) rfl rfl (f_move rfl rfl) ?_
                  refine EvK.pure (v := .int .i64 (IntKind.i64.wrap (s6 + 1))) (w_none rfl) rfl rfl (f_add rfl rfl rfl) ?_
                  refine EvK.pure (v := .int .i64 (IntKind.i64.wrap (s6 + 1))) (w_none rfl) rfl rfl (f_assign rfl rfl) ?_
                  refine EvK.nil ?_
                  exact KE.mk (IntKind.i64.wrap (s6 + 1)) ⟨rfl, rfl, rfl, rfl, trivial⟩ hF
              · refine WP.cond_false _ rfl c7 ?_
                refine WP.exit ?_
                exact KE.mk () ⟨rfl, rfl, rfl, trivial⟩ hF
            · intro k7 hF
              refine WP.region ?_
              refine EvK.pure (v := .int .i64 s6) (w_none rfl) rfl rfl (f_move rfl rfl) ?_
              refine EvK.pure (v := Sl.val a1) (w_none rfl) rfl rfl (f_move rfl rfl) ?_
              refine EvK.pure (v := .int .i64 (a1.len : Int)) (w_none rfl) rfl rfl (f_lenL (s := a1) Try.underlying47 rfl rfl) ?_
              refine EvK.pure (v := .bool (decide (s6 < (a1.len : Int)))) (w_none rfl) rfl rfl (f_lss rfl rfl rfl) ?_
              refine EvK.pure (v := .bool (decide (s6 < (a1.len : Int)))) (w_none rfl) rfl rfl (f_move rfl rfl) ?_
              rcases ite_inv hF with ⟨c9, hF⟩ | ⟨c9, hF⟩
              · refine EvK.pure (v := .int .i64 s6) (w_some rfl rfl c9) rfl rfl (f_move rfl rfl) ?_
                refine EvK.pure (v := .bool (decide (s6 < 1500))) (w_some rfl rfl c9) rfl rfl (f_lss rfl rfl rfl) ?_
                refine EvK.pure (v := .bool (decide (s6 < 1500))) (w_none rfl) rfl rfl (f_pickT rfl rfl c9 rfl) ?_
                refine EvK.nil ?_
                exact KE.mk (decide (s6 < 1500)) ⟨rfl, rfl, rfl, rfl, rfl, trivial⟩ hF
              · refine EvK.not (w_not rfl rfl c9) rfl rfl ?_
                refine EvK.not (w_not rfl rfl c9) rfl rfl ?_
                refine EvK.pure (v := .bool false) (w_none rfl) rfl rfl (f_pickF rfl rfl c9 rfl) ?_
                refine EvK.nil ?_
                exact KE.mk false ⟨rfl, rfl, rfl, rfl, rfl, trivial⟩ hF
    · intro k1 hF
      refine WP.region ?_
      refine EvK.pure (v := .int .i64 r2.2) (w_none rfl) rfl rfl (f_move rfl rfl) ?_
      refine EvK.pure (v := .int .i64 r3.2) (w_none rfl) rfl rfl (f_move rfl rfl) ?_
      refine EvK.pure (v := .bool (r2.2 != r3.2)) (w_none rfl) rfl rfl (f_neq rfl rfl rfl) ?_
      refine EvK.pure (v := .bool (r2.2 != r3.2)) (w_none rfl) rfl rfl (f_move rfl rfl) ?_
      rcases ite_inv hF with ⟨c10, hF⟩ | ⟨c10, hF⟩
      · refine EvK.not (w_not rfl rfl c10) rfl rfl ?_
        refine EvK.not (w_not rfl rfl c10) rfl rfl ?_
        refine EvK.not (w_not rfl rfl c10) rfl rfl ?_
        refine EvK.not (w_not rfl rfl c10) rfl rfl ?_
        refine EvK.not (w_not rfl rfl c10) rfl rfl ?_
        refine EvK.pure (v := .bool true) (w_none rfl) rfl rfl (f_pickT rfl rfl c10 rfl) ?_
        refine EvK.nil ?_
        exact KE.mk true ⟨rfl, rfl, rfl, rfl, trivial⟩ hF
      · refine EvK.pure (v := .pointer r2.1) (w_some rfl rfl c10) rfl rfl (f_move rfl rfl) ?_
        refine EvK.pure (v := .bool r2.1.isNone) (w_some rfl rfl c10) rfl rfl (f_peqln Try.underlying25 rfl rfl rfl) ?_
        refine EvK.pure (v := .pointer r3.1) (w_some rfl rfl c10) rfl rfl (f_move rfl rfl) ?_
        refine EvK.pure (v := .bool r3.1.isNone) (w_some rfl rfl c10) rfl rfl (f_peqln Try.underlying48 rfl rfl rfl) ?_
        refine EvK.pure (v := .bool (!(r2.1.isNone == r3.1.isNone))) (w_some rfl rfl c10) rfl rfl (f_bneq Try.underlying4 rfl rfl rfl) ?_
        refine EvK.pure (v := .bool (!(r2.1.isNone == r3.1.isNone))) (w_none rfl) rfl rfl (f_pickF rfl rfl c10 rfl) ?_
        refine EvK.nil ?_
        exact KE.mk (!(r2.1.isNone == r3.1.isNone)) ⟨rfl, rfl, rfl, rfl, trivial⟩ hF
end Go.Proofs.Ytgmihbchcmjmdaa

namespace Go.Proofs.Ytgmihbchcmjmdaa
open Go Go.Tr
set_option linter.unusedVariables false
set_option maxRecDepth 100000
set_option maxHeartbeats 400000
def spatelaw11_find.b1 (p0 : Sl) (p1 : Int) (s : Int) (h : H) (K : Int ⊕ (Unit ⊕ Int) → H → Prop) : Prop :=
  if (decide (s < (p0.len : Int))) = true then
    rd (ixA 3 p0 s) fun q1 =>
    rd (ld (kI .i64) (q1.add 0) h) fun x1 =>
    if (x1 == p1) = true then
      K (.inr (.inr s)) h
    else
      K (.inl (IntKind.i64.wrap (s + 1))) h
  else
    K (.inr (.inl ())) h
/-- spate/spatelaw11.find -/
def spatelaw11_find (a0 : Sl) (a1 : Int) (h : H) (Q : Int → H → Prop) : Prop :=
  jn (fun (k1 : Unit → H → Prop) =>
    loopE (spatelaw11_find.b1 a0 a1) 0 h (sumK (fun r1 hh => k1 r1 hh) (fun r2 hh => Q r2 hh))) fun s1 h1 =>
  Q (-1) h1
theorem spatelaw11_find.sound {a0 : Sl} {a1 : Int} {h : H} {Q : Int → H → Prop} (hF : spatelaw11_find a0 a1 h Q) :
    CallsH Try.prog 24 (List.toArray (α := Value) [Sl.val a0, .int .i64 a1]) h fun v h' => ∃ x : Int, v = .int .i64 x ∧ Q x h' := by
  refine CallsH.of_body Try.func24 rfl 20 rfl rfl ?_
  refine WP.seq ?_
  refine WP.region ?_
  refine EvK.pure (v := .int .i64 0) (w_none rfl) rfl rfl (f_assign rfl rfl) ?_
  refine EvK.nil ?_
  refine WP.joinF (fun (s1 : Unit) => []) hF ?_ ?_
  · intro s1 E0 h1 hF
    refine WP.seq ?_
    refine WP.region ?_
    refine EvK.pure (v := .int .i64 (-1)) (w_none rfl) rfl rfl (f_assign rfl rfl) ?_
    refine EvK.nil ?_
    refine WP.ret ?_
    exact Ret.mk (vs := [.int .i64 (-1)]) (-1) ⟨rfl, trivial⟩ rfl hF
  · intro k1 hF
    refine WP.seq ?_
    refine WP.region ?_
    refine EvK.pure (v := .int .i64 0) (w_none rfl) rfl rfl (f_assign rfl rfl) ?_
    refine EvK.nil ?_
    refine WP.block ?_
    refine WP.loopF (fun (s2 : Int) => [(5, .int .i64 s2), (0, Sl.val a0), (1, .int .i64 a1)]) hF ⟨rfl, rfl, rfl, trivial⟩ ?_
    intro k2 s2 E0 h2 hF
    refine WP.seq ?_
    refine WP.seq ?_
    refine WP.region ?_
    refine EvK.pure (v := .int .i64 s2) (w_none rfl) rfl rfl (f_move rfl rfl) ?_
    refine EvK.pure (v := Sl.val a0) (w_none rfl) rfl rfl (f_move rfl rfl) ?_
    refine EvK.pure (v := .int .i64 (a0.len : Int)) (w_none rfl) rfl rfl (f_lenL (s := a0) Try.underlying29 rfl rfl) ?_
    refine EvK.pure (v := .bool (decide (s2 < (a0.len : Int)))) (w_none rfl) rfl rfl (f_lss rfl rfl rfl) ?_
    refine EvK.nil ?_
    rcases ite_inv hF with ⟨c1, hF⟩ | ⟨c1, hF⟩
    · refine WP.cond_true _ rfl c1 ?_
      refine WP.skip ?_
      refine WP.seq ?_
      refine WP.block ?_
      refine WP.seq ?_
      refine WP.region ?_
      refine EvK.pure (v := Sl.val a0) (w_none rfl) rfl rfl (f_move rfl rfl) ?_
      refine EvK.pure (v := .int .i64 s2) (w_none rfl) rfl rfl (f_move rfl rfl) ?_
      obtain ⟨q1, hq1, hF⟩ := hF
      refine EvK.pure (v := .pointer (some q1)) (w_none rfl) rfl rfl (f_indexAddr (s := a0) Try.underlying29 ty35.size rfl rfl rfl hq1) ?_
      refine EvK.pure (v := .pointer (some (q1.add 0))) (w_none rfl) rfl rfl (f_fieldAddr fd35_0 rfl rfl) ?_
      obtain ⟨x1, hx1, hF⟩ := hF
      refine EvK.read (v := .int .i64 x1) (w_none rfl) rfl rfl (f_load (kI .i64) ty3 rfl rfl hx1 rfl) ?_
      refine EvK.pure (v := .int .i64 a1) (w_none rfl) rfl rfl (f_move rfl rfl) ?_
      refine EvK.pure (v := .bool (x1 == a1)) (w_none rfl) rfl rfl (f_eql rfl rfl rfl) ?_
      refine EvK.nil ?_
      rcases ite_inv hF with ⟨c2, hF⟩ | ⟨c2, hF⟩
      · refine WP.cond_true _ rfl c2 ?_
        refine WP.seq ?_
        refine WP.region ?_
        refine EvK.pure (v := .int .i64 s2) (w_none rfl) rfl rfl (f_move rfl rfl) ?_
        refine EvK.pure (v := .int .i64 s2) (w_none rfl) rfl rfl (f_assign rfl rfl) ?_
        refine EvK.nil ?_
        refine WP.ret ?_
        exact Ret.mk (vs := [.int .i64 s2]) s2 ⟨rfl, trivial⟩ rfl hF
      · refine WP.cond_false _ rfl c2 ?_
        refine WP.skip ?_
        refine WP.region ?_
        refine EvK.pure (v := .int .i64 s2) (w_none rfl) rfl rfl (f_move rfl rfl) ?_
        refine EvK.pure (v := .int .i64 (IntKind.i64.wrap (s2 + 1))) (w_none rfl) rfl rfl (f_add rfl rfl rfl) ?_
        refine EvK.pure (v := .int .i64 (IntKind.i64.wrap (s2 + 1))) (w_none rfl) rfl rfl (f_assign rfl rfl) ?_
        refine EvK.nil ?_
        exact KE.mk (IntKind.i64.wrap (s2 + 1)) ⟨rfl, rfl, rfl, trivial⟩ hF
    · refine WP.cond_false _ rfl c1 ?_
      refine WP.exit ?_
      exact KE.mk () trivial hF
end Go.Proofs.Ytgmihbchcmjmdaa
