/- Functions as predicates over the heap, and that the code comes to them. Printed by gen.py, merged by group.py. -/
import Derived.Test.YtgmihbchcmjmdaaG0
import Derived.Test.YtgmihbchcmjmdaaG1
import Derived.Test.YtgmihbchcmjmdaaG2
import Derived.Test.YtgmihbchcmjmdaaG3
import Derived.Test.YtgmihbchcmjmdaaTy
namespace Go.Proofs.Ytgmihbchcmjmdaa
open Go Go.Tr
set_option linter.unusedVariables false
set_option maxRecDepth 100000
set_option maxHeartbeats 400000
def spateref11_Manager_Queue.b1 (p0 : Option Addr) (s : Sl × Int) (h : H) (K : (Sl × Int) ⊕ Sl → H → Prop) : Prop :=
  rd p0 fun q1 =>
  rd (ld kL (q1.add 2) h) fun x1 =>
  if (decide (s.2 < (x1.len : Int))) = true then
    rd p0 fun q2 =>
    rd (ld kL (q2.add 2) h) fun x2 =>
    rd (ixA 2 x2 s.2) fun q3 =>
    rd (ld (kI .i64) (q3.add 0) h) fun x3 =>
    bs 3 1 ((kI .i64).enc x3) h fun x4 h2 =>
    ap (kI .i64).n 8 3 ((kI .i64).enc 0) s.1 x4 h2 fun x5 h3 =>
    K (.inl (x5, IntKind.i64.wrap (s.2 + 1))) h3
  else
    K (.inr s.1) h
/-- (*spate/spateref11.Manager).Queue -/
def spateref11_Manager_Queue (a0 : Option Addr) (h : H) (Q : Sl → H → Prop) : Prop :=
  jn (fun (k1 : Sl → H → Prop) =>
    loopE (spateref11_Manager_Queue.b1 a0) (Sl.nil, 0) h (fun r1 hh => k1 r1 hh)) fun s1 h1 =>
  Q s1 h1
theorem spateref11_Manager_Queue.sound {a0 : Option Addr} {h : H} {Q : Sl → H → Prop} (hF : spateref11_Manager_Queue a0 h Q) :
    CallsH Try.prog 39 (List.toArray (α := Value) [.pointer a0]) h fun v h' => ∃ x : Sl, v = Sl.val x ∧ Q x h' := by
  refine CallsH.of_body Try.func39 rfl 26 rfl rfl ?_
  refine WP.seq ?_
  refine WP.region ?_
  refine EvK.pure (v := Sl.val Sl.nil) (w_none rfl) rfl rfl (f_assign rfl rfl) ?_
  refine EvK.nil ?_
  refine WP.seq ?_
  refine WP.region ?_
  refine EvK.pure (v := Sl.val Sl.nil) (w_none rfl) rfl rfl (f_assign rfl rfl) ?_
  refine EvK.nil ?_
  refine WP.joinF (fun (s1 : Sl) => [(3, Sl.val s1)]) hF ?_ ?_
  · intro s1 E0 h1 hF
    refine WP.seq ?_
    refine WP.region ?_
    refine EvK.pure (v := Sl.val s1) (w_none rfl) rfl rfl (f_move rfl rfl) ?_
    refine EvK.pure (v := Sl.val s1) (w_none rfl) rfl rfl (f_assign rfl rfl) ?_
    refine EvK.nil ?_
    refine WP.ret ?_
    exact Ret.mk (vs := [Sl.val s1]) s1 ⟨rfl, trivial⟩ rfl hF
  · intro k1 hF
    refine WP.seq ?_
    refine WP.region ?_
    refine EvK.pure (v := .int .i64 0) (w_none rfl) rfl rfl (f_assign rfl rfl) ?_
    refine EvK.nil ?_
    refine WP.block ?_
    refine WP.loopF (fun (s2 : Sl × Int) => [(3, Sl.val s2.1), (4, .int .i64 s2.2), (0, .pointer a0)]) hF ⟨rfl, rfl, rfl, trivial⟩ ?_
    intro k2 s2 E0 h2 hF
    refine WP.seq ?_
    refine WP.seq ?_
    refine WP.region ?_
    refine EvK.pure (v := .int .i64 s2.2) (w_none rfl) rfl rfl (f_move rfl rfl) ?_
    refine EvK.pure (v := .pointer a0) (w_none rfl) rfl rfl (f_move rfl rfl) ?_
    obtain ⟨q1, hq1, hF⟩ := hF
    refine EvK.pure (v := .pointer (some q1)) (w_none rfl) rfl rfl (f_nilCheck rfl (congrArg Value.pointer hq1)) ?_
    refine EvK.pure (v := .pointer (some (q1.add 2))) (w_none rfl) rfl rfl (f_fieldAddr fd93_2 rfl rfl) ?_
    obtain ⟨x1, hx1, hF⟩ := hF
    refine EvK.read (v := Sl.val x1) (w_none rfl) rfl rfl (f_load kL ty91 rfl rfl hx1 rfl) ?_
    refine EvK.pure (v := .int .i64 (x1.len : Int)) (w_none rfl) rfl rfl (f_lenL (s := x1) Try.underlying91 rfl rfl) ?_
    refine EvK.pure (v := .bool (decide (s2.2 < (x1.len : Int)))) (w_none rfl) rfl rfl (f_lss rfl rfl rfl) ?_
    refine EvK.nil ?_
    rcases ite_inv hF with ⟨c1, hF⟩ | ⟨c1, hF⟩
    · refine WP.cond_true _ rfl c1 ?_
      refine WP.skip ?_
      refine WP.seq ?_
      refine WP.block ?_
      refine WP.region ?_
      refine EvK.pure (v := Sl.val s2.1) (w_none rfl) rfl rfl (f_move rfl rfl) ?_
      refine EvK.pure (v := .pointer a0) (w_none rfl) rfl rfl (f_move rfl rfl) ?_
      obtain ⟨q2, hq2, hF⟩ := hF
      refine EvK.pure (v := .pointer (some q2)) (w_none rfl) rfl rfl (f_nilCheck rfl (congrArg Value.pointer hq2)) ?_
      refine EvK.pure (v := .pointer (some (q2.add 2))) (w_none rfl) rfl rfl (f_fieldAddr fd93_2 rfl rfl) ?_
      obtain ⟨x2, hx2, hF⟩ := hF
      refine EvK.read (v := Sl.val x2) (w_none rfl) rfl rfl (f_load kL ty91 rfl rfl hx2 rfl) ?_
      refine EvK.pure (v := .int .i64 s2.2) (w_none rfl) rfl rfl (f_move rfl rfl) ?_
      obtain ⟨q3, hq3, hF⟩ := hF
      refine EvK.pure (v := .pointer (some q3)) (w_none rfl) rfl rfl (f_indexAddr (s := x2) Try.underlying91 ty99.size rfl rfl rfl hq3) ?_
      refine EvK.pure (v := .pointer (some (q3.add 0))) (w_none rfl) rfl rfl (f_fieldAddr fd99_0 rfl rfl) ?_
      obtain ⟨x3, hx3, hF⟩ := hF
      refine EvK.read (v := .int .i64 x3) (w_none rfl) rfl rfl (f_load (kI .i64) ty3 rfl rfl hx3 rfl) ?_
      refine EvK.alloc (w_none rfl) rfl rfl (f_buildSliceF Try.underlying22 el3 (by decide) rfl rfl rfl hF) ?_
      rintro _ h3 ⟨x4, rfl, hF⟩
      refine EvK.run (w_none rfl) rfl rfl (f_appendE (s := s2.1) (x := x4) Try.underlying22 el3 rfl rfl rfl hF) ?_
      rintro _ h4 ⟨x5, rfl, hF⟩
      refine EvK.pure (v := Sl.val x5) (w_none rfl) rfl rfl (f_assign rfl rfl) ?_
      refine EvK.nil ?_
      refine WP.region ?_
      refine EvK.pure (v := .int .i64 s2.2) (w_none rfl) rfl rfl (f_move rfl rfl) ?_
      refine EvK.pure (v := .int .i64 (IntKind.i64.wrap (s2.2 + 1))) (w_none rfl) rfl rfl (f_add rfl rfl rfl) ?_
      refine EvK.pure (v := .int .i64 (IntKind.i64.wrap (s2.2 + 1))) (w_none rfl) rfl rfl (f_assign rfl rfl) ?_
      refine EvK.nil ?_
      exact KE.mk (x5, IntKind.i64.wrap (s2.2 + 1)) ⟨rfl, rfl, rfl, trivial⟩ hF
    · refine WP.cond_false _ rfl c1 ?_
      refine WP.exit ?_
      exact KE.mk s2.1 ⟨rfl, trivial⟩ hF
end Go.Proofs.Ytgmihbchcmjmdaa

namespace Go.Proofs.Ytgmihbchcmjmdaa
open Go Go.Tr
set_option linter.unusedVariables false
set_option maxRecDepth 100000
set_option maxHeartbeats 400000
def spatelaw11_looks.b1 (p0 : Option Addr) (p1 : Option Addr) (p2 : Int) (p7 : Sl) (s : Bool × Int) (h : H) (K : (Bool × Int) ⊕ Bool → H → Prop) : Prop :=
  if (decide (s.2 < (p7.len : Int))) = true then
    jn (fun (k3 : Bool → H → Prop) =>
      if s.1 = true then
        k3 true h
      else
        rd (ixA 1 p7 s.2) fun q1 =>
        rd (ld (kI .i64) q1 h) fun x1 =>
        k3 (x1 == p2) h) fun s3 h10 =>
    K (.inl (s3, IntKind.i64.wrap (s.2 + 1))) h10
  else
    K (.inr s.1) h
/-- spate/spatelaw11.looks -/
def spatelaw11_looks (a0 : Option Addr) (a1 : Option Addr) (a2 : Int) (h : H) (Q : Bool → H → Prop) : Prop :=
  spateref11_Manager_Queue a1 h fun r1 h1 =>
  jn (fun (k1 : Bool → H → Prop) =>
    loopE (spatelaw11_looks.b1 a0 a1 a2 r1) (false, 0) h1 (fun r8 hh => k1 r8 hh)) fun s1 h2 =>
  jn (fun (k2 : Bool → H → Prop) =>
    locks_Manager_Has a0 a2 h2 fun r2 h4 =>
    spateref11_Manager_Has a1 a2 h4 fun r3 h5 =>
    spatelaw11_SameLocks r2 r3 h5 fun r4 h6 =>
    if r4 = true then
      locks_Manager_Waits a0 a2 h6 fun r5 h7 =>
      if (r5 == s1) = true then
        locks_Manager_Queue a0 h7 fun r6 h8 =>
        spatelaw11_SameInts r6 r1 h8 fun r7 h9 =>
        k2 r7 h9
      else
        k2 false h7
    else
      k2 false h6) fun s2 h3 =>
  Q s2 h3
theorem spatelaw11_looks.sound {a0 : Option Addr} {a1 : Option Addr} {a2 : Int} {h : H} {Q : Bool → H → Prop} (hF : spatelaw11_looks a0 a1 a2 h Q) :
    CallsH Try.prog 23 (List.toArray (α := Value) [.pointer a0, .pointer a1, .int .i64 a2]) h fun v h' => ∃ x : Bool, v = .bool x ∧ Q x h' := by
  refine CallsH.of_body Try.func23 rfl 47 rfl rfl ?_
  refine WP.seq ?_
  refine WP.region ?_
  refine EvK.pure (v := .bool false) (w_none rfl) rfl rfl (f_assign rfl rfl) ?_
  refine EvK.nil ?_
  refine WP.seq ?_
  refine WP.region ?_
  refine EvK.pure (v := .pointer a1) (w_none rfl) rfl rfl (f_move rfl rfl) ?_
  refine EvK.call (w_none rfl) rfl rfl (enterH Try.func39 rfl rfl rfl rfl (spateref11_Manager_Queue.sound hF)) ?_
  rintro _ h1 ⟨r1, rfl, hF⟩
  refine EvK.pure (v := Sl.val r1) (w_none rfl) rfl rfl (f_assign rfl rfl) ?_
  refine EvK.nil ?_
  refine WP.seq ?_
  refine WP.region ?_
  refine EvK.pure (v := .bool false) (w_none rfl) rfl rfl (f_assign rfl rfl) ?_
  refine EvK.nil ?_
  refine WP.joinF (fun (s1 : Bool) => [(8, .bool s1), (0, .pointer a0), (1, .pointer a1), (2, .int .i64 a2), (7, Sl.val r1)]) hF ?_ ?_
  · intro s1 E0 h2 hF
    refine WP.joinF (fun (s2 : Bool) => [(6, .bool s2)]) hF ?_ ?_
    · intro s2 E0 h3 hF
      refine WP.ret ?_
      exact Ret.mk (vs := [.bool s2]) s2 ⟨rfl, trivial⟩ rfl hF
    · intro k2 hF
      refine WP.region ?_
      refine EvK.pure (v := .pointer a0) (w_none rfl) rfl rfl (f_move rfl rfl) ?_
      refine EvK.pure (v := .int .i64 a2) (w_none rfl) rfl rfl (f_move rfl rfl) ?_
      refine EvK.call (w_none rfl) rfl rfl (enterH Try.func16 rfl rfl rfl rfl (locks_Manager_Has.sound hF)) ?_
      rintro _ h4 ⟨r2, rfl, hF⟩
      refine EvK.pure (v := .pointer a1) (w_none rfl) rfl rfl (f_move rfl rfl) ?_
      refine EvK.pure (v := .int .i64 a2) (w_none rfl) rfl rfl (f_move rfl rfl) ?_
      refine EvK.call (w_none rfl) rfl rfl (enterH Try.func38 rfl rfl rfl rfl (spateref11_Manager_Has.sound hF)) ?_
      rintro _ h5 ⟨r3, rfl, hF⟩
      refine EvK.call (w_none rfl) rfl rfl (enterH Try.func15 rfl rfl rfl rfl (spatelaw11_SameLocks.sound hF)) ?_
      rintro _ h6 ⟨r4, rfl, hF⟩
      refine EvK.pure (v := .bool r4) (w_none rfl) rfl rfl (f_move rfl rfl) ?_
      rcases ite_inv hF with ⟨c1, hF⟩ | ⟨c1, hF⟩
      · refine EvK.pure (v := .pointer a0) (w_some rfl rfl c1) rfl rfl (f_move rfl rfl) ?_
        refine EvK.pure (v := .int .i64 a2) (w_some rfl rfl c1) rfl rfl (f_move rfl rfl) ?_
        refine EvK.call (w_some rfl rfl c1) rfl rfl (enterH Try.func32 rfl rfl rfl rfl (locks_Manager_Waits.sound hF)) ?_
        rintro _ h7 ⟨r5, rfl, hF⟩
        refine EvK.pure (v := .bool s1) (w_some rfl rfl c1) rfl rfl (f_move rfl rfl) ?_
        refine EvK.pure (v := .bool (r5 == s1)) (w_some rfl rfl c1) rfl rfl (f_beql Try.underlying4 rfl rfl rfl) ?_
        refine EvK.pure (v := .bool (r5 == s1)) (w_none rfl) rfl rfl (f_pickT rfl rfl c1 rfl) ?_
        refine EvK.pure (v := .bool (r5 == s1)) (w_none rfl) rfl rfl (f_move rfl rfl) ?_
        rcases ite_inv hF with ⟨c2, hF⟩ | ⟨c2, hF⟩
        · refine EvK.pure (v := .pointer a0) (w_some rfl rfl c2) rfl rfl (f_move rfl rfl) ?_
          refine EvK.call (w_some rfl rfl c2) rfl rfl (enterH Try.func20 rfl rfl rfl rfl (locks_Manager_Queue.sound hF)) ?_
          rintro _ h8 ⟨r6, rfl, hF⟩
          refine EvK.pure (v := Sl.val r1) (w_some rfl rfl c2) rfl rfl (f_move rfl rfl) ?_
          refine EvK.call (w_some rfl rfl c2) rfl rfl (enterH Try.func19 rfl rfl rfl rfl (spatelaw11_SameInts.sound hF)) ?_
          rintro _ h9 ⟨r7, rfl, hF⟩
          refine EvK.pure (v := .bool r7) (w_none rfl) rfl rfl (f_pickT rfl rfl c2 rfl) ?_
          refine EvK.pure (v := .bool r7) (w_none rfl) rfl rfl (f_assign rfl rfl) ?_
          refine EvK.nil ?_
          exact KE.mk r7 ⟨rfl, trivial⟩ hF
        · refine EvK.not (w_not rfl rfl c2) rfl rfl ?_
          refine EvK.not (w_not rfl rfl c2) rfl rfl ?_
          refine EvK.not (w_not rfl rfl c2) rfl rfl ?_
          refine EvK.not (w_not rfl rfl c2) rfl rfl ?_
          refine EvK.pure (v := .bool false) (w_none rfl) rfl rfl (f_pickF rfl rfl c2 rfl) ?_
          refine EvK.pure (v := .bool false) (w_none rfl) rfl rfl (f_assign rfl rfl) ?_
          refine EvK.nil ?_
          exact KE.mk false ⟨rfl, trivial⟩ hF
      · refine EvK.not (w_not rfl rfl c1) rfl rfl ?_
        refine EvK.not (w_not rfl rfl c1) rfl rfl ?_
        refine EvK.not (w_not rfl rfl c1) rfl rfl ?_
        refine EvK.not (w_not rfl rfl c1) rfl rfl ?_
        refine EvK.not (w_not rfl rfl c1) rfl rfl ?_
        refine EvK.pure (v := .bool false) (w_none rfl) rfl rfl (f_pickF rfl rfl c1 rfl) ?_
        refine EvK.pure (v := .bool false) (w_none rfl) rfl rfl (f_move rfl rfl) ?_
        refine EvK.not (w_not rfl rfl rfl) rfl rfl ?_
        refine EvK.not (w_not rfl rfl rfl) rfl rfl ?_
        refine EvK.not (w_not rfl rfl rfl) rfl rfl ?_
        refine EvK.not (w_not rfl rfl rfl) rfl rfl ?_
        refine EvK.pure (v := .bool false) (w_none rfl) rfl rfl (f_pickF rfl rfl rfl rfl) ?_
        refine EvK.pure (v := .bool false) (w_none rfl) rfl rfl (f_assign rfl rfl) ?_
        refine EvK.nil ?_
        exact KE.mk false ⟨rfl, trivial⟩ hF
  · intro k1 hF
    refine WP.seq ?_
    refine WP.region ?_
    refine EvK.pure (v := .int .i64 0) (w_none rfl) rfl rfl (f_assign rfl rfl) ?_
    refine EvK.nil ?_
    refine WP.block ?_
    refine WP.loopF (fun (s3 : Bool × Int) => [(8, .bool s3.1), (9, .int .i64 s3.2), (0, .pointer a0), (1, .pointer a1), (2, .int .i64 a2), (7, Sl.val r1)]) hF ⟨rfl, rfl, rfl, rfl, rfl, rfl, trivial⟩ ?_
    intro k3 s3 E0 h10 hF
    refine WP.seq ?_
    refine WP.seq ?_
    refine WP.region ?_
    refine EvK.pure (v := .int .i64 s3.2) (w_none rfl) rfl rfl (f_move rfl rfl) ?_
    refine EvK.pure (v := Sl.val r1) (w_none rfl) rfl rfl (f_move rfl rfl) ?_
    refine EvK.pure (v := .int .i64 (r1.len : Int)) (w_none rfl) rfl rfl (f_lenL (s := r1) Try.underlying22 rfl rfl) ?_
    refine EvK.pure (v := .bool (decide (s3.2 < (r1.len : Int)))) (w_none rfl) rfl rfl (f_lss rfl rfl rfl) ?_
    refine EvK.nil ?_
    rcases ite_inv hF with ⟨c3, hF⟩ | ⟨c3, hF⟩
    · refine WP.cond_true _ rfl c3 ?_
      refine WP.skip ?_
      refine WP.joinF (fun (s4 : Bool) => [(8, .bool s4), (0, .pointer a0), (1, .pointer a1), (2, .int .i64 a2), (7, Sl.val r1), (9, .int .i64 s3.2)]) hF ?_ ?_
      · intro s4 E0 h11 hF
        refine WP.region ?_
        refine EvK.pure (v := .int .i64 s3.2) (w_none rfl) rfl rfl (f_move rfl rfl) ?_
        refine EvK.pure (v := .int .i64 (IntKind.i64.wrap (s3.2 + 1))) (w_none rfl) rfl rfl (f_add rfl rfl rfl) ?_
        refine EvK.pure (v := .int .i64 (IntKind.i64.wrap (s3.2 + 1))) (w_none rfl) rfl rfl (f_assign rfl rfl) ?_
        refine EvK.nil ?_
        exact KE.mk (s4, IntKind.i64.wrap (s3.2 + 1)) ⟨rfl, rfl, rfl, rfl, rfl, rfl, trivial⟩ hF
      · intro k4 hF
        refine WP.block ?_
        refine WP.region ?_
        refine EvK.pure (v := .bool s3.1) (w_none rfl) rfl rfl (f_move rfl rfl) ?_
        refine EvK.pure (v := .bool s3.1) (w_none rfl) rfl rfl (f_move rfl rfl) ?_
        rcases ite_inv hF with ⟨c4, hF⟩ | ⟨c4, hF⟩
        · refine EvK.not (w_not rfl rfl c4) rfl rfl ?_
          refine EvK.not (w_not rfl rfl c4) rfl rfl ?_
          refine EvK.not (w_not rfl rfl c4) rfl rfl ?_
          refine EvK.not (w_not rfl rfl c4) rfl rfl ?_
          refine EvK.not (w_not rfl rfl c4) rfl rfl ?_
          refine EvK.not (w_not rfl rfl c4) rfl rfl ?_
          refine EvK.pure (v := .bool true) (w_none rfl) rfl rfl (f_pickT rfl rfl c4 rfl) ?_
          refine EvK.pure (v := .bool true) (w_none rfl) rfl rfl (f_assign rfl rfl) ?_
          refine EvK.nil ?_
          exact KE.mk true ⟨rfl, rfl, rfl, rfl, rfl, rfl, trivial⟩ hF
        · refine EvK.pure (v := Sl.val r1) (w_some rfl rfl c4) rfl rfl (f_move rfl rfl) ?_
          refine EvK.pure (v := .int .i64 s3.2) (w_some rfl rfl c4) rfl rfl (f_move rfl rfl) ?_
          obtain ⟨q1, hq1, hF⟩ := hF
          refine EvK.pure (v := .pointer (some q1)) (w_some rfl rfl c4) rfl rfl (f_indexAddr (s := r1) Try.underlying22 ty3.size rfl rfl rfl hq1) ?_
          obtain ⟨x1, hx1, hF⟩ := hF
          refine EvK.read (v := .int .i64 x1) (w_some rfl rfl c4) rfl rfl (f_load (kI .i64) ty3 rfl rfl hx1 rfl) ?_
          refine EvK.pure (v := .int .i64 a2) (w_some rfl rfl c4) rfl rfl (f_move rfl rfl) ?_
          refine EvK.pure (v := .bool (x1 == a2)) (w_some rfl rfl c4) rfl rfl (f_eql rfl rfl rfl) ?_
          refine EvK.pure (v := .bool (x1 == a2)) (w_none rfl) rfl rfl (f_pickF rfl rfl c4 rfl) ?_
          refine EvK.pure (v := .bool (x1 == a2)) (w_none rfl) rfl rfl (f_assign rfl rfl) ?_
          refine EvK.nil ?_
          exact KE.mk (x1 == a2) ⟨rfl, rfl, rfl, rfl, rfl, rfl, trivial⟩ hF
    · refine WP.cond_false _ rfl c3 ?_
      refine WP.exit ?_
      exact KE.mk s3.1 ⟨rfl, rfl, rfl, rfl, rfl, trivial⟩ hF
end Go.Proofs.Ytgmihbchcmjmdaa

namespace Go.Proofs.Ytgmihbchcmjmdaa
open Go Go.Tr
set_option linter.unusedVariables false
set_option maxRecDepth 100000
set_option maxHeartbeats 400000
/-- spate/spatelaw11.set -/
def spatelaw11_set (a0 : Sl) (h : H) (Q : Sl → H → Prop) : Prop :=
  if (decide ((a0.len : Int) > 40)) = true then
    rd (slx 2 a0 none (some 40) none) fun x1 =>
    Q x1 h
  else
    Q a0 h
theorem spatelaw11_set.sound {a0 : Sl} {h : H} {Q : Sl → H → Prop} (hF : spatelaw11_set a0 h Q) :
    CallsH Try.prog 25 (List.toArray (α := Value) [Sl.val a0]) h fun v h' => ∃ x : Sl, v = Sl.val x ∧ Q x h' := by
  refine CallsH.of_body Try.func25 rfl 9 rfl rfl ?_
  refine WP.seq ?_
  refine WP.region ?_
  refine EvK.pure (v := Sl.val Sl.nil) (w_none rfl) rfl rfl (f_assign rfl rfl) ?_
  refine EvK.nil ?_
  refine WP.seq ?_
  refine WP.seq ?_
  refine WP.region ?_
  refine EvK.pure (v := Sl.val a0) (w_none rfl) rfl rfl (f_move rfl rfl) ?_
  refine EvK.pure (v := .int .i64 (a0.len : Int)) (w_none rfl) rfl rfl (f_lenL (s := a0) Try.underlying30 rfl rfl) ?_
  refine EvK.pure (v := .bool (decide ((a0.len : Int) > 40))) (w_none rfl) rfl rfl (f_gtr rfl rfl rfl) ?_
  refine EvK.nil ?_
  rcases ite_inv hF with ⟨c1, hF⟩ | ⟨c1, hF⟩
  · refine WP.cond_true _ rfl c1 ?_
    refine WP.seq ?_
    refine WP.region ?_
    refine EvK.pure (v := Sl.val a0) (w_none rfl) rfl rfl (f_move rfl rfl) ?_
    obtain ⟨x1, hx1, hF⟩ := hF
    refine EvK.pure (v := Sl.val x1) (w_none rfl) rfl rfl (f_slice Try.underlying30 ty32.size rfl rfl bndV_none (bndV_some rfl) bndV_none hx1) ?_
    refine EvK.pure (v := Sl.val x1) (w_none rfl) rfl rfl (f_assign rfl rfl) ?_
    refine EvK.nil ?_
    refine WP.ret ?_
    exact Ret.mk (vs := [Sl.val x1]) x1 ⟨rfl, trivial⟩ rfl hF
  · refine WP.cond_false _ rfl c1 ?_
    refine WP.skip ?_
    refine WP.seq ?_
    refine WP.region ?_
    refine EvK.pure (v := Sl.val a0) (w_none rfl) rfl rfl (f_move rfl rfl) ?_
    refine EvK.pure (v := Sl.val a0) (w_none rfl) rfl rfl (f_assign rfl rfl) ?_
    refine EvK.nil ?_
    refine WP.ret ?_
    exact Ret.mk (vs := [Sl.val a0]) a0 ⟨rfl, trivial⟩ rfl hF
end Go.Proofs.Ytgmihbchcmjmdaa

namespace Go.Proofs.Ytgmihbchcmjmdaa
open Go Go.Tr
set_option linter.unusedVariables false
set_option maxRecDepth 100000
set_option maxHeartbeats 400000
/-- (*spate/locks.Manager).Quit -/
def locks_Manager_Quit (a0 : Option Addr) (a1 : Int) (h : H) (Q : Sl → H → Prop) : Prop :=
  rd a0 fun q1 =>
  rd (ld kL (q1.add 1) h) fun x1 =>
  rd a0 fun q2 =>
  rd (ld kL (q2.add 2) h) fun x2 =>
  locks_find x1 a1 h fun r1 h1 =>
  ld kL (q2.add 2) h1 = some x2 ∧
  locks_find x2 a1 h1 fun r2 h2 =>
  jn (fun (k1 : Unit → H → Prop) =>
    if (decide (r1 ≥ 0)) = true then
      rd a0 fun q3 =>
      rd (ld kL (q3.add 1) h2) fun x3 =>
      slices_Delete___locks_claim_locks_claim_ x3 r1 (IntKind.i64.wrap (r1 + 1)) h2 fun r4 h5 =>
      rd a0 fun q4 =>
      rd (st kL (q4.add 1) r4 h5) fun h6 =>
      k1 () h6
    else
      if (decide (r2 ≥ 0)) = true then
        rd a0 fun q5 =>
        rd (ld kL (q5.add 2) h2) fun x4 =>
        slices_Delete___locks_claim_locks_claim_ x4 r2 (IntKind.i64.wrap (r2 + 1)) h2 fun r5 h7 =>
        rd a0 fun q6 =>
        rd (st kL (q6.add 2) r5 h7) fun h8 =>
        k1 () h8
      else
        Q Sl.nil h2) fun s1 h3 =>
  locks_Manager_through a0 h3 fun r3 h4 =>
  Q r3 h4
theorem locks_Manager_Quit.sound {a0 : Option Addr} {a1 : Int} {h : H} {Q : Sl → H → Prop} (hF : locks_Manager_Quit a0 a1 h Q) :
    CallsH Try.prog 28 (List.toArray (α := Value) [.pointer a0, .int .i64 a1]) h fun v h' => ∃ x : Sl, v = Sl.val x ∧ Q x h' := by
  refine CallsH.of_body Try.func28 rfl 49 rfl rfl ?_
  refine WP.seq ?_
  refine WP.region ?_
  refine EvK.pure (v := Sl.val Sl.nil) (w_none rfl) rfl rfl (f_assign rfl rfl) ?_
  refine EvK.nil ?_
  refine WP.seq ?_
  refine WP.draw mixed [.pure, .pure, .pure, .read, .pure, .eff [9], .pure, .pure, .pure, .read, .pure, .eff [], .pure, .pure] [[], [0], [0, 1], [0, 1, 2], [], [0, 1, 2, 3, 4], [], [6], [6, 7], [6, 7, 8], [], [0, 1, 2, 3, 4, 5, 6, 7, 8, 9, 10], [0, 1, 2, 3, 4, 5, 6, 7, 8, 9, 10, 11], [0, 1, 2, 3, 4, 5, 6, 7, 8, 9, 10, 11, 12]] [0, 1, 2, 3, 4, 6, 7, 8, 9, 10, 5, 11, 12, 13] (by kernel_rfl) (by kernel_rfl) ?_
  refine EvI.pure (v := .pointer a0) rfl rfl (w_none rfl) rfl (f_move rfl rfl) ?_
  obtain ⟨q1, hq1, hF⟩ := hF
  refine EvI.pure (v := .pointer (some q1)) rfl rfl (w_none rfl) rfl (f_nilCheck rfl (congrArg Value.pointer hq1)) ?_
  refine EvI.pure (v := .pointer (some (q1.add 1))) rfl rfl (w_none rfl) rfl (f_fieldAddr fd77_1 rfl rfl) ?_
  obtain ⟨x1, hx1, hF⟩ := hF
  refine EvI.read (v := Sl.val x1) rfl rfl (w_none rfl) rfl (f_load kL ty75 rfl rfl hx1 rfl) ?_
  refine EvI.pure (v := .int .i64 a1) rfl rfl (w_none rfl) rfl (f_move rfl rfl) ?_
  refine EvI.pure (v := .pointer a0) rfl rfl (w_none rfl) rfl (f_move rfl rfl) ?_
  obtain ⟨q2, hq2, hF⟩ := hF
  refine EvI.pure (v := .pointer (some q2)) rfl rfl (w_none rfl) rfl (f_nilCheck rfl (congrArg Value.pointer hq2)) ?_
  refine EvI.pure (v := .pointer (some (q2.add 2))) rfl rfl (w_none rfl) rfl (f_fieldAddr fd77_2 rfl rfl) ?_
  obtain ⟨x2, hx2, hF⟩ := hF
  refine EvI.read (v := Sl.val x2) rfl rfl (w_none rfl) rfl (f_load kL ty75 rfl rfl hx2 rfl) ?_
  refine EvI.pure (v := .int .i64 a1) rfl rfl (w_none rfl) rfl (f_move rfl rfl) ?_
  refine EvI.call rfl rfl (w_none rfl) rfl (enterH Try.func43 rfl rfl rfl rfl (locks_find.sound hF)) ?_
  rintro _ h1 ⟨r1, rfl, hF⟩
  obtain ⟨hy1, hF⟩ := hF
  refine ⟨⟨chk_yes rfl (f_load kL ty75 rfl rfl hy1 rfl), chk_no rfl, trivial⟩, ?_⟩
  refine EvI.call rfl rfl (w_none rfl) rfl (enterH Try.func43 rfl rfl rfl rfl (locks_find.sound hF)) ?_
  rintro _ h2 ⟨r2, rfl, hF⟩
  refine ⟨⟨chk_no rfl, chk_no rfl, trivial⟩, ?_⟩
  refine EvI.pure (v := .int .i64 r1) rfl rfl (w_none rfl) rfl (f_assign rfl rfl) ?_
  refine EvI.pure (v := .int .i64 r2) rfl rfl (w_none rfl) rfl (f_assign rfl rfl) ?_
  refine EvI.nil ?_
  refine WP.joinF (fun (s1 : Unit) => [(0, .pointer a0)]) hF ?_ ?_
  · intro s1 E0 h3 hF
    refine WP.seq ?_
    refine WP.region ?_
    refine EvK.pure (v := .pointer a0) (w_none rfl) rfl rfl (f_move rfl rfl) ?_
    refine EvK.call (w_none rfl) rfl rfl (enterH Try.func48 rfl rfl rfl rfl (locks_Manager_through.sound hF)) ?_
    rintro _ h4 ⟨r3, rfl, hF⟩
    refine EvK.pure (v := Sl.val r3) (w_none rfl) rfl rfl (f_assign rfl rfl) ?_
    refine EvK.nil ?_
    refine WP.ret ?_
    exact Ret.mk (vs := [Sl.val r3]) r3 ⟨rfl, trivial⟩ rfl hF
  · intro k1 hF
    refine WP.block ?_
    refine WP.seq ?_
    refine WP.region ?_
    refine EvK.pure (v := .int .i64 r1) (w_none rfl) rfl rfl (f_move rfl rfl) ?_
    refine EvK.pure (v := .bool (decide (r1 ≥ 0))) (w_none rfl) rfl rfl (f_geq rfl rfl rfl) ?_
    refine EvK.pure (v := .bool (decide (r1 ≥ 0))) (w_none rfl) rfl rfl (f_assign rfl rfl) ?_
    refine EvK.nil ?_
    rcases ite_inv hF with ⟨c1, hF⟩ | ⟨c1, hF⟩
    · refine WP.cond_true _ rfl c1 ?_
      refine WP.region ?_
      refine EvK.pure (v := .pointer a0) (w_none rfl) rfl rfl (f_move rfl rfl) ?_
      refine EvK.pure (v := .pointer a0) (w_none rfl) rfl rfl (f_move rfl rfl) ?_
      obtain ⟨q3, hq3, hF⟩ := hF
      refine EvK.pure (v := .pointer (some q3)) (w_none rfl) rfl rfl (f_nilCheck rfl (congrArg Value.pointer hq3)) ?_
      refine EvK.pure (v := .pointer (some (q3.add 1))) (w_none rfl) rfl rfl (f_fieldAddr fd77_1 rfl rfl) ?_
      obtain ⟨x3, hx3, hF⟩ := hF
      refine EvK.read (v := Sl.val x3) (w_none rfl) rfl rfl (f_load kL ty75 rfl rfl hx3 rfl) ?_
      refine EvK.pure (v := .int .i64 r1) (w_none rfl) rfl rfl (f_move rfl rfl) ?_
      refine EvK.pure (v := .int .i64 r1) (w_none rfl) rfl rfl (f_move rfl rfl) ?_
      refine EvK.pure (v := .int .i64 (IntKind.i64.wrap (r1 + 1))) (w_none rfl) rfl rfl (f_add rfl rfl rfl) ?_
      refine EvK.call (w_none rfl) rfl rfl (enterH Try.func47 rfl rfl rfl rfl (slices_Delete___locks_claim_locks_claim_.sound hF)) ?_
      rintro _ h5 ⟨r4, rfl, hF⟩
      obtain ⟨q4, hq4, hF⟩ := hF
      refine EvK.pure (v := .pointer (some q4)) (w_none rfl) rfl rfl (f_nilCheck rfl (congrArg Value.pointer hq4)) ?_
      refine EvK.pure (v := .pointer (some (q4.add 1))) (w_none rfl) rfl rfl (f_fieldAddr fd77_1 rfl rfl) ?_
      obtain ⟨h6, hs1, hF⟩ := hF
      refine EvK.runN (w_none rfl) rfl (f_store kL ty75.size (z := r4) rfl rfl rfl hs1) ?_
      rintro _ _ ⟨rfl, rfl⟩
      refine EvK.nil ?_
      exact KE.mk () ⟨rfl, trivial⟩ hF
    · refine WP.cond_false _ rfl c1 ?_
      refine WP.seq ?_
      refine WP.region ?_
      refine EvK.pure (v := .int .i64 r2) (w_none rfl) rfl rfl (f_move rfl rfl) ?_
      refine EvK.pure (v := .bool (decide (r2 ≥ 0))) (w_none rfl) rfl rfl (f_geq rfl rfl rfl) ?_
      refine EvK.pure (v := .bool (decide (r2 ≥ 0))) (w_none rfl) rfl rfl (f_assign rfl rfl) ?_
      refine EvK.nil ?_
      rcases ite_inv hF with ⟨c2, hF⟩ | ⟨c2, hF⟩
      · refine WP.cond_true _ rfl c2 ?_
        refine WP.region ?_
        refine EvK.pure (v := .pointer a0) (w_none rfl) rfl rfl (f_move rfl rfl) ?_
        refine EvK.pure (v := .pointer a0) (w_none rfl) rfl rfl (f_move rfl rfl) ?_
        obtain ⟨q5, hq5, hF⟩ := hF
        refine EvK.pure (v := .pointer (some q5)) (w_none rfl) rfl rfl (f_nilCheck rfl (congrArg Value.pointer hq5)) ?_
        refine EvK.pure (v := .pointer (some (q5.add 2))) (w_none rfl) rfl rfl (f_fieldAddr fd77_2 rfl rfl) ?_
        obtain ⟨x4, hx4, hF⟩ := hF
        refine EvK.read (v := Sl.val x4) (w_none rfl) rfl rfl (f_load kL ty75 rfl rfl hx4 rfl) ?_
        refine EvK.pure (v := .int .i64 r2) (w_none rfl) rfl rfl (f_move rfl rfl) ?_
        refine EvK.pure (v := .int .i64 r2) (w_none rfl) rfl rfl (f_move rfl rfl) ?_
        refine EvK.pure (v := .int .i64 (IntKind.i64.wrap (r2 + 1))) (w_none rfl) rfl rfl (f_add rfl rfl rfl) ?_
        refine EvK.call (w_none rfl) rfl rfl (enterH Try.func47 rfl rfl rfl rfl (slices_Delete___locks_claim_locks_claim_.sound hF)) ?_
        rintro _ h7 ⟨r5, rfl, hF⟩
        obtain ⟨q6, hq6, hF⟩ := hF
        refine EvK.pure (v := .pointer (some q6)) (w_none rfl) rfl rfl (f_nilCheck rfl (congrArg Value.pointer hq6)) ?_
        refine EvK.pure (v := .pointer (some (q6.add 2))) (w_none rfl) rfl rfl (f_fieldAddr fd77_2 rfl rfl) ?_
        obtain ⟨h8, hs2, hF⟩ := hF
        refine EvK.runN (w_none rfl) rfl (f_store kL ty75.size (z := r5) rfl rfl rfl hs2) ?_
        rintro _ _ ⟨rfl, rfl⟩
        refine EvK.nil ?_
        exact KE.mk () ⟨rfl, trivial⟩ hF
      · refine WP.cond_false _ rfl c2 ?_
        refine WP.seq ?_
        refine WP.region ?_
        refine EvK.pure (v := Sl.val Sl.nil) (w_none rfl) rfl rfl (f_assign rfl rfl) ?_
        refine EvK.nil ?_
        refine WP.ret ?_
        exact Ret.mk (vs := [Sl.val Sl.nil]) Sl.nil ⟨rfl, trivial⟩ rfl hF
end Go.Proofs.Ytgmihbchcmjmdaa

namespace Go.Proofs.Ytgmihbchcmjmdaa
open Go Go.Tr
set_option linter.unusedVariables false
set_option maxRecDepth 100000
set_option maxHeartbeats 400000
/-- spate/spateref11.without -/
def spateref11_without (a0 : Sl) (a1 : Int) (h : H) (Q : Sl → H → Prop) : Prop :=
  rd (slx 2 a0 none (some a1) none) fun x1 =>
  ap k98.n 32 99 (k98.enc z98) Sl.nil x1 h fun x2 h1 =>
  rd (slx 2 a0 (some (IntKind.i64.wrap (a1 + 1))) none none) fun x3 =>
  ap k98.n 32 99 (k98.enc z98) x2 x3 h1 fun x4 h2 =>
  Q x4 h2
theorem spateref11_without.sound {a0 : Sl} {a1 : Int} {h : H} {Q : Sl → H → Prop} (hF : spateref11_without a0 a1 h Q) :
    CallsH Try.prog 53 (List.toArray (α := Value) [Sl.val a0, .int .i64 a1]) h fun v h' => ∃ x : Sl, v = Sl.val x ∧ Q x h' := by
  refine CallsH.of_body Try.func53 rfl 17 rfl rfl ?_
  refine WP.seq ?_
  refine WP.region ?_
  refine EvK.pure (v := Sl.val Sl.nil) (w_none rfl) rfl rfl (f_assign rfl rfl) ?_
  refine EvK.nil ?_
  refine WP.seq ?_
  refine WP.region ?_
  refine EvK.pure (v := Sl.val Sl.nil) (w_none rfl) rfl rfl (f_assign rfl rfl) ?_
  refine EvK.nil ?_
  refine WP.seq ?_
  refine WP.region ?_
  refine EvK.pure (v := Sl.val Sl.nil) (w_none rfl) rfl rfl (f_move rfl rfl) ?_
  refine EvK.pure (v := Sl.val a0) (w_none rfl) rfl rfl (f_move rfl rfl) ?_
  refine EvK.pure (v := .int .i64 a1) (w_none rfl) rfl rfl (f_move rfl rfl) ?_
  obtain ⟨x1, hx1, hF⟩ := hF
  refine EvK.pure (v := Sl.val x1) (w_none rfl) rfl rfl (f_slice Try.underlying91 ty99.size rfl rfl bndV_none (bndV_some rfl) bndV_none hx1) ?_
  refine EvK.run (w_none rfl) rfl rfl (f_appendE (s := Sl.nil) (x := x1) Try.underlying91 el99 rfl rfl rfl hF) ?_
  rintro _ h1 ⟨x2, rfl, hF⟩
  refine EvK.pure (v := Sl.val x2) (w_none rfl) rfl rfl (f_assign rfl rfl) ?_
  refine EvK.nil ?_
  refine WP.seq ?_
  refine WP.region ?_
  refine EvK.pure (v := Sl.val x2) (w_none rfl) rfl rfl (f_move rfl rfl) ?_
  refine EvK.pure (v := Sl.val a0) (w_none rfl) rfl rfl (f_move rfl rfl) ?_
  refine EvK.pure (v := .int .i64 a1) (w_none rfl) rfl rfl (f_move rfl rfl) ?_
  refine EvK.pure (v := .int .i64 (IntKind.i64.wrap (a1 + 1))) (w_none rfl) rfl rfl (f_add rfl rfl rfl) ?_
  obtain ⟨x3, hx2, hF⟩ := hF
  refine EvK.pure (v := Sl.val x3) (w_none rfl) rfl rfl (f_slice Try.underlying91 ty99.size rfl rfl (bndV_some rfl) bndV_none bndV_none hx2) ?_
  refine EvK.run (w_none rfl) rfl rfl (f_appendE (s := x2) (x := x3) Try.underlying91 el99 rfl rfl rfl hF) ?_
  rintro _ h2 ⟨x4, rfl, hF⟩
  refine EvK.pure (v := Sl.val x4) (w_none rfl) rfl rfl (f_assign rfl rfl) ?_
  refine EvK.nil ?_
  refine WP.ret ?_
  exact Ret.mk (vs := [Sl.val x4]) x4 ⟨rfl, trivial⟩ rfl hF
end Go.Proofs.Ytgmihbchcmjmdaa

namespace Go.Proofs.Ytgmihbchcmjmdaa
open Go Go.Tr
set_option linter.unusedVariables false
set_option maxRecDepth 100000
set_option maxHeartbeats 400000
def spateref11_conflict.b2 (p2 : Addr) (p3 : Addr) (p5 : Int) (s : Int) (h : H) (K : Int ⊕ (Unit ⊕ Bool) → H → Prop) : Prop :=
  rd (ld kL (p3.add 1) h) fun x2 =>
  if (decide (s < (x2.len : Int))) = true then
    jn (fun (k3 : Bool → H → Prop) =>
      rd (ld kL (p2.add 1) h) fun x3 =>
      rd (ixA 2 x3 p5) fun q3 =>
      rd (ld (kI .i64) (q3.add 0) h) fun x4 =>
      rd (ld kL (p3.add 1) h) fun x5 =>
      rd (ixA 2 x5 s) fun q4 =>
      rd (ld (kI .i64) (q4.add 0) h) fun x6 =>
      if (x4 == x6) = true then
        rd (ld kL (p2.add 1) h) fun x7 =>
        rd (ixA 2 x7 p5) fun q5 =>
        rd (ld kB (q5.add 1) h) fun x8 =>
        if x8 = true then
          rd (ld kL (p3.add 1) h) fun x9 =>
          rd (ixA 2 x9 s) fun q6 =>
          rd (ld kB (q6.add 1) h) fun x10 =>
          k3 (!x10) h
        else
          k3 (!false) h
      else
        k3 false h) fun s3 h5 =>
    if s3 = true then
      K (.inr (.inr true)) h5
    else
      K (.inl (IntKind.i64.wrap (s + 1))) h5
  else
    K (.inr (.inl ())) h
def spateref11_conflict.b1 (p2 : Addr) (p3 : Addr) (s : Int) (h : H) (K : Int ⊕ (Unit ⊕ Bool) → H → Prop) : Prop :=
  rd (ld kL (p2.add 1) h) fun x1 =>
  if (decide (s < (x1.len : Int))) = true then
    jn (fun (k2 : Unit → H → Prop) =>
      loopE (spateref11_conflict.b2 p2 p3 s) 0 h (sumK (fun r1 hh => k2 r1 hh) (fun r2 hh => K (.inr (.inr r2)) hh))) fun s2 h4 =>
    K (.inl (IntKind.i64.wrap (s + 1))) h4
  else
    K (.inr (.inl ())) h
/-- spate/spateref11.conflict -/
def spateref11_conflict (a0 : S98) (a1 : S98) (h : H) (Q : Bool → H → Prop) : Prop :=
  al 99 (k98.enc a0) h fun q1 h1 =>
  al 99 (k98.enc a1) h1 fun q2 h2 =>
  jn (fun (k1 : Unit → H → Prop) =>
    loopE (spateref11_conflict.b1 q1 q2) 0 h2 (sumK (fun r3 hh => k1 r3 hh) (fun r4 hh => Q r4 hh))) fun s1 h3 =>
  Q false h3
theorem spateref11_conflict.sound {a0 : S98} {a1 : S98} {h : H} {Q : Bool → H → Prop} (hF : spateref11_conflict a0 a1 h Q) :
    CallsH Try.prog 61 (List.toArray (α := Value) [k98.val a0, k98.val a1]) h fun v h' => ∃ x : Bool, v = .bool x ∧ Q x h' := by
  refine CallsH.of_body Try.func61 rfl 51 rfl rfl ?_
  refine WP.seq ?_
  refine WP.region ?_
  refine EvK.alloc (w_none rfl) rfl rfl (f_boxF (v := k98.val a0) rfl rfl rfl hF) ?_
  rintro _ h1 ⟨q1, rfl, hF⟩
  refine EvK.alloc (w_none rfl) rfl rfl (f_boxF (v := k98.val a1) rfl rfl rfl hF) ?_
  rintro _ h2 ⟨q2, rfl, hF⟩
  refine EvK.pure (v := .bool false) (w_none rfl) rfl rfl (f_assign rfl rfl) ?_
  refine EvK.nil ?_
  refine WP.joinF (fun (s1 : Unit) => []) hF ?_ ?_
  · intro s1 E0 h3 hF
    refine WP.seq ?_
    refine WP.region ?_
    refine EvK.pure (v := .bool false) (w_none rfl) rfl rfl (f_assign rfl rfl) ?_
    refine EvK.nil ?_
    refine WP.ret ?_
    exact Ret.mk (vs := [.bool false]) false ⟨rfl, trivial⟩ rfl hF
  · intro k1 hF
    refine WP.seq ?_
    refine WP.region ?_
    refine EvK.pure (v := .int .i64 0) (w_none rfl) rfl rfl (f_assign rfl rfl) ?_
    refine EvK.nil ?_
    refine WP.block ?_
    refine WP.loopF (fun (s2 : Int) => [(5, .int .i64 s2), (2, .pointer (some q1)), (3, .pointer (some q2))]) hF ⟨rfl, rfl, rfl, trivial⟩ ?_
    intro k2 s2 E0 h4 hF
    refine WP.seq ?_
    refine WP.seq ?_
    refine WP.region ?_
    refine EvK.pure (v := .int .i64 s2) (w_none rfl) rfl rfl (f_move rfl rfl) ?_
    refine EvK.pure (v := .pointer (some (q1.add 1))) (w_none rfl) rfl rfl (f_fieldAddr fd99_1 rfl rfl) ?_
    obtain ⟨x1, hx1, hF⟩ := hF
    refine EvK.read (v := Sl.val x1) (w_none rfl) rfl rfl (f_load kL ty30 rfl rfl hx1 rfl) ?_
    refine EvK.pure (v := .int .i64 (x1.len : Int)) (w_none rfl) rfl rfl (f_lenL (s := x1) Try.underlying30 rfl rfl) ?_
    refine EvK.pure (v := .bool (decide (s2 < (x1.len : Int)))) (w_none rfl) rfl rfl (f_lss rfl rfl rfl) ?_
    refine EvK.nil ?_
    rcases ite_inv hF with ⟨c1, hF⟩ | ⟨c1, hF⟩
    · refine WP.cond_true _ rfl c1 ?_
      refine WP.skip ?_
      refine WP.joinF (fun (s3 : Unit) => [(2, .pointer (some q1)), (3, .pointer (some q2)), (5, .int .i64 s2)]) hF ?_ ?_
      · intro s3 E0 h5 hF
        refine WP.region ?_
        refine EvK.pure (v := .int .i64 s2) (w_none rfl) rfl rfl (f_move rfl rfl) ?_
        refine EvK.pure (v := .int .i64 (IntKind.i64.wrap (s2 + 1))) (w_none rfl) rfl rfl (f_add rfl rfl rfl) ?_
        refine EvK.pure (v := .int .i64 (IntKind.i64.wrap (s2 + 1))) (w_none rfl) rfl rfl (f_assign rfl rfl) ?_
        refine EvK.nil ?_
        exact KE.mk (IntKind.i64.wrap (s2 + 1)) ⟨rfl, rfl, rfl, trivial⟩ hF
      · intro k3 hF
        refine WP.block ?_
        refine WP.seq ?_
        refine WP.region ?_
        refine EvK.pure (v := .int .i64 0) (w_none rfl) rfl rfl (f_assign rfl rfl) ?_
        refine EvK.nil ?_
        refine WP.block ?_
        refine WP.loopF (fun (s4 : Int) => [(6, .int .i64 s4), (2, .pointer (some q1)), (3, .pointer (some q2)), (5, .int .i64 s2)]) hF ⟨rfl, rfl, rfl, rfl, trivial⟩ ?_
        intro k4 s4 E0 h6 hF
        refine WP.seq ?_
        refine WP.seq ?_
        refine WP.region ?_
        refine EvK.pure (v := .int .i64 s4) (w_none rfl) rfl rfl (f_move rfl rfl) ?_
        refine EvK.pure (v := .pointer (some (q2.add 1))) (w_none rfl) rfl rfl (f_fieldAddr fd99_1 rfl rfl) ?_
        obtain ⟨x2, hx2, hF⟩ := hF
        refine EvK.read (v := Sl.val x2) (w_none rfl) rfl rfl (f_load kL ty30 rfl rfl hx2 rfl) ?_
        refine EvK.pure (v := .int .i64 (x2.len : Int)) (w_none rfl) rfl rfl (f_lenL (s := x2) Try.underlying30 rfl rfl) ?_
        refine EvK.pure (v := .bool (decide (s4 < (x2.len : Int)))) (w_none rfl) rfl rfl (f_lss rfl rfl rfl) ?_
        refine EvK.nil ?_
        rcases ite_inv hF with ⟨c2, hF⟩ | ⟨c2, hF⟩
        · refine WP.cond_true _ rfl c2 ?_
          refine WP.skip ?_
          refine WP.seq ?_
          refine WP.block ?_
          refine WP.joinF (fun (s5 : Bool) => [(50, .bool s5), (2, .pointer (some q1)), (3, .pointer (some q2)), (5, .int .i64 s2), (6, .int .i64 s4)]) hF ?_ ?_
          · intro s5 E0 h7 hF
            rcases ite_inv hF with ⟨c3, hF⟩ | ⟨c3, hF⟩
            · refine WP.cond_true _ rfl c3 ?_
              refine WP.seq ?_
              refine WP.region ?_
              refine EvK.pure (v := .bool true) (w_none rfl) rfl rfl (f_assign rfl rfl) ?_
              refine EvK.nil ?_
              refine WP.ret ?_
              exact Ret.mk (vs := [.bool true]) true ⟨rfl, trivial⟩ rfl hF
            · refine WP.cond_false _ rfl c3 ?_
              refine WP.skip ?_
              refine WP.region ?_
              refine EvK.pure (v := .int .i64 s4) (w_none rfl) rfl rfl (f_move rfl rfl) ?_
              refine EvK.pure (v := .int .i64 (IntKind.i64.wrap (s4 + 1))) (w_none rfl) rfl rfl (f_add rfl rfl rfl) ?_
              refine EvK.pure (v := .int .i64 (IntKind.i64.wrap (s4 + 1))) (w_none rfl) rfl rfl (f_assign rfl rfl) ?_
              refine EvK.nil ?_
              exact KE.mk (IntKind.i64.wrap (s4 + 1)) ⟨rfl, rfl, rfl, rfl, trivial⟩ hF
          · intro k5 hF
            refine WP.draw mixed [.pure, .read, .pure, .pure, .pure, .read, .pure, .read, .pure, .pure, .pure, .read, .pure, .pure, .pure, .read, .pure, .pure, .pure, .read, .pure, .pure, .read, .pure, .pure, .pure, .read, .pure, .pure, .pure] [[], [0], [], [0, 1, 2], [0, 1, 2, 3], [0, 1, 2, 3, 4], [], [6], [], [6, 7, 8], [6, 7, 8, 9], [6, 7, 8, 9, 10], [0, 1, 2, 3, 4, 5, 6, 7, 8, 9, 10, 11], [0, 1, 2, 3, 4, 5, 6, 7, 8, 9, 10, 11, 12], [0, 1, 2, 3, 4, 5, 6, 7, 8, 9, 10, 11, 12, 13], [0, 1, 2, 3, 4, 5, 6, 7, 8, 9, 10, 11, 12, 13, 14], [0, 1, 2, 3, 4, 5, 6, 7, 8, 9, 10, 11, 12, 13], [0, 1, 2, 3, 4, 5, 6, 7, 8, 9, 10, 11, 12, 13, 14, 15, 16], [0, 1, 2, 3, 4, 5, 6, 7, 8, 9, 10, 11, 12, 13, 14, 15, 16, 17], [0, 1, 2, 3, 4, 5, 6, 7, 8, 9, 10, 11, 12, 13, 14, 15, 16, 17, 18], [0, 1, 2, 3, 4, 5, 6, 7, 8, 9, 10, 11, 12, 13, 14, 15, 16, 17, 18, 19], [0, 1, 2, 3, 4, 5, 6, 7, 8, 9, 10, 11, 12, 13, 14, 15, 16, 17, 18, 19, 20], [0, 1, 2, 3, 4, 5, 6, 7, 8, 9, 10, 11, 12, 13, 14, 15, 16, 17, 18, 19, 20, 21], [0, 1, 2, 3, 4, 5, 6, 7, 8, 9, 10, 11, 12, 13, 14, 15, 16, 17, 18, 19, 20], [0, 1, 2, 3, 4, 5, 6, 7, 8, 9, 10, 11, 12, 13, 14, 15, 16, 17, 18, 19, 20, 21, 22, 23], [0, 1, 2, 3, 4, 5, 6, 7, 8, 9, 10, 11, 12, 13, 14, 15, 16, 17, 18, 19, 20, 21, 22, 23, 24], [0, 1, 2, 3, 4, 5, 6, 7, 8, 9, 10, 11, 12, 13, 14, 15, 16, 17, 18, 19, 20, 21, 22, 23, 24, 25], [0, 1, 2, 3, 4, 5, 6, 7, 8, 9, 10, 11, 12, 13, 14, 15, 16, 17, 18, 19, 20, 21, 22, 23, 24, 25, 26], [0, 1, 2, 3, 4, 5, 6, 7, 8, 9, 10, 11, 12, 13, 14, 15, 16, 17, 18, 19, 20, 21, 22, 23, 24, 25, 26, 27], [0, 1, 2, 3, 4, 5, 6, 7, 8, 9, 10, 11, 12, 13, 14, 15, 16, 17, 18, 19, 20, 21, 22, 23, 24, 25, 26, 27, 28]] [0, 1, 2, 3, 4, 5, 6, 7, 8, 9, 10, 11, 12, 13, 14, 15, 16, 17, 18, 19, 20, 21, 22, 23, 24, 25, 26, 27, 28, 29] (by kernel_rfl) (by kernel_rfl) ?_
            refine EvI.pure (v := .pointer (some (q1.add 1))) rfl rfl (w_none rfl) rfl (f_fieldAddr fd99_1 rfl rfl) ?_
            obtain ⟨x3, hx3, hF⟩ := hF
            refine EvI.read (v := Sl.val x3) rfl rfl (w_none rfl) rfl (f_load kL ty30 rfl rfl hx3 rfl) ?_
            refine EvI.pure (v := .int .i64 s2) rfl rfl (w_none rfl) rfl (f_move rfl rfl) ?_
            obtain ⟨q3, hq1, hF⟩ := hF
            refine EvI.pure (v := .pointer (some q3)) rfl rfl (w_none rfl) rfl (f_indexAddr (s := x3) Try.underlying30 ty32.size rfl rfl rfl hq1) ?_
            refine EvI.pure (v := .pointer (some (q3.add 0))) rfl rfl (w_none rfl) rfl (f_fieldAddr fd32_0 rfl rfl) ?_
            obtain ⟨x4, hx4, hF⟩ := hF
            refine EvI.read (v := .int .i64 x4) rfl rfl (w_none rfl) rfl (f_load (kI .i64) ty3 rfl rfl hx4 rfl) ?_
            refine EvI.pure (v := .pointer (some (q2.add 1))) rfl rfl (w_none rfl) rfl (f_fieldAddr fd99_1 rfl rfl) ?_
            obtain ⟨x5, hx5, hF⟩ := hF
            refine EvI.read (v := Sl.val x5) rfl rfl (w_none rfl) rfl (f_load kL ty30 rfl rfl hx5 rfl) ?_
            refine EvI.pure (v := .int .i64 s4) rfl rfl (w_none rfl) rfl (f_move rfl rfl) ?_
            obtain ⟨q4, hq2, hF⟩ := hF
            refine EvI.pure (v := .pointer (some q4)) rfl rfl (w_none rfl) rfl (f_indexAddr (s := x5) Try.underlying30 ty32.size rfl rfl rfl hq2) ?_
            refine EvI.pure (v := .pointer (some (q4.add 0))) rfl rfl (w_none rfl) rfl (f_fieldAddr fd32_0 rfl rfl) ?_
            obtain ⟨x6, hx6, hF⟩ := hF
            refine EvI.read (v := .int .i64 x6) rfl rfl (w_none rfl) rfl (f_load (kI .i64) ty3 rfl rfl hx6 rfl) ?_
            refine EvI.pure (v := .bool (x4 == x6)) rfl rfl (w_none rfl) rfl (f_eql rfl rfl rfl) ?_
            refine EvI.pure (v := .bool (x4 == x6)) rfl rfl (w_none rfl) rfl (f_move rfl rfl) ?_
            rcases ite_inv hF with ⟨c4, hF⟩ | ⟨c4, hF⟩
            · refine EvI.pure (v := .pointer (some (q1.add 1))) rfl rfl (w_some rfl rfl c4) rfl (f_fieldAddr fd99_1 rfl rfl) ?_
              obtain ⟨x7, hx7, hF⟩ := hF
              refine EvI.read (v := Sl.val x7) rfl rfl (w_some rfl rfl c4) rfl (f_load kL ty30 rfl rfl hx7 rfl) ?_
              refine EvI.pure (v := .int .i64 s2) rfl rfl (w_some rfl rfl c4) rfl (f_move rfl rfl) ?_
              obtain ⟨q5, hq3, hF⟩ := hF
              refine EvI.pure (v := .pointer (some q5)) rfl rfl (w_some rfl rfl c4) rfl (f_indexAddr (s := x7) Try.underlying30 ty32.size rfl rfl rfl hq3) ?_
              refine EvI.pure (v := .pointer (some (q5.add 1))) rfl rfl (w_some rfl rfl c4) rfl (f_fieldAddr fd32_1 rfl rfl) ?_
              obtain ⟨x8, hx8, hF⟩ := hF
              refine EvI.read (v := .bool x8) rfl rfl (w_some rfl rfl c4) rfl (f_load kB ty4 rfl rfl hx8 rfl) ?_
              refine EvI.pure (v := .bool x8) rfl rfl (w_some rfl rfl c4) rfl (f_move rfl rfl) ?_
              rcases ite_inv hF with ⟨c5, hF⟩ | ⟨c5, hF⟩
              · refine EvI.pure (v := .pointer (some (q2.add 1))) rfl rfl (w_some rfl rfl c5) rfl (f_fieldAddr fd99_1 rfl rfl) ?_
                obtain ⟨x9, hx9, hF⟩ := hF
                refine EvI.read (v := Sl.val x9) rfl rfl (w_some rfl rfl c5) rfl (f_load kL ty30 rfl rfl hx9 rfl) ?_
                refine EvI.pure (v := .int .i64 s4) rfl rfl (w_some rfl rfl c5) rfl (f_move rfl rfl) ?_
                obtain ⟨q6, hq4, hF⟩ := hF
                refine EvI.pure (v := .pointer (some q6)) rfl rfl (w_some rfl rfl c5) rfl (f_indexAddr (s := x9) Try.underlying30 ty32.size rfl rfl rfl hq4) ?_
                refine EvI.pure (v := .pointer (some (q6.add 1))) rfl rfl (w_some rfl rfl c5) rfl (f_fieldAddr fd32_1 rfl rfl) ?_
                obtain ⟨x10, hx10, hF⟩ := hF
                refine EvI.read (v := .bool x10) rfl rfl (w_some rfl rfl c5) rfl (f_load kB ty4 rfl rfl hx10 rfl) ?_
                refine EvI.pure (v := .bool x10) rfl rfl (w_some rfl rfl c4) rfl (f_pickT rfl rfl c5 rfl) ?_
                refine EvI.pure (v := .bool (!x10)) rfl rfl (w_some rfl rfl c4) rfl (f_not rfl rfl) ?_
                refine EvI.pure (v := .bool (!x10)) rfl rfl (w_none rfl) rfl (f_pickT rfl rfl c4 rfl) ?_
                refine EvI.nil ?_
                exact KE.mk (!x10) ⟨rfl, rfl, rfl, rfl, rfl, trivial⟩ hF
              · refine EvI.not rfl (w_not rfl rfl c5) rfl ?_
                refine EvI.not rfl (w_not rfl rfl c5) rfl ?_
                refine EvI.not rfl (w_not rfl rfl c5) rfl ?_
                refine EvI.not rfl (w_not rfl rfl c5) rfl ?_
                refine EvI.not rfl (w_not rfl rfl c5) rfl ?_
                refine EvI.not rfl (w_not rfl rfl c5) rfl ?_
                refine EvI.pure (v := .bool false) rfl rfl (w_some rfl rfl c4) rfl (f_pickF rfl rfl c5 rfl) ?_
                refine EvI.pure (v := .bool (!false)) rfl rfl (w_some rfl rfl c4) rfl (f_not rfl rfl) ?_
                refine EvI.pure (v := .bool (!false)) rfl rfl (w_none rfl) rfl (f_pickT rfl rfl c4 rfl) ?_
                refine EvI.nil ?_
                exact KE.mk (!false) ⟨rfl, rfl, rfl, rfl, rfl, trivial⟩ hF
            · refine EvI.not rfl (w_not rfl rfl c4) rfl ?_
              refine EvI.not rfl (w_not rfl rfl c4) rfl ?_
              refine EvI.not rfl (w_not rfl rfl c4) rfl ?_
              refine EvI.not rfl (w_not rfl rfl c4) rfl ?_
              refine EvI.not rfl (w_not rfl rfl c4) rfl ?_
              refine EvI.not rfl (w_not rfl rfl c4) rfl ?_
              refine EvI.not rfl (w_not rfl rfl c4) rfl ?_
              refine EvI.not rfl (w_undef rfl rfl) rfl ?_
              refine EvI.not rfl (w_undef rfl rfl) rfl ?_
              refine EvI.not rfl (w_undef rfl rfl) rfl ?_
              refine EvI.not rfl (w_undef rfl rfl) rfl ?_
              refine EvI.not rfl (w_undef rfl rfl) rfl ?_
              refine EvI.not rfl (w_undef rfl rfl) rfl ?_
              refine EvI.not rfl (w_not rfl rfl c4) rfl ?_
              refine EvI.not rfl (w_not rfl rfl c4) rfl ?_
              refine EvI.pure (v := .bool false) rfl rfl (w_none rfl) rfl (f_pickF rfl rfl c4 rfl) ?_
              refine EvI.nil ?_
              exact KE.mk false ⟨rfl, rfl, rfl, rfl, rfl, trivial⟩ hF
        · refine WP.cond_false _ rfl c2 ?_
          refine WP.exit ?_
          exact KE.mk () ⟨rfl, rfl, rfl, trivial⟩ hF
    · refine WP.cond_false _ rfl c1 ?_
      refine WP.exit ?_
      exact KE.mk () trivial hF
end Go.Proofs.Ytgmihbchcmjmdaa
