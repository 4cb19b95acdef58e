/- Functions as predicates over the heap, and that the code comes to them. Printed by gen.py, merged by group.py. -/
import Derived.Test.YtgmihbchcmjmdaaG0
import Derived.Test.YtgmihbchcmjmdaaHand
import Derived.Test.YtgmihbchcmjmdaaTy
namespace Go.Proofs.Ytgmihbchcmjmdaa
open Go Go.Tr
set_option linter.unusedVariables false
set_option maxRecDepth 100000
set_option maxHeartbeats 400000
def spatelaw11_looks.b1 (p0 : Option Addr) (p1 : Option Addr) (p2 : Int) (p7 : Sl) (s : Bool × Int) (h : H) (K : (Bool × Int) ⊕ Bool → H → Prop) : Prop :=
  if (decide (s.2 < (p7.len : Int))) = true then
    jn (fun (k3 : Bool → H → Prop) =>
      if s.1 = true then
        k3 true h
      else
        rd (ixA 1 p7 s.2) fun q1 =>
        rd (ld (kI .i64) q1 h) fun x1 =>
        k3 (x1 == p2) h) fun s3 h10 =>
    K (.inl (s3, IntKind.i64.wrap (s.2 + 1))) h10
  else
    K (.inr s.1) h
/-- spate/spatelaw11.looks -/
def spatelaw11_looks (a0 : Option Addr) (a1 : Option Addr) (a2 : Int) (h : H) (Q : Bool → H → Prop) : Prop :=
  spateref11_Manager_Queue a1 h fun r1 h1 =>
  jn (fun (k1 : Bool → H → Prop) =>
    loopE (spatelaw11_looks.b1 a0 a1 a2 r1) (false, 0) h1 (fun r8 hh => k1 r8 hh)) fun s1 h2 =>
  jn (fun (k2 : Bool → H → Prop) =>
    locks_Manager_Has a0 a2 h2 fun r2 h4 =>
    spateref11_Manager_Has a1 a2 h4 fun r3 h5 =>
    spatelaw11_SameLocks r2 r3 h5 fun r4 h6 =>
    if r4 = true then
      locks_Manager_Waits a0 a2 h6 fun r5 h7 =>
      if (r5 == s1) = true then
        locks_Manager_Queue a0 h7 fun r6 h8 =>
        spatelaw11_SameInts r6 r1 h8 fun r7 h9 =>
        k2 r7 h9
      else
        k2 false h7
    else
      k2 false h6) fun s2 h3 =>
  Q s2 h3
theorem spatelaw11_looks.sound {a0 : Option Addr} {a1 : Option Addr} {a2 : Int} {h : H} {Q : Bool → H → Prop} (hF : spatelaw11_looks a0 a1 a2 h Q) :
    CallsH Try.prog 23 (List.toArray (α := Value) [.pointer a0, .pointer a1, .int .i64 a2]) h fun v h' => ∃ x : Bool, v = .bool x ∧ Q x h' := by
  refine CallsH.of_body Try.func23 rfl 47 rfl rfl ?_
  refine WP.seq ?_
  refine WP.region ?_
  refine EvK.pure (v := .bool false) (w_none rfl) rfl rfl (f_assign rfl rfl) ?_
  refine EvK.nil ?_
  refine WP.seq ?_
  refine WP.region ?_
  refine EvK.pure (v := .pointer a1) (w_none rfl) rfl rfl (f_move rfl rfl) ?_
  refine EvK.call (w_none rfl) rfl rfl (enterH Try.func39 rfl rfl rfl rfl (spateref11_Manager_Queue.sound hF)) ?_
  rintro _ h1 ⟨r1, rfl, hF⟩
  refine EvK.pure (v := Sl.val r1) (w_none rfl) rfl rfl (f_assign rfl rfl) ?_
  refine EvK.nil ?_
  refine WP.seq ?_
  refine WP.region ?_
  refine EvK.pure (v := .bool false) (w_none rfl) rfl rfl (f_assign rfl rfl) ?_
  refine EvK.nil ?_
  refine WP.joinF (fun (s1 : Bool) => [(8, .bool s1), (0, .pointer a0), (1, .pointer a1), (2, .int .i64 a2), (7, Sl.val r1)]) hF ?_ ?_
  · intro s1 E0 h2 hF
    refine WP.joinF (fun (s2 : Bool) => [(6, .bool s2)]) hF ?_ ?_
    · intro s2 E0 h3 hF
      refine WP.ret ?_
      exact Ret.mk (vs := [.bool s2]) s2 ⟨rfl, trivial⟩ rfl hF
    · intro k2 hF
      refine WP.region ?_
      refine EvK.pure (v := .pointer a0) (w_none rfl) rfl rfl (f_move rfl rfl) ?_
      refine EvK.pure (v := .int .i64 a2) (w_none rfl) rfl rfl (f_move rfl rfl) ?_
      refine EvK.call (w_none rfl) rfl rfl (enterH Try.func16 rfl rfl rfl rfl (locks_Manager_Has.sound hF)) ?_
      rintro _ h4 ⟨r2, rfl, hF⟩
      refine EvK.pure (v := .pointer a1) (w_none rfl) rfl rfl (f_move rfl rfl) ?_
      refine EvK.pure (v := .int .i64 a2) (w_none rfl) rfl rfl (f_move rfl rfl) ?_
      refine EvK.call (w_none rfl) rfl rfl (enterH Try.func38 rfl rfl rfl rfl (spateref11_Manager_Has.sound hF)) ?_
      rintro _ h5 ⟨r3, rfl, hF⟩
      refine EvK.call (w_none rfl) rfl rfl (enterH Try.func15 rfl rfl rfl rfl (spatelaw11_SameLocks.sound hF)) ?_
      rintro _ h6 ⟨r4, rfl, hF⟩
      refine EvK.pure (v := .bool r4) (w_none rfl) rfl rfl (f_move rfl rfl) ?_
      rcases ite_inv hF with ⟨c1, hF⟩ | ⟨c1, hF⟩
      · refine EvK.pure (v := .pointer a0) (w_some rfl rfl c1) rfl rfl (f_move rfl rfl) ?_
        refine EvK.pure (v := .int .i64 a2) (w_some rfl rfl c1) rfl rfl (f_move rfl rfl) ?_
        refine EvK.call (w_some rfl rfl c1) rfl rfl (enterH Try.func32 rfl rfl rfl rfl (locks_Manager_Waits.sound hF)) ?_
        rintro _ h7 ⟨r5, rfl, hF⟩
        refine EvK.pure (v := .bool s1) (w_some rfl rfl c1) rfl rfl (f_move rfl rfl) ?_
        refine EvK.pure (v := .bool (r5 == s1)) (w_some rfl rfl c1) rfl rfl (f_beql Try.underlying4 rfl rfl rfl) ?_
        refine EvK.pure (v := .bool (r5 == s1)) (w_none rfl) rfl rfl (f_pickT rfl rfl c1 rfl) ?_
        refine EvK.pure (v := .bool (r5 == s1)) (w_none rfl) rfl rfl (f_move rfl rfl) ?_
        rcases ite_inv hF with ⟨c2, hF⟩ | ⟨c2, hF⟩
        · refine EvK.pure (v := .pointer a0) (w_some rfl rfl c2) rfl rfl (f_move rfl rfl) ?_
          refine EvK.call (w_some rfl rfl c2) rfl rfl (enterH Try.func20 rfl rfl rfl rfl (locks_Manager_Queue.sound hF)) ?_
          rintro _ h8 ⟨r6, rfl, hF⟩
          refine EvK.pure (v := Sl.val r1) (w_some rfl rfl c2) rfl rfl (f_move rfl rfl) ?_
          refine EvK.call (w_some rfl rfl c2) rfl rfl (enterH Try.func19 rfl rfl rfl rfl (spatelaw11_SameInts.sound hF)) ?_
          rintro _ h9 ⟨r7, rfl, hF⟩
          refine EvK.pure (v := .bool r7) (w_none rfl) rfl rfl (f_pickT rfl rfl c2 rfl) ?_
          refine EvK.pure (v := .bool r7) (w_none rfl) rfl rfl (f_assign rfl rfl) ?_
          refine EvK.nil ?_
          exact KE.mk r7 ⟨rfl, trivial⟩ hF
        · refine EvK.not (w_not rfl rfl c2) rfl rfl ?_
          refine EvK.not (w_not rfl rfl c2) rfl rfl ?_
          refine EvK.not (w_not rfl rfl c2) rfl rfl ?_
          refine EvK.not (w_not rfl rfl c2) rfl rfl ?_
          refine EvK.pure (v := .bool false) (w_none rfl) rfl rfl (f_pickF rfl rfl c2 rfl) ?_
          refine EvK.pure (v := .bool false) (w_none rfl) rfl rfl (f_assign rfl rfl) ?_
          refine EvK.nil ?_
          exact KE.mk false ⟨rfl, trivial⟩ hF
      · refine EvK.not (w_not rfl rfl c1) rfl rfl ?_
        refine EvK.not (w_not rfl rfl c1) rfl rfl ?_
        refine EvK.not (w_not rfl rfl c1) rfl rfl ?_
        refine EvK.not (w_not rfl rfl c1) rfl rfl ?_
        refine EvK.not (w_not rfl rfl c1) rfl rfl ?_
        refine EvK.pure (v := .bool false) (w_none rfl) rfl rfl (f_pickF rfl rfl c1 rfl) ?_
        refine EvK.pure (v := .bool false) (w_none rfl) rfl rfl (f_move rfl rfl) ?_
        refine EvK.not (w_not rfl rfl rfl) rfl rfl ?_
        refine EvK.not (w_not rfl rfl rfl) rfl rfl ?_
        refine EvK.not (w_not rfl rfl rfl) rfl rfl ?_
        refine EvK.not (w_not rfl rfl rfl) rfl rfl ?_
        refine EvK.pure (v := .bool false) (w_none rfl) rfl rfl (f_pickF rfl rfl rfl rfl) ?_
        refine EvK.pure (v := .bool false) (w_none rfl) rfl rfl (f_assign rfl rfl) ?_
        refine EvK.nil ?_
        exact KE.mk false ⟨rfl, trivial⟩ hF
  · intro k1 hF
    refine WP.seq ?_
    refine WP.region ?_
    refine EvK.pure (v := .int .i64 0) (w_none rfl) rfl rfl (f_assign rfl rfl) ?_
    refine EvK.nil ?_
    refine WP.block ?_
    refine WP.loopF (fun (s3 : Bool × Int) => [(8, .bool s3.1), (9, .int .i64 s3.2), (0, .pointer a0), (1, .pointer a1), (2, .int .i64 a2), (7, Sl.val r1)]) hF ⟨rfl, rfl, rfl, rfl, rfl, rfl, trivial⟩ ?_
    intro k3 s3 E0 h10 hF
    refine WP.seq ?_
    refine WP.seq ?_
    refine WP.region ?_
    refine EvK.pure (v := .int .i64 s3.2) (w_none rfl) rfl rfl (f_move rfl rfl) ?_
    refine EvK.pure (v := Sl.val r1) (w_none rfl) rfl rfl (f_move rfl rfl) ?_
    refine EvK.pure (v := .int .i64 (r1.len : Int)) (w_none rfl) rfl rfl (f_lenL (s := r1) Try.underlying22 rfl rfl) ?_
    refine EvK.pure (v := .bool (decide (s3.2 < (r1.len : Int)))) (w_none rfl) rfl rfl (f_lss rfl rfl rfl) ?_
    refine EvK.nil ?_
    rcases ite_inv hF with ⟨c3, hF⟩ | ⟨c3, hF⟩
    · refine WP.cond_true _ rfl c3 ?_
      refine WP.skip ?_
      refine WP.joinF (fun (s4 : Bool) => [(8, .bool s4), (0, .pointer a0), (1, .pointer a1), (2, .int .i64 a2), (7, Sl.val r1), (9, .int .i64 s3.2)]) hF ?_ ?_
      · intro s4 E0 h11 hF
        refine WP.region ?_
        refine EvK.pure (v := .int .i64 s3.2) (w_none rfl) rfl rfl (f_move rfl rfl) ?_
        refine EvK.pure (v := .int .i64 (IntKind.i64.wrap (s3.2 + 1))) (w_none rfl) rfl rfl (f_add rfl rfl rfl) ?_
        refine EvK.pure (v := .int .i64 (IntKind.i64.wrap (s3.2 + 1))) (w_none rfl) rfl rfl (f_assign rfl rfl) ?_
        refine EvK.nil ?_
        exact KE.mk (s4, IntKind.i64.wrap (s3.2 + 1)) ⟨rfl, rfl, rfl, rfl, rfl, rfl, trivial⟩ hF
      · intro k4 hF
        refine WP.block ?_
        refine WP.region ?_
        refine EvK.pure (v := .bool s3.1) (w_none rfl) rfl rfl (f_move rfl rfl) ?_
        refine EvK.pure (v := .bool s3.1) (w_none rfl) rfl rfl (f_move rfl rfl) ?_
        rcases ite_inv hF with ⟨c4, hF⟩ | ⟨c4, hF⟩
        · refine EvK.not (w_not rfl rfl c4) rfl rfl ?_
          refine EvK.not (w_not rfl rfl c4) rfl rfl ?_
          refine EvK.not (w_not rfl rfl c4) rfl rfl ?_
          refine EvK.not (w_not rfl rfl c4) rfl rfl ?_
          refine EvK.not (w_not rfl rfl c4) rfl rfl ?_
          refine EvK.not (w_not rfl rfl c4) rfl rfl ?_
          refine EvK.pure (v := .bool true) (w_none rfl) rfl rfl (f_pickT rfl rfl c4 rfl) ?_
          refine EvK.pure (v := .bool true) (w_none rfl) rfl rfl (f_assign rfl rfl) ?_
          refine EvK.nil ?_
          exact KE.mk true ⟨rfl, rfl, rfl, rfl, rfl, rfl, trivial⟩ hF
        · refine EvK.pure (v := Sl.val r1) (w_some rfl rfl c4) rfl rfl (f_move rfl rfl) ?_
          refine EvK.pure (v := .int .i64 s3.2) (w_some rfl rfl c4) rfl rfl (f_move rfl rfl) ?_
          obtain ⟨q1, hq1, hF⟩ := hF
          refine EvK.pure (v := .pointer (some q1)) (w_some rfl rfl c4) rfl rfl (f_indexAddr (s := r1) Try.underlying22 ty3.size rfl rfl rfl hq1) ?_
          obtain ⟨x1, hx1, hF⟩ := hF
          refine EvK.read (v := .int .i64 x1) (w_some rfl rfl c4) rfl rfl (f_load (kI .i64) ty3 rfl rfl hx1 rfl) ?_
          refine EvK.pure (v := .int .i64 a2) (w_some rfl rfl c4) rfl rfl (f_move rfl rfl) ?_
          refine EvK.pure (v := .bool (x1 == a2)) (w_some rfl rfl c4) rfl rfl (f_eql rfl rfl rfl) ?_
          refine EvK.pure (v := .bool (x1 == a2)) (w_none rfl) rfl rfl (f_pickF rfl rfl c4 rfl) ?_
          refine EvK.pure (v := .bool (x1 == a2)) (w_none rfl) rfl rfl (f_assign rfl rfl) ?_
          refine EvK.nil ?_
          exact KE.mk (x1 == a2) ⟨rfl, rfl, rfl, rfl, rfl, rfl, trivial⟩ hF
    · refine WP.cond_false _ rfl c3 ?_
      refine WP.exit ?_
      exact KE.mk s3.1 ⟨rfl, rfl, rfl, rfl, rfl, trivial⟩ hF
end Go.Proofs.Ytgmihbchcmjmdaa

namespace Go.Proofs.Ytgmihbchcmjmdaa
open Go Go.Tr
set_option linter.unusedVariables false
set_option maxRecDepth 100000
set_option maxHeartbeats 400000
/-- spate/spatelaw11.set -/
def spatelaw11_set (a0 : Sl) (h : H) (Q : Sl → H → Prop) : Prop :=
  if (decide ((a0.len : Int) > 40)) = true then
    rd (slx 2 a0 none (some 40) none) fun x1 =>
    Q x1 h
  else
    Q a0 h
theorem spatelaw11_set.sound {a0 : Sl} {h : H} {Q : Sl → H → Prop} (hF : spatelaw11_set a0 h Q) :
    CallsH Try.prog 25 (List.toArray (α := Value) [Sl.val a0]) h fun v h' => ∃ x : Sl, v = Sl.val x ∧ Q x h' := by
  refine CallsH.of_body Try.func25 rfl 9 rfl rfl ?_
  refine WP.seq ?_
  refine WP.region ?_
  refine EvK.pure (v := Sl.val Sl.nil) (w_none rfl) rfl rfl (f_assign rfl rfl) ?_
  refine EvK.nil ?_
  refine WP.seq ?_
  refine WP.seq ?_
  refine WP.region ?_
  refine EvK.pure (v := Sl.val a0) (w_none rfl) rfl rfl (f_move rfl rfl) ?_
  refine EvK.pure (v := .int .i64 (a0.len : Int)) (w_none rfl) rfl rfl (f_lenL (s := a0) Try.underlying30 rfl rfl) ?_
  refine EvK.pure (v := .bool (decide ((a0.len : Int) > 40))) (w_none rfl) rfl rfl (f_gtr rfl rfl rfl) ?_
  refine EvK.nil ?_
  rcases ite_inv hF with ⟨c1, hF⟩ | ⟨c1, hF⟩
  · refine WP.cond_true _ rfl c1 ?_
    refine WP.seq ?_
    refine WP.region ?_
    refine EvK.pure (v := Sl.val a0) (w_none rfl) rfl rfl (f_move rfl rfl) ?_
    obtain ⟨x1, hx1, hF⟩ := hF
    refine EvK.pure (v := Sl.val x1) (w_none rfl) rfl rfl (f_slice Try.underlying30 ty32.size rfl rfl bndV_none (bndV_some rfl) bndV_none hx1) ?_
    refine EvK.pure (v := Sl.val x1) (w_none rfl) rfl rfl (f_assign rfl rfl) ?_
    refine EvK.nil ?_
    refine WP.ret ?_
    exact Ret.mk (vs := [Sl.val x1]) x1 ⟨rfl, trivial⟩ rfl hF
  · refine WP.cond_false _ rfl c1 ?_
    refine WP.skip ?_
    refine WP.seq ?_
    refine WP.region ?_
    refine EvK.pure (v := Sl.val a0) (w_none rfl) rfl rfl (f_move rfl rfl) ?_
    refine EvK.pure (v := Sl.val a0) (w_none rfl) rfl rfl (f_assign rfl rfl) ?_
    refine EvK.nil ?_
    refine WP.ret ?_
    exact Ret.mk (vs := [Sl.val a0]) a0 ⟨rfl, trivial⟩ rfl hF
end Go.Proofs.Ytgmihbchcmjmdaa

namespace Go.Proofs.Ytgmihbchcmjmdaa
open Go Go.Tr
set_option linter.unusedVariables false
set_option maxRecDepth 100000
set_option maxHeartbeats 400000
/-- (*spate/locks.Manager).Quit -/
def locks_Manager_Quit (a0 : Option Addr) (a1 : Int) (h : H) (Q : Sl → H → Prop) : Prop :=
  rd a0 fun q1 =>
  rd (ld kL (q1.add 1) h) fun x1 =>
  rd a0 fun q2 =>
  rd (ld kL (q2.add 2) h) fun x2 =>
  locks_find x1 a1 h fun r1 h1 =>
  ld kL (q2.add 2) h1 = some x2 ∧
  locks_find x2 a1 h1 fun r2 h2 =>
  jn (fun (k1 : Unit → H → Prop) =>
    if (decide (r1 ≥ 0)) = true then
      rd a0 fun q3 =>
      rd (ld kL (q3.add 1) h2) fun x3 =>
      slices_Delete___locks_claim_locks_claim_ x3 r1 (IntKind.i64.wrap (r1 + 1)) h2 fun r4 h5 =>
      rd a0 fun q4 =>
      rd (st kL (q4.add 1) r4 h5) fun h6 =>
      k1 () h6
    else
      if (decide (r2 ≥ 0)) = true then
        rd a0 fun q5 =>
        rd (ld kL (q5.add 2) h2) fun x4 =>
        slices_Delete___locks_claim_locks_claim_ x4 r2 (IntKind.i64.wrap (r2 + 1)) h2 fun r5 h7 =>
        rd a0 fun q6 =>
        rd (st kL (q6.add 2) r5 h7) fun h8 =>
        k1 () h8
      else
        Q Sl.nil h2) fun s1 h3 =>
  locks_Manager_through a0 h3 fun r3 h4 =>
  Q r3 h4
theorem locks_Manager_Quit.sound {a0 : Option Addr} {a1 : Int} {h : H} {Q : Sl → H → Prop} (hF : locks_Manager_Quit a0 a1 h Q) :
    CallsH Try.prog 28 (List.toArray (α := Value) [.pointer a0, .int .i64 a1]) h fun v h' => ∃ x : Sl, v = Sl.val x ∧ Q x h' := by
  refine CallsH.of_body Try.func28 rfl 49 rfl rfl ?_
  refine WP.seq ?_
  refine WP.region ?_
  refine EvK.pure (v := Sl.val Sl.nil) (w_none rfl) rfl rfl (f_assign rfl rfl) ?_
  refine EvK.nil ?_
  refine WP.seq ?_
  refine WP.draw mixed [.pure, .pure, .pure, .read, .pure, .eff [9], .pure, .pure, .pure, .read, .pure, .eff [], .pure, .pure] [[], [0], [0, 1], [0, 1, 2], [], [0, 1, 2, 3, 4], [], [6], [6, 7], [6, 7, 8], [], [0, 1, 2, 3, 4, 5, 6, 7, 8, 9, 10], [0, 1, 2, 3, 4, 5, 6, 7, 8, 9, 10, 11], [0, 1, 2, 3, 4, 5, 6, 7, 8, 9, 10, 11, 12]] [0, 1, 2, 3, 4, 6, 7, 8, 9, 10, 5, 11, 12, 13] (by kernel_rfl) (by kernel_rfl) ?_
  refine EvI.pure (v := .pointer a0) rfl rfl (w_none rfl) rfl (f_move rfl rfl) ?_
  obtain ⟨q1, hq1, hF⟩ := hF
  refine EvI.pure (v := .pointer (some q1)) rfl rfl (w_none rfl) rfl (f_nilCheck rfl (congrArg Value.pointer hq1)) ?_
  refine EvI.pure (v := .pointer (some (q1.add 1))) rfl rfl (w_none rfl) rfl (f_fieldAddr fd77_1 rfl rfl) ?_
  obtain ⟨x1, hx1, hF⟩ := hF
  refine EvI.read (v := Sl.val x1) rfl rfl (w_none rfl) rfl (f_load kL ty75 rfl rfl hx1 rfl) ?_
  refine EvI.pure (v := .int .i64 a1) rfl rfl (w_none rfl) rfl (f_move rfl rfl) ?_
  refine EvI.pure (v := .pointer a0) rfl rfl (w_none rfl) rfl (f_move rfl rfl) ?_
  obtain ⟨q2, hq2, hF⟩ := hF
  refine EvI.pure (v := .pointer (some q2)) rfl rfl (w_none rfl) rfl (f_nilCheck rfl (congrArg Value.pointer hq2)) ?_
  refine EvI.pure (v := .pointer (some (q2.add 2))) rfl rfl (w_none rfl) rfl (f_fieldAddr fd77_2 rfl rfl) ?_
  obtain ⟨x2, hx2, hF⟩ := hF
  refine EvI.read (v := Sl.val x2) rfl rfl (w_none rfl) rfl (f_load kL ty75 rfl rfl hx2 rfl) ?_
  refine EvI.pure (v := .int .i64 a1) rfl rfl (w_none rfl) rfl (f_move rfl rfl) ?_
  refine EvI.call rfl rfl (w_none rfl) rfl (enterH Try.func43 rfl rfl rfl rfl (locks_find.sound hF)) ?_
  rintro _ h1 ⟨r1, rfl, hF⟩
  obtain ⟨hy1, hF⟩ := hF
  refine ⟨⟨chk_yes rfl (f_load kL ty75 rfl rfl hy1 rfl), chk_no rfl, trivial⟩, ?_⟩
  refine EvI.call rfl rfl (w_none rfl) rfl (enterH Try.func43 rfl rfl rfl rfl (locks_find.sound hF)) ?_
  rintro _ h2 ⟨r2, rfl, hF⟩
  refine ⟨⟨chk_no rfl, chk_no rfl, trivial⟩, ?_⟩
  refine EvI.pure (v := .int .i64 r1) rfl rfl (w_none rfl) rfl (f_assign rfl rfl) ?_
  refine EvI.pure (v := .int .i64 r2) rfl rfl (w_none rfl) rfl (f_assign rfl rfl) ?_
  refine EvI.nil ?_
  refine WP.joinF (fun (s1 : Unit) => [(0, .pointer a0)]) hF ?_ ?_
  · intro s1 E0 h3 hF
    refine WP.seq ?_
    refine WP.region ?_
    refine EvK.pure (v := .pointer a0) (w_none rfl) rfl rfl (f_move rfl rfl) ?_
    refine EvK.call (w_none rfl) rfl rfl (enterH Try.func48 rfl rfl rfl rfl (locks_Manager_through.sound hF)) ?_
    rintro _ h4 ⟨r3, rfl, hF⟩
    refine EvK.pure (v := Sl.val r3) (w_none rfl) rfl rfl (f_assign rfl rfl) ?_
    refine EvK.nil ?_
    refine WP.ret ?_
    exact Ret.mk (vs := [Sl.val r3]) r3 ⟨rfl, trivial⟩ rfl hF
  · intro k1 hF
    refine WP.block ?_
    refine WP.seq ?_
    refine WP.region ?_
    refine EvK.pure (v := .int .i64 r1) (w_none rfl) rfl rfl (f_move rfl rfl) ?_
    refine EvK.pure (v := .bool (decide (r1 ≥ 0))) (w_none rfl) rfl rfl (f_geq rfl rfl rfl) ?_
    refine EvK.pure (v := .bool (decide (r1 ≥ 0))) (w_none rfl) rfl rfl (f_assign rfl rfl) ?_
    refine EvK.nil ?_
    rcases ite_inv hF with ⟨c1, hF⟩ | ⟨c1, hF⟩
    · refine WP.cond_true _ rfl c1 ?_
      refine WP.region ?_
      refine EvK.pure (v := .pointer a0) (w_none rfl) rfl rfl (f_move rfl rfl) ?_
      refine EvK.pure (v := .pointer a0) (w_none rfl) rfl rfl (f_move rfl rfl) ?_
      obtain ⟨q3, hq3, hF⟩ := hF
      refine EvK.pure (v := .pointer (some q3)) (w_none rfl) rfl rfl (f_nilCheck rfl (congrArg Value.pointer hq3)) ?_
      refine EvK.pure (v := .pointer (some (q3.add 1))) (w_none rfl) rfl rfl (f_fieldAddr fd77_1 rfl rfl) ?_
      obtain ⟨x3, hx3, hF⟩ := hF
      refine EvK.read (v := Sl.val x3) (w_none rfl) rfl rfl (f_load kL ty75 rfl rfl hx3 rfl) ?_
      refine EvK.pure (v := .int .i64 r1) (w_none rfl) rfl rfl (f_move rfl rfl) ?_
      refine EvK.pure (v := .int .i64 r1) (w_none rfl) rfl rfl (f_move rfl rfl) ?_
      refine EvK.pure (v := .int .i64 (IntKind.i64.wrap (r1 + 1))) (w_none rfl) rfl rfl (f_add rfl rfl rfl) ?_
      refine EvK.call (w_none rfl) rfl rfl (enterH Try.func47 rfl rfl rfl rfl (slices_Delete___locks_claim_locks_claim_.sound hF)) ?_
      rintro _ h5 ⟨r4, rfl, hF⟩
      obtain ⟨q4, hq4, hF⟩ := hF
      refine EvK.pure (v := .pointer (some q4)) (w_none rfl) rfl rfl (f_nilCheck rfl (congrArg Value.pointer hq4)) ?_
      refine EvK.pure (v := .pointer (some (q4.add 1))) (w_none rfl) rfl rfl (f_fieldAddr fd77_1 rfl rfl) ?_
      obtain ⟨h6, hs1, hF⟩ := hF
      refine EvK.runN (w_none rfl) rfl (f_store kL ty75.size (z := r4) rfl rfl rfl hs1) ?_
      rintro _ _ ⟨rfl, rfl⟩
      refine EvK.nil ?_
      exact KE.mk () ⟨rfl, trivial⟩ hF
    · refine WP.cond_false _ rfl c1 ?_
      refine WP.seq ?_
      refine WP.region ?_
      refine EvK.pure (v := .int .i64 r2) (w_none rfl) rfl rfl (f_move rfl rfl) ?_
      refine EvK.pure (v := .bool (decide (r2 ≥ 0))) (w_none rfl) rfl rfl (f_geq rfl rfl rfl) ?_
      refine EvK.pure (v := .bool (decide (r2 ≥ 0))) (w_none rfl) rfl rfl (f_assign rfl rfl) ?_
      refine EvK.nil ?_
      rcases ite_inv hF with ⟨c2, hF⟩ | ⟨c2, hF⟩
      · refine WP.cond_true _ rfl c2 ?_
        refine WP.region ?_
        refine EvK.pure (v := .pointer a0) (w_none rfl) rfl rfl (f_move rfl rfl) ?_
        refine EvK.pure (v := .pointer a0) (w_none rfl) rfl rfl (f_move rfl rfl) ?_
        obtain ⟨q5, hq5, hF⟩ := hF
        refine EvK.pure (v := .pointer (some q5)) (w_none rfl) rfl rfl (f_nilCheck rfl (congrArg Value.pointer hq5)) ?_
        refine EvK.pure (v := .pointer (some (q5.add 2))) (w_none rfl) rfl rfl (f_fieldAddr fd77_2 rfl rfl) ?_
        obtain ⟨x4, hx4, hF⟩ := hF
        refine EvK.read (v := Sl.val x4) (w_none rfl) rfl rfl (f_load kL ty75 rfl rfl hx4 rfl) ?_
        refine EvK.pure (v := .int .i64 r2) (w_none rfl) rfl rfl (f_move rfl rfl) ?_
        refine EvK.pure (v := .int .i64 r2) (w_none rfl) rfl rfl (f_move rfl rfl) ?_
        refine EvK.pure (v := .int .i64 (IntKind.i64.wrap (r2 + 1))) (w_none rfl) rfl rfl (f_add rfl rfl rfl) ?_
        refine EvK.call (w_none rfl) rfl rfl (enterH Try.func47 rfl rfl rfl rfl (slices_Delete___locks_claim_locks_claim_.sound hF)) ?_
        rintro _ h7 ⟨r5, rfl, hF⟩
        obtain ⟨q6, hq6, hF⟩ := hF
        refine EvK.pure (v := .pointer (some q6)) (w_none rfl) rfl rfl (f_nilCheck rfl (congrArg Value.pointer hq6)) ?_
        refine EvK.pure (v := .pointer (some (q6.add 2))) (w_none rfl) rfl rfl (f_fieldAddr fd77_2 rfl rfl) ?_
        obtain ⟨h8, hs2, hF⟩ := hF
        refine EvK.runN (w_none rfl) rfl (f_store kL ty75.size (z := r5) rfl rfl rfl hs2) ?_
        rintro _ _ ⟨rfl, rfl⟩
        refine EvK.nil ?_
        exact KE.mk () ⟨rfl, trivial⟩ hF
      · refine WP.cond_false _ rfl c2 ?_
        refine WP.seq ?_
        refine WP.region ?_
        refine EvK.pure (v := Sl.val Sl.nil) (w_none rfl) rfl rfl (f_assign rfl rfl) ?_
        refine EvK.nil ?_
        refine WP.ret ?_
        exact Ret.mk (vs := [Sl.val Sl.nil]) Sl.nil ⟨rfl, trivial⟩ rfl hF
end Go.Proofs.Ytgmihbchcmjmdaa

namespace Go.Proofs.Ytgmihbchcmjmdaa
open Go Go.Tr
set_option linter.unusedVariables false
set_option maxRecDepth 100000
set_option maxHeartbeats 400000
/-- spate/spateref11.without -/
def spateref11_without (a0 : Sl) (a1 : Int) (h : H) (Q : Sl → H → Prop) : Prop :=
  rd (slx 2 a0 none (some a1) none) fun x1 =>
  ap k98.n 32 99 (k98.enc z98) Sl.nil x1 h fun x2 h1 =>
  rd (slx 2 a0 (some (IntKind.i64.wrap (a1 + 1))) none none) fun x3 =>
  ap k98.n 32 99 (k98.enc z98) x2 x3 h1 fun x4 h2 =>
  Q x4 h2
theorem spateref11_without.sound {a0 : Sl} {a1 : Int} {h : H} {Q : Sl → H → Prop} (hF : spateref11_without a0 a1 h Q) :
    CallsH Try.prog 53 (List.toArray (α := Value) [Sl.val a0, .int .i64 a1]) h fun v h' => ∃ x : Sl, v = Sl.val x ∧ Q x h' := by
  refine CallsH.of_body Try.func53 rfl 17 rfl rfl ?_
  refine WP.seq ?_
  refine WP.region ?_
  refine EvK.pure (v := Sl.val Sl.nil) (w_none rfl) rfl rfl (f_assign rfl rfl) ?_
  refine EvK.nil ?_
  refine WP.seq ?_
  refine WP.region ?_
  refine EvK.pure (v := Sl.val Sl.nil) (w_none rfl) rfl rfl (f_assign rfl rfl) ?_
  refine EvK.nil ?_
  refine WP.seq ?_
  refine WP.region ?_
  refine EvK.pure (v := Sl.val Sl.nil) (w_none rfl) rfl rfl (f_move rfl rfl) ?_
  refine EvK.pure (v := Sl.val a0) (w_none rfl) rfl rfl (f_move rfl rfl) ?_
  refine EvK.pure (v := .int .i64 a1) (w_none rfl) rfl rfl (f_move rfl rfl) ?_
  obtain ⟨x1, hx1, hF⟩ := hF
  refine EvK.pure (v := Sl.val x1) (w_none rfl) rfl rfl (f_slice Try.underlying91 ty99.size rfl rfl bndV_none (bndV_some rfl) bndV_none hx1) ?_
  refine EvK.run (w_none rfl) rfl rfl (f_appendE (s := Sl.nil) (x := x1) Try.underlying91 el99 rfl rfl rfl hF) ?_
  rintro _ h1 ⟨x2, rfl, hF⟩
  refine EvK.pure (v := Sl.val x2) (w_none rfl) rfl rfl (f_assign rfl rfl) ?_
  refine EvK.nil ?_
  refine WP.seq ?_
  refine WP.region ?_
  refine EvK.pure (v := Sl.val x2) (w_none rfl) rfl rfl (f_move rfl rfl) ?_
  refine EvK.pure (v := Sl.val a0) (w_none rfl) rfl rfl (f_move rfl rfl) ?_
  refine EvK.pure (v := .int .i64 a1) (w_none rfl) rfl rfl (f_move rfl rfl) ?_
  refine EvK.pure (v := .int .i64 (IntKind.i64.wrap (a1 + 1))) (w_none rfl) rfl rfl (f_add rfl rfl rfl) ?_
  obtain ⟨x3, hx2, hF⟩ := hF
  refine EvK.pure (v := Sl.val x3) (w_none rfl) rfl rfl (f_slice Try.underlying91 ty99.size rfl rfl (bndV_some rfl) bndV_none bndV_none hx2) ?_
  refine EvK.run (w_none rfl) rfl rfl (f_appendE (s := x2) (x := x3) Try.underlying91 el99 rfl rfl rfl hF) ?_
  rintro _ h2 ⟨x4, rfl, hF⟩
  refine EvK.pure (v := Sl.val x4) (w_none rfl) rfl rfl (f_assign rfl rfl) ?_
  refine EvK.nil ?_
  refine WP.ret ?_
  exact Ret.mk (vs := [Sl.val x4]) x4 ⟨rfl, trivial⟩ rfl hF
end Go.Proofs.Ytgmihbchcmjmdaa

namespace Go.Proofs.Ytgmihbchcmjmdaa
open Go Go.Tr
set_option linter.unusedVariables false
set_option maxRecDepth 100000
set_option maxHeartbeats 400000
def spateref11_conflict.b2 (p2 : Addr) (p3 : Addr) (p5 : Int) (s : Int) (h : H) (K : Int ⊕ (Unit ⊕ Bool) → H → Prop) : Prop :=
  rd (ld kL (p3.add 1) h) fun x2 =>
  if (decide (s < (x2.len : Int))) = true then
    jn (fun (k3 : Bool → H → Prop) =>
      rd (ld kL (p2.add 1) h) fun x3 =>
      rd (ixA 2 x3 p5) fun q3 =>
      rd (ld (kI .i64) (q3.add 0) h) fun x4 =>
      rd (ld kL (p3.add 1) h) fun x5 =>
      rd (ixA 2 x5 s) fun q4 =>
      rd (ld (kI .i64) (q4.add 0) h) fun x6 =>
      if (x4 == x6) = true then
        rd (ld kL (p2.add 1) h) fun x7 =>
        rd (ixA 2 x7 p5) fun q5 =>
        rd (ld kB (q5.add 1) h) fun x8 =>
        if x8 = true then
          rd (ld kL (p3.add 1) h) fun x9 =>
          rd (ixA 2 x9 s) fun q6 =>
          rd (ld kB (q6.add 1) h) fun x10 =>
          k3 (!x10) h
        else
          k3 (!false) h
      else
        k3 false h) fun s3 h5 =>
    if s3 = true then
      K (.inr (.inr true)) h5
    else
      K (.inl (IntKind.i64.wrap (s + 1))) h5
  else
    K (.inr (.inl ())) h
def spateref11_conflict.b1 (p2 : Addr) (p3 : Addr) (s : Int) (h : H) (K : Int ⊕ (Unit ⊕ Bool) → H → Prop) : Prop :=
  rd (ld kL (p2.add 1) h) fun x1 =>
  if (decide (s < (x1.len : Int))) = true then
    jn (fun (k2 : Unit → H → Prop) =>
      loopE (spateref11_conflict.b2 p2 p3 s) 0 h (sumK (fun r1 hh => k2 r1 hh) (fun r2 hh => K (.inr (.inr r2)) hh))) fun s2 h4 =>
    K (.inl (IntKind.i64.wrap (s + 1))) h4
  else
    K (.inr (.inl ())) h
/-- spate/spateref11.conflict -/
def spateref11_conflict (a0 : S98) (a1 : S98) (h : H) (Q : Bool → H → Prop) : Prop :=
  al 99 (k98.enc a0) h fun q1 h1 =>
  al 99 (k98.enc a1) h1 fun q2 h2 =>
  jn (fun (k1 : Unit → H → Prop) =>
    loopE (spateref11_conflict.b1 q1 q2) 0 h2 (sumK (fun r3 hh => k1 r3 hh) (fun r4 hh => Q r4 hh))) fun s1 h3 =>
  Q false h3
theorem spateref11_conflict.sound {a0 : S98} {a1 : S98} {h : H} {Q : Bool → H → Prop} (hF : spateref11_conflict a0 a1 h Q) :
    CallsH Try.prog 61 (List.toArray (α := Value) [k98.val a0, k98.val a1]) h fun v h' => ∃ x : Bool, v = .bool x ∧ Q x h' := by
  refine CallsH.of_body Try.func61 rfl 51 rfl rfl ?_
  refine WP.seq ?_
  refine WP.region ?_
  refine EvK.alloc (w_none rfl) rfl rfl (f_boxF (v := k98.val a0) rfl rfl rfl hF) ?_
  rintro _ h1 ⟨q1, rfl, hF⟩
  refine EvK.alloc (w_none rfl) rfl rfl (f_boxF (v := k98.val a1) rfl rfl rfl hF) ?_
  rintro _ h2 ⟨q2, rfl, hF⟩
  refine EvK.pure (v := .bool false) (w_none rfl) rfl rfl (f_assign rfl rfl) ?_
  refine EvK.nil ?_
  refine WP.joinF (fun (s1 : Unit) => []) hF ?_ ?_
  · intro s1 E0 h3 hF
    refine WP.seq ?_
    refine WP.region ?_
    refine EvK.pure (v := .bool false) (w_none rfl) rfl rfl (f_assign rfl rfl) ?_
    refine EvK.nil ?_
    refine WP.ret ?_
    exact Ret.mk (vs := [.bool false]) false ⟨rfl, trivial⟩ rfl hF
  · intro k1 hF
    refine WP.seq ?_
    refine WP.region ?_
    refine EvK.pure (v := .int .i64 0) (w_none rfl) rfl rfl (f_assign rfl rfl) ?_
    refine EvK.nil ?_
    refine WP.block ?_
    refine WP.loopF (fun (s2 : Int) => [(5, .int .i64 s2), (2, .pointer (some q1)), (3, .pointer (some q2))]) hF ⟨rfl, rfl, rfl, trivial⟩ ?_
    intro k2 s2 E0 h4 hF
    refine WP.seq ?_
    refine WP.seq ?_
    refine WP.region ?_
    refine EvK.pure (v := .int .i64 s2) (w_none rfl) rfl rfl (f_move rfl rfl) ?_
    refine EvK.pure (v := .pointer (some (q1.add 1))) (w_none rfl) rfl rfl (f_fieldAddr fd99_1 rfl rfl) ?_
    obtain ⟨x1, hx1, hF⟩ := hF
    refine EvK.read (v := Sl.val x1) (w_none rfl) rfl rfl (f_load kL ty30 rfl rfl hx1 rfl) ?_
    refine EvK.pure (v := .int .i64 (x1.len : Int)) (w_none rfl) rfl rfl (f_lenL (s := x1) Try.underlying30 rfl rfl) ?_
    refine EvK.pure (v := .bool (decide (s2 < (x1.len : Int)))) (w_none rfl) rfl rfl (f_lss rfl rfl rfl) ?_
    refine EvK.nil ?_
    rcases ite_inv hF with ⟨c1, hF⟩ | ⟨c1, hF⟩
    · refine WP.cond_true _ rfl c1 ?_
      refine WP.skip ?_
      refine WP.joinF (fun (s3 : Unit) => [(2, .pointer (some q1)), (3, .pointer (some q2)), (5, .int .i64 s2)]) hF ?_ ?_
      · intro s3 E0 h5 hF
        refine WP.region ?_
        refine EvK.pure (v := .int .i64 s2) (w_none rfl) rfl rfl (f_move rfl rfl) ?_
        refine EvK.pure (v := .int .i64 (IntKind.i64.wrap (s2 + 1))) (w_none rfl) rfl rfl (f_add rfl rfl rfl) ?_
        refine EvK.pure (v := .int .i64 (IntKind.i64.wrap (s2 + 1))) (w_none rfl) rfl rfl (f_assign rfl rfl) ?_
        refine EvK.nil ?_
        exact KE.mk (IntKind.i64.wrap (s2 + 1)) ⟨rfl, rfl, rfl, trivial⟩ hF
      · intro k3 hF
        refine WP.block ?_
        refine WP.seq ?_
        refine WP.region ?_
        refine EvK.pure (v := .int .i64 0) (w_none rfl) rfl rfl (f_assign rfl rfl) ?_
        refine EvK.nil ?_
        refine WP.block ?_
        refine WP.loopF (fun (s4 : Int) => [(6, .int .i64 s4), (2, .pointer (some q1)), (3, .pointer (some q2)), (5, .int .i64 s2)]) hF ⟨rfl, rfl, rfl, rfl, trivial⟩ ?_
        intro k4 s4 E0 h6 hF
        refine WP.seq ?_
        refine WP.seq ?_
        refine WP.region ?_
        refine EvK.pure (v := .int .i64 s4) (w_none rfl) rfl rfl (f_move rfl rfl) ?_
        refine EvK.pure (v := .pointer (some (q2.add 1))) (w_none rfl) rfl rfl (f_fieldAddr fd99_1 rfl rfl) ?_
        obtain ⟨x2, hx2, hF⟩ := hF
        refine EvK.read (v := Sl.val x2) (w_none rfl) rfl rfl (f_load kL ty30 rfl rfl hx2 rfl) ?_
        refine EvK.pure (v := .int .i64 (x2.len : Int)) (w_none rfl) rfl rfl (f_lenL (s := x2) Try.underlying30 rfl rfl) ?_
        refine EvK.pure (v := .bool (decide (s4 < (x2.len : Int)))) (w_none rfl) rfl rfl (f_lss rfl rfl rfl) ?_
        refine EvK.nil ?_
        rcases ite_inv hF with ⟨c2, hF⟩ | ⟨c2, hF⟩
        · refine WP.cond_true _ rfl c2 ?_
          refine WP.skip ?_
          refine WP.seq ?_
          refine WP.block ?_
          refine WP.joinF (fun (s5 : Bool) => [(50, .bool s5), (2, .pointer (some q1)), (3, .pointer (some q2)), (5, .int .i64 s2), (6, .int .i64 s4)]) hF ?_ ?_
          · intro s5 E0 h7 hF
            rcases ite_inv hF with ⟨c3, hF⟩ | ⟨c3, hF⟩
            · refine WP.cond_true _ rfl c3 ?_
              refine WP.seq ?_
              refine WP.region ?_
              refine EvK.pure (v := .bool true) (w_none rfl) rfl rfl (f_assign rfl rfl) ?_
              refine EvK.nil ?_
              refine WP.ret ?_
              exact Ret.mk (vs := [.bool true]) true ⟨rfl, trivial⟩ rfl hF
            · refine WP.cond_false _ rfl c3 ?_
              refine WP.skip ?_
              refine WP.region ?_
              refine EvK.pure (v := .int .i64 s4) (w_none rfl) rfl rfl (f_move rfl rfl) ?_
              refine EvK.pure (v := .int .i64 (IntKind.i64.wrap (s4 + 1))) (w_none rfl) rfl rfl (f_add rfl rfl rfl) ?_
              refine EvK.pure (v := .int .i64 (IntKind.i64.wrap (s4 + 1))) (w_none rfl) rfl rfl (f_assign rfl rfl) ?_
              refine EvK.nil ?_
              exact KE.mk (IntKind.i64.wrap (s4 + 1)) ⟨rfl, rfl, rfl, rfl, trivial⟩ hF
          · intro k5 hF
            refine WP.draw mixed [.pure, .read, .pure, .pure, .pure, .read, .pure, .read, .pure, .pure, .pure, .read, .pure, .pure, .pure, .read, .pure, .pure, .pure, .read, .pure, .pure, .read, .pure, .pure, .pure, .read, .pure, .pure, .pure] [[], [0], [], [0, 1, 2], [0, 1, 2, 3], [0, 1, 2, 3, 4], [], [6], [], [6, 7, 8], [6, 7, 8, 9], [6, 7, 8, 9, 10], [0, 1, 2, 3, 4, 5, 6, 7, 8, 9, 10, 11], [0, 1, 2, 3, 4, 5, 6, 7, 8, 9, 10, 11, 12], [0, 1, 2, 3, 4, 5, 6, 7, 8, 9, 10, 11, 12, 13], [0, 1, 2, 3, 4, 5, 6, 7, 8, 9, 10, 11, 12, 13, 14], [0, 1, 2, 3, 4, 5, 6, 7, 8, 9, 10, 11, 12, 13], [0, 1, 2, 3, 4, 5, 6, 7, 8, 9, 10, 11, 12, 13, 14, 15, 16], [0, 1, 2, 3, 4, 5, 6, 7, 8, 9, 10, 11, 12, 13, 14, 15, 16, 17], [0, 1, 2, 3, 4, 5, 6, 7, 8, 9, 10, 11, 12, 13, 14, 15, 16, 17, 18], [0, 1, 2, 3, 4, 5, 6, 7, 8, 9, 10, 11, 12, 13, 14, 15, 16, 17, 18, 19], [0, 1, 2, 3, 4, 5, 6, 7, 8, 9, 10, 11, 12, 13, 14, 15, 16, 17, 18, 19, 20], [0, 1, 2, 3, 4, 5, 6, 7, 8, 9, 10, 11, 12, 13, 14, 15, 16, 17, 18, 19, 20, 21], [0, 1, 2, 3, 4, 5, 6, 7, 8, 9, 10, 11, 12, 13, 14, 15, 16, 17, 18, 19, 20], [0, 1, 2, 3, 4, 5, 6, 7, 8, 9, 10, 11, 12, 13, 14, 15, 16, 17, 18, 19, 20, 21, 22, 23], [0, 1, 2, 3, 4, 5, 6, 7, 8, 9, 10, 11, 12, 13, 14, 15, 16, 17, 18, 19, 20, 21, 22, 23, 24], [0, 1, 2, 3, 4, 5, 6, 7, 8, 9, 10, 11, 12, 13, 14, 15, 16, 17, 18, 19, 20, 21, 22, 23, 24, 25], [0, 1, 2, 3, 4, 5, 6, 7, 8, 9, 10, 11, 12, 13, 14, 15, 16, 17, 18, 19, 20, 21, 22, 23, 24, 25, 26], [0, 1, 2, 3, 4, 5, 6, 7, 8, 9, 10, 11, 12, 13, 14, 15, 16, 17, 18, 19, 20, 21, 22, 23, 24, 25, 26, 27], [0, 1, 2, 3, 4, 5, 6, 7, 8, 9, 10, 11, 12, 13, 14, 15, 16, 17, 18, 19, 20, 21, 22, 23, 24, 25, 26, 27, 28]] [0, 1, 2, 3, 4, 5, 6, 7, 8, 9, 10, 11, 12, 13, 14, 15, 16, 17, 18, 19, 20, 21, 22, 23, 24, 25, 26, 27, 28, 29] (by kernel_rfl) (by kernel_rfl) ?_
            refine EvI.pure (v := .pointer (some (q1.add 1))) rfl rfl (w_none rfl) rfl (f_fieldAddr fd99_1 rfl rfl) ?_
            obtain ⟨x3, hx3, hF⟩ := hF
            refine EvI.read (v := Sl.val x3) rfl rfl (w_none rfl) rfl (f_load kL ty30 rfl rfl hx3 rfl) ?_
            refine EvI.pure (v := .int .i64 s2) rfl rfl (w_none rfl) rfl (f_move rfl rfl) ?_
            obtain ⟨q3, hq1, hF⟩ := hF
            refine EvI.pure (v := .pointer (some q3)) rfl rfl (w_none rfl) rfl (f_indexAddr (s := x3) Try.underlying30 ty32.size rfl rfl rfl hq1) ?_
            refine EvI.pure (v := .pointer (some (q3.add 0))) rfl rfl (w_none rfl) rfl (f_fieldAddr fd32_0 rfl rfl) ?_
            obtain ⟨x4, hx4, hF⟩ := hF
            refine EvI.read (v := .int .i64 x4) rfl rfl (w_none rfl) rfl (f_load (kI .i64) ty3 rfl rfl hx4 rfl) ?_
            refine EvI.pure (v := .pointer (some (q2.add 1))) rfl rfl (w_none rfl) rfl (f_fieldAddr fd99_1 rfl rfl) ?_
            obtain ⟨x5, hx5, hF⟩ := hF
            refine EvI.read (v := Sl.val x5) rfl rfl (w_none rfl) rfl (f_load kL ty30 rfl rfl hx5 rfl) ?_
            refine EvI.pure (v := .int .i64 s4) rfl rfl (w_none rfl) rfl (f_move rfl rfl) ?_
            obtain ⟨q4, hq2, hF⟩ := hF
            refine EvI.pure (v := .pointer (some q4)) rfl rfl (w_none rfl) rfl (f_indexAddr (s := x5) Try.underlying30 ty32.size rfl rfl rfl hq2) ?_
            refine EvI.pure (v := .pointer (some (q4.add 0))) rfl rfl (w_none rfl) rfl (f_fieldAddr fd32_0 rfl rfl) ?_
            obtain ⟨x6, hx6, hF⟩ := hF
            refine EvI.read (v := .int .i64 x6) rfl rfl (w_none rfl) rfl (f_load (kI .i64) ty3 rfl rfl hx6 rfl) ?_
            refine EvI.pure (v := .bool (x4 == x6)) rfl rfl (w_none rfl) rfl (f_eql rfl rfl rfl) ?_
            refine EvI.pure (v := .bool (x4 == x6)) rfl rfl (w_none rfl) rfl (f_move rfl rfl) ?_
            rcases ite_inv hF with ⟨c4, hF⟩ | ⟨c4, hF⟩
            · refine EvI.pure (v := .pointer (some (q1.add 1))) rfl rfl (w_some rfl rfl c4) rfl (f_fieldAddr fd99_1 rfl rfl) ?_
              obtain ⟨x7, hx7, hF⟩ := hF
              refine EvI.read (v := Sl.val x7) rfl rfl (w_some rfl rfl c4) rfl (f_load kL ty30 rfl rfl hx7 rfl) ?_
              refine EvI.pure (v := .int .i64 s2) rfl rfl (w_some rfl rfl c4) rfl (f_move rfl rfl) ?_
              obtain ⟨q5, hq3, hF⟩ := hF
              refine EvI.pure (v := .pointer (some q5)) rfl rfl (w_some rfl rfl c4) rfl (f_indexAddr (s := x7) Try.underlying30 ty32.size rfl rfl rfl hq3) ?_
              refine EvI.pure (v := .pointer (some (q5.add 1))) rfl rfl (w_some rfl rfl c4) rfl (f_fieldAddr fd32_1 rfl rfl) ?_
              obtain ⟨x8, hx8, hF⟩ := hF
              refine EvI.read (v := .bool x8) rfl rfl (w_some rfl rfl c4) rfl (f_load kB ty4 rfl rfl hx8 rfl) ?_
              refine EvI.pure (v := .bool x8) rfl rfl (w_some rfl rfl c4) rfl (f_move rfl rfl) ?_
              rcases ite_inv hF with ⟨c5, hF⟩ | ⟨c5, hF⟩
              · refine EvI.pure (v := .pointer (some (q2.add 1))) rfl rfl (w_some rfl rfl c5) rfl (f_fieldAddr fd99_1 rfl rfl) ?_
                obtain ⟨x9, hx9, hF⟩ := hF
                refine EvI.read (v := Sl.val x9) rfl rfl (w_some rfl rfl c5) rfl (f_load kL ty30 rfl rfl hx9 rfl) ?_
                refine EvI.pure (v := .int .i64 s4) rfl rfl (w_some rfl rfl c5) rfl (f_move rfl rfl) ?_
                obtain ⟨q6, hq4, hF⟩ := hF
                refine EvI.pure (v := .pointer (some q6)) rfl rfl (w_some rfl rfl c5) rfl (f_indexAddr (s := x9) Try.underlying30 ty32.size rfl rfl rfl hq4) ?_
                refine EvI.pure (v := .pointer (some (q6.add 1))) rfl rfl (w_some rfl rfl c5) rfl (f_fieldAddr fd32_1 rfl rfl) ?_
                obtain ⟨x10, hx10, hF⟩ := hF
                refine EvI.read (v := .bool x10) rfl rfl (w_some rfl rfl c5) rfl (f_load kB ty4 rfl rfl hx10 rfl) ?_
                refine EvI.pure (v := .bool x10) rfl rfl (w_some rfl rfl c4) rfl (f_pickT rfl rfl c5 rfl) ?_
                refine EvI.pure (v := .bool (!x10)) rfl rfl (w_some rfl rfl c4) rfl (f_not rfl rfl) ?_
                refine EvI.pure (v := .bool (!x10)) rfl rfl (w_none rfl) rfl (f_pickT rfl rfl c4 rfl) ?_
                refine EvI.nil ?_
                exact KE.mk (!x10) ⟨rfl, rfl, rfl, rfl, rfl, trivial⟩ hF
              · refine EvI.not rfl (w_not rfl rfl c5) rfl ?_
                refine EvI.not rfl (w_not rfl rfl c5) rfl ?_
                refine EvI.not rfl (w_not rfl rfl c5) rfl ?_
                refine EvI.not rfl (w_not rfl rfl c5) rfl ?_
                refine EvI.not rfl (w_not rfl rfl c5) rfl ?_
                refine EvI.not rfl (w_not rfl rfl c5) rfl ?_
                refine EvI.pure (v := .bool false) rfl rfl (w_some rfl rfl c4) rfl (f_pickF rfl rfl c5 rfl) ?_
                refine EvI.pure (v := .bool (!false)) rfl rfl (w_some rfl rfl c4) rfl (f_not rfl rfl) ?_
                refine EvI.pure (v := .bool (!false)) rfl rfl (w_none rfl) rfl (f_pickT rfl rfl c4 rfl) ?_
                refine EvI.nil ?_
                exact KE.mk (!false) ⟨rfl, rfl, rfl, rfl, rfl, trivial⟩ hF
            · refine EvI.not rfl (w_not rfl rfl c4) rfl ?_
              refine EvI.not rfl (w_not rfl rfl c4) rfl ?_
              refine EvI.not rfl (w_not rfl rfl c4) rfl ?_
              refine EvI.not rfl (w_not rfl rfl c4) rfl ?_
              refine EvI.not rfl (w_not rfl rfl c4) rfl ?_
              refine EvI.not rfl (w_not rfl rfl c4) rfl ?_
              refine EvI.not rfl (w_not rfl rfl c4) rfl ?_
              refine EvI.not rfl (w_undef rfl rfl) rfl ?_
              refine EvI.not rfl (w_undef rfl rfl) rfl ?_
              refine EvI.not rfl (w_undef rfl rfl) rfl ?_
              refine EvI.not rfl (w_undef rfl rfl) rfl ?_
              refine EvI.not rfl (w_undef rfl rfl) rfl ?_
              refine EvI.not rfl (w_undef rfl rfl) rfl ?_
              refine EvI.not rfl (w_not rfl rfl c4) rfl ?_
              refine EvI.not rfl (w_not rfl rfl c4) rfl ?_
              refine EvI.pure (v := .bool false) rfl rfl (w_none rfl) rfl (f_pickF rfl rfl c4 rfl) ?_
              refine EvI.nil ?_
              exact KE.mk false ⟨rfl, rfl, rfl, rfl, rfl, trivial⟩ hF
        · refine WP.cond_false _ rfl c2 ?_
          refine WP.exit ?_
          exact KE.mk () ⟨rfl, rfl, rfl, trivial⟩ hF
    · refine WP.cond_false _ rfl c1 ?_
      refine WP.exit ?_
      exact KE.mk () trivial hF
end Go.Proofs.Ytgmihbchcmjmdaa

namespace Go.Proofs.Ytgmihbchcmjmdaa
open Go Go.Tr
set_option linter.unusedVariables false
set_option maxRecDepth 100000
set_option maxHeartbeats 400000
def spateref11_conflicts.b1 (p0 : Sl) (p3 : Addr) (s : Int) (h : H) (K : Int ⊕ (Unit ⊕ Bool) → H → Prop) : Prop :=
  if (decide (s < (p0.len : Int))) = true then
    rd (ixA 2 p0 s) fun q2 =>
    rd (ld k98 q2 h) fun x1 =>
    rd (ld k98 p3 h) fun x2 =>
    spateref11_conflict x1 x2 h fun r1 h3 =>
    if r1 = true then
      K (.inr (.inr true)) h3
    else
      K (.inl (IntKind.i64.wrap (s + 1))) h3
  else
    K (.inr (.inl ())) h
/-- spate/spateref11.conflicts -/
def spateref11_conflicts (a0 : Sl) (a1 : S98) (h : H) (Q : Bool → H → Prop) : Prop :=
  al 99 (k98.enc a1) h fun q1 h1 =>
  jn (fun (k1 : Unit → H → Prop) =>
    loopE (spateref11_conflicts.b1 a0 q1) 0 h1 (sumK (fun r2 hh => k1 r2 hh) (fun r3 hh => Q r3 hh))) fun s1 h2 =>
  Q false h2
theorem spateref11_conflicts.sound {a0 : Sl} {a1 : S98} {h : H} {Q : Bool → H → Prop} (hF : spateref11_conflicts a0 a1 h Q) :
    CallsH Try.prog 60 (List.toArray (α := Value) [Sl.val a0, k98.val a1]) h fun v h' => ∃ x : Bool, v = .bool x ∧ Q x h' := by
  refine CallsH.of_body Try.func60 rfl 18 rfl rfl ?_
  refine WP.seq ?_
  refine WP.region ?_
  refine EvK.alloc (w_none rfl) rfl rfl (f_boxF (v := k98.val a1) rfl rfl rfl hF) ?_
  rintro _ h1 ⟨q1, rfl, hF⟩
  refine EvK.pure (v := .bool false) (w_none rfl) rfl rfl (f_assign rfl rfl) ?_
  refine EvK.nil ?_
  refine WP.joinF (fun (s1 : Unit) => []) hF ?_ ?_
  · intro s1 E0 h2 hF
    refine WP.seq ?_
    refine WP.region ?_
    refine EvK.pure (v := .bool false) (w_none rfl) rfl rfl (f_assign rfl rfl) ?_
    refine EvK.nil ?_
    refine WP.ret ?_
    exact Ret.mk (vs := [.bool false]) false ⟨rfl, trivial⟩ rfl hF
  · intro k1 hF
    refine WP.seq ?_
    refine WP.region ?_
    refine EvK.pure (v := .int .i64 0) (w_none rfl) rfl rfl (f_assign rfl rfl) ?_
    refine EvK.nil ?_
    refine WP.block ?_
    refine WP.loopF (fun (s2 : Int) => [(5, .int .i64 s2), (0, Sl.val a0), (3, .pointer (some q1))]) hF ⟨rfl, rfl, rfl, trivial⟩ ?_
    intro k2 s2 E0 h3 hF
    refine WP.seq ?_
    refine WP.seq ?_
    refine WP.region ?_
    refine EvK.pure (v := .int .i64 s2) (w_none rfl) rfl rfl (f_move rfl rfl) ?_
    refine EvK.pure (v := Sl.val a0) (w_none rfl) rfl rfl (f_move rfl rfl) ?_
    refine EvK.pure (v := .int .i64 (a0.len : Int)) (w_none rfl) rfl rfl (f_lenL (s := a0) Try.underlying91 rfl rfl) ?_
    refine EvK.pure (v := .bool (decide (s2 < (a0.len : Int)))) (w_none rfl) rfl rfl (f_lss rfl rfl rfl) ?_
    refine EvK.nil ?_
    rcases ite_inv hF with ⟨c1, hF⟩ | ⟨c1, hF⟩
    · refine WP.cond_true _ rfl c1 ?_
      refine WP.skip ?_
      refine WP.seq ?_
      refine WP.block ?_
      refine WP.seq ?_
      refine WP.draw mixed [.pure, .pure, .pure, .read, .read, .eff []] [[], [], [0, 1], [0, 1, 2], [], [0, 1, 2, 3, 4]] [0, 1, 2, 3, 4, 5] (by kernel_rfl) (by kernel_rfl) ?_
      refine EvI.pure (v := Sl.val a0) rfl rfl (w_none rfl) rfl (f_move rfl rfl) ?_
      refine EvI.pure (v := .int .i64 s2) rfl rfl (w_none rfl) rfl (f_move rfl rfl) ?_
      obtain ⟨q2, hq1, hF⟩ := hF
      refine EvI.pure (v := .pointer (some q2)) rfl rfl (w_none rfl) rfl (f_indexAddr (s := a0) Try.underlying91 ty99.size rfl rfl rfl hq1) ?_
      obtain ⟨x1, hx1, hF⟩ := hF
      refine EvI.read (v := k98.val x1) rfl rfl (w_none rfl) rfl (f_load k98 ty99 rfl rfl hx1 rfl) ?_
      obtain ⟨x2, hx2, hF⟩ := hF
      refine EvI.read (v := k98.val x2) rfl rfl (w_none rfl) rfl (f_load k98 ty99 rfl rfl hx2 rfl) ?_
      refine EvI.call rfl rfl (w_none rfl) rfl (enterH Try.func61 rfl rfl rfl rfl (spateref11_conflict.sound hF)) ?_
      rintro _ h4 ⟨r1, rfl, hF⟩
      refine ⟨⟨chk_no rfl, chk_no rfl, trivial⟩, ?_⟩
      refine EvI.nil ?_
      rcases ite_inv hF with ⟨c2, hF⟩ | ⟨c2, hF⟩
      · refine WP.cond_true _ rfl c2 ?_
        refine WP.seq ?_
        refine WP.region ?_
        refine EvK.pure (v := .bool true) (w_none rfl) rfl rfl (f_assign rfl rfl) ?_
        refine EvK.nil ?_
        refine WP.ret ?_
        exact Ret.mk (vs := [.bool true]) true ⟨rfl, trivial⟩ rfl hF
      · refine WP.cond_false _ rfl c2 ?_
        refine WP.skip ?_
        refine WP.region ?_
        refine EvK.pure (v := .int .i64 s2) (w_none rfl) rfl rfl (f_move rfl rfl) ?_
        refine EvK.pure (v := .int .i64 (IntKind.i64.wrap (s2 + 1))) (w_none rfl) rfl rfl (f_add rfl rfl rfl) ?_
        refine EvK.pure (v := .int .i64 (IntKind.i64.wrap (s2 + 1))) (w_none rfl) rfl rfl (f_assign rfl rfl) ?_
        refine EvK.nil ?_
        exact KE.mk (IntKind.i64.wrap (s2 + 1)) ⟨rfl, rfl, rfl, trivial⟩ hF
    · refine WP.cond_false _ rfl c1 ?_
      refine WP.exit ?_
      exact KE.mk () trivial hF
end Go.Proofs.Ytgmihbchcmjmdaa

namespace Go.Proofs.Ytgmihbchcmjmdaa
open Go Go.Tr
set_option linter.unusedVariables false
set_option maxRecDepth 100000
set_option maxHeartbeats 400000
def spateref11_Manager_through.b1 (p0 : Option Addr) (s : Sl × Sl × Int) (h : H) (K : (Sl × Sl × Int) ⊕ (Sl × Sl) → H → Prop) : Prop :=
  rd p0 fun q2 =>
  rd (ld kL (q2.add 2) h) fun x1 =>
  if (decide (s.2.2 < (x1.len : Int))) = true then
    jn (fun (k2 : (Sl × Sl) → H → Prop) =>
      rd p0 fun q3 =>
      rd (ld kL (q3.add 2) h) fun x2 =>
      rd (ixA 2 x2 s.2.2) fun q4 =>
      rd (ld k98 q4 h) fun x3 =>
      al 99 (k98.enc z98) h fun q5 h4 =>
      rd (st k98 q5 x3 h4) fun h5 =>
      jn (fun (k3 : Bool → H → Prop) =>
        rd p0 fun q8 =>
        rd (ld kL (q8.add 1) h5) fun x14 =>
        rd (ld k98 q5 h5) fun x15 =>
        spateref11_conflicts x14 x15 h5 fun r1 h14 =>
        if r1 = true then
          k3 true h14
        else
          rd (ld k98 q5 h14) fun x16 =>
          spateref11_conflicts s.2.1 x16 h14 fun r2 h15 =>
          k3 r2 h15) fun s3 h6 =>
      if s3 = true then
        rd (ld k98 q5 h6) fun x4 =>
        bs 99 1 (k98.enc x4) h6 fun x5 h7 =>
        ap k98.n 32 99 (k98.enc z98) s.2.1 x5 h7 fun x6 h8 =>
        k2 (s.1, x6) h8
      else
        rd p0 fun q6 =>
        rd (ld kL (q6.add 1) h6) fun x7 =>
        rd (ld k98 q5 h6) fun x8 =>
        bs 99 1 (k98.enc x8) h6 fun x9 h9 =>
        ap k98.n 32 99 (k98.enc z98) x7 x9 h9 fun x10 h10 =>
        rd p0 fun q7 =>
        rd (st kL (q7.add 1) x10 h10) fun h11 =>
        rd (ld (kI .i64) (q5.add 0) h11) fun x11 =>
        bs 3 1 ((kI .i64).enc x11) h11 fun x12 h12 =>
        ap (kI .i64).n 8 3 ((kI .i64).enc 0) s.1 x12 h12 fun x13 h13 =>
        k2 (x13, s.2.1) h13) fun s2 h3 =>
    K (.inl (s2.1, s2.2, IntKind.i64.wrap (s.2.2 + 1))) h3
  else
    K (.inr (s.1, s.2.1)) h
/-- (*spate/spateref11.Manager).through -/
def spateref11_Manager_through (a0 : Option Addr) (h : H) (Q : Sl → H → Prop) : Prop :=
  jn (fun (k1 : (Sl × Sl) → H → Prop) =>
    loopE (spateref11_Manager_through.b1 a0) (Sl.nil, Sl.nil, 0) h (fun r3 hh => k1 r3 hh)) fun s1 h1 =>
  rd a0 fun q1 =>
  rd (st kL (q1.add 2) s1.2 h1) fun h2 =>
  Q s1.1 h2
theorem spateref11_Manager_through.sound {a0 : Option Addr} {h : H} {Q : Sl → H → Prop} (hF : spateref11_Manager_through a0 h Q) :
    CallsH Try.prog 54 (List.toArray (α := Value) [.pointer a0]) h fun v h' => ∃ x : Sl, v = Sl.val x ∧ Q x h' := by
  refine CallsH.of_body Try.func54 rfl 58 rfl rfl ?_
  refine WP.seq ?_
  refine WP.region ?_
  refine EvK.pure (v := Sl.val Sl.nil) (w_none rfl) rfl rfl (f_assign rfl rfl) ?_
  refine EvK.nil ?_
  refine WP.seq ?_
  refine WP.region ?_
  refine EvK.pure (v := Sl.val Sl.nil) (w_none rfl) rfl rfl (f_assign rfl rfl) ?_
  refine EvK.nil ?_
  refine WP.seq ?_
  refine WP.region ?_
  refine EvK.pure (v := Sl.val Sl.nil) (w_none rfl) rfl rfl (f_assign rfl rfl) ?_
  refine EvK.nil ?_
  refine WP.joinF (fun (s1 : Sl × Sl) => [(3, Sl.val s1.1), (4, Sl.val s1.2), (0, .pointer a0)]) hF ?_ ?_
  · intro s1 E0 h1 hF
    refine WP.seq ?_
    refine WP.region ?_
    refine EvK.pure (v := .pointer a0) (w_none rfl) rfl rfl (f_move rfl rfl) ?_
    refine EvK.pure (v := Sl.val s1.2) (w_none rfl) rfl rfl (f_move rfl rfl) ?_
    obtain ⟨q1, hq1, hF⟩ := hF
    refine EvK.pure (v := .pointer (some q1)) (w_none rfl) rfl rfl (f_nilCheck rfl (congrArg Value.pointer hq1)) ?_
    refine EvK.pure (v := .pointer (some (q1.add 2))) (w_none rfl) rfl rfl (f_fieldAddr fd93_2 rfl rfl) ?_
    obtain ⟨h2, hs1, hF⟩ := hF
    refine EvK.runN (w_none rfl) rfl (f_store kL ty91.size (z := s1.2) rfl rfl rfl hs1) ?_
    rintro _ _ ⟨rfl, rfl⟩
    refine EvK.nil ?_
    refine WP.seq ?_
    refine WP.region ?_
    refine EvK.pure (v := Sl.val s1.1) (w_none rfl) rfl rfl (f_move rfl rfl) ?_
    refine EvK.pure (v := Sl.val s1.1) (w_none rfl) rfl rfl (f_assign rfl rfl) ?_
    refine EvK.nil ?_
    refine WP.ret ?_
    exact Ret.mk (vs := [Sl.val s1.1]) s1.1 ⟨rfl, trivial⟩ rfl hF
  · intro k1 hF
    refine WP.seq ?_
    refine WP.region ?_
    refine EvK.pure (v := .int .i64 0) (w_none rfl) rfl rfl (f_assign rfl rfl) ?_
    refine EvK.nil ?_
    refine WP.block ?_
    refine WP.loopF (fun (s2 : Sl × Sl × Int) => [(3, Sl.val s2.1), (4, Sl.val s2.2.1), (5, .int .i64 s2.2.2), (0, .pointer a0)]) hF ⟨rfl, rfl, rfl, rfl, trivial⟩ ?_
    intro k2 s2 E0 h3 hF
    refine WP.seq ?_
    refine WP.seq ?_
    refine WP.region ?_
    refine EvK.pure (v := .int .i64 s2.2.2) (w_none rfl) rfl rfl (f_move rfl rfl) ?_
    refine EvK.pure (v := .pointer a0) (w_none rfl) rfl rfl (f_move rfl rfl) ?_
    obtain ⟨q2, hq2, hF⟩ := hF
    refine EvK.pure (v := .pointer (some q2)) (w_none rfl) rfl rfl (f_nilCheck rfl (congrArg Value.pointer hq2)) ?_
    refine EvK.pure (v := .pointer (some (q2.add 2))) (w_none rfl) rfl rfl (f_fieldAddr fd93_2 rfl rfl) ?_
    obtain ⟨x1, hx1, hF⟩ := hF
    refine EvK.read (v := Sl.val x1) (w_none rfl) rfl rfl (f_load kL ty91 rfl rfl hx1 rfl) ?_
    refine EvK.pure (v := .int .i64 (x1.len : Int)) (w_none rfl) rfl rfl (f_lenL (s := x1) Try.underlying91 rfl rfl) ?_
    refine EvK.pure (v := .bool (decide (s2.2.2 < (x1.len : Int)))) (w_none rfl) rfl rfl (f_lss rfl rfl rfl) ?_
    refine EvK.nil ?_
    rcases ite_inv hF with ⟨c1, hF⟩ | ⟨c1, hF⟩
    · refine WP.cond_true _ rfl c1 ?_
      refine WP.skip ?_
      refine WP.joinF (fun (s3 : Sl × Sl) => [(3, Sl.val s3.1), (4, Sl.val s3.2), (0, .pointer a0), (5, .int .i64 s2.2.2)]) hF ?_ ?_
      · intro s3 E0 h4 hF
        refine WP.region ?_
        refine EvK.pure (v := .int .i64 s2.2.2) (w_none rfl) rfl rfl (f_move rfl rfl) ?_
        refine EvK.pure (v := .int .i64 (IntKind.i64.wrap (s2.2.2 + 1))) (w_none rfl) rfl rfl (f_add rfl rfl rfl) ?_
        refine EvK.pure (v := .int .i64 (IntKind.i64.wrap (s2.2.2 + 1))) (w_none rfl) rfl rfl (f_assign rfl rfl) ?_
        refine EvK.nil ?_
        exact KE.mk (s3.1, s3.2, IntKind.i64.wrap (s2.2.2 + 1)) ⟨rfl, rfl, rfl, rfl, trivial⟩ hF
      · intro k3 hF
        refine WP.block ?_
        refine WP.seq ?_
        refine WP.region ?_
        refine EvK.pure (v := .pointer a0) (w_none rfl) rfl rfl (f_move rfl rfl) ?_
        obtain ⟨q3, hq3, hF⟩ := hF
        refine EvK.pure (v := .pointer (some q3)) (w_none rfl) rfl rfl (f_nilCheck rfl (congrArg Value.pointer hq3)) ?_
        refine EvK.pure (v := .pointer (some (q3.add 2))) (w_none rfl) rfl rfl (f_fieldAddr fd93_2 rfl rfl) ?_
        obtain ⟨x2, hx2, hF⟩ := hF
        refine EvK.read (v := Sl.val x2) (w_none rfl) rfl rfl (f_load kL ty91 rfl rfl hx2 rfl) ?_
        refine EvK.pure (v := .int .i64 s2.2.2) (w_none rfl) rfl rfl (f_move rfl rfl) ?_
        obtain ⟨q4, hq4, hF⟩ := hF
        refine EvK.pure (v := .pointer (some q4)) (w_none rfl) rfl rfl (f_indexAddr (s := x2) Try.underlying91 ty99.size rfl rfl rfl hq4) ?_
        obtain ⟨x3, hx3, hF⟩ := hF
        refine EvK.read (v := k98.val x3) (w_none rfl) rfl rfl (f_load k98 ty99 rfl rfl hx3 rfl) ?_
        refine EvK.alloc (w_none rfl) rfl rfl (f_allocF zero99 rfl rfl hF) ?_
        rintro _ h5 ⟨q5, rfl, hF⟩
        obtain ⟨h6, hs2, hF⟩ := hF
        refine EvK.runN (w_none rfl) rfl (f_store k98 ty99.size (z := x3) rfl rfl rfl hs2) ?_
        rintro _ _ ⟨rfl, rfl⟩
        refine EvK.nil ?_
        refine WP.seq ?_
        refine WP.joinF (fun (s4 : Bool) => [(33, .bool s4), (0, .pointer a0), (3, Sl.val s2.1), (4, Sl.val s2.2.1), (5, .int .i64 s2.2.2), (6, .pointer (some q5))]) hF ?_ ?_
        · intro s4 E0 h7 hF
          rcases ite_inv hF with ⟨c2, hF⟩ | ⟨c2, hF⟩
          · refine WP.cond_true _ rfl c2 ?_
            refine WP.seq ?_
            refine WP.region ?_
            refine EvK.pure (v := Sl.val s2.2.1) (w_none rfl) rfl rfl (f_move rfl rfl) ?_
            obtain ⟨x4, hx4, hF⟩ := hF
            refine EvK.read (v := k98.val x4) (w_none rfl) rfl rfl (f_load k98 ty99 rfl rfl hx4 rfl) ?_
            refine EvK.alloc (w_none rfl) rfl rfl (f_buildSliceF Try.underlying91 el99 (by decide) rfl rfl rfl hF) ?_
            rintro _ h8 ⟨x5, rfl, hF⟩
            refine EvK.run (w_none rfl) rfl rfl (f_appendE (s := s2.2.1) (x := x5) Try.underlying91 el99 rfl rfl rfl hF) ?_
            rintro _ h9 ⟨x6, rfl, hF⟩
            refine EvK.pure (v := Sl.val x6) (w_none rfl) rfl rfl (f_assign rfl rfl) ?_
            refine EvK.nil ?_
            refine WP.exit ?_
            exact KE.mk (s2.1, x6) ⟨rfl, rfl, rfl, rfl, trivial⟩ hF
          · refine WP.cond_false _ rfl c2 ?_
            refine WP.skip ?_
            refine WP.seq ?_
            refine WP.draw mixed [.pure, .pure, .pure, .pure, .read, .read, .alloc, .eff [], .pure, .pure, .eff []] [[], [], [1], [1, 2], [1, 2, 3], [], [5], [1, 2, 3, 4, 5, 6], [0, 1, 2, 3, 4, 5, 6, 7], [0, 1, 2, 3, 4, 5, 6, 7, 8], [0, 1, 2, 3, 4, 5, 6, 7, 8, 9]] [0, 1, 2, 3, 4, 5, 6, 7, 8, 9, 10] (by kernel_rfl) (by kernel_rfl) ?_
            refine EvI.pure (v := .pointer a0) rfl rfl (w_none rfl) rfl (f_move rfl rfl) ?_
            refine EvI.pure (v := .pointer a0) rfl rfl (w_none rfl) rfl (f_move rfl rfl) ?_
            obtain ⟨q6, hq5, hF⟩ := hF
            refine EvI.pure (v := .pointer (some q6)) rfl rfl (w_none rfl) rfl (f_nilCheck rfl (congrArg Value.pointer hq5)) ?_
            refine EvI.pure (v := .pointer (some (q6.add 1))) rfl rfl (w_none rfl) rfl (f_fieldAddr fd93_1 rfl rfl) ?_
            obtain ⟨x7, hx5, hF⟩ := hF
            refine EvI.read (v := Sl.val x7) rfl rfl (w_none rfl) rfl (f_load kL ty91 rfl rfl hx5 rfl) ?_
            obtain ⟨x8, hx6, hF⟩ := hF
            refine EvI.read (v := k98.val x8) rfl rfl (w_none rfl) rfl (f_load k98 ty99 rfl rfl hx6 rfl) ?_
            refine EvI.alloc rfl rfl (w_none rfl) rfl (f_buildSliceF Try.underlying91 el99 (by decide) rfl rfl rfl hF) ?_
            rintro _ h10 ⟨x9, rfl, hF⟩
            refine EvI.run rfl rfl (w_none rfl) rfl (f_appendE (s := x7) (x := x9) Try.underlying91 el99 rfl rfl rfl hF) ?_
            rintro _ h11 ⟨x10, rfl, hF⟩
            refine ⟨⟨chk_no rfl, chk_no rfl, trivial⟩, ?_⟩
            obtain ⟨q7, hq6, hF⟩ := hF
            refine EvI.pure (v := .pointer (some q7)) rfl rfl (w_none rfl) rfl (f_nilCheck rfl (congrArg Value.pointer hq6)) ?_
            refine EvI.pure (v := .pointer (some (q7.add 1))) rfl rfl (w_none rfl) rfl (f_fieldAddr fd93_1 rfl rfl) ?_
            obtain ⟨h12, hs3, hF⟩ := hF
            refine EvI.runN rfl rfl (w_none rfl) rfl (f_store kL ty91.size (z := x10) rfl rfl rfl hs3) ?_
            rintro _ _ ⟨rfl, rfl⟩
            refine ⟨⟨chk_no rfl, chk_no rfl, trivial⟩, ?_⟩
            refine EvI.nil ?_
            refine WP.region ?_
            refine EvK.pure (v := Sl.val s2.1) (w_none rfl) rfl rfl (f_move rfl rfl) ?_
            refine EvK.pure (v := .pointer (some (q5.add 0))) (w_none rfl) rfl rfl (f_fieldAddr fd99_0 rfl rfl) ?_
            obtain ⟨x11, hx7, hF⟩ := hF
            refine EvK.read (v := .int .i64 x11) (w_none rfl) rfl rfl (f_load (kI .i64) ty3 rfl rfl hx7 rfl) ?_
            refine EvK.alloc (w_none rfl) rfl rfl (f_buildSliceF Try.underlying22 el3 (by decide) rfl rfl rfl hF) ?_
            rintro _ h13 ⟨x12, rfl, hF⟩
            refine EvK.run (w_none rfl) rfl rfl (f_appendE (s := s2.1) (x := x12) Try.underlying22 el3 rfl rfl rfl hF) ?_
            rintro _ h14 ⟨x13, rfl, hF⟩
            refine EvK.pure (v := Sl.val x13) (w_none rfl) rfl rfl (f_assign rfl rfl) ?_
            refine EvK.nil ?_
            exact KE.mk (x13, s2.2.1) ⟨rfl, rfl, rfl, rfl, trivial⟩ hF
        · intro k4 hF
          refine WP.draw mixed [.pure, .pure, .pure, .read, .read, .eff [], .pure, .pure, .read, .eff [], .pure] [[], [0], [0, 1], [0, 1, 2], [], [0, 1, 2, 3, 4], [0, 1, 2, 3, 4, 5], [0, 1, 2, 3, 4, 5, 6], [0, 1, 2, 3, 4, 5, 6], [0, 1, 2, 3, 4, 5, 6, 7, 8], [0, 1, 2, 3, 4, 5, 6, 7, 8, 9]] [0, 1, 2, 3, 4, 5, 6, 7, 8, 9, 10] (by kernel_rfl) (by kernel_rfl) ?_
          refine EvI.pure (v := .pointer a0) rfl rfl (w_none rfl) rfl (f_move rfl rfl) ?_
          obtain ⟨q8, hq7, hF⟩ := hF
          refine EvI.pure (v := .pointer (some q8)) rfl rfl (w_none rfl) rfl (f_nilCheck rfl (congrArg Value.pointer hq7)) ?_
          refine EvI.pure (v := .pointer (some (q8.add 1))) rfl rfl (w_none rfl) rfl (f_fieldAddr fd93_1 rfl rfl) ?_
          obtain ⟨x14, hx8, hF⟩ := hF
          refine EvI.read (v := Sl.val x14) rfl rfl (w_none rfl) rfl (f_load kL ty91 rfl rfl hx8 rfl) ?_
          obtain ⟨x15, hx9, hF⟩ := hF
          refine EvI.read (v := k98.val x15) rfl rfl (w_none rfl) rfl (f_load k98 ty99 rfl rfl hx9 rfl) ?_
          refine EvI.call rfl rfl (w_none rfl) rfl (enterH Try.func60 rfl rfl rfl rfl (spateref11_conflicts.sound hF)) ?_
          rintro _ h15 ⟨r1, rfl, hF⟩
          refine ⟨⟨chk_no rfl, chk_no rfl, trivial⟩, ?_⟩
          refine EvI.pure (v := .bool r1) rfl rfl (w_none rfl) rfl (f_move rfl rfl) ?_
          rcases ite_inv hF with ⟨c3, hF⟩ | ⟨c3, hF⟩
          · refine EvI.not rfl (w_not rfl rfl c3) rfl ?_
            refine EvI.not rfl (w_not rfl rfl c3) rfl ?_
            refine EvI.not rfl (w_not rfl rfl c3) rfl ?_
            refine EvI.pure (v := .bool true) rfl rfl (w_none rfl) rfl (f_pickT rfl rfl c3 rfl) ?_
            refine EvI.nil ?_
            exact KE.mk true ⟨rfl, rfl, rfl, rfl, rfl, rfl, trivial⟩ hF
          · refine EvI.pure (v := Sl.val s2.2.1) rfl rfl (w_some rfl rfl c3) rfl (f_move rfl rfl) ?_
            obtain ⟨x16, hx10, hF⟩ := hF
            refine EvI.read (v := k98.val x16) rfl rfl (w_some rfl rfl c3) rfl (f_load k98 ty99 rfl rfl hx10 rfl) ?_
            refine EvI.call rfl rfl (w_some rfl rfl c3) rfl (enterH Try.func60 rfl rfl rfl rfl (spateref11_conflicts.sound hF)) ?_
            rintro _ h16 ⟨r2, rfl, hF⟩
            refine ⟨⟨chk_no rfl, chk_no rfl, chk_no rfl, trivial⟩, ?_⟩
            refine EvI.pure (v := .bool r2) rfl rfl (w_none rfl) rfl (f_pickF rfl rfl c3 rfl) ?_
            refine EvI.nil ?_
            exact KE.mk r2 ⟨rfl, rfl, rfl, rfl, rfl, rfl, trivial⟩ hF
    · refine WP.cond_false _ rfl c1 ?_
      refine WP.exit ?_
      exact KE.mk (s2.1, s2.2.1) ⟨rfl, rfl, rfl, trivial⟩ hF
end Go.Proofs.Ytgmihbchcmjmdaa

namespace Go.Proofs.Ytgmihbchcmjmdaa
open Go Go.Tr
set_option linter.unusedVariables false
set_option maxRecDepth 100000
set_option maxHeartbeats 400000
/-- (*spate/spateref11.Manager).Free -/
def spateref11_Manager_Free (a0 : Option Addr) (a1 : Int) (h : H) (Q : (Sl × Int) → H → Prop) : Prop :=
  rd a0 fun q1 =>
  rd (ld kL (q1.add 1) h) fun x1 =>
  spateref11_find x1 a1 h fun r1 h1 =>
  if (decide (r1 < 0)) = true then
    Q (Sl.nil, 42) h1
  else
    rd a0 fun q2 =>
    rd (ld kL (q2.add 1) h1) fun x2 =>
    spateref11_without x2 r1 h1 fun r2 h2 =>
    rd a0 fun q3 =>
    rd (st kL (q3.add 1) r2 h2) fun h3 =>
    spateref11_Manager_through a0 h3 fun r3 h4 =>
    Q (r3, 0) h4
theorem spateref11_Manager_Free.sound {a0 : Option Addr} {a1 : Int} {h : H} {Q : (Sl × Int) → H → Prop} (hF : spateref11_Manager_Free a0 a1 h Q) :
    CallsH Try.prog 35 (List.toArray (α := Value) [.pointer a0, .int .i64 a1]) h fun v h' => ∃ x : Sl × Int, v = .tuple #[Sl.val x.1, .int .i64 x.2] ∧ Q x h' := by
  refine CallsH.of_body Try.func35 rfl 26 rfl rfl ?_
  refine WP.seq ?_
  refine WP.region ?_
  refine EvK.pure (v := Sl.val Sl.nil) (w_none rfl) rfl rfl (f_assign rfl rfl) ?_
  refine EvK.pure (v := .int .i64 0) (w_none rfl) rfl rfl (f_assign rfl rfl) ?_
  refine EvK.nil ?_
  refine WP.seq ?_
  refine WP.region ?_
  refine EvK.pure (v := .pointer a0) (w_none rfl) rfl rfl (f_move rfl rfl) ?_
  obtain ⟨q1, hq1, hF⟩ := hF
  refine EvK.pure (v := .pointer (some q1)) (w_none rfl) rfl rfl (f_nilCheck rfl (congrArg Value.pointer hq1)) ?_
  refine EvK.pure (v := .pointer (some (q1.add 1))) (w_none rfl) rfl rfl (f_fieldAddr fd93_1 rfl rfl) ?_
  obtain ⟨x1, hx1, hF⟩ := hF
  refine EvK.read (v := Sl.val x1) (w_none rfl) rfl rfl (f_load kL ty91 rfl rfl hx1 rfl) ?_
  refine EvK.pure (v := .int .i64 a1) (w_none rfl) rfl rfl (f_move rfl rfl) ?_
  refine EvK.call (w_none rfl) rfl rfl (enterH Try.func52 rfl rfl rfl rfl (spateref11_find.sound hF)) ?_
  rintro _ h1 ⟨r1, rfl, hF⟩
  refine EvK.pure (v := .int .i64 r1) (w_none rfl) rfl rfl (f_assign rfl rfl) ?_
  refine EvK.nil ?_
  refine WP.seq ?_
  refine WP.seq ?_
  refine WP.region ?_
  refine EvK.pure (v := .int .i64 r1) (w_none rfl) rfl rfl (f_move rfl rfl) ?_
  refine EvK.pure (v := .bool (decide (r1 < 0))) (w_none rfl) rfl rfl (f_lss rfl rfl rfl) ?_
  refine EvK.nil ?_
  rcases ite_inv hF with ⟨c1, hF⟩ | ⟨c1, hF⟩
  · refine WP.cond_true _ rfl c1 ?_
    refine WP.seq ?_
    refine WP.region ?_
    refine EvK.pure (v := Sl.val Sl.nil) (w_none rfl) rfl rfl (f_assign rfl rfl) ?_
    refine EvK.pure (v := .int .i64 42) (w_none rfl) rfl rfl (f_assign rfl rfl) ?_
    refine EvK.nil ?_
    refine WP.ret ?_
    exact Ret.mk (vs := [Sl.val Sl.nil, .int .i64 42]) (Sl.nil, 42) ⟨rfl, rfl, trivial⟩ rfl hF
  · refine WP.cond_false _ rfl c1 ?_
    refine WP.skip ?_
    refine WP.seq ?_
    refine WP.region ?_
    refine EvK.pure (v := .pointer a0) (w_none rfl) rfl rfl (f_move rfl rfl) ?_
    refine EvK.pure (v := .pointer a0) (w_none rfl) rfl rfl (f_move rfl rfl) ?_
    obtain ⟨q2, hq2, hF⟩ := hF
    refine EvK.pure (v := .pointer (some q2)) (w_none rfl) rfl rfl (f_nilCheck rfl (congrArg Value.pointer hq2)) ?_
    refine EvK.pure (v := .pointer (some (q2.add 1))) (w_none rfl) rfl rfl (f_fieldAddr fd93_1 rfl rfl) ?_
    obtain ⟨x2, hx2, hF⟩ := hF
    refine EvK.read (v := Sl.val x2) (w_none rfl) rfl rfl (f_load kL ty91 rfl rfl hx2 rfl) ?_
    refine EvK.pure (v := .int .i64 r1) (w_none rfl) rfl rfl (f_move rfl rfl) ?_
    refine EvK.call (w_none rfl) rfl rfl (enterH Try.func53 rfl rfl rfl rfl (spateref11_without.sound hF)) ?_
    rintro _ h2 ⟨r2, rfl, hF⟩
    obtain ⟨q3, hq3, hF⟩ := hF
    refine EvK.pure (v := .pointer (some q3)) (w_none rfl) rfl rfl (f_nilCheck rfl (congrArg Value.pointer hq3)) ?_
    refine EvK.pure (v := .pointer (some (q3.add 1))) (w_none rfl) rfl rfl (f_fieldAddr fd93_1 rfl rfl) ?_
    obtain ⟨h3, hs1, hF⟩ := hF
    refine EvK.runN (w_none rfl) rfl (f_store kL ty91.size (z := r2) rfl rfl rfl hs1) ?_
    rintro _ _ ⟨rfl, rfl⟩
    refine EvK.nil ?_
    refine WP.seq ?_
    refine WP.region ?_
    refine EvK.pure (v := .pointer a0) (w_none rfl) rfl rfl (f_move rfl rfl) ?_
    refine EvK.call (w_none rfl) rfl rfl (enterH Try.func54 rfl rfl rfl rfl (spateref11_Manager_through.sound hF)) ?_
    rintro _ h4 ⟨r3, rfl, hF⟩
    refine EvK.pure (v := Sl.val r3) (w_none rfl) rfl rfl (f_assign rfl rfl) ?_
    refine EvK.pure (v := .int .i64 0) (w_none rfl) rfl rfl (f_assign rfl rfl) ?_
    refine EvK.nil ?_
    refine WP.ret ?_
    exact Ret.mk (vs := [Sl.val r3, .int .i64 0]) (r3, 0) ⟨rfl, rfl, trivial⟩ rfl hF
end Go.Proofs.Ytgmihbchcmjmdaa

namespace Go.Proofs.Ytgmihbchcmjmdaa
open Go Go.Tr
set_option linter.unusedVariables false
set_option maxRecDepth 100000
set_option maxHeartbeats 400000
/-- spate/spatelaw11.is -/
def spatelaw11_is (a0 : IF) (a1 : Int) (h : H) (Q : Bool → H → Prop) : Prop :=
  if (a1 == 0) = true then
    Q a0.isNone h
  else
    jn (fun (k1 : Bool → H → Prop) =>
      if (!a0.isNone) = true then
        errors_Is a0 (some (26, .int .i64 a1) : IF) h fun r1 h2 =>
        k1 r1 h2
      else
        k1 false h) fun s1 h1 =>
    Q s1 h1
theorem spatelaw11_is.sound {a0 : IF} {a1 : Int} {h : H} {Q : Bool → H → Prop} (hF : spatelaw11_is a0 a1 h Q) :
    CallsH Try.prog 36 (List.toArray (α := Value) [IF.val a0, .int .i64 a1]) h fun v h' => ∃ x : Bool, v = .bool x ∧ Q x h' := by
  refine CallsH.of_body Try.func36 rfl 17 rfl rfl ?_
  refine WP.seq ?_
  refine WP.region ?_
  refine EvK.pure (v := .bool false) (w_none rfl) rfl rfl (f_assign rfl rfl) ?_
  refine EvK.nil ?_
  refine WP.seq ?_
  refine WP.seq ?_
  refine WP.region ?_
  refine EvK.pure (v := .int .i64 a1) (w_none rfl) rfl rfl (f_move rfl rfl) ?_
  refine EvK.pure (v := .bool (a1 == 0)) (w_none rfl) rfl rfl (f_eql rfl rfl rfl) ?_
  refine EvK.nil ?_
  rcases ite_inv hF with ⟨c1, hF⟩ | ⟨c1, hF⟩
  · refine WP.cond_true _ rfl c1 ?_
    refine WP.seq ?_
    refine WP.region ?_
    refine EvK.pure (v := IF.val a0) (w_none rfl) rfl rfl (f_move rfl rfl) ?_
    refine EvK.pure (v := .bool a0.isNone) (w_none rfl) rfl rfl (f_ieqln (a := a0) Try.underlying37 rfl rfl) ?_
    refine EvK.pure (v := .bool a0.isNone) (w_none rfl) rfl rfl (f_assign rfl rfl) ?_
    refine EvK.nil ?_
    refine WP.ret ?_
    exact Ret.mk (vs := [.bool a0.isNone]) a0.isNone ⟨rfl, trivial⟩ rfl hF
  · refine WP.cond_false _ rfl c1 ?_
    refine WP.skip ?_
    refine WP.joinF (fun (s1 : Bool) => [(4, .bool s1)]) hF ?_ ?_
    · intro s1 E0 h1 hF
      refine WP.ret ?_
      exact Ret.mk (vs := [.bool s1]) s1 ⟨rfl, trivial⟩ rfl hF
    · intro k1 hF
      refine WP.region ?_
      refine EvK.pure (v := IF.val a0) (w_none rfl) rfl rfl (f_move rfl rfl) ?_
      refine EvK.pure (v := .bool (!a0.isNone)) (w_none rfl) rfl rfl (f_ineqn (a := a0) Try.underlying37 rfl rfl) ?_
      refine EvK.pure (v := .bool (!a0.isNone)) (w_none rfl) rfl rfl (f_move rfl rfl) ?_
      rcases ite_inv hF with ⟨c2, hF⟩ | ⟨c2, hF⟩
      · refine EvK.pure (v := IF.val a0) (w_some rfl rfl c2) rfl rfl (f_move rfl rfl) ?_
        refine EvK.pure (v := .int .i64 a1) (w_some rfl rfl c2) rfl rfl (f_move rfl rfl) ?_
        refine EvK.pure (v := IF.val (some (26, .int .i64 a1) : IF)) (w_some rfl rfl c2) rfl rfl (f_makeIf Try.underlying26 rfl rfl rfl) ?_
        refine EvK.call (w_some rfl rfl c2) rfl rfl (enterH (vs := [IF.val a0, IF.val (some (26, .int .i64 a1) : IF)]) Try.func46 rfl rfl rfl rfl (errors_Is.sound hF)) ?_
        rintro _ h2 ⟨r1, rfl, hF⟩
        refine EvK.pure (v := .bool r1) (w_none rfl) rfl rfl (f_pickT rfl rfl c2 rfl) ?_
        refine EvK.pure (v := .bool r1) (w_none rfl) rfl rfl (f_assign rfl rfl) ?_
        refine EvK.nil ?_
        exact KE.mk r1 ⟨rfl, trivial⟩ hF
      · refine EvK.not (w_not rfl rfl c2) rfl rfl ?_
        refine EvK.not (w_not rfl rfl c2) rfl rfl ?_
        refine EvK.not (w_not rfl rfl c2) rfl rfl ?_
        refine EvK.not (w_not rfl rfl c2) rfl rfl ?_
        refine EvK.pure (v := .bool false) (w_none rfl) rfl rfl (f_pickF rfl rfl c2 rfl) ?_
        refine EvK.pure (v := .bool false) (w_none rfl) rfl rfl (f_assign rfl rfl) ?_
        refine EvK.nil ?_
        exact KE.mk false ⟨rfl, trivial⟩ hF
end Go.Proofs.Ytgmihbchcmjmdaa

namespace Go.Proofs.Ytgmihbchcmjmdaa
open Go Go.Tr
set_option linter.unusedVariables false
set_option maxRecDepth 100000
set_option maxHeartbeats 400000
/-- (*spate/spateref11.Manager).Quit -/
def spateref11_Manager_Quit (a0 : Option Addr) (a1 : Int) (h : H) (Q : Sl → H → Prop) : Prop :=
  rd a0 fun q1 =>
  rd (ld kL (q1.add 1) h) fun x1 =>
  spateref11_find x1 a1 h fun r1 h1 =>
  if (decide (r1 ≥ 0)) = true then
    rd a0 fun q2 =>
    rd (ld kL (q2.add 1) h1) fun x2 =>
    spateref11_without x2 r1 h1 fun r2 h2 =>
    rd a0 fun q3 =>
    rd (st kL (q3.add 1) r2 h2) fun h3 =>
    spateref11_Manager_through a0 h3 fun r3 h4 =>
    Q r3 h4
  else
    rd a0 fun q4 =>
    rd (ld kL (q4.add 2) h1) fun x3 =>
    spateref11_find x3 a1 h1 fun r4 h5 =>
    if (decide (r4 ≥ 0)) = true then
      rd a0 fun q5 =>
      rd (ld kL (q5.add 2) h5) fun x4 =>
      spateref11_without x4 r4 h5 fun r5 h6 =>
      rd a0 fun q6 =>
      rd (st kL (q6.add 2) r5 h6) fun h7 =>
      spateref11_Manager_through a0 h7 fun r6 h8 =>
      Q r6 h8
    else
      Q Sl.nil h5
theorem spateref11_Manager_Quit.sound {a0 : Option Addr} {a1 : Int} {h : H} {Q : Sl → H → Prop} (hF : spateref11_Manager_Quit a0 a1 h Q) :
    CallsH Try.prog 37 (List.toArray (α := Value) [.pointer a0, .int .i64 a1]) h fun v h' => ∃ x : Sl, v = Sl.val x ∧ Q x h' := by
  refine CallsH.of_body Try.func37 rfl 44 rfl rfl ?_
  refine WP.seq ?_
  refine WP.region ?_
  refine EvK.pure (v := Sl.val Sl.nil) (w_none rfl) rfl rfl (f_assign rfl rfl) ?_
  refine EvK.nil ?_
  refine WP.seq ?_
  refine WP.region ?_
  refine EvK.pure (v := .pointer a0) (w_none rfl) rfl rfl (f_move rfl rfl) ?_
  obtain ⟨q1, hq1, hF⟩ := hF
  refine EvK.pure (v := .pointer (some q1)) (w_none rfl) rfl rfl (f_nilCheck rfl (congrArg Value.pointer hq1)) ?_
  refine EvK.pure (v := .pointer (some (q1.add 1))) (w_none rfl) rfl rfl (f_fieldAddr fd93_1 rfl rfl) ?_
  obtain ⟨x1, hx1, hF⟩ := hF
  refine EvK.read (v := Sl.val x1) (w_none rfl) rfl rfl (f_load kL ty91 rfl rfl hx1 rfl) ?_
  refine EvK.pure (v := .int .i64 a1) (w_none rfl) rfl rfl (f_move rfl rfl) ?_
  refine EvK.call (w_none rfl) rfl rfl (enterH Try.func52 rfl rfl rfl rfl (spateref11_find.sound hF)) ?_
  rintro _ h1 ⟨r1, rfl, hF⟩
  refine EvK.pure (v := .int .i64 r1) (w_none rfl) rfl rfl (f_assign rfl rfl) ?_
  refine EvK.nil ?_
  refine WP.seq ?_
  refine WP.seq ?_
  refine WP.region ?_
  refine EvK.pure (v := .int .i64 r1) (w_none rfl) rfl rfl (f_move rfl rfl) ?_
  refine EvK.pure (v := .bool (decide (r1 ≥ 0))) (w_none rfl) rfl rfl (f_geq rfl rfl rfl) ?_
  refine EvK.nil ?_
  rcases ite_inv hF with ⟨c1, hF⟩ | ⟨c1, hF⟩
  · refine WP.cond_true _ rfl c1 ?_
    refine WP.seq ?_
    refine WP.region ?_
    refine EvK.pure (v := .pointer a0) (w_none rfl) rfl rfl (f_move rfl rfl) ?_
    refine EvK.pure (v := .pointer a0) (w_none rfl) rfl rfl (f_move rfl rfl) ?_
    obtain ⟨q2, hq2, hF⟩ := hF
    refine EvK.pure (v := .pointer (some q2)) (w_none rfl) rfl rfl (f_nilCheck rfl (congrArg Value.pointer hq2)) ?_
    refine EvK.pure (v := .pointer (some (q2.add 1))) (w_none rfl) rfl rfl (f_fieldAddr fd93_1 rfl rfl) ?_
    obtain ⟨x2, hx2, hF⟩ := hF
    refine EvK.read (v := Sl.val x2) (w_none rfl) rfl rfl (f_load kL ty91 rfl rfl hx2 rfl) ?_
    refine EvK.pure (v := .int .i64 r1) (w_none rfl) rfl rfl (f_move rfl rfl) ?_
    refine EvK.call (w_none rfl) rfl rfl (enterH Try.func53 rfl rfl rfl rfl (spateref11_without.sound hF)) ?_
    rintro _ h2 ⟨r2, rfl, hF⟩
    obtain ⟨q3, hq3, hF⟩ := hF
    refine EvK.pure (v := .pointer (some q3)) (w_none rfl) rfl rfl (f_nilCheck rfl (congrArg Value.pointer hq3)) ?_
    refine EvK.pure (v := .pointer (some (q3.add 1))) (w_none rfl) rfl rfl (f_fieldAddr fd93_1 rfl rfl) ?_
    obtain ⟨h3, hs1, hF⟩ := hF
    refine EvK.runN (w_none rfl) rfl (f_store kL ty91.size (z := r2) rfl rfl rfl hs1) ?_
    rintro _ _ ⟨rfl, rfl⟩
    refine EvK.nil ?_
    refine WP.seq ?_
    refine WP.region ?_
    refine EvK.pure (v := .pointer a0) (w_none rfl) rfl rfl (f_move rfl rfl) ?_
    refine EvK.call (w_none rfl) rfl rfl (enterH Try.func54 rfl rfl rfl rfl (spateref11_Manager_through.sound hF)) ?_
    rintro _ h4 ⟨r3, rfl, hF⟩
    refine EvK.pure (v := Sl.val r3) (w_none rfl) rfl rfl (f_assign rfl rfl) ?_
    refine EvK.nil ?_
    refine WP.ret ?_
    exact Ret.mk (vs := [Sl.val r3]) r3 ⟨rfl, trivial⟩ rfl hF
  · refine WP.cond_false _ rfl c1 ?_
    refine WP.skip ?_
    refine WP.seq ?_
    refine WP.region ?_
    refine EvK.pure (v := .pointer a0) (w_none rfl) rfl rfl (f_move rfl rfl) ?_
    obtain ⟨q4, hq4, hF⟩ := hF
    refine EvK.pure (v := .pointer (some q4)) (w_none rfl) rfl rfl (f_nilCheck rfl (congrArg Value.pointer hq4)) ?_
    refine EvK.pure (v := .pointer (some (q4.add 2))) (w_none rfl) rfl rfl (f_fieldAddr fd93_2 rfl rfl) ?_
    obtain ⟨x3, hx3, hF⟩ := hF
    refine EvK.read (v := Sl.val x3) (w_none rfl) rfl rfl (f_load kL ty91 rfl rfl hx3 rfl) ?_
    refine EvK.pure (v := .int .i64 a1) (w_none rfl) rfl rfl (f_move rfl rfl) ?_
    refine EvK.call (w_none rfl) rfl rfl (enterH Try.func52 rfl rfl rfl rfl (spateref11_find.sound hF)) ?_
    rintro _ h5 ⟨r4, rfl, hF⟩
    refine EvK.pure (v := .int .i64 r4) (w_none rfl) rfl rfl (f_assign rfl rfl) ?_
    refine EvK.nil ?_
    refine WP.seq ?_
    refine WP.seq ?_
    refine WP.region ?_
    refine EvK.pure (v := .int .i64 r4) (w_none rfl) rfl rfl (f_move rfl rfl) ?_
    refine EvK.pure (v := .bool (decide (r4 ≥ 0))) (w_none rfl) rfl rfl (f_geq rfl rfl rfl) ?_
    refine EvK.nil ?_
    rcases ite_inv hF with ⟨c2, hF⟩ | ⟨c2, hF⟩
    · refine WP.cond_true _ rfl c2 ?_
      refine WP.seq ?_
      refine WP.region ?_
      refine EvK.pure (v := .pointer a0) (w_none rfl) rfl rfl (f_move rfl rfl) ?_
      refine EvK.pure (v := .pointer a0) (w_none rfl) rfl rfl (f_move rfl rfl) ?_
      obtain ⟨q5, hq5, hF⟩ := hF
      refine EvK.pure (v := .pointer (some q5)) (w_none rfl) rfl rfl (f_nilCheck rfl (congrArg Value.pointer hq5)) ?_
      refine EvK.pure (v := .pointer (some (q5.add 2))) (w_none rfl) rfl rfl (f_fieldAddr fd93_2 rfl rfl) ?_
      obtain ⟨x4, hx4, hF⟩ := hF
      refine EvK.read (v := Sl.val x4) (w_none rfl) rfl rfl (f_load kL ty91 rfl rfl hx4 rfl) ?_
      refine EvK.pure (v := .int .i64 r4) (w_none rfl) rfl rfl (f_move rfl rfl) ?_
      refine EvK.call (w_none rfl) rfl rfl (enterH Try.func53 rfl rfl rfl rfl (spateref11_without.sound hF)) ?_
      rintro _ h6 ⟨r5, rfl, hF⟩
      obtain ⟨q6, hq6, hF⟩ := hF
      refine EvK.pure (v := .pointer (some q6)) (w_none rfl) rfl rfl (f_nilCheck rfl (congrArg Value.pointer hq6)) ?_
      refine EvK.pure (v := .pointer (some (q6.add 2))) (w_none rfl) rfl rfl (f_fieldAddr fd93_2 rfl rfl) ?_
      obtain ⟨h7, hs2, hF⟩ := hF
      refine EvK.runN (w_none rfl) rfl (f_store kL ty91.size (z := r5) rfl rfl rfl hs2) ?_
      rintro _ _ ⟨rfl, rfl⟩
      refine EvK.nil ?_
      refine WP.seq ?_
      refine WP.region ?_
      refine EvK.pure (v := .pointer a0) (w_none rfl) rfl rfl (f_move rfl rfl) ?_
      refine EvK.call (w_none rfl) rfl rfl (enterH Try.func54 rfl rfl rfl rfl (spateref11_Manager_through.sound hF)) ?_
      rintro _ h8 ⟨r6, rfl, hF⟩
      refine EvK.pure (v := Sl.val r6) (w_none rfl) rfl rfl (f_assign rfl rfl) ?_
      refine EvK.nil ?_
      refine WP.ret ?_
      exact Ret.mk (vs := [Sl.val r6]) r6 ⟨rfl, trivial⟩ rfl hF
    · refine WP.cond_false _ rfl c2 ?_
      refine WP.skip ?_
      refine WP.seq ?_
      refine WP.region ?_
      refine EvK.pure (v := Sl.val Sl.nil) (w_none rfl) rfl rfl (f_assign rfl rfl) ?_
      refine EvK.nil ?_
      refine WP.ret ?_
      exact Ret.mk (vs := [Sl.val Sl.nil]) Sl.nil ⟨rfl, trivial⟩ rfl hF
end Go.Proofs.Ytgmihbchcmjmdaa

namespace Go.Proofs.Ytgmihbchcmjmdaa
open Go Go.Tr
set_option linter.unusedVariables false
set_option maxRecDepth 100000
set_option maxHeartbeats 400000
def spatelaw11_lend.b1 (p0 : Sl) (p3 : Sl) (s : Int) (h : H) (K : Int ⊕ Unit → H → Prop) : Prop :=
  if (decide (s < (p3.len : Int))) = true then
    rd (ixA 2 p3 s) fun q1 =>
    rd (st k31 q1 (S31.mk (IntKind.i64.wrap ((-5) - s)) false) h) fun h4 =>
    K (.inl (IntKind.i64.wrap (s + 1))) h4
  else
    K (.inr ()) h
/-- spate/spatelaw11.lend -/
def spatelaw11_lend (a0 : Sl) (h : H) (Q : Sl → H → Prop) : Prop :=
  mk k31.n 16 32 (k31.enc z31) (IntKind.i64.wrap ((a0.len : Int) + 3)) (IntKind.i64.wrap ((a0.len : Int) + 3)) h fun x1 h1 =>
  rd (cpy 2 x1 a0 h1) fun h2 =>
  jn (fun (k1 : Unit → H → Prop) =>
    loopE (spatelaw11_lend.b1 a0 x1) (a0.len : Int) h2 (fun r1 hh => k1 r1 hh)) fun s1 h3 =>
  rd (slx 2 x1 none (some (a0.len : Int)) none) fun x2 =>
  Q x2 h3
theorem spatelaw11_lend.sound {a0 : Sl} {h : H} {Q : Sl → H → Prop} (hF : spatelaw11_lend a0 h Q) :
    CallsH Try.prog 49 (List.toArray (α := Value) [Sl.val a0]) h fun v h' => ∃ x : Sl, v = Sl.val x ∧ Q x h' := by
  refine CallsH.of_body Try.func49 rfl 30 rfl rfl ?_
  refine WP.seq ?_
  refine WP.region ?_
  refine EvK.pure (v := Sl.val Sl.nil) (w_none rfl) rfl rfl (f_assign rfl rfl) ?_
  refine EvK.nil ?_
  refine WP.seq ?_
  refine WP.region ?_
  refine EvK.pure (v := Sl.val a0) (w_none rfl) rfl rfl (f_move rfl rfl) ?_
  refine EvK.pure (v := .int .i64 (a0.len : Int)) (w_none rfl) rfl rfl (f_lenL (s := a0) Try.underlying30 rfl rfl) ?_
  refine EvK.pure (v := .int .i64 (IntKind.i64.wrap ((a0.len : Int) + 3))) (w_none rfl) rfl rfl (f_add rfl rfl rfl) ?_
  refine EvK.alloc (w_none rfl) rfl rfl (f_makeSlice Try.underlying30 el32 rfl rfl rfl hF) ?_
  rintro _ h1 ⟨x1, rfl, hF⟩
  refine EvK.pure (v := Sl.val x1) (w_none rfl) rfl rfl (f_assign rfl rfl) ?_
  refine EvK.nil ?_
  refine WP.seq ?_
  refine WP.region ?_
  refine EvK.pure (v := Sl.val x1) (w_none rfl) rfl rfl (f_move rfl rfl) ?_
  refine EvK.pure (v := Sl.val a0) (w_none rfl) rfl rfl (f_move rfl rfl) ?_
  obtain ⟨h2, hs1, hF⟩ := hF
  refine EvK.run (w_none rfl) rfl rfl (f_copy (s := x1) (r := a0) Try.underlying30 ty32.size rfl rfl rfl rfl hs1) ?_
  rintro _ _ ⟨rfl, rfl⟩
  refine EvK.nil ?_
  refine WP.joinF (fun (s1 : Unit) => [(0, Sl.val a0), (3, Sl.val x1)]) hF ?_ ?_
  · intro s1 E0 h3 hF
    refine WP.seq ?_
    refine WP.region ?_
    refine EvK.pure (v := Sl.val x1) (w_none rfl) rfl rfl (f_move rfl rfl) ?_
    refine EvK.pure (v := Sl.val a0) (w_none rfl) rfl rfl (f_move rfl rfl) ?_
    refine EvK.pure (v := .int .i64 (a0.len : Int)) (w_none rfl) rfl rfl (f_lenL (s := a0) Try.underlying30 rfl rfl) ?_
    obtain ⟨x2, hx1, hF⟩ := hF
    refine EvK.pure (v := Sl.val x2) (w_none rfl) rfl rfl (f_slice Try.underlying30 ty32.size rfl rfl bndV_none (bndV_some rfl) bndV_none hx1) ?_
    refine EvK.pure (v := Sl.val x2) (w_none rfl) rfl rfl (f_assign rfl rfl) ?_
    refine EvK.nil ?_
    refine WP.ret ?_
    exact Ret.mk (vs := [Sl.val x2]) x2 ⟨rfl, trivial⟩ rfl hF
  · intro k1 hF
    refine WP.seq ?_
    refine WP.region ?_
    refine EvK.pure (v := Sl.val a0) (w_none rfl) rfl rfl (f_move rfl rfl) ?_
    refine EvK.pure (v := .int .i64 (a0.len : Int)) (w_none rfl) rfl rfl (f_lenL (s := a0) Try.underlying30 rfl rfl) ?_
    refine EvK.pure (v := .int .i64 (a0.len : Int)) (w_none rfl) rfl rfl (f_assign rfl rfl) ?_
    refine EvK.nil ?_
    refine WP.block ?_
    refine WP.loopF (fun (s2 : Int) => [(4, .int .i64 s2), (0, Sl.val a0), (3, Sl.val x1)]) hF ⟨rfl, rfl, rfl, trivial⟩ ?_
    intro k2 s2 E0 h4 hF
    refine WP.seq ?_
    refine WP.seq ?_
    refine WP.region ?_
    refine EvK.pure (v := .int .i64 s2) (w_none rfl) rfl rfl (f_move rfl rfl) ?_
    refine EvK.pure (v := Sl.val x1) (w_none rfl) rfl rfl (f_move rfl rfl) ?_
    refine EvK.pure (v := .int .i64 (x1.len : Int)) (w_none rfl) rfl rfl (f_lenL (s := x1) Try.underlying30 rfl rfl) ?_
    refine EvK.pure (v := .bool (decide (s2 < (x1.len : Int)))) (w_none rfl) rfl rfl (f_lss rfl rfl rfl) ?_
    refine EvK.nil ?_
    rcases ite_inv hF with ⟨c1, hF⟩ | ⟨c1, hF⟩
    · refine WP.cond_true _ rfl c1 ?_
      refine WP.skip ?_
      refine WP.seq ?_
      refine WP.block ?_
      refine WP.region ?_
      refine EvK.pure (v := Sl.val x1) (w_none rfl) rfl rfl (f_move rfl rfl) ?_
      refine EvK.pure (v := .int .i64 s2) (w_none rfl) rfl rfl (f_move rfl rfl) ?_
      refine EvK.pure (v := .int .i64 s2) (w_none rfl) rfl rfl (f_move rfl rfl) ?_
      refine EvK.pure (v := .int .i64 (IntKind.i64.wrap ((-5) - s2))) (w_none rfl) rfl rfl (f_sub rfl rfl rfl) ?_
      refine EvK.pure (v := k31.val (S31.mk (IntKind.i64.wrap ((-5) - s2)) false)) (w_none rfl) rfl rfl (f_build (cells := k31.enc (S31.mk (IntKind.i64.wrap ((-5) - s2)) false)) st32 rfl rfl rfl) ?_
      obtain ⟨q1, hq1, hF⟩ := hF
      refine EvK.pure (v := .pointer (some q1)) (w_none rfl) rfl rfl (f_indexAddr (s := x1) Try.underlying30 ty32.size rfl rfl rfl hq1) ?_
      obtain ⟨h5, hs2, hF⟩ := hF
      refine EvK.runN (w_none rfl) rfl (f_store k31 ty32.size (z := (S31.mk (IntKind.i64.wrap ((-5) - s2)) false)) rfl rfl rfl hs2) ?_
      rintro _ _ ⟨rfl, rfl⟩
      refine EvK.nil ?_
      refine WP.region ?_
      refine EvK.pure (v := .int .i64 s2) (w_none rfl) rfl rfl (f_move rfl rfl) ?_
      refine EvK.pure (v := .int .i64 (IntKind.i64.wrap (s2 + 1))) (w_none rfl) rfl rfl (f_add rfl rfl rfl) ?_
      refine EvK.pure (v := .int .i64 (IntKind.i64.wrap (s2 + 1))) (w_none rfl) rfl rfl (f_assign rfl rfl) ?_
      refine EvK.nil ?_
      exact KE.mk (IntKind.i64.wrap (s2 + 1)) ⟨rfl, rfl, rfl, trivial⟩ hF
    · refine WP.cond_false _ rfl c1 ?_
      refine WP.exit ?_
      exact KE.mk () ⟨rfl, rfl, trivial⟩ hF
end Go.Proofs.Ytgmihbchcmjmdaa

namespace Go.Proofs.Ytgmihbchcmjmdaa
open Go Go.Tr
set_option linter.unusedVariables false
set_option maxRecDepth 100000
set_option maxHeartbeats 400000
def spatelaw11_kept.b1 (p1 : Sl) (p5 : Sl) (s : Bool × Int) (h : H) (K : (Bool × Int) ⊕ Bool → H → Prop) : Prop :=
  if (decide (s.2 < (p5.len : Int))) = true then
    jn (fun (k2 : Bool → H → Prop) =>
      if (decide (s.2 < (p1.len : Int))) = true then
        if s.1 = true then
          rd (ixA 2 p5 s.2) fun q3 =>
          rd (ld k31 q3 h) fun x3 =>
          rd (ixA 2 p1 s.2) fun q4 =>
          rd (ld k31 q4 h) fun x4 =>
          k2 (eq32 x3 x4) h
        else
          k2 false h
      else
        if s.1 = true then
          rd (ixA 2 p5 s.2) fun q5 =>
          rd (ld k31 q5 h) fun x5 =>
          k2 (eq32 x5 (S31.mk (IntKind.i64.wrap ((-5) - s.2)) false)) h
        else
          k2 false h) fun s2 h2 =>
    rd (ixA 2 p5 s.2) fun q1 =>
    rd (ld kB (q1.add 1) h2) fun x2 =>
    rd (ixA 2 p5 s.2) fun q2 =>
    rd (st k31 q2 (S31.mk 1 (!x2)) h2) fun h3 =>
    K (.inl (s2, IntKind.i64.wrap (s.2 + 1))) h3
  else
    K (.inr s.1) h
/-- spate/spatelaw11.kept -/
def spatelaw11_kept (a0 : Sl) (a1 : Sl) (h : H) (Q : Bool → H → Prop) : Prop :=
  rd (slx 2 a0 none (some (IntKind.i64.wrap ((a1.len : Int) + 3))) none) fun x1 =>
  jn (fun (k1 : Bool → H → Prop) =>
    loopE (spatelaw11_kept.b1 a1 x1) (true, 0) h (fun r1 hh => k1 r1 hh)) fun s1 h1 =>
  Q s1 h1
theorem spatelaw11_kept.sound {a0 : Sl} {a1 : Sl} {h : H} {Q : Bool → H → Prop} (hF : spatelaw11_kept a0 a1 h Q) :
    CallsH Try.prog 50 (List.toArray (α := Value) [Sl.val a0, Sl.val a1]) h fun v h' => ∃ x : Bool, v = .bool x ∧ Q x h' := by
  refine CallsH.of_body Try.func50 rfl 57 rfl rfl ?_
  refine WP.seq ?_
  refine WP.region ?_
  refine EvK.pure (v := .bool false) (w_none rfl) rfl rfl (f_assign rfl rfl) ?_
  refine EvK.nil ?_
  refine WP.seq ?_
  refine WP.region ?_
  refine EvK.pure (v := Sl.val a0) (w_none rfl) rfl rfl (f_move rfl rfl) ?_
  refine EvK.pure (v := Sl.val a1) (w_none rfl) rfl rfl (f_move rfl rfl) ?_
  refine EvK.pure (v := .int .i64 (a1.len : Int)) (w_none rfl) rfl rfl (f_lenL (s := a1) Try.underlying30 rfl rfl) ?_
  refine EvK.pure (v := .int .i64 (IntKind.i64.wrap ((a1.len : Int) + 3))) (w_none rfl) rfl rfl (f_add rfl rfl rfl) ?_
  obtain ⟨x1, hx1, hF⟩ := hF
  refine EvK.pure (v := Sl.val x1) (w_none rfl) rfl rfl (f_slice Try.underlying30 ty32.size rfl rfl bndV_none (bndV_some rfl) bndV_none hx1) ?_
  refine EvK.pure (v := Sl.val x1) (w_none rfl) rfl rfl (f_assign rfl rfl) ?_
  refine EvK.nil ?_
  refine WP.seq ?_
  refine WP.region ?_
  refine EvK.pure (v := .bool true) (w_none rfl) rfl rfl (f_assign rfl rfl) ?_
  refine EvK.nil ?_
  refine WP.joinF (fun (s1 : Bool) => [(6, .bool s1)]) hF ?_ ?_
  · intro s1 E0 h1 hF
    refine WP.seq ?_
    refine WP.region ?_
    refine EvK.pure (v := .bool s1) (w_none rfl) rfl rfl (f_move rfl rfl) ?_
    refine EvK.pure (v := .bool s1) (w_none rfl) rfl rfl (f_assign rfl rfl) ?_
    refine EvK.nil ?_
    refine WP.ret ?_
    exact Ret.mk (vs := [.bool s1]) s1 ⟨rfl, trivial⟩ rfl hF
  · intro k1 hF
    refine WP.seq ?_
    refine WP.region ?_
    refine EvK.pure (v := .int .i64 0) (w_none rfl) rfl rfl (f_assign rfl rfl) ?_
    refine EvK.nil ?_
    refine WP.block ?_
    refine WP.loopF (fun (s2 : Bool × Int) => [(6, .bool s2.1), (7, .int .i64 s2.2), (1, Sl.val a1), (5, Sl.val x1)]) hF ⟨rfl, rfl, rfl, rfl, trivial⟩ ?_
    intro k2 s2 E0 h2 hF
    refine WP.seq ?_
    refine WP.seq ?_
    refine WP.region ?_
    refine EvK.pure (v := .int .i64 s2.2) (w_none rfl) rfl rfl (f_move rfl rfl) ?_
    refine EvK.pure (v := Sl.val x1) (w_none rfl) rfl rfl (f_move rfl rfl) ?_
    refine EvK.pure (v := .int .i64 (x1.len : Int)) (w_none rfl) rfl rfl (f_lenL (s := x1) Try.underlying30 rfl rfl) ?_
    refine EvK.pure (v := .bool (decide (s2.2 < (x1.len : Int)))) (w_none rfl) rfl rfl (f_lss rfl rfl rfl) ?_
    refine EvK.nil ?_
    rcases ite_inv hF with ⟨c1, hF⟩ | ⟨c1, hF⟩
    · refine WP.cond_true _ rfl c1 ?_
      refine WP.skip ?_
      refine WP.seq ?_
      refine WP.block ?_
      refine WP.joinF (fun (s3 : Bool) => [(6, .bool s3), (1, Sl.val a1), (5, Sl.val x1), (7, .int .i64 s2.2)]) hF ?_ ?_
      · intro s3 E0 h3 hF
        refine WP.region ?_
        refine EvK.pure (v := Sl.val x1) (w_none rfl) rfl rfl (f_move rfl rfl) ?_
        refine EvK.pure (v := .int .i64 s2.2) (w_none rfl) rfl rfl (f_move rfl rfl) ?_
        refine EvK.pure (v := Sl.val x1) (w_none rfl) rfl rfl (f_move rfl rfl) ?_
        refine EvK.pure (v := .int .i64 s2.2) (w_none rfl) rfl rfl (f_move rfl rfl) ?_
        obtain ⟨q1, hq1, hF⟩ := hF
        refine EvK.pure (v := .pointer (some q1)) (w_none rfl) rfl rfl (f_indexAddr (s := x1) Try.underlying30 ty32.size rfl rfl rfl hq1) ?_
        refine EvK.pure (v := .pointer (some (q1.add 1))) (w_none rfl) rfl rfl (f_fieldAddr fd32_1 rfl rfl) ?_
        obtain ⟨x2, hx2, hF⟩ := hF
        refine EvK.read (v := .bool x2) (w_none rfl) rfl rfl (f_load kB ty4 rfl rfl hx2 rfl) ?_
        refine EvK.pure (v := .bool (!x2)) (w_none rfl) rfl rfl (f_not rfl rfl) ?_
        refine EvK.pure (v := k31.val (S31.mk 1 (!x2))) (w_none rfl) rfl rfl (f_build (cells := k31.enc (S31.mk 1 (!x2))) st32 rfl rfl rfl) ?_
        obtain ⟨q2, hq2, hF⟩ := hF
        refine EvK.pure (v := .pointer (some q2)) (w_none rfl) rfl rfl (f_indexAddr (s := x1) Try.underlying30 ty32.size rfl rfl rfl hq2) ?_
        obtain ⟨h4, hs1, hF⟩ := hF
        refine EvK.runN (w_none rfl) rfl (f_store k31 ty32.size (z := (S31.mk 1 (!x2))) rfl rfl rfl hs1) ?_
        rintro _ _ ⟨rfl, rfl⟩
        refine EvK.nil ?_
        refine WP.region ?_
        refine EvK.pure (v := .int .i64 s2.2) (w_none rfl) rfl rfl (f_move rfl rfl) ?_
        refine EvK.pure (v := .int .i64 (IntKind.i64.wrap (s2.2 + 1))) (w_none rfl) rfl rfl (f_add rfl rfl rfl) ?_
        refine EvK.pure (v := .int .i64 (IntKind.i64.wrap (s2.2 + 1))) (w_none rfl) rfl rfl (f_assign rfl rfl) ?_
        refine EvK.nil ?_
        exact KE.mk (s3, IntKind.i64.wrap (s2.2 + 1)) ⟨rfl, rfl, rfl, rfl, trivial⟩ hF
      · intro k3 hF
        refine WP.seq ?_
        refine WP.region ?_
        refine EvK.pure (v := .int .i64 s2.2) (w_none rfl) rfl rfl (f_move rfl rfl) ?_
        refine EvK.pure (v := Sl.val a1) (w_none rfl) rfl rfl (f_move rfl rfl) ?_
        refine EvK.pure (v := .int .i64 (a1.len : Int)) (w_none rfl) rfl rfl (f_lenL (s := a1) Try.underlying30 rfl rfl) ?_
        refine EvK.pure (v := .bool (decide (s2.2 < (a1.len : Int)))) (w_none rfl) rfl rfl (f_lss rfl rfl rfl) ?_
        refine EvK.nil ?_
        rcases ite_inv hF with ⟨c2, hF⟩ | ⟨c2, hF⟩
        · refine WP.cond_true _ rfl c2 ?_
          refine WP.draw mixed [.pure, .pure, .pure, .pure, .pure, .read, .pure, .pure, .pure, .read, .pure, .pure, .pure] [[], [0], [0, 1], [0, 1], [0, 1, 2, 3], [0, 1, 2, 3, 4], [0, 1], [0, 1], [0, 1, 6, 7], [0, 1, 6, 7, 8], [0, 1, 2, 3, 4, 5, 6, 7, 8, 9], [0, 1, 2, 3, 4, 5, 6, 7, 8, 9, 10], [0, 1, 2, 3, 4, 5, 6, 7, 8, 9, 10, 11]] [0, 1, 2, 3, 4, 5, 6, 7, 8, 9, 10, 11, 12] (by kernel_rfl) (by kernel_rfl) ?_
          refine EvI.pure (v := .bool s2.1) rfl rfl (w_none rfl) rfl (f_move rfl rfl) ?_
          refine EvI.pure (v := .bool s2.1) rfl rfl (w_none rfl) rfl (f_move rfl rfl) ?_
          rcases ite_inv hF with ⟨c3, hF⟩ | ⟨c3, hF⟩
          · refine EvI.pure (v := Sl.val x1) rfl rfl (w_some rfl rfl c3) rfl (f_move rfl rfl) ?_
            refine EvI.pure (v := .int .i64 s2.2) rfl rfl (w_some rfl rfl c3) rfl (f_move rfl rfl) ?_
            obtain ⟨q3, hq3, hF⟩ := hF
            refine EvI.pure (v := .pointer (some q3)) rfl rfl (w_some rfl rfl c3) rfl (f_indexAddr (s := x1) Try.underlying30 ty32.size rfl rfl rfl hq3) ?_
            obtain ⟨x3, hx3, hF⟩ := hF
            refine EvI.read (v := k31.val x3) rfl rfl (w_some rfl rfl c3) rfl (f_load k31 ty32 rfl rfl hx3 rfl) ?_
            refine EvI.pure (v := Sl.val a1) rfl rfl (w_some rfl rfl c3) rfl (f_move rfl rfl) ?_
            refine EvI.pure (v := .int .i64 s2.2) rfl rfl (w_some rfl rfl c3) rfl (f_move rfl rfl) ?_
            obtain ⟨q4, hq4, hF⟩ := hF
            refine EvI.pure (v := .pointer (some q4)) rfl rfl (w_some rfl rfl c3) rfl (f_indexAddr (s := a1) Try.underlying30 ty32.size rfl rfl rfl hq4) ?_
            obtain ⟨x4, hx4, hF⟩ := hF
            refine EvI.read (v := k31.val x4) rfl rfl (w_some rfl rfl c3) rfl (f_load k31 ty32 rfl rfl hx4 rfl) ?_
            refine EvI.pure (v := .bool (eq32 x3 x4)) rfl rfl (w_some rfl rfl c3) rfl (f_eqlOf rfl rfl rfl (guard32 _ _) rfl (eqIn32 _ _)) ?_
            refine EvI.pure (v := .bool (eq32 x3 x4)) rfl rfl (w_none rfl) rfl (f_pickT rfl rfl c3 rfl) ?_
            refine EvI.pure (v := .bool (eq32 x3 x4)) rfl rfl (w_none rfl) rfl (f_assign rfl rfl) ?_
            refine EvI.nil ?_
            exact KE.mk (eq32 x3 x4) ⟨rfl, rfl, rfl, rfl, trivial⟩ hF
          · refine EvI.not rfl (w_not rfl rfl c3) rfl ?_
            refine EvI.not rfl (w_not rfl rfl c3) rfl ?_
            refine EvI.not rfl (w_not rfl rfl c3) rfl ?_
            refine EvI.not rfl (w_not rfl rfl c3) rfl ?_
            refine EvI.not rfl (w_not rfl rfl c3) rfl ?_
            refine EvI.not rfl (w_not rfl rfl c3) rfl ?_
            refine EvI.not rfl (w_not rfl rfl c3) rfl ?_
            refine EvI.not rfl (w_not rfl rfl c3) rfl ?_
            refine EvI.not rfl (w_not rfl rfl c3) rfl ?_
            refine EvI.pure (v := .bool false) rfl rfl (w_none rfl) rfl (f_pickF rfl rfl c3 rfl) ?_
            refine EvI.pure (v := .bool false) rfl rfl (w_none rfl) rfl (f_assign rfl rfl) ?_
            refine EvI.nil ?_
            exact KE.mk false ⟨rfl, rfl, rfl, rfl, trivial⟩ hF
        · refine WP.cond_false _ rfl c2 ?_
          refine WP.region ?_
          refine EvK.pure (v := .bool s2.1) (w_none rfl) rfl rfl (f_move rfl rfl) ?_
          refine EvK.pure (v := .bool s2.1) (w_none rfl) rfl rfl (f_move rfl rfl) ?_
          rcases ite_inv hF with ⟨c4, hF⟩ | ⟨c4, hF⟩
          · refine EvK.pure (v := Sl.val x1) (w_some rfl rfl c4) rfl rfl (f_move rfl rfl) ?_
            refine EvK.pure (v := .int .i64 s2.2) (w_some rfl rfl c4) rfl rfl (f_move rfl rfl) ?_
            obtain ⟨q5, hq5, hF⟩ := hF
            refine EvK.pure (v := .pointer (some q5)) (w_some rfl rfl c4) rfl rfl (f_indexAddr (s := x1) Try.underlying30 ty32.size rfl rfl rfl hq5) ?_
            obtain ⟨x5, hx5, hF⟩ := hF
            refine EvK.read (v := k31.val x5) (w_some rfl rfl c4) rfl rfl (f_load k31 ty32 rfl rfl hx5 rfl) ?_
            refine EvK.pure (v := .int .i64 s2.2) (w_some rfl rfl c4) rfl rfl (f_move rfl rfl) ?_
            refine EvK.pure (v := .int .i64 (IntKind.i64.wrap ((-5) - s2.2))) (w_some rfl rfl c4) rfl rfl (f_sub rfl rfl rfl) ?_
            refine EvK.pure (v := k31.val (S31.mk (IntKind.i64.wrap ((-5) - s2.2)) false)) (w_some rfl rfl c4) rfl rfl (f_build (cells := k31.enc (S31.mk (IntKind.i64.wrap ((-5) - s2.2)) false)) st32 rfl rfl rfl) ?_
            refine EvK.pure (v := .bool (eq32 x5 (S31.mk (IntKind.i64.wrap ((-5) - s2.2)) false))) (w_some rfl rfl c4) rfl rfl (f_eqlOf rfl rfl rfl (guard32 _ _) rfl (eqIn32 _ _)) ?_
            refine EvK.pure (v := .bool (eq32 x5 (S31.mk (IntKind.i64.wrap ((-5) - s2.2)) false))) (w_none rfl) rfl rfl (f_pickT rfl rfl c4 rfl) ?_
            refine EvK.pure (v := .bool (eq32 x5 (S31.mk (IntKind.i64.wrap ((-5) - s2.2)) false))) (w_none rfl) rfl rfl (f_assign rfl rfl) ?_
            refine EvK.nil ?_
            exact KE.mk (eq32 x5 (S31.mk (IntKind.i64.wrap ((-5) - s2.2)) false)) ⟨rfl, rfl, rfl, rfl, trivial⟩ hF
          · refine EvK.not (w_not rfl rfl c4) rfl rfl ?_
            refine EvK.not (w_not rfl rfl c4) rfl rfl ?_
            refine EvK.not (w_not rfl rfl c4) rfl rfl ?_
            refine EvK.not (w_not rfl rfl c4) rfl rfl ?_
            refine EvK.not (w_not rfl rfl c4) rfl rfl ?_
            refine EvK.not (w_not rfl rfl c4) rfl rfl ?_
            refine EvK.not (w_not rfl rfl c4) rfl rfl ?_
            refine EvK.not (w_not rfl rfl c4) rfl rfl ?_
            refine EvK.pure (v := .bool false) (w_none rfl) rfl rfl (f_pickF rfl rfl c4 rfl) ?_
            refine EvK.pure (v := .bool false) (w_none rfl) rfl rfl (f_assign rfl rfl) ?_
            refine EvK.nil ?_
            exact KE.mk false ⟨rfl, rfl, rfl, rfl, trivial⟩ hF
    · refine WP.cond_false _ rfl c1 ?_
      refine WP.exit ?_
      exact KE.mk s2.1 ⟨rfl, trivial⟩ hF
end Go.Proofs.Ytgmihbchcmjmdaa

namespace Go.Proofs.Ytgmihbchcmjmdaa
open Go Go.Tr
set_option linter.unusedVariables false
set_option maxRecDepth 100000
set_option maxHeartbeats 400000
def spateref11_Manager_ordered.b1 (p1 : Sl) (p6 : Sl) (s : Int) (h : H) (K : Int ⊕ (Unit ⊕ (Sl × Bool)) → H → Prop) : Prop :=
  if (decide (s < (p6.len : Int))) = true then
    rd (ixA 2 p6 s) fun q1 =>
    rd (ld (kI .i64) (q1.add 0) h) fun x1 =>
    rd (ixA 2 p6 (IntKind.i64.wrap (s - 1))) fun q2 =>
    rd (ld (kI .i64) (q2.add 0) h) fun x2 =>
    if (x1 == x2) = true then
      K (.inr (.inr (Sl.nil, false))) h
    else
      K (.inl (IntKind.i64.wrap (s + 1))) h
  else
    K (.inr (.inl ())) h
def spateref11_Manager_ordered.b3 (p0 : Option Addr) (p1 : Sl) (p7 : Int) (s : Sl × Int) (h : H) (K : (Sl × Int) ⊕ Sl → H → Prop) : Prop :=
  if (decide (s.2 < (p1.len : Int))) = true then
    jn (fun (k6 : Sl → H → Prop) =>
      rd (ixA 2 p1 s.2) fun q4 =>
      rd (ld (kI .i64) (q4.add 0) h) fun x4 =>
      if (x4 == p7) = true then
        rd (ixA 2 p1 s.2) fun q5 =>
        rd (ld k31 q5 h) fun x5 =>
        bs 32 1 (k31.enc x5) h fun x6 h7 =>
        ap k31.n 16 32 (k31.enc z31) s.1 x6 h7 fun x7 h8 =>
        k6 x7 h8
      else
        k6 s.1 h) fun s6 h6 =>
    K (.inl (s6, IntKind.i64.wrap (s.2 + 1))) h6
  else
    K (.inr s.1) h
def spateref11_Manager_ordered.b2 (p0 : Option Addr) (p1 : Sl) (s : Sl × Int) (h : H) (K : (Sl × Int) ⊕ Sl → H → Prop) : Prop :=
  rd p0 fun q3 =>
  rd (ld (kI .i64) (q3.add 0) h) fun x3 =>
  if (decide (s.2 < x3)) = true then
    jn (fun (k5 : Sl → H → Prop) =>
      loopE (spateref11_Manager_ordered.b3 p0 p1 s.2) (s.1, 0) h (fun r3 hh => k5 r3 hh)) fun s5 h5 =>
    K (.inl (s5, IntKind.i64.wrap (s.2 + 1))) h5
  else
    K (.inr s.1) h
/-- (*spate/spateref11.Manager).ordered -/
def spateref11_Manager_ordered (a0 : Option Addr) (a1 : Sl) (h : H) (Q : (Sl × Bool) → H → Prop) : Prop :=
  jn (fun (k1 : Sl → H → Prop) =>
    loopE (spateref11_Manager_ordered.b2 a0 a1) (Sl.nil, 0) h (fun r4 hh => k1 r4 hh)) fun s1 h1 =>
  jn (fun (k2 : Unit → H → Prop) =>
    loopE (spateref11_Manager_ordered.b1 a1 s1) 1 h1 (sumK (fun r1 hh => k2 r1 hh) (fun r2 hh => Q r2 hh))) fun s2 h2 =>
  jn (fun (k3 : (Sl × Bool) → H → Prop) =>
    if ((s1.len : Int) == (a1.len : Int)) = true then
      k3 (s1, decide ((a1.len : Int) > 0)) h2
    else
      k3 (s1, false) h2) fun s3 h3 =>
  Q (s3.1, s3.2) h3
theorem spateref11_Manager_ordered.sound {a0 : Option Addr} {a1 : Sl} {h : H} {Q : (Sl × Bool) → H → Prop} (hF : spateref11_Manager_ordered a0 a1 h Q) :
    CallsH Try.prog 59 (List.toArray (α := Value) [.pointer a0, Sl.val a1]) h fun v h' => ∃ x : Sl × Bool, v = .tuple #[Sl.val x.1, .bool x.2] ∧ Q x h' := by
  refine CallsH.of_body Try.func59 rfl 67 rfl rfl ?_
  refine WP.seq ?_
  refine WP.region ?_
  refine EvK.pure (v := Sl.val Sl.nil) (w_none rfl) rfl rfl (f_assign rfl rfl) ?_
  refine EvK.pure (v := .bool false) (w_none rfl) rfl rfl (f_assign rfl rfl) ?_
  refine EvK.nil ?_
  refine WP.seq ?_
  refine WP.region ?_
  refine EvK.pure (v := Sl.val Sl.nil) (w_none rfl) rfl rfl (f_assign rfl rfl) ?_
  refine EvK.nil ?_
  refine WP.joinF (fun (s1 : Sl) => [(6, Sl.val s1), (1, Sl.val a1)]) hF ?_ ?_
  · intro s1 E0 h1 hF
    refine WP.joinF (fun (s2 : Unit) => [(1, Sl.val a1), (6, Sl.val s1)]) hF ?_ ?_
    · intro s2 E0 h2 hF
      refine WP.joinF (fun (s3 : Sl × Bool) => [(4, Sl.val s3.1), (5, .bool s3.2)]) hF ?_ ?_
      · intro s3 E0 h3 hF
        refine WP.ret ?_
        exact Ret.mk (vs := [Sl.val s3.1, .bool s3.2]) (s3.1, s3.2) ⟨rfl, rfl, trivial⟩ rfl hF
      · intro k3 hF
        refine WP.region ?_
        refine EvK.pure (v := Sl.val s1) (w_none rfl) rfl rfl (f_move rfl rfl) ?_
        refine EvK.pure (v := Sl.val s1) (w_none rfl) rfl rfl (f_move rfl rfl) ?_
        refine EvK.pure (v := .int .i64 (s1.len : Int)) (w_none rfl) rfl rfl (f_lenL (s := s1) Try.underlying30 rfl rfl) ?_
        refine EvK.pure (v := Sl.val a1) (w_none rfl) rfl rfl (f_move rfl rfl) ?_
        refine EvK.pure (v := .int .i64 (a1.len : Int)) (w_none rfl) rfl rfl (f_lenL (s := a1) Try.underlying30 rfl rfl) ?_
        refine EvK.pure (v := .bool ((s1.len : Int) == (a1.len : Int))) (w_none rfl) rfl rfl (f_eql rfl rfl rfl) ?_
        refine EvK.pure (v := .bool ((s1.len : Int) == (a1.len : Int))) (w_none rfl) rfl rfl (f_move rfl rfl) ?_
        rcases ite_inv hF with ⟨c1, hF⟩ | ⟨c1, hF⟩
        · refine EvK.pure (v := Sl.val a1) (w_some rfl rfl c1) rfl rfl (f_move rfl rfl) ?_
          refine EvK.pure (v := .int .i64 (a1.len : Int)) (w_some rfl rfl c1) rfl rfl (f_lenL (s := a1) Try.underlying30 rfl rfl) ?_
          refine EvK.pure (v := .bool (decide ((a1.len : Int) > 0))) (w_some rfl rfl c1) rfl rfl (f_gtr rfl rfl rfl) ?_
          refine EvK.pure (v := .bool (decide ((a1.len : Int) > 0))) (w_none rfl) rfl rfl (f_pickT rfl rfl c1 rfl) ?_
          refine EvK.pure (v := Sl.val s1) (w_none rfl) rfl rfl (f_assign rfl rfl) ?_
          refine EvK.pure (v := .bool (decide ((a1.len : Int) > 0))) (w_none rfl) rfl rfl (f_assign rfl rfl) ?_
          refine EvK.nil ?_
          exact KE.mk (s1, decide ((a1.len : Int) > 0)) ⟨rfl, rfl, trivial⟩ hF
        · refine EvK.not (w_not rfl rfl c1) rfl rfl ?_
          refine EvK.not (w_not rfl rfl c1) rfl rfl ?_
          refine EvK.not (w_not rfl rfl c1) rfl rfl ?_
          refine EvK.pure (v := .bool false) (w_none rfl) rfl rfl (f_pickF rfl rfl c1 rfl) ?_
          refine EvK.pure (v := Sl.val s1) (w_none rfl) rfl rfl (f_assign rfl rfl) ?_
          refine EvK.pure (v := .bool false) (w_none rfl) rfl rfl (f_assign rfl rfl) ?_
          refine EvK.nil ?_
          exact KE.mk (s1, false) ⟨rfl, rfl, trivial⟩ hF
    · intro k2 hF
      refine WP.seq ?_
      refine WP.region ?_
      refine EvK.pure (v := .int .i64 1) (w_none rfl) rfl rfl (f_assign rfl rfl) ?_
      refine EvK.nil ?_
      refine WP.block ?_
      refine WP.loopF (fun (s4 : Int) => [(9, .int .i64 s4), (1, Sl.val a1), (6, Sl.val s1)]) hF ⟨rfl, rfl, rfl, trivial⟩ ?_
      intro k4 s4 E0 h4 hF
      refine WP.seq ?_
      refine WP.seq ?_
      refine WP.region ?_
      refine EvK.pure (v := .int .i64 s4) (w_none rfl) rfl rfl (f_move rfl rfl) ?_
      refine EvK.pure (v := Sl.val s1) (w_none rfl) rfl rfl (f_move rfl rfl) ?_
      refine EvK.pure (v := .int .i64 (s1.len : Int)) (w_none rfl) rfl rfl (f_lenL (s := s1) Try.underlying30 rfl rfl) ?_
      refine EvK.pure (v := .bool (decide (s4 < (s1.len : Int)))) (w_none rfl) rfl rfl (f_lss rfl rfl rfl) ?_
      refine EvK.nil ?_
      rcases ite_inv hF with ⟨c2, hF⟩ | ⟨c2, hF⟩
      · refine WP.cond_true _ rfl c2 ?_
        refine WP.skip ?_
        refine WP.seq ?_
        refine WP.block ?_
        refine WP.seq ?_
        refine WP.draw mixed [.pure, .pure, .pure, .pure, .read, .pure, .pure, .pure, .pure, .pure, .read, .pure] [[], [], [0, 1], [0, 1, 2], [0, 1, 2, 3], [], [], [6], [5, 6, 7], [5, 6, 7, 8], [5, 6, 7, 8, 9], [0, 1, 2, 3, 4, 5, 6, 7, 8, 9, 10]] [0, 1, 2, 3, 4, 5, 6, 7, 8, 9, 10, 11] (by kernel_rfl) (by kernel_rfl) ?_
        refine EvI.pure (v := Sl.val s1) rfl rfl (w_none rfl) rfl (f_move rfl rfl) ?_
        refine EvI.pure (v := .int .i64 s4) rfl rfl (w_none rfl) rfl (f_move rfl rfl) ?_
        obtain ⟨q1, hq1, hF⟩ := hF
        refine EvI.pure (v := .pointer (some q1)) rfl rfl (w_none rfl) rfl (f_indexAddr (s := s1) Try.underlying30 ty32.size rfl rfl rfl hq1) ?_
        refine EvI.pure (v := .pointer (some (q1.add 0))) rfl rfl (w_none rfl) rfl (f_fieldAddr fd32_0 rfl rfl) ?_
        obtain ⟨x1, hx1, hF⟩ := hF
        refine EvI.read (v := .int .i64 x1) rfl rfl (w_none rfl) rfl (f_load (kI .i64) ty3 rfl rfl hx1 rfl) ?_
        refine EvI.pure (v := Sl.val s1) rfl rfl (w_none rfl) rfl (f_move rfl rfl) ?_
        refine EvI.pure (v := .int .i64 s4) rfl rfl (w_none rfl) rfl (f_move rfl rfl) ?_
        refine EvI.pure (v := .int .i64 (IntKind.i64.wrap (s4 - 1))) rfl rfl (w_none rfl) rfl (f_sub rfl rfl rfl) ?_
        obtain ⟨q2, hq2, hF⟩ := hF
        refine EvI.pure (v := .pointer (some q2)) rfl rfl (w_none rfl) rfl (f_indexAddr (s := s1) Try.underlying30 ty32.size rfl rfl rfl hq2) ?_
        refine EvI.pure (v := .pointer (some (q2.add 0))) rfl rfl (w_none rfl) rfl (f_fieldAddr fd32_0 rfl rfl) ?_
        obtain ⟨x2, hx2, hF⟩ := hF
        refine EvI.read (v := .int .i64 x2) rfl rfl (w_none rfl) rfl (f_load (kI .i64) ty3 rfl rfl hx2 rfl) ?_
        refine EvI.pure (v := .bool (x1 == x2)) rfl rfl (w_none rfl) rfl (f_eql rfl rfl rfl) ?_
        refine EvI.nil ?_
        rcases ite_inv hF with ⟨c3, hF⟩ | ⟨c3, hF⟩
        · refine WP.cond_true _ rfl c3 ?_
          refine WP.seq ?_
          refine WP.region ?_
          refine EvK.pure (v := Sl.val Sl.nil) (w_none rfl) rfl rfl (f_assign rfl rfl) ?_
          refine EvK.pure (v := .bool false) (w_none rfl) rfl rfl (f_assign rfl rfl) ?_
          refine EvK.nil ?_
          refine WP.ret ?_
          exact Ret.mk (vs := [Sl.val Sl.nil, .bool false]) (Sl.nil, false) ⟨rfl, rfl, trivial⟩ rfl hF
        · refine WP.cond_false _ rfl c3 ?_
          refine WP.skip ?_
          refine WP.region ?_
          refine EvK.pure (v := .int .i64 s4) (w_none rfl) rfl rfl (f_move rfl rfl) ?_
          refine EvK.pure (v := .int .i64 (IntKind.i64.wrap (s4 + 1))) (w_none rfl) rfl rfl (f_add rfl rfl rfl) ?_
          refine EvK.pure (v := .int .i64 (IntKind.i64.wrap (s4 + 1))) (w_none rfl) rfl rfl (f_assign rfl rfl) ?_
          refine EvK.nil ?_
          exact KE.mk (IntKind.i64.wrap (s4 + 1)) ⟨rfl, rfl, rfl, trivial⟩ hF
      · refine WP.cond_false _ rfl c2 ?_
        refine WP.exit ?_
        exact KE.mk () ⟨rfl, rfl, trivial⟩ hF
  · intro k1 hF
    refine WP.seq ?_
    refine WP.region ?_
    refine EvK.pure (v := .int .i64 0) (w_none rfl) rfl rfl (f_assign rfl rfl) ?_
    refine EvK.nil ?_
    refine WP.block ?_
    refine WP.loopF (fun (s5 : Sl × Int) => [(6, Sl.val s5.1), (7, .int .i64 s5.2), (0, .pointer a0), (1, Sl.val a1)]) hF ⟨rfl, rfl, rfl, rfl, trivial⟩ ?_
    intro k5 s5 E0 h5 hF
    refine WP.seq ?_
    refine WP.seq ?_
    refine WP.region ?_
    refine EvK.pure (v := .int .i64 s5.2) (w_none rfl) rfl rfl (f_move rfl rfl) ?_
    refine EvK.pure (v := .pointer a0) (w_none rfl) rfl rfl (f_move rfl rfl) ?_
    obtain ⟨q3, hq3, hF⟩ := hF
    refine EvK.pure (v := .pointer (some q3)) (w_none rfl) rfl rfl (f_nilCheck rfl (congrArg Value.pointer hq3)) ?_
    refine EvK.pure (v := .pointer (some (q3.add 0))) (w_none rfl) rfl rfl (f_fieldAddr fd93_0 rfl rfl) ?_
    obtain ⟨x3, hx3, hF⟩ := hF
    refine EvK.read (v := .int .i64 x3) (w_none rfl) rfl rfl (f_load (kI .i64) ty3 rfl rfl hx3 rfl) ?_
    refine EvK.pure (v := .bool (decide (s5.2 < x3))) (w_none rfl) rfl rfl (f_lss rfl rfl rfl) ?_
    refine EvK.nil ?_
    rcases ite_inv hF with ⟨c4, hF⟩ | ⟨c4, hF⟩
    · refine WP.cond_true _ rfl c4 ?_
      refine WP.skip ?_
      refine WP.joinF (fun (s6 : Sl) => [(6, Sl.val s6), (0, .pointer a0), (1, Sl.val a1), (7, .int .i64 s5.2)]) hF ?_ ?_
      · intro s6 E0 h6 hF
        refine WP.region ?_
        refine EvK.pure (v := .int .i64 s5.2) (w_none rfl) rfl rfl (f_move rfl rfl) ?_
        refine EvK.pure (v := .int .i64 (IntKind.i64.wrap (s5.2 + 1))) (w_none rfl) rfl rfl (f_add rfl rfl rfl) ?_
        refine EvK.pure (v := .int .i64 (IntKind.i64.wrap (s5.2 + 1))) (w_none rfl) rfl rfl (f_assign rfl rfl) ?_
        refine EvK.nil ?_
        exact KE.mk (s6, IntKind.i64.wrap (s5.2 + 1)) ⟨rfl, rfl, rfl, rfl, trivial⟩ hF
      · intro k6 hF
        refine WP.block ?_
        refine WP.seq ?_
        refine WP.region ?_
        refine EvK.pure (v := .int .i64 0) (w_none rfl) rfl rfl (f_assign rfl rfl) ?_
        refine EvK.nil ?_
        refine WP.block ?_
        refine WP.loopF (fun (s7 : Sl × Int) => [(6, Sl.val s7.1), (8, .int .i64 s7.2), (0, .pointer a0), (1, Sl.val a1), (7, .int .i64 s5.2)]) hF ⟨rfl, rfl, rfl, rfl, rfl, trivial⟩ ?_
        intro k7 s7 E0 h7 hF
        refine WP.seq ?_
        refine WP.seq ?_
        refine WP.region ?_
        refine EvK.pure (v := .int .i64 s7.2) (w_none rfl) rfl rfl (f_move rfl rfl) ?_
        refine EvK.pure (v := Sl.val a1) (w_none rfl) rfl rfl (f_move rfl rfl) ?_
        refine EvK.pure (v := .int .i64 (a1.len : Int)) (w_none rfl) rfl rfl (f_lenL (s := a1) Try.underlying30 rfl rfl) ?_
        refine EvK.pure (v := .bool (decide (s7.2 < (a1.len : Int)))) (w_none rfl) rfl rfl (f_lss rfl rfl rfl) ?_
        refine EvK.nil ?_
        rcases ite_inv hF with ⟨c5, hF⟩ | ⟨c5, hF⟩
        · refine WP.cond_true _ rfl c5 ?_
          refine WP.skip ?_
          refine WP.joinF (fun (s8 : Sl) => [(6, Sl.val s8), (0, .pointer a0), (1, Sl.val a1), (7, .int .i64 s5.2), (8, .int .i64 s7.2)]) hF ?_ ?_
          · intro s8 E0 h8 hF
            refine WP.region ?_
            refine EvK.pure (v := .int .i64 s7.2) (w_none rfl) rfl rfl (f_move rfl rfl) ?_
            refine EvK.pure (v := .int .i64 (IntKind.i64.wrap (s7.2 + 1))) (w_none rfl) rfl rfl (f_add rfl rfl rfl) ?_
            refine EvK.pure (v := .int .i64 (IntKind.i64.wrap (s7.2 + 1))) (w_none rfl) rfl rfl (f_assign rfl rfl) ?_
            refine EvK.nil ?_
            exact KE.mk (s8, IntKind.i64.wrap (s7.2 + 1)) ⟨rfl, rfl, rfl, rfl, rfl, trivial⟩ hF
          · intro k8 hF
            refine WP.block ?_
            refine WP.seq ?_
            refine WP.region ?_
            refine EvK.pure (v := Sl.val a1) (w_none rfl) rfl rfl (f_move rfl rfl) ?_
            refine EvK.pure (v := .int .i64 s7.2) (w_none rfl) rfl rfl (f_move rfl rfl) ?_
            obtain ⟨q4, hq4, hF⟩ := hF
            refine EvK.pure (v := .pointer (some q4)) (w_none rfl) rfl rfl (f_indexAddr (s := a1) Try.underlying30 ty32.size rfl rfl rfl hq4) ?_
            refine EvK.pure (v := .pointer (some (q4.add 0))) (w_none rfl) rfl rfl (f_fieldAddr fd32_0 rfl rfl) ?_
            obtain ⟨x4, hx4, hF⟩ := hF
            refine EvK.read (v := .int .i64 x4) (w_none rfl) rfl rfl (f_load (kI .i64) ty3 rfl rfl hx4 rfl) ?_
            refine EvK.pure (v := .int .i64 s5.2) (w_none rfl) rfl rfl (f_move rfl rfl) ?_
            refine EvK.pure (v := .bool (x4 == s5.2)) (w_none rfl) rfl rfl (f_eql rfl rfl rfl) ?_
            refine EvK.nil ?_
            rcases ite_inv hF with ⟨c6, hF⟩ | ⟨c6, hF⟩
            · refine WP.cond_true _ rfl c6 ?_
              refine WP.region ?_
              refine EvK.pure (v := Sl.val s7.1) (w_none rfl) rfl rfl (f_move rfl rfl) ?_
              refine EvK.pure (v := Sl.val a1) (w_none rfl) rfl rfl (f_move rfl rfl) ?_
              refine EvK.pure (v := .int .i64 s7.2) (w_none rfl) rfl rfl (f_move rfl rfl) ?_
              obtain ⟨q5, hq5, hF⟩ := hF
              refine EvK.pure (v := .pointer (some q5)) (w_none rfl) rfl rfl (f_indexAddr (s := a1) Try.underlying30 ty32.size rfl rfl rfl hq5) ?_
              obtain ⟨x5, hx5, hF⟩ := hF
              refine EvK.read (v := k31.val x5) (w_none rfl) rfl rfl (f_load k31 ty32 rfl rfl hx5 rfl) ?_
              refine EvK.alloc (w_none rfl) rfl rfl (f_buildSliceF Try.underlying30 el32 (by decide) rfl rfl rfl hF) ?_
              rintro _ h9 ⟨x6, rfl, hF⟩
              refine EvK.run (w_none rfl) rfl rfl (f_appendE (s := s7.1) (x := x6) Try.underlying30 el32 rfl rfl rfl hF) ?_
              rintro _ h10 ⟨x7, rfl, hF⟩
              refine EvK.pure (v := Sl.val x7) (w_none rfl) rfl rfl (f_assign rfl rfl) ?_
              refine EvK.nil ?_
              exact KE.mk x7 ⟨rfl, rfl, rfl, rfl, rfl, trivial⟩ hF
            · refine WP.cond_false _ rfl c6 ?_
              refine WP.skip ?_
              exact KE.mk s7.1 ⟨rfl, rfl, rfl, rfl, rfl, trivial⟩ hF
        · refine WP.cond_false _ rfl c5 ?_
          refine WP.exit ?_
          exact KE.mk s7.1 ⟨rfl, rfl, rfl, rfl, trivial⟩ hF
    · refine WP.cond_false _ rfl c4 ?_
      refine WP.exit ?_
      exact KE.mk s5.1 ⟨rfl, rfl, trivial⟩ hF
end Go.Proofs.Ytgmihbchcmjmdaa

namespace Go.Proofs.Ytgmihbchcmjmdaa
open Go Go.Tr
set_option linter.unusedVariables false
set_option maxRecDepth 100000
set_option maxHeartbeats 400000
/-- (*spate/spateref11.Manager).Ask -/
def spateref11_Manager_Ask (a0 : Option Addr) (a1 : Int) (a2 : Sl) (h : H) (Q : (Bool × Int) → H → Prop) : Prop :=
  spateref11_Manager_ordered a0 a2 h fun r1 h1 =>
  jn (fun (k1 : Bool → H → Prop) =>
    if (decide (a1 < 0)) = true then
      k1 true h1
    else
      k1 (!r1.2) h1) fun s1 h2 =>
  if s1 = true then
    Q (false, 1) h2
  else
    jn (fun (k2 : Bool → H → Prop) =>
      rd a0 fun q8 =>
      rd (ld kL (q8.add 1) h2) fun x13 =>
      spateref11_find x13 a1 h2 fun r4 h15 =>
      if (decide (r4 ≥ 0)) = true then
        k2 true h15
      else
        rd a0 fun q9 =>
        rd (ld kL (q9.add 2) h15) fun x14 =>
        spateref11_find x14 a1 h15 fun r5 h16 =>
        k2 (decide (r5 ≥ 0)) h16) fun s2 h3 =>
    if s2 = true then
      Q (false, 41) h3
    else
      al 99 (k98.enc z98) h3 fun q1 h4 =>
      rd (st k98 q1 (S98.mk a1 r1.1) h4) fun h5 =>
      jn (fun (k3 : Bool → H → Prop) =>
        rd a0 fun q6 =>
        rd (ld kL (q6.add 1) h5) fun x9 =>
        rd (ld k98 q1 h5) fun x10 =>
        spateref11_conflicts x9 x10 h5 fun r2 h13 =>
        if r2 = true then
          k3 true h13
        else
          rd a0 fun q7 =>
          rd (ld kL (q7.add 2) h13) fun x11 =>
          rd (ld k98 q1 h13) fun x12 =>
          spateref11_conflicts x11 x12 h13 fun r3 h14 =>
          k3 r3 h14) fun s3 h6 =>
      if s3 = true then
        rd a0 fun q2 =>
        rd (ld kL (q2.add 2) h6) fun x1 =>
        rd (ld k98 q1 h6) fun x2 =>
        bs 99 1 (k98.enc x2) h6 fun x3 h7 =>
        ap k98.n 32 99 (k98.enc z98) x1 x3 h7 fun x4 h8 =>
        rd a0 fun q3 =>
        rd (st kL (q3.add 2) x4 h8) fun h9 =>
        Q (false, 0) h9
      else
        rd a0 fun q4 =>
        rd (ld kL (q4.add 1) h6) fun x5 =>
        rd (ld k98 q1 h6) fun x6 =>
        bs 99 1 (k98.enc x6) h6 fun x7 h10 =>
        ap k98.n 32 99 (k98.enc z98) x5 x7 h10 fun x8 h11 =>
        rd a0 fun q5 =>
        rd (st kL (q5.add 1) x8 h11) fun h12 =>
        Q (true, 0) h12
theorem spateref11_Manager_Ask.sound {a0 : Option Addr} {a1 : Int} {a2 : Sl} {h : H} {Q : (Bool × Int) → H → Prop} (hF : spateref11_Manager_Ask a0 a1 a2 h Q) :
    CallsH Try.prog 51 (List.toArray (α := Value) [.pointer a0, .int .i64 a1, Sl.val a2]) h fun v h' => ∃ x : Bool × Int, v = .tuple #[.bool x.1, .int .i64 x.2] ∧ Q x h' := by
  refine CallsH.of_body Try.func51 rfl 76 rfl rfl ?_
  refine WP.seq ?_
  refine WP.region ?_
  refine EvK.pure (v := .bool false) (w_none rfl) rfl rfl (f_assign rfl rfl) ?_
  refine EvK.pure (v := .int .i64 0) (w_none rfl) rfl rfl (f_assign rfl rfl) ?_
  refine EvK.nil ?_
  refine WP.seq ?_
  refine WP.region ?_
  refine EvK.pure (v := .pointer a0) (w_none rfl) rfl rfl (f_move rfl rfl) ?_
  refine EvK.pure (v := Sl.val a2) (w_none rfl) rfl rfl (f_move rfl rfl) ?_
  refine EvK.call (w_none rfl) rfl rfl (enterH Try.func59 rfl rfl rfl rfl (spateref11_Manager_ordered.sound hF)) ?_
  rintro _ h1 ⟨r1, rfl, hF⟩
  refine EvK.pure (v := .tuple #[Sl.val r1.1, .bool r1.2]) (w_none rfl) rfl rfl (f_move rfl rfl) ?_
  refine EvK.pure (v := Sl.val r1.1) (w_none rfl) rfl rfl (f_extract (vs := #[Sl.val r1.1, .bool r1.2]) rfl rfl rfl) ?_
  refine EvK.pure (v := .bool r1.2) (w_none rfl) rfl rfl (f_extract (vs := #[Sl.val r1.1, .bool r1.2]) rfl rfl rfl) ?_
  refine EvK.pure (v := Sl.val r1.1) (w_none rfl) rfl rfl (f_assign rfl rfl) ?_
  refine EvK.pure (v := .bool r1.2) (w_none rfl) rfl rfl (f_assign rfl rfl) ?_
  refine EvK.nil ?_
  refine WP.seq ?_
  refine WP.joinF (fun (s1 : Bool) => [(22, .bool s1), (0, .pointer a0), (1, .int .i64 a1), (8, Sl.val r1.1)]) hF ?_ ?_
  · intro s1 E0 h2 hF
    rcases ite_inv hF with ⟨c1, hF⟩ | ⟨c1, hF⟩
    · refine WP.cond_true _ rfl c1 ?_
      refine WP.seq ?_
      refine WP.region ?_
      refine EvK.pure (v := .bool false) (w_none rfl) rfl rfl (f_assign rfl rfl) ?_
      refine EvK.pure (v := .int .i64 1) (w_none rfl) rfl rfl (f_assign rfl rfl) ?_
      refine EvK.nil ?_
      refine WP.ret ?_
      exact Ret.mk (vs := [.bool false, .int .i64 1]) (false, 1) ⟨rfl, rfl, trivial⟩ rfl hF
    · refine WP.cond_false _ rfl c1 ?_
      refine WP.skip ?_
      refine WP.seq ?_
      refine WP.joinF (fun (s2 : Bool) => [(38, .bool s2), (0, .pointer a0), (1, .int .i64 a1), (8, Sl.val r1.1)]) hF ?_ ?_
      · intro s2 E0 h3 hF
        rcases ite_inv hF with ⟨c2, hF⟩ | ⟨c2, hF⟩
        · refine WP.cond_true _ rfl c2 ?_
          refine WP.seq ?_
          refine WP.region ?_
          refine EvK.pure (v := .bool false) (w_none rfl) rfl rfl (f_assign rfl rfl) ?_
          refine EvK.pure (v := .int .i64 41) (w_none rfl) rfl rfl (f_assign rfl rfl) ?_
          refine EvK.nil ?_
          refine WP.ret ?_
          exact Ret.mk (vs := [.bool false, .int .i64 41]) (false, 41) ⟨rfl, rfl, trivial⟩ rfl hF
        · refine WP.cond_false _ rfl c2 ?_
          refine WP.skip ?_
          refine WP.seq ?_
          refine WP.region ?_
          refine EvK.pure (v := .int .i64 a1) (w_none rfl) rfl rfl (f_move rfl rfl) ?_
          refine EvK.pure (v := Sl.val r1.1) (w_none rfl) rfl rfl (f_move rfl rfl) ?_
          refine EvK.pure (v := k98.val (S98.mk a1 r1.1)) (w_none rfl) rfl rfl (f_build (cells := k98.enc (S98.mk a1 r1.1)) st99 rfl rfl rfl) ?_
          refine EvK.alloc (w_none rfl) rfl rfl (f_allocF zero99 rfl rfl hF) ?_
          rintro _ h4 ⟨q1, rfl, hF⟩
          obtain ⟨h5, hs1, hF⟩ := hF
          refine EvK.runN (w_none rfl) rfl (f_store k98 ty99.size (z := (S98.mk a1 r1.1)) rfl rfl rfl hs1) ?_
          rintro _ _ ⟨rfl, rfl⟩
          refine EvK.nil ?_
          refine WP.seq ?_
          refine WP.joinF (fun (s3 : Bool) => [(55, .bool s3), (0, .pointer a0), (10, .pointer (some q1))]) hF ?_ ?_
          · intro s3 E0 h6 hF
            rcases ite_inv hF with ⟨c3, hF⟩ | ⟨c3, hF⟩
            · refine WP.cond_true _ rfl c3 ?_
              refine WP.seq ?_
              refine WP.draw mixed [.pure, .pure, .pure, .pure, .read, .read, .alloc, .eff [], .pure, .pure, .eff []] [[], [], [1], [1, 2], [1, 2, 3], [], [5], [1, 2, 3, 4, 5, 6], [0, 1, 2, 3, 4, 5, 6, 7], [0, 1, 2, 3, 4, 5, 6, 7, 8], [0, 1, 2, 3, 4, 5, 6, 7, 8, 9]] [0, 1, 2, 3, 4, 5, 6, 7, 8, 9, 10] (by kernel_rfl) (by kernel_rfl) ?_
              refine EvI.pure (v := .pointer a0) rfl rfl (w_none rfl) rfl (f_move rfl rfl) ?_
              refine EvI.pure (v := .pointer a0) rfl rfl (w_none rfl) rfl (f_move rfl rfl) ?_
              obtain ⟨q2, hq1, hF⟩ := hF
              refine EvI.pure (v := .pointer (some q2)) rfl rfl (w_none rfl) rfl (f_nilCheck rfl (congrArg Value.pointer hq1)) ?_
              refine EvI.pure (v := .pointer (some (q2.add 2))) rfl rfl (w_none rfl) rfl (f_fieldAddr fd93_2 rfl rfl) ?_
              obtain ⟨x1, hx1, hF⟩ := hF
              refine EvI.read (v := Sl.val x1) rfl rfl (w_none rfl) rfl (f_load kL ty91 rfl rfl hx1 rfl) ?_
              obtain ⟨x2, hx2, hF⟩ := hF
              refine EvI.read (v := k98.val x2) rfl rfl (w_none rfl) rfl (f_load k98 ty99 rfl rfl hx2 rfl) ?_
              refine EvI.alloc rfl rfl (w_none rfl) rfl (f_buildSliceF Try.underlying91 el99 (by decide) rfl rfl rfl hF) ?_
              rintro _ h7 ⟨x3, rfl, hF⟩
              refine EvI.run rfl rfl (w_none rfl) rfl (f_appendE (s := x1) (x := x3) Try.underlying91 el99 rfl rfl rfl hF) ?_
              rintro _ h8 ⟨x4, rfl, hF⟩
              refine ⟨⟨chk_no rfl, chk_no rfl, trivial⟩, ?_⟩
              obtain ⟨q3, hq2, hF⟩ := hF
              refine EvI.pure (v := .pointer (some q3)) rfl rfl (w_none rfl) rfl (f_nilCheck rfl (congrArg Value.pointer hq2)) ?_
              refine EvI.pure (v := .pointer (some (q3.add 2))) rfl rfl (w_none rfl) rfl (f_fieldAddr fd93_2 rfl rfl) ?_
              obtain ⟨h9, hs2, hF⟩ := hF
              refine EvI.runN rfl rfl (w_none rfl) rfl (f_store kL ty91.size (z := x4) rfl rfl rfl hs2) ?_
              rintro _ _ ⟨rfl, rfl⟩
              refine ⟨⟨chk_no rfl, chk_no rfl, trivial⟩, ?_⟩
              refine EvI.nil ?_
              refine WP.seq ?_
              refine WP.region ?_
              refine EvK.pure (v := .bool false) (w_none rfl) rfl rfl (f_assign rfl rfl) ?_
              refine EvK.pure (v := .int .i64 0) (w_none rfl) rfl rfl (f_assign rfl rfl) ?_
              refine EvK.nil ?_
              refine WP.ret ?_
              exact Ret.mk (vs := [.bool false, .int .i64 0]) (false, 0) ⟨rfl, rfl, trivial⟩ rfl hF
            · refine WP.cond_false _ rfl c3 ?_
              refine WP.skip ?_
              refine WP.seq ?_
              refine WP.draw mixed [.pure, .pure, .pure, .pure, .read, .read, .alloc, .eff [], .pure, .pure, .eff []] [[], [], [1], [1, 2], [1, 2, 3], [], [5], [1, 2, 3, 4, 5, 6], [0, 1, 2, 3, 4, 5, 6, 7], [0, 1, 2, 3, 4, 5, 6, 7, 8], [0, 1, 2, 3, 4, 5, 6, 7, 8, 9]] [0, 1, 2, 3, 4, 5, 6, 7, 8, 9, 10] (by kernel_rfl) (by kernel_rfl) ?_
              refine EvI.pure (v := .pointer a0) rfl rfl (w_none rfl) rfl (f_move rfl rfl) ?_
              refine EvI.pure (v := .pointer a0) rfl rfl (w_none rfl) rfl (f_move rfl rfl) ?_
              obtain ⟨q4, hq3, hF⟩ := hF
              refine EvI.pure (v := .pointer (some q4)) rfl rfl (w_none rfl) rfl (f_nilCheck rfl (congrArg Value.pointer hq3)) ?_
              refine EvI.pure (v := .pointer (some (q4.add 1))) rfl rfl (w_none rfl) rfl (f_fieldAddr fd93_1 rfl rfl) ?_
              obtain ⟨x5, hx3, hF⟩ := hF
              refine EvI.read (v := Sl.val x5) rfl rfl (w_none rfl) rfl (f_load kL ty91 rfl rfl hx3 rfl) ?_
              obtain ⟨x6, hx4, hF⟩ := hF
              refine EvI.read (v := k98.val x6) rfl rfl (w_none rfl) rfl (f_load k98 ty99 rfl rfl hx4 rfl) ?_
              refine EvI.alloc rfl rfl (w_none rfl) rfl (f_buildSliceF Try.underlying91 el99 (by decide) rfl rfl rfl hF) ?_
              rintro _ h10 ⟨x7, rfl, hF⟩
              refine EvI.run rfl rfl (w_none rfl) rfl (f_appendE (s := x5) (x := x7) Try.underlying91 el99 rfl rfl rfl hF) ?_
              rintro _ h11 ⟨x8, rfl, hF⟩
              refine ⟨⟨chk_no rfl, chk_no rfl, trivial⟩, ?_⟩
              obtain ⟨q5, hq4, hF⟩ := hF
              refine EvI.pure (v := .pointer (some q5)) rfl rfl (w_none rfl) rfl (f_nilCheck rfl (congrArg Value.pointer hq4)) ?_
              refine EvI.pure (v := .pointer (some (q5.add 1))) rfl rfl (w_none rfl) rfl (f_fieldAddr fd93_1 rfl rfl) ?_
              obtain ⟨h12, hs3, hF⟩ := hF
              refine EvI.runN rfl rfl (w_none rfl) rfl (f_store kL ty91.size (z := x8) rfl rfl rfl hs3) ?_
              rintro _ _ ⟨rfl, rfl⟩
              refine ⟨⟨chk_no rfl, chk_no rfl, trivial⟩, ?_⟩
              refine EvI.nil ?_
              refine WP.seq ?_
              refine WP.region ?_
              refine EvK.pure (v := .bool true) (w_none rfl) rfl rfl (f_assign rfl rfl) ?_
              refine EvK.pure (v := .int .i64 0) (w_none rfl) rfl rfl (f_assign rfl rfl) ?_
              refine EvK.nil ?_
              refine WP.ret ?_
              exact Ret.mk (vs := [.bool true, .int .i64 0]) (true, 0) ⟨rfl, rfl, trivial⟩ rfl hF
          · intro k3 hF
            refine WP.draw mixed [.pure, .pure, .pure, .read, .read, .eff [], .pure, .pure, .pure, .pure, .read, .read, .eff [], .pure] [[], [0], [0, 1], [0, 1, 2], [], [0, 1, 2, 3, 4], [0, 1, 2, 3, 4, 5], [0, 1, 2, 3, 4, 5, 6], [0, 1, 2, 3, 4, 5, 6, 7], [0, 1, 2, 3, 4, 5, 6, 7, 8], [0, 1, 2, 3, 4, 5, 6, 7, 8, 9], [0, 1, 2, 3, 4, 5, 6], [0, 1, 2, 3, 4, 5, 6, 7, 8, 9, 10, 11], [0, 1, 2, 3, 4, 5, 6, 7, 8, 9, 10, 11, 12]] [0, 1, 2, 3, 4, 5, 6, 7, 8, 9, 10, 11, 12, 13] (by kernel_rfl) (by kernel_rfl) ?_
            refine EvI.pure (v := .pointer a0) rfl rfl (w_none rfl) rfl (f_move rfl rfl) ?_
            obtain ⟨q6, hq5, hF⟩ := hF
            refine EvI.pure (v := .pointer (some q6)) rfl rfl (w_none rfl) rfl (f_nilCheck rfl (congrArg Value.pointer hq5)) ?_
            refine EvI.pure (v := .pointer (some (q6.add 1))) rfl rfl (w_none rfl) rfl (f_fieldAddr fd93_1 rfl rfl) ?_
            obtain ⟨x9, hx5, hF⟩ := hF
            refine EvI.read (v := Sl.val x9) rfl rfl (w_none rfl) rfl (f_load kL ty91 rfl rfl hx5 rfl) ?_
            obtain ⟨x10, hx6, hF⟩ := hF
            refine EvI.read (v := k98.val x10) rfl rfl (w_none rfl) rfl (f_load k98 ty99 rfl rfl hx6 rfl) ?_
            refine EvI.call rfl rfl (w_none rfl) rfl (enterH Try.func60 rfl rfl rfl rfl (spateref11_conflicts.sound hF)) ?_
            rintro _ h13 ⟨r2, rfl, hF⟩
            refine ⟨⟨chk_no rfl, chk_no rfl, trivial⟩, ?_⟩
            refine EvI.pure (v := .bool r2) rfl rfl (w_none rfl) rfl (f_move rfl rfl) ?_
            rcases ite_inv hF with ⟨c4, hF⟩ | ⟨c4, hF⟩
            · refine EvI.not rfl (w_not rfl rfl c4) rfl ?_
              refine EvI.not rfl (w_not rfl rfl c4) rfl ?_
              refine EvI.not rfl (w_not rfl rfl c4) rfl ?_
              refine EvI.not rfl (w_not rfl rfl c4) rfl ?_
              refine EvI.not rfl (w_not rfl rfl c4) rfl ?_
              refine EvI.not rfl (w_not rfl rfl c4) rfl ?_
              refine EvI.pure (v := .bool true) rfl rfl (w_none rfl) rfl (f_pickT rfl rfl c4 rfl) ?_
              refine EvI.nil ?_
              exact KE.mk true ⟨rfl, rfl, rfl, trivial⟩ hF
            · refine EvI.pure (v := .pointer a0) rfl rfl (w_some rfl rfl c4) rfl (f_move rfl rfl) ?_
              obtain ⟨q7, hq6, hF⟩ := hF
              refine EvI.pure (v := .pointer (some q7)) rfl rfl (w_some rfl rfl c4) rfl (f_nilCheck rfl (congrArg Value.pointer hq6)) ?_
              refine EvI.pure (v := .pointer (some (q7.add 2))) rfl rfl (w_some rfl rfl c4) rfl (f_fieldAddr fd93_2 rfl rfl) ?_
              obtain ⟨x11, hx7, hF⟩ := hF
              refine EvI.read (v := Sl.val x11) rfl rfl (w_some rfl rfl c4) rfl (f_load kL ty91 rfl rfl hx7 rfl) ?_
              obtain ⟨x12, hx8, hF⟩ := hF
              refine EvI.read (v := k98.val x12) rfl rfl (w_some rfl rfl c4) rfl (f_load k98 ty99 rfl rfl hx8 rfl) ?_
              refine EvI.call rfl rfl (w_some rfl rfl c4) rfl (enterH Try.func60 rfl rfl rfl rfl (spateref11_conflicts.sound hF)) ?_
              rintro _ h14 ⟨r3, rfl, hF⟩
              refine ⟨⟨chk_no rfl, chk_no rfl, chk_no rfl, chk_no rfl, trivial⟩, ?_⟩
              refine EvI.pure (v := .bool r3) rfl rfl (w_none rfl) rfl (f_pickF rfl rfl c4 rfl) ?_
              refine EvI.nil ?_
              exact KE.mk r3 ⟨rfl, rfl, rfl, trivial⟩ hF
      · intro k2 hF
        refine WP.region ?_
        refine EvK.pure (v := .pointer a0) (w_none rfl) rfl rfl (f_move rfl rfl) ?_
        obtain ⟨q8, hq7, hF⟩ := hF
        refine EvK.pure (v := .pointer (some q8)) (w_none rfl) rfl rfl (f_nilCheck rfl (congrArg Value.pointer hq7)) ?_
        refine EvK.pure (v := .pointer (some (q8.add 1))) (w_none rfl) rfl rfl (f_fieldAddr fd93_1 rfl rfl) ?_
        obtain ⟨x13, hx9, hF⟩ := hF
        refine EvK.read (v := Sl.val x13) (w_none rfl) rfl rfl (f_load kL ty91 rfl rfl hx9 rfl) ?_
        refine EvK.pure (v := .int .i64 a1) (w_none rfl) rfl rfl (f_move rfl rfl) ?_
        refine EvK.call (w_none rfl) rfl rfl (enterH Try.func52 rfl rfl rfl rfl (spateref11_find.sound hF)) ?_
        rintro _ h15 ⟨r4, rfl, hF⟩
        refine EvK.pure (v := .bool (decide (r4 ≥ 0))) (w_none rfl) rfl rfl (f_geq rfl rfl rfl) ?_
        refine EvK.pure (v := .bool (decide (r4 ≥ 0))) (w_none rfl) rfl rfl (f_move rfl rfl) ?_
        rcases ite_inv hF with ⟨c5, hF⟩ | ⟨c5, hF⟩
        · refine EvK.not (w_not rfl rfl c5) rfl rfl ?_
          refine EvK.not (w_not rfl rfl c5) rfl rfl ?_
          refine EvK.not (w_not rfl rfl c5) rfl rfl ?_
          refine EvK.not (w_not rfl rfl c5) rfl rfl ?_
          refine EvK.not (w_not rfl rfl c5) rfl rfl ?_
          refine EvK.not (w_not rfl rfl c5) rfl rfl ?_
          refine EvK.not (w_not rfl rfl c5) rfl rfl ?_
          refine EvK.pure (v := .bool true) (w_none rfl) rfl rfl (f_pickT rfl rfl c5 rfl) ?_
          refine EvK.nil ?_
          exact KE.mk true ⟨rfl, rfl, rfl, rfl, trivial⟩ hF
        · refine EvK.pure (v := .pointer a0) (w_some rfl rfl c5) rfl rfl (f_move rfl rfl) ?_
          obtain ⟨q9, hq8, hF⟩ := hF
          refine EvK.pure (v := .pointer (some q9)) (w_some rfl rfl c5) rfl rfl (f_nilCheck rfl (congrArg Value.pointer hq8)) ?_
          refine EvK.pure (v := .pointer (some (q9.add 2))) (w_some rfl rfl c5) rfl rfl (f_fieldAddr fd93_2 rfl rfl) ?_
          obtain ⟨x14, hx10, hF⟩ := hF
          refine EvK.read (v := Sl.val x14) (w_some rfl rfl c5) rfl rfl (f_load kL ty91 rfl rfl hx10 rfl) ?_
          refine EvK.pure (v := .int .i64 a1) (w_some rfl rfl c5) rfl rfl (f_move rfl rfl) ?_
          refine EvK.call (w_some rfl rfl c5) rfl rfl (enterH Try.func52 rfl rfl rfl rfl (spateref11_find.sound hF)) ?_
          rintro _ h16 ⟨r5, rfl, hF⟩
          refine EvK.pure (v := .bool (decide (r5 ≥ 0))) (w_some rfl rfl c5) rfl rfl (f_geq rfl rfl rfl) ?_
          refine EvK.pure (v := .bool (decide (r5 ≥ 0))) (w_none rfl) rfl rfl (f_pickF rfl rfl c5 rfl) ?_
          refine EvK.nil ?_
          exact KE.mk (decide (r5 ≥ 0)) ⟨rfl, rfl, rfl, rfl, trivial⟩ hF
  · intro k1 hF
    refine WP.region ?_
    refine EvK.pure (v := .int .i64 a1) (w_none rfl) rfl rfl (f_move rfl rfl) ?_
    refine EvK.pure (v := .bool (decide (a1 < 0))) (w_none rfl) rfl rfl (f_lss rfl rfl rfl) ?_
    refine EvK.pure (v := .bool (decide (a1 < 0))) (w_none rfl) rfl rfl (f_move rfl rfl) ?_
    rcases ite_inv hF with ⟨c6, hF⟩ | ⟨c6, hF⟩
    · refine EvK.not (w_not rfl rfl c6) rfl rfl ?_
      refine EvK.not (w_not rfl rfl c6) rfl rfl ?_
      refine EvK.pure (v := .bool true) (w_none rfl) rfl rfl (f_pickT rfl rfl c6 rfl) ?_
      refine EvK.nil ?_
      exact KE.mk true ⟨rfl, rfl, rfl, rfl, trivial⟩ hF
    · refine EvK.pure (v := .bool r1.2) (w_some rfl rfl c6) rfl rfl (f_move rfl rfl) ?_
      refine EvK.pure (v := .bool (!r1.2)) (w_some rfl rfl c6) rfl rfl (f_not rfl rfl) ?_
      refine EvK.pure (v := .bool (!r1.2)) (w_none rfl) rfl rfl (f_pickF rfl rfl c6 rfl) ?_
      refine EvK.nil ?_
      exact KE.mk (!r1.2) ⟨rfl, rfl, rfl, rfl, trivial⟩ hF
end Go.Proofs.Ytgmihbchcmjmdaa

namespace Go.Proofs.Ytgmihbchcmjmdaa
open Go Go.Tr
set_option linter.unusedVariables false
set_option maxRecDepth 100000
set_option maxHeartbeats 400000
/-- spate/spatelaw11.step -/
def spatelaw11_step (a0 : Option Addr) (a1 : Option Addr) (a2 : S52) (h : H) (Q : Bool → H → Prop) : Prop :=
  al 53 (k52.enc a2) h fun q1 h1 =>
  rd (ld (kI .i64) (q1.add 0) h1) fun x1 =>
  if (x1 == 1) = true then
    rd (ld kL (q1.add 2) h1) fun x2 =>
    spatelaw11_set x2 h1 fun r1 h2 =>
    spatelaw11_lend r1 h2 fun r2 h3 =>
    rd (ld (kI .i64) (q1.add 1) h3) fun x3 =>
    locks_Manager_Ask a0 x3 r2 h3 fun r3 h4 =>
    spatelaw11_kept r2 r1 h4 fun r4 h5 =>
    rd (ld (kI .i64) (q1.add 1) h5) fun x4 =>
    spateref11_Manager_Ask a1 x4 r1 h5 fun r5 h6 =>
    jn (fun (k1 : Bool → H → Prop) =>
      if r4 = true then
        if (r3.1 == r5.1) = true then
          spatelaw11_is r3.2 r5.2 h6 fun r6 h8 =>
          k1 r6 h8
        else
          k1 false h6
      else
        k1 false h6) fun s1 h7 =>
    Q s1 h7
  else
    if (x1 == 2) = true then
      rd (ld (kI .i64) (q1.add 1) h1) fun x5 =>
      locks_Manager_Free a0 x5 h1 fun r7 h9 =>
      rd (ld (kI .i64) (q1.add 1) h9) fun x6 =>
      spateref11_Manager_Free a1 x6 h9 fun r8 h10 =>
      jn (fun (k2 : Bool → H → Prop) =>
        spatelaw11_SameInts r7.1 r8.1 h10 fun r9 h12 =>
        if r9 = true then
          spatelaw11_is r7.2 r8.2 h12 fun r10 h13 =>
          k2 r10 h13
        else
          k2 false h12) fun s2 h11 =>
      Q s2 h11
    else
      if (x1 == 3) = true then
        rd (ld (kI .i64) (q1.add 1) h1) fun x7 =>
        rd (ld (kI .i64) (q1.add 1) h1) fun x8 =>
        locks_Manager_Quit a0 x7 h1 fun r11 h14 =>
        ld (kI .i64) (q1.add 1) h14 = some x8 ∧
        spateref11_Manager_Quit a1 x8 h14 fun r12 h15 =>
        spatelaw11_SameInts r11 r12 h15 fun r13 h16 =>
        Q r13 h16
      else
        if (x1 == 4) = true then
          rd (ld (kI .i64) (q1.add 1) h1) fun x9 =>
          spatelaw11_looks a0 a1 x9 h1 fun r14 h17 =>
          Q r14 h17
        else
          Q true h1
theorem spatelaw11_step.sound {a0 : Option Addr} {a1 : Option Addr} {a2 : S52} {h : H} {Q : Bool → H → Prop} (hF : spatelaw11_step a0 a1 a2 h Q) :
    CallsH Try.prog 22 (List.toArray (α := Value) [.pointer a0, .pointer a1, k52.val a2]) h fun v h' => ∃ x : Bool, v = .bool x ∧ Q x h' := by
  refine CallsH.of_body Try.func22 rfl 99 rfl rfl ?_
  refine WP.seq ?_
  refine WP.region ?_
  refine EvK.alloc (w_none rfl) rfl rfl (f_boxF (v := k52.val a2) rfl rfl rfl hF) ?_
  rintro _ h1 ⟨q1, rfl, hF⟩
  refine EvK.pure (v := .bool false) (w_none rfl) rfl rfl (f_assign rfl rfl) ?_
  refine EvK.nil ?_
  refine WP.seq ?_
  refine WP.seq ?_
  refine WP.region ?_
  refine EvK.pure (v := .pointer (some (q1.add 0))) (w_none rfl) rfl rfl (f_fieldAddr fd53_0 rfl rfl) ?_
  obtain ⟨x1, hx1, hF⟩ := hF
  refine EvK.read (v := .int .i64 x1) (w_none rfl) rfl rfl (f_load (kI .i64) ty3 rfl rfl hx1 rfl) ?_
  refine EvK.nil ?_
  refine WP.block ?_
  refine WP.seq ?_
  refine WP.region ?_
  refine EvK.pure (v := .bool (x1 == 1)) (w_none rfl) rfl rfl (f_eql rfl rfl rfl) ?_
  refine EvK.pure (v := .bool (x1 == 1)) (w_none rfl) rfl rfl (f_assign rfl rfl) ?_
  refine EvK.nil ?_
  rcases ite_inv hF with ⟨c1, hF⟩ | ⟨c1, hF⟩
  · refine WP.cond_true _ rfl c1 ?_
    refine WP.seq ?_
    refine WP.region ?_
    refine EvK.pure (v := .pointer (some (q1.add 2))) (w_none rfl) rfl rfl (f_fieldAddr fd53_2 rfl rfl) ?_
    obtain ⟨x2, hx2, hF⟩ := hF
    refine EvK.read (v := Sl.val x2) (w_none rfl) rfl rfl (f_load kL ty30 rfl rfl hx2 rfl) ?_
    refine EvK.call (w_none rfl) rfl rfl (enterH Try.func25 rfl rfl rfl rfl (spatelaw11_set.sound hF)) ?_
    rintro _ h2 ⟨r1, rfl, hF⟩
    refine EvK.pure (v := Sl.val r1) (w_none rfl) rfl rfl (f_assign rfl rfl) ?_
    refine EvK.nil ?_
    refine WP.seq ?_
    refine WP.region ?_
    refine EvK.pure (v := Sl.val r1) (w_none rfl) rfl rfl (f_move rfl rfl) ?_
    refine EvK.call (w_none rfl) rfl rfl (enterH Try.func49 rfl rfl rfl rfl (spatelaw11_lend.sound hF)) ?_
    rintro _ h3 ⟨r2, rfl, hF⟩
    refine EvK.pure (v := Sl.val r2) (w_none rfl) rfl rfl (f_assign rfl rfl) ?_
    refine EvK.nil ?_
    refine WP.seq ?_
    refine WP.region ?_
    refine EvK.pure (v := .pointer a0) (w_none rfl) rfl rfl (f_move rfl rfl) ?_
    refine EvK.pure (v := .pointer (some (q1.add 1))) (w_none rfl) rfl rfl (f_fieldAddr fd53_1 rfl rfl) ?_
    obtain ⟨x3, hx3, hF⟩ := hF
    refine EvK.read (v := .int .i64 x3) (w_none rfl) rfl rfl (f_load (kI .i64) ty3 rfl rfl hx3 rfl) ?_
    refine EvK.pure (v := Sl.val r2) (w_none rfl) rfl rfl (f_move rfl rfl) ?_
    refine EvK.call (w_none rfl) rfl rfl (enterH Try.func14 rfl rfl rfl rfl (locks_Manager_Ask.sound hF)) ?_
    rintro _ h4 ⟨r3, rfl, hF⟩
    refine EvK.pure (v := .tuple #[.bool r3.1, IF.val r3.2]) (w_none rfl) rfl rfl (f_move rfl rfl) ?_
    refine EvK.pure (v := .bool r3.1) (w_none rfl) rfl rfl (f_extract (vs := #[.bool r3.1, IF.val r3.2]) rfl rfl rfl) ?_
    refine EvK.pure (v := IF.val r3.2) (w_none rfl) rfl rfl (f_extract (vs := #[.bool r3.1, IF.val r3.2]) rfl rfl rfl) ?_
    refine EvK.pure (v := .bool r3.1) (w_none rfl) rfl rfl (f_assign rfl rfl) ?_
    refine EvK.pure (v := IF.val r3.2) (w_none rfl) rfl rfl (f_assign rfl rfl) ?_
    refine EvK.nil ?_
    refine WP.seq ?_
    refine WP.region ?_
    refine EvK.pure (v := Sl.val r2) (w_none rfl) rfl rfl (f_move rfl rfl) ?_
    refine EvK.pure (v := Sl.val r1) (w_none rfl) rfl rfl (f_move rfl rfl) ?_
    refine EvK.call (w_none rfl) rfl rfl (enterH Try.func50 rfl rfl rfl rfl (spatelaw11_kept.sound hF)) ?_
    rintro _ h5 ⟨r4, rfl, hF⟩
    refine EvK.pure (v := .bool r4) (w_none rfl) rfl rfl (f_assign rfl rfl) ?_
    refine EvK.nil ?_
    refine WP.seq ?_
    refine WP.region ?_
    refine EvK.pure (v := .pointer a1) (w_none rfl) rfl rfl (f_move rfl rfl) ?_
    refine EvK.pure (v := .pointer (some (q1.add 1))) (w_none rfl) rfl rfl (f_fieldAddr fd53_1 rfl rfl) ?_
    obtain ⟨x4, hx4, hF⟩ := hF
    refine EvK.read (v := .int .i64 x4) (w_none rfl) rfl rfl (f_load (kI .i64) ty3 rfl rfl hx4 rfl) ?_
    refine EvK.pure (v := Sl.val r1) (w_none rfl) rfl rfl (f_move rfl rfl) ?_
    refine EvK.call (w_none rfl) rfl rfl (enterH Try.func51 rfl rfl rfl rfl (spateref11_Manager_Ask.sound hF)) ?_
    rintro _ h6 ⟨r5, rfl, hF⟩
    refine EvK.pure (v := .tuple #[.bool r5.1, .int .i64 r5.2]) (w_none rfl) rfl rfl (f_move rfl rfl) ?_
    refine EvK.pure (v := .bool r5.1) (w_none rfl) rfl rfl (f_extract (vs := #[.bool r5.1, .int .i64 r5.2]) rfl rfl rfl) ?_
    refine EvK.pure (v := .int .i64 r5.2) (w_none rfl) rfl rfl (f_extract (vs := #[.bool r5.1, .int .i64 r5.2]) rfl rfl rfl) ?_
    refine EvK.pure (v := .bool r5.1) (w_none rfl) rfl rfl (f_assign rfl rfl) ?_
    refine EvK.pure (v := .int .i64 r5.2) (w_none rfl) rfl rfl (f_assign rfl rfl) ?_
    refine EvK.nil ?_
    refine WP.joinF (fun (s1 : Bool) => [(6, .bool s1)]) hF ?_ ?_
    · intro s1 E0 h7 hF
      refine WP.ret ?_
      exact Ret.mk (vs := [.bool s1]) s1 ⟨rfl, trivial⟩ rfl hF
    · intro k1 hF
      refine WP.region ?_
      refine EvK.pure (v := .bool r4) (w_none rfl) rfl rfl (f_move rfl rfl) ?_
      refine EvK.pure (v := .bool r4) (w_none rfl) rfl rfl (f_move rfl rfl) ?_
      rcases ite_inv hF with ⟨c2, hF⟩ | ⟨c2, hF⟩
      · refine EvK.pure (v := .bool r3.1) (w_some rfl rfl c2) rfl rfl (f_move rfl rfl) ?_
        refine EvK.pure (v := .bool r5.1) (w_some rfl rfl c2) rfl rfl (f_move rfl rfl) ?_
        refine EvK.pure (v := .bool (r3.1 == r5.1)) (w_some rfl rfl c2) rfl rfl (f_beql Try.underlying4 rfl rfl rfl) ?_
        refine EvK.pure (v := .bool (r3.1 == r5.1)) (w_none rfl) rfl rfl (f_pickT rfl rfl c2 rfl) ?_
        refine EvK.pure (v := .bool (r3.1 == r5.1)) (w_none rfl) rfl rfl (f_move rfl rfl) ?_
        rcases ite_inv hF with ⟨c3, hF⟩ | ⟨c3, hF⟩
        · refine EvK.pure (v := IF.val r3.2) (w_some rfl rfl c3) rfl rfl (f_move rfl rfl) ?_
          refine EvK.pure (v := .int .i64 r5.2) (w_some rfl rfl c3) rfl rfl (f_move rfl rfl) ?_
          refine EvK.call (w_some rfl rfl c3) rfl rfl (enterH (vs := [IF.val r3.2, .int .i64 r5.2]) Try.func36 rfl rfl rfl rfl (spatelaw11_is.sound hF)) ?_
          rintro _ h8 ⟨r6, rfl, hF⟩
          refine EvK.pure (v := .bool r6) (w_none rfl) rfl rfl (f_pickT rfl rfl c3 rfl) ?_
          refine EvK.pure (v := .bool r6) (w_none rfl) rfl rfl (f_assign rfl rfl) ?_
          refine EvK.nil ?_
          exact KE.mk r6 ⟨rfl, trivial⟩ hF
        · refine EvK.not (w_not rfl rfl c3) rfl rfl ?_
          refine EvK.not (w_not rfl rfl c3) rfl rfl ?_
          refine EvK.not (w_not rfl rfl c3) rfl rfl ?_
          refine EvK.pure (v := .bool false) (w_none rfl) rfl rfl (f_pickF rfl rfl c3 rfl) ?_
          refine EvK.pure (v := .bool false) (w_none rfl) rfl rfl (f_assign rfl rfl) ?_
          refine EvK.nil ?_
          exact KE.mk false ⟨rfl, trivial⟩ hF
      · refine EvK.not (w_not rfl rfl c2) rfl rfl ?_
        refine EvK.not (w_not rfl rfl c2) rfl rfl ?_
        refine EvK.not (w_not rfl rfl c2) rfl rfl ?_
        refine EvK.pure (v := .bool false) (w_none rfl) rfl rfl (f_pickF rfl rfl c2 rfl) ?_
        refine EvK.pure (v := .bool false) (w_none rfl) rfl rfl (f_move rfl rfl) ?_
        refine EvK.not (w_not rfl rfl rfl) rfl rfl ?_
        refine EvK.not (w_not rfl rfl rfl) rfl rfl ?_
        refine EvK.not (w_not rfl rfl rfl) rfl rfl ?_
        refine EvK.pure (v := .bool false) (w_none rfl) rfl rfl (f_pickF rfl rfl rfl rfl) ?_
        refine EvK.pure (v := .bool false) (w_none rfl) rfl rfl (f_assign rfl rfl) ?_
        refine EvK.nil ?_
        exact KE.mk false ⟨rfl, trivial⟩ hF
  · refine WP.cond_false _ rfl c1 ?_
    refine WP.seq ?_
    refine WP.region ?_
    refine EvK.pure (v := .bool (x1 == 2)) (w_none rfl) rfl rfl (f_eql rfl rfl rfl) ?_
    refine EvK.pure (v := .bool (x1 == 2)) (w_none rfl) rfl rfl (f_assign rfl rfl) ?_
    refine EvK.nil ?_
    rcases ite_inv hF with ⟨c4, hF⟩ | ⟨c4, hF⟩
    · refine WP.cond_true _ rfl c4 ?_
      refine WP.seq ?_
      refine WP.region ?_
      refine EvK.pure (v := .pointer a0) (w_none rfl) rfl rfl (f_move rfl rfl) ?_
      refine EvK.pure (v := .pointer (some (q1.add 1))) (w_none rfl) rfl rfl (f_fieldAddr fd53_1 rfl rfl) ?_
      obtain ⟨x5, hx5, hF⟩ := hF
      refine EvK.read (v := .int .i64 x5) (w_none rfl) rfl rfl (f_load (kI .i64) ty3 rfl rfl hx5 rfl) ?_
      refine EvK.call (w_none rfl) rfl rfl (enterH Try.func17 rfl rfl rfl rfl (locks_Manager_Free.sound hF)) ?_
      rintro _ h9 ⟨r7, rfl, hF⟩
      refine EvK.pure (v := .tuple #[Sl.val r7.1, IF.val r7.2]) (w_none rfl) rfl rfl (f_move rfl rfl) ?_
      refine EvK.pure (v := Sl.val r7.1) (w_none rfl) rfl rfl (f_extract (vs := #[Sl.val r7.1, IF.val r7.2]) rfl rfl rfl) ?_
      refine EvK.pure (v := IF.val r7.2) (w_none rfl) rfl rfl (f_extract (vs := #[Sl.val r7.1, IF.val r7.2]) rfl rfl rfl) ?_
      refine EvK.pure (v := Sl.val r7.1) (w_none rfl) rfl rfl (f_assign rfl rfl) ?_
      refine EvK.pure (v := IF.val r7.2) (w_none rfl) rfl rfl (f_assign rfl rfl) ?_
      refine EvK.nil ?_
      refine WP.seq ?_
      refine WP.region ?_
      refine EvK.pure (v := .pointer a1) (w_none rfl) rfl rfl (f_move rfl rfl) ?_
      refine EvK.pure (v := .pointer (some (q1.add 1))) (w_none rfl) rfl rfl (f_fieldAddr fd53_1 rfl rfl) ?_
      obtain ⟨x6, hx6, hF⟩ := hF
      refine EvK.read (v := .int .i64 x6) (w_none rfl) rfl rfl (f_load (kI .i64) ty3 rfl rfl hx6 rfl) ?_
      refine EvK.call (w_none rfl) rfl rfl (enterH Try.func35 rfl rfl rfl rfl (spateref11_Manager_Free.sound hF)) ?_
      rintro _ h10 ⟨r8, rfl, hF⟩
      refine EvK.pure (v := .tuple #[Sl.val r8.1, .int .i64 r8.2]) (w_none rfl) rfl rfl (f_move rfl rfl) ?_
      refine EvK.pure (v := Sl.val r8.1) (w_none rfl) rfl rfl (f_extract (vs := #[Sl.val r8.1, .int .i64 r8.2]) rfl rfl rfl) ?_
      refine EvK.pure (v := .int .i64 r8.2) (w_none rfl) rfl rfl (f_extract (vs := #[Sl.val r8.1, .int .i64 r8.2]) rfl rfl rfl) ?_
      refine EvK.pure (v := Sl.val r8.1) (w_none rfl) rfl rfl (f_assign rfl rfl) ?_
      refine EvK.pure (v := .int .i64 r8.2) (w_none rfl) rfl rfl (f_assign rfl rfl) ?_
      refine EvK.nil ?_
      refine WP.joinF (fun (s2 : Bool) => [(6, .bool s2)]) hF ?_ ?_
      · intro s2 E0 h11 hF
        refine WP.ret ?_
        exact Ret.mk (vs := [.bool s2]) s2 ⟨rfl, trivial⟩ rfl hF
      · intro k2 hF
        refine WP.region ?_
        refine EvK.pure (v := Sl.val r7.1) (w_none rfl) rfl rfl (f_move rfl rfl) ?_
        refine EvK.pure (v := Sl.val r8.1) (w_none rfl) rfl rfl (f_move rfl rfl) ?_
        refine EvK.call (w_none rfl) rfl rfl (enterH Try.func19 rfl rfl rfl rfl (spatelaw11_SameInts.sound hF)) ?_
        rintro _ h12 ⟨r9, rfl, hF⟩
        refine EvK.pure (v := .bool r9) (w_none rfl) rfl rfl (f_move rfl rfl) ?_
        rcases ite_inv hF with ⟨c5, hF⟩ | ⟨c5, hF⟩
        · refine EvK.pure (v := IF.val r7.2) (w_some rfl rfl c5) rfl rfl (f_move rfl rfl) ?_
          refine EvK.pure (v := .int .i64 r8.2) (w_some rfl rfl c5) rfl rfl (f_move rfl rfl) ?_
          refine EvK.call (w_some rfl rfl c5) rfl rfl (enterH (vs := [IF.val r7.2, .int .i64 r8.2]) Try.func36 rfl rfl rfl rfl (spatelaw11_is.sound hF)) ?_
          rintro _ h13 ⟨r10, rfl, hF⟩
          refine EvK.pure (v := .bool r10) (w_none rfl) rfl rfl (f_pickT rfl rfl c5 rfl) ?_
          refine EvK.pure (v := .bool r10) (w_none rfl) rfl rfl (f_assign rfl rfl) ?_
          refine EvK.nil ?_
          exact KE.mk r10 ⟨rfl, trivial⟩ hF
        · refine EvK.not (w_not rfl rfl c5) rfl rfl ?_
          refine EvK.not (w_not rfl rfl c5) rfl rfl ?_
          refine EvK.not (w_not rfl rfl c5) rfl rfl ?_
          refine EvK.pure (v := .bool false) (w_none rfl) rfl rfl (f_pickF rfl rfl c5 rfl) ?_
          refine EvK.pure (v := .bool false) (w_none rfl) rfl rfl (f_assign rfl rfl) ?_
          refine EvK.nil ?_
          exact KE.mk false ⟨rfl, trivial⟩ hF
    · refine WP.cond_false _ rfl c4 ?_
      refine WP.seq ?_
      refine WP.region ?_
      refine EvK.pure (v := .bool (x1 == 3)) (w_none rfl) rfl rfl (f_eql rfl rfl rfl) ?_
      refine EvK.pure (v := .bool (x1 == 3)) (w_none rfl) rfl rfl (f_assign rfl rfl) ?_
      refine EvK.nil ?_
      rcases ite_inv hF with ⟨c6, hF⟩ | ⟨c6, hF⟩
      · refine WP.cond_true _ rfl c6 ?_
        refine WP.seq ?_
        refine WP.draw mixed [.pure, .pure, .read, .eff [6], .pure, .pure, .read, .eff [], .eff [], .pure] [[], [], [1], [0, 1, 2], [], [], [5], [0, 1, 2, 3, 4, 5, 6], [0, 1, 2, 3, 4, 5, 6, 7], [0, 1, 2, 3, 4, 5, 6, 7, 8]] [0, 1, 2, 4, 5, 6, 3, 7, 8, 9] (by kernel_rfl) (by kernel_rfl) ?_
        refine EvI.pure (v := .pointer a0) rfl rfl (w_none rfl) rfl (f_move rfl rfl) ?_
        refine EvI.pure (v := .pointer (some (q1.add 1))) rfl rfl (w_none rfl) rfl (f_fieldAddr fd53_1 rfl rfl) ?_
        obtain ⟨x7, hx7, hF⟩ := hF
        refine EvI.read (v := .int .i64 x7) rfl rfl (w_none rfl) rfl (f_load (kI .i64) ty3 rfl rfl hx7 rfl) ?_
        refine EvI.pure (v := .pointer a1) rfl rfl (w_none rfl) rfl (f_move rfl rfl) ?_
        refine EvI.pure (v := .pointer (some (q1.add 1))) rfl rfl (w_none rfl) rfl (f_fieldAddr fd53_1 rfl rfl) ?_
        obtain ⟨x8, hx8, hF⟩ := hF
        refine EvI.read (v := .int .i64 x8) rfl rfl (w_none rfl) rfl (f_load (kI .i64) ty3 rfl rfl hx8 rfl) ?_
        refine EvI.call rfl rfl (w_none rfl) rfl (enterH Try.func28 rfl rfl rfl rfl (locks_Manager_Quit.sound hF)) ?_
        rintro _ h14 ⟨r11, rfl, hF⟩
        obtain ⟨hy1, hF⟩ := hF
        refine ⟨⟨chk_yes rfl (f_load (kI .i64) ty3 rfl rfl hy1 rfl), chk_no rfl, trivial⟩, ?_⟩
        refine EvI.call rfl rfl (w_none rfl) rfl (enterH Try.func37 rfl rfl rfl rfl (spateref11_Manager_Quit.sound hF)) ?_
        rintro _ h15 ⟨r12, rfl, hF⟩
        refine ⟨⟨chk_no rfl, chk_no rfl, trivial⟩, ?_⟩
        refine EvI.call rfl rfl (w_none rfl) rfl (enterH Try.func19 rfl rfl rfl rfl (spatelaw11_SameInts.sound hF)) ?_
        rintro _ h16 ⟨r13, rfl, hF⟩
        refine ⟨⟨chk_no rfl, chk_no rfl, trivial⟩, ?_⟩
        refine EvI.pure (v := .bool r13) rfl rfl (w_none rfl) rfl (f_assign rfl rfl) ?_
        refine EvI.nil ?_
        refine WP.ret ?_
        exact Ret.mk (vs := [.bool r13]) r13 ⟨rfl, trivial⟩ rfl hF
      · refine WP.cond_false _ rfl c6 ?_
        refine WP.seq ?_
        refine WP.region ?_
        refine EvK.pure (v := .bool (x1 == 4)) (w_none rfl) rfl rfl (f_eql rfl rfl rfl) ?_
        refine EvK.pure (v := .bool (x1 == 4)) (w_none rfl) rfl rfl (f_assign rfl rfl) ?_
        refine EvK.nil ?_
        rcases ite_inv hF with ⟨c7, hF⟩ | ⟨c7, hF⟩
        · refine WP.cond_true _ rfl c7 ?_
          refine WP.seq ?_
          refine WP.region ?_
          refine EvK.pure (v := .pointer a0) (w_none rfl) rfl rfl (f_move rfl rfl) ?_
          refine EvK.pure (v := .pointer a1) (w_none rfl) rfl rfl (f_move rfl rfl) ?_
          refine EvK.pure (v := .pointer (some (q1.add 1))) (w_none rfl) rfl rfl (f_fieldAddr fd53_1 rfl rfl) ?_
          obtain ⟨x9, hx9, hF⟩ := hF
          refine EvK.read (v := .int .i64 x9) (w_none rfl) rfl rfl (f_load (kI .i64) ty3 rfl rfl hx9 rfl) ?_
          refine EvK.call (w_none rfl) rfl rfl (enterH Try.func23 rfl rfl rfl rfl (spatelaw11_looks.sound hF)) ?_
          rintro _ h17 ⟨r14, rfl, hF⟩
          refine EvK.pure (v := .bool r14) (w_none rfl) rfl rfl (f_assign rfl rfl) ?_
          refine EvK.nil ?_
          refine WP.ret ?_
          exact Ret.mk (vs := [.bool r14]) r14 ⟨rfl, trivial⟩ rfl hF
        · refine WP.cond_false _ rfl c7 ?_
          refine WP.skip ?_
          refine WP.seq ?_
          refine WP.region ?_
          refine EvK.pure (v := .bool true) (w_none rfl) rfl rfl (f_assign rfl rfl) ?_
          refine EvK.nil ?_
          refine WP.ret ?_
          exact Ret.mk (vs := [.bool true]) true ⟨rfl, trivial⟩ rfl hF
end Go.Proofs.Ytgmihbchcmjmdaa

namespace Go.Proofs.Ytgmihbchcmjmdaa
open Go Go.Tr
set_option linter.unusedVariables false
set_option maxRecDepth 100000
set_option maxHeartbeats 400000
def spatelaw11_find.b1 (p0 : Sl) (p1 : Int) (s : Int) (h : H) (K : Int ⊕ (Unit ⊕ Int) → H → Prop) : Prop :=
  if (decide (s < (p0.len : Int))) = true then
    rd (ixA 3 p0 s) fun q1 =>
    rd (ld (kI .i64) (q1.add 0) h) fun x1 =>
    if (x1 == p1) = true then
      K (.inr (.inr s)) h
    else
      K (.inl (IntKind.i64.wrap (s + 1))) h
  else
    K (.inr (.inl ())) h
/-- spate/spatelaw11.find -/
def spatelaw11_find (a0 : Sl) (a1 : Int) (h : H) (Q : Int → H → Prop) : Prop :=
  jn (fun (k1 : Unit → H → Prop) =>
    loopE (spatelaw11_find.b1 a0 a1) 0 h (sumK (fun r1 hh => k1 r1 hh) (fun r2 hh => Q r2 hh))) fun s1 h1 =>
  Q (-1) h1
theorem spatelaw11_find.sound {a0 : Sl} {a1 : Int} {h : H} {Q : Int → H → Prop} (hF : spatelaw11_find a0 a1 h Q) :
    CallsH Try.prog 24 (List.toArray (α := Value) [Sl.val a0, .int .i64 a1]) h fun v h' => ∃ x : Int, v = .int .i64 x ∧ Q x h' := by
  refine CallsH.of_body Try.func24 rfl 20 rfl rfl ?_
  refine WP.seq ?_
  refine WP.region ?_
  refine EvK.pure (v := .int .i64 0) (w_none rfl) rfl rfl (f_assign rfl rfl) ?_
  refine EvK.nil ?_
  refine WP.joinF (fun (s1 : Unit) => []) hF ?_ ?_
  · intro s1 E0 h1 hF
    refine WP.seq ?_
    refine WP.region ?_
    refine EvK.pure (v := .int .i64 (-1)) (w_none rfl) rfl rfl (f_assign rfl rfl) ?_
    refine EvK.nil ?_
    refine WP.ret ?_
    exact Ret.mk (vs := [.int .i64 (-1)]) (-1) ⟨rfl, trivial⟩ rfl hF
  · intro k1 hF
    refine WP.seq ?_
    refine WP.region ?_
    refine EvK.pure (v := .int .i64 0) (w_none rfl) rfl rfl (f_assign rfl rfl) ?_
    refine EvK.nil ?_
    refine WP.block ?_
    refine WP.loopF (fun (s2 : Int) => [(5, .int .i64 s2), (0, Sl.val a0), (1, .int .i64 a1)]) hF ⟨rfl, rfl, rfl, trivial⟩ ?_
    intro k2 s2 E0 h2 hF
    refine WP.seq ?_
    refine WP.seq ?_
    refine WP.region ?_
    refine EvK.pure (v := .int .i64 s2) (w_none rfl) rfl rfl (f_move rfl rfl) ?_
    refine EvK.pure (v := Sl.val a0) (w_none rfl) rfl rfl (f_move rfl rfl) ?_
    refine EvK.pure (v := .int .i64 (a0.len : Int)) (w_none rfl) rfl rfl (f_lenL (s := a0) Try.underlying29 rfl rfl) ?_
    refine EvK.pure (v := .bool (decide (s2 < (a0.len : Int)))) (w_none rfl) rfl rfl (f_lss rfl rfl rfl) ?_
    refine EvK.nil ?_
    rcases ite_inv hF with ⟨c1, hF⟩ | ⟨c1, hF⟩
    · refine WP.cond_true _ rfl c1 ?_
      refine WP.skip ?_
      refine WP.seq ?_
      refine WP.block ?_
      refine WP.seq ?_
      refine WP.region ?_
      refine EvK.pure (v := Sl.val a0) (w_none rfl) rfl rfl (f_move rfl rfl) ?_
      refine EvK.pure (v := .int .i64 s2) (w_none rfl) rfl rfl (f_move rfl rfl) ?_
      obtain ⟨q1, hq1, hF⟩ := hF
      refine EvK.pure (v := .pointer (some q1)) (w_none rfl) rfl rfl (f_indexAddr (s := a0) Try.underlying29 ty35.size rfl rfl rfl hq1) ?_
      refine EvK.pure (v := .pointer (some (q1.add 0))) (w_none rfl) rfl rfl (f_fieldAddr fd35_0 rfl rfl) ?_
      obtain ⟨x1, hx1, hF⟩ := hF
      refine EvK.read (v := .int .i64 x1) (w_none rfl) rfl rfl (f_load (kI .i64) ty3 rfl rfl hx1 rfl) ?_
      refine EvK.pure (v := .int .i64 a1) (w_none rfl) rfl rfl (f_move rfl rfl) ?_
      refine EvK.pure (v := .bool (x1 == a1)) (w_none rfl) rfl rfl (f_eql rfl rfl rfl) ?_
      refine EvK.nil ?_
      rcases ite_inv hF with ⟨c2, hF⟩ | ⟨c2, hF⟩
      · refine WP.cond_true _ rfl c2 ?_
        refine WP.seq ?_
        refine WP.region ?_
        refine EvK.pure (v := .int .i64 s2) (w_none rfl) rfl rfl (f_move rfl rfl) ?_
        refine EvK.pure (v := .int .i64 s2) (w_none rfl) rfl rfl (f_assign rfl rfl) ?_
        refine EvK.nil ?_
        refine WP.ret ?_
        exact Ret.mk (vs := [.int .i64 s2]) s2 ⟨rfl, trivial⟩ rfl hF
      · refine WP.cond_false _ rfl c2 ?_
        refine WP.skip ?_
        refine WP.region ?_
        refine EvK.pure (v := .int .i64 s2) (w_none rfl) rfl rfl (f_move rfl rfl) ?_
        refine EvK.pure (v := .int .i64 (IntKind.i64.wrap (s2 + 1))) (w_none rfl) rfl rfl (f_add rfl rfl rfl) ?_
        refine EvK.pure (v := .int .i64 (IntKind.i64.wrap (s2 + 1))) (w_none rfl) rfl rfl (f_assign rfl rfl) ?_
        refine EvK.nil ?_
        exact KE.mk (IntKind.i64.wrap (s2 + 1)) ⟨rfl, rfl, rfl, trivial⟩ hF
    · refine WP.cond_false _ rfl c1 ?_
      refine WP.exit ?_
      exact KE.mk () trivial hF
end Go.Proofs.Ytgmihbchcmjmdaa

namespace Go.Proofs.Ytgmihbchcmjmdaa
open Go Go.Tr
set_option linter.unusedVariables false
set_option maxRecDepth 100000
set_option maxHeartbeats 400000
def spatelaw11_conflict.b2 (p0 : Sl) (p1 : Sl) (p5 : Int) (s : Int) (h : H) (K : Int ⊕ (Unit ⊕ Bool) → H → Prop) : Prop :=
  if (decide (s < (p1.len : Int))) = true then
    jn (fun (k3 : Bool → H → Prop) =>
      rd (ixA 2 p0 p5) fun q1 =>
      rd (ld (kI .i64) (q1.add 0) h) fun x1 =>
      rd (ixA 2 p1 s) fun q2 =>
      rd (ld (kI .i64) (q2.add 0) h) fun x2 =>
      if (x1 == x2) = true then
        rd (ixA 2 p0 p5) fun q3 =>
        rd (ld kB (q3.add 1) h) fun x3 =>
        if x3 = true then
          rd (ixA 2 p1 s) fun q4 =>
          rd (ld kB (q4.add 1) h) fun x4 =>
          k3 (!x4) h
        else
          k3 (!false) h
      else
        k3 false h) fun s3 h3 =>
    if s3 = true then
      K (.inr (.inr true)) h3
    else
      K (.inl (IntKind.i64.wrap (s + 1))) h3
  else
    K (.inr (.inl ())) h
def spatelaw11_conflict.b1 (p0 : Sl) (p1 : Sl) (s : Int) (h : H) (K : Int ⊕ (Unit ⊕ Bool) → H → Prop) : Prop :=
  if (decide (s < (p0.len : Int))) = true then
    jn (fun (k2 : Unit → H → Prop) =>
      loopE (spatelaw11_conflict.b2 p0 p1 s) 0 h (sumK (fun r1 hh => k2 r1 hh) (fun r2 hh => K (.inr (.inr r2)) hh))) fun s2 h2 =>
    K (.inl (IntKind.i64.wrap (s + 1))) h2
  else
    K (.inr (.inl ())) h
/-- spate/spatelaw11.conflict -/
def spatelaw11_conflict (a0 : Sl) (a1 : Sl) (h : H) (Q : Bool → H → Prop) : Prop :=
  jn (fun (k1 : Unit → H → Prop) =>
    loopE (spatelaw11_conflict.b1 a0 a1) 0 h (sumK (fun r3 hh => k1 r3 hh) (fun r4 hh => Q r4 hh))) fun s1 h1 =>
  Q false h1
theorem spatelaw11_conflict.sound {a0 : Sl} {a1 : Sl} {h : H} {Q : Bool → H → Prop} (hF : spatelaw11_conflict a0 a1 h Q) :
    CallsH Try.prog 26 (List.toArray (α := Value) [Sl.val a0, Sl.val a1]) h fun v h' => ∃ x : Bool, v = .bool x ∧ Q x h' := by
  refine CallsH.of_body Try.func26 rfl 45 rfl rfl ?_
  refine WP.seq ?_
  refine WP.region ?_
  refine EvK.pure (v := .bool false) (w_none rfl) rfl rfl (f_assign rfl rfl) ?_
  refine EvK.nil ?_
  refine WP.joinF (fun (s1 : Unit) => []) hF ?_ ?_
  · intro s1 E0 h1 hF
    refine WP.seq ?_
    refine WP.region ?_
    refine EvK.pure (v := .bool false) (w_none rfl) rfl rfl (f_assign rfl rfl) ?_
    refine EvK.nil ?_
    refine WP.ret ?_
    exact Ret.mk (vs := [.bool false]) false ⟨rfl, trivial⟩ rfl hF
  · intro k1 hF
    refine WP.seq ?_
    refine WP.region ?_
    refine EvK.pure (v := .int .i64 0) (w_none rfl) rfl rfl (f_assign rfl rfl) ?_
    refine EvK.nil ?_
    refine WP.block ?_
    refine WP.loopF (fun (s2 : Int) => [(5, .int .i64 s2), (0, Sl.val a0), (1, Sl.val a1)]) hF ⟨rfl, rfl, rfl, trivial⟩ ?_
    intro k2 s2 E0 h2 hF
    refine WP.seq ?_
    refine WP.seq ?_
    refine WP.region ?_
    refine EvK.pure (v := .int .i64 s2) (w_none rfl) rfl rfl (f_move rfl rfl) ?_
    refine EvK.pure (v := Sl.val a0) (w_none rfl) rfl rfl (f_move rfl rfl) ?_
    refine EvK.pure (v := .int .i64 (a0.len : Int)) (w_none rfl) rfl rfl (f_lenL (s := a0) Try.underlying30 rfl rfl) ?_
    refine EvK.pure (v := .bool (decide (s2 < (a0.len : Int)))) (w_none rfl) rfl rfl (f_lss rfl rfl rfl) ?_
    refine EvK.nil ?_
    rcases ite_inv hF with ⟨c1, hF⟩ | ⟨c1, hF⟩
    · refine WP.cond_true _ rfl c1 ?_
      refine WP.skip ?_
      refine WP.joinF (fun (s3 : Unit) => [(0, Sl.val a0), (1, Sl.val a1), (5, .int .i64 s2)]) hF ?_ ?_
      · intro s3 E0 h3 hF
        refine WP.region ?_
        refine EvK.pure (v := .int .i64 s2) (w_none rfl) rfl rfl (f_move rfl rfl) ?_
        refine EvK.pure (v := .int .i64 (IntKind.i64.wrap (s2 + 1))) (w_none rfl) rfl rfl (f_add rfl rfl rfl) ?_
        refine EvK.pure (v := .int .i64 (IntKind.i64.wrap (s2 + 1))) (w_none rfl) rfl rfl (f_assign rfl rfl) ?_
        refine EvK.nil ?_
        exact KE.mk (IntKind.i64.wrap (s2 + 1)) ⟨rfl, rfl, rfl, trivial⟩ hF
      · intro k3 hF
        refine WP.block ?_
        refine WP.seq ?_
        refine WP.region ?_
        refine EvK.pure (v := .int .i64 0) (w_none rfl) rfl rfl (f_assign rfl rfl) ?_
        refine EvK.nil ?_
        refine WP.block ?_
        refine WP.loopF (fun (s4 : Int) => [(6, .int .i64 s4), (0, Sl.val a0), (1, Sl.val a1), (5, .int .i64 s2)]) hF ⟨rfl, rfl, rfl, rfl, trivial⟩ ?_
        intro k4 s4 E0 h4 hF
        refine WP.seq ?_
        refine WP.seq ?_
        refine WP.region ?_
        refine EvK.pure (v := .int .i64 s4) (w_none rfl) rfl rfl (f_move rfl rfl) ?_
        refine EvK.pure (v := Sl.val a1) (w_none rfl) rfl rfl (f_move rfl rfl) ?_
        refine EvK.pure (v := .int .i64 (a1.len : Int)) (w_none rfl) rfl rfl (f_lenL (s := a1) Try.underlying30 rfl rfl) ?_
        refine EvK.pure (v := .bool (decide (s4 < (a1.len : Int)))) (w_none rfl) rfl rfl (f_lss rfl rfl rfl) ?_
        refine EvK.nil ?_
        rcases ite_inv hF with ⟨c2, hF⟩ | ⟨c2, hF⟩
        · refine WP.cond_true _ rfl c2 ?_
          refine WP.skip ?_
          refine WP.seq ?_
          refine WP.block ?_
          refine WP.joinF (fun (s5 : Bool) => [(44, .bool s5), (0, Sl.val a0), (1, Sl.val a1), (5, .int .i64 s2), (6, .int .i64 s4)]) hF ?_ ?_
          · intro s5 E0 h5 hF
            rcases ite_inv hF with ⟨c3, hF⟩ | ⟨c3, hF⟩
            · refine WP.cond_true _ rfl c3 ?_
              refine WP.seq ?_
              refine WP.region ?_
              refine EvK.pure (v := .bool true) (w_none rfl) rfl rfl (f_assign rfl rfl) ?_
              refine EvK.nil ?_
              refine WP.ret ?_
              exact Ret.mk (vs := [.bool true]) true ⟨rfl, trivial⟩ rfl hF
            · refine WP.cond_false _ rfl c3 ?_
              refine WP.skip ?_
              refine WP.region ?_
              refine EvK.pure (v := .int .i64 s4) (w_none rfl) rfl rfl (f_move rfl rfl) ?_
              refine EvK.pure (v := .int .i64 (IntKind.i64.wrap (s4 + 1))) (w_none rfl) rfl rfl (f_add rfl rfl rfl) ?_
              refine EvK.pure (v := .int .i64 (IntKind.i64.wrap (s4 + 1))) (w_none rfl) rfl rfl (f_assign rfl rfl) ?_
              refine EvK.nil ?_
              exact KE.mk (IntKind.i64.wrap (s4 + 1)) ⟨rfl, rfl, rfl, rfl, trivial⟩ hF
          · intro k5 hF
            refine WP.draw mixed [.pure, .pure, .pure, .pure, .read, .pure, .pure, .pure, .pure, .read, .pure, .pure, .pure, .pure, .pure, .pure, .read, .pure, .pure, .pure, .pure, .pure, .read, .pure, .pure, .pure] [[], [], [0, 1], [0, 1, 2], [0, 1, 2, 3], [], [], [5, 6], [5, 6, 7], [5, 6, 7, 8], [0, 1, 2, 3, 4, 5, 6, 7, 8, 9], [0, 1, 2, 3, 4, 5, 6, 7, 8, 9, 10], [0, 1, 2, 3, 4, 5, 6, 7, 8, 9, 10, 11], [0, 1, 2, 3, 4, 5, 6, 7, 8, 9, 10, 11], [0, 1, 2, 3, 4, 5, 6, 7, 8, 9, 10, 11, 12, 13], [0, 1, 2, 3, 4, 5, 6, 7, 8, 9, 10, 11, 12, 13, 14], [0, 1, 2, 3, 4, 5, 6, 7, 8, 9, 10, 11, 12, 13, 14, 15], [0, 1, 2, 3, 4, 5, 6, 7, 8, 9, 10, 11, 12, 13, 14, 15, 16], [0, 1, 2, 3, 4, 5, 6, 7, 8, 9, 10, 11, 12, 13, 14, 15, 16, 17], [0, 1, 2, 3, 4, 5, 6, 7, 8, 9, 10, 11, 12, 13, 14, 15, 16, 17], [0, 1, 2, 3, 4, 5, 6, 7, 8, 9, 10, 11, 12, 13, 14, 15, 16, 17, 18, 19], [0, 1, 2, 3, 4, 5, 6, 7, 8, 9, 10, 11, 12, 13, 14, 15, 16, 17, 18, 19, 20], [0, 1, 2, 3, 4, 5, 6, 7, 8, 9, 10, 11, 12, 13, 14, 15, 16, 17, 18, 19, 20, 21], [0, 1, 2, 3, 4, 5, 6, 7, 8, 9, 10, 11, 12, 13, 14, 15, 16, 17, 18, 19, 20, 21, 22], [0, 1, 2, 3, 4, 5, 6, 7, 8, 9, 10, 11, 12, 13, 14, 15, 16, 17, 18, 19, 20, 21, 22, 23], [0, 1, 2, 3, 4, 5, 6, 7, 8, 9, 10, 11, 12, 13, 14, 15, 16, 17, 18, 19, 20, 21, 22, 23, 24]] [0, 1, 2, 3, 4, 5, 6, 7, 8, 9, 10, 11, 12, 13, 14, 15, 16, 17, 18, 19, 20, 21, 22, 23, 24, 25] (by kernel_rfl) (by kernel_rfl) ?_
            refine EvI.pure (v := Sl.val a0) rfl rfl (w_none rfl) rfl (f_move rfl rfl) ?_
            refine EvI.pure (v := .int .i64 s2) rfl rfl (w_none rfl) rfl (f_move rfl rfl) ?_
            obtain ⟨q1, hq1, hF⟩ := hF
            refine EvI.pure (v := .pointer (some q1)) rfl rfl (w_none rfl) rfl (f_indexAddr (s := a0) Try.underlying30 ty32.size rfl rfl rfl hq1) ?_
            refine EvI.pure (v := .pointer (some (q1.add 0))) rfl rfl (w_none rfl) rfl (f_fieldAddr fd32_0 rfl rfl) ?_
            obtain ⟨x1, hx1, hF⟩ := hF
            refine EvI.read (v := .int .i64 x1) rfl rfl (w_none rfl) rfl (f_load (kI .i64) ty3 rfl rfl hx1 rfl) ?_
            refine EvI.pure (v := Sl.val a1) rfl rfl (w_none rfl) rfl (f_move rfl rfl) ?_
            refine EvI.pure (v := .int .i64 s4) rfl rfl (w_none rfl) rfl (f_move rfl rfl) ?_
            obtain ⟨q2, hq2, hF⟩ := hF
            refine EvI.pure (v := .pointer (some q2)) rfl rfl (w_none rfl) rfl (f_indexAddr (s := a1) Try.underlying30 ty32.size rfl rfl rfl hq2) ?_
            refine EvI.pure (v := .pointer (some (q2.add 0))) rfl rfl (w_none rfl) rfl (f_fieldAddr fd32_0 rfl rfl) ?_
            obtain ⟨x2, hx2, hF⟩ := hF
            refine EvI.read (v := .int .i64 x2) rfl rfl (w_none rfl) rfl (f_load (kI .i64) ty3 rfl rfl hx2 rfl) ?_
            refine EvI.pure (v := .bool (x1 == x2)) rfl rfl (w_none rfl) rfl (f_eql rfl rfl rfl) ?_
            refine EvI.pure (v := .bool (x1 == x2)) rfl rfl (w_none rfl) rfl (f_move rfl rfl) ?_
            rcases ite_inv hF with ⟨c4, hF⟩ | ⟨c4, hF⟩
            · refine EvI.pure (v := Sl.val a0) rfl rfl (w_some rfl rfl c4) rfl (f_move rfl rfl) ?_
              refine EvI.pure (v := .int .i64 s2) rfl rfl (w_some rfl rfl c4) rfl (f_move rfl rfl) ?_
              obtain ⟨q3, hq3, hF⟩ := hF
              refine EvI.pure (v := .pointer (some q3)) rfl rfl (w_some rfl rfl c4) rfl (f_indexAddr (s := a0) Try.underlying30 ty32.size rfl rfl rfl hq3) ?_
              refine EvI.pure (v := .pointer (some (q3.add 1))) rfl rfl (w_some rfl rfl c4) rfl (f_fieldAddr fd32_1 rfl rfl) ?_
              obtain ⟨x3, hx3, hF⟩ := hF
              refine EvI.read (v := .bool x3) rfl rfl (w_some rfl rfl c4) rfl (f_load kB ty4 rfl rfl hx3 rfl) ?_
              refine EvI.pure (v := .bool x3) rfl rfl (w_some rfl rfl c4) rfl (f_move rfl rfl) ?_
              rcases ite_inv hF with ⟨c5, hF⟩ | ⟨c5, hF⟩
              · refine EvI.pure (v := Sl.val a1) rfl rfl (w_some rfl rfl c5) rfl (f_move rfl rfl) ?_
                refine EvI.pure (v := .int .i64 s4) rfl rfl (w_some rfl rfl c5) rfl (f_move rfl rfl) ?_
                obtain ⟨q4, hq4, hF⟩ := hF
                refine EvI.pure (v := .pointer (some q4)) rfl rfl (w_some rfl rfl c5) rfl (f_indexAddr (s := a1) Try.underlying30 ty32.size rfl rfl rfl hq4) ?_
                refine EvI.pure (v := .pointer (some (q4.add 1))) rfl rfl (w_some rfl rfl c5) rfl (f_fieldAddr fd32_1 rfl rfl) ?_
                obtain ⟨x4, hx4, hF⟩ := hF
                refine EvI.read (v := .bool x4) rfl rfl (w_some rfl rfl c5) rfl (f_load kB ty4 rfl rfl hx4 rfl) ?_
                refine EvI.pure (v := .bool x4) rfl rfl (w_some rfl rfl c4) rfl (f_pickT rfl rfl c5 rfl) ?_
                refine EvI.pure (v := .bool (!x4)) rfl rfl (w_some rfl rfl c4) rfl (f_not rfl rfl) ?_
                refine EvI.pure (v := .bool (!x4)) rfl rfl (w_none rfl) rfl (f_pickT rfl rfl c4 rfl) ?_
                refine EvI.nil ?_
                exact KE.mk (!x4) ⟨rfl, rfl, rfl, rfl, rfl, trivial⟩ hF
              · refine EvI.not rfl (w_not rfl rfl c5) rfl ?_
                refine EvI.not rfl (w_not rfl rfl c5) rfl ?_
                refine EvI.not rfl (w_not rfl rfl c5) rfl ?_
                refine EvI.not rfl (w_not rfl rfl c5) rfl ?_
                refine EvI.not rfl (w_not rfl rfl c5) rfl ?_
                refine EvI.pure (v := .bool false) rfl rfl (w_some rfl rfl c4) rfl (f_pickF rfl rfl c5 rfl) ?_
                refine EvI.pure (v := .bool (!false)) rfl rfl (w_some rfl rfl c4) rfl (f_not rfl rfl) ?_
                refine EvI.pure (v := .bool (!false)) rfl rfl (w_none rfl) rfl (f_pickT rfl rfl c4 rfl) ?_
                refine EvI.nil ?_
                exact KE.mk (!false) ⟨rfl, rfl, rfl, rfl, rfl, trivial⟩ hF
            · refine EvI.not rfl (w_not rfl rfl c4) rfl ?_
              refine EvI.not rfl (w_not rfl rfl c4) rfl ?_
              refine EvI.not rfl (w_not rfl rfl c4) rfl ?_
              refine EvI.not rfl (w_not rfl rfl c4) rfl ?_
              refine EvI.not rfl (w_not rfl rfl c4) rfl ?_
              refine EvI.not rfl (w_not rfl rfl c4) rfl ?_
              refine EvI.not rfl (w_undef rfl rfl) rfl ?_
              refine EvI.not rfl (w_undef rfl rfl) rfl ?_
              refine EvI.not rfl (w_undef rfl rfl) rfl ?_
              refine EvI.not rfl (w_undef rfl rfl) rfl ?_
              refine EvI.not rfl (w_undef rfl rfl) rfl ?_
              refine EvI.not rfl (w_not rfl rfl c4) rfl ?_
              refine EvI.not rfl (w_not rfl rfl c4) rfl ?_
              refine EvI.pure (v := .bool false) rfl rfl (w_none rfl) rfl (f_pickF rfl rfl c4 rfl) ?_
              refine EvI.nil ?_
              exact KE.mk false ⟨rfl, rfl, rfl, rfl, rfl, trivial⟩ hF
        · refine WP.cond_false _ rfl c2 ?_
          refine WP.exit ?_
          exact KE.mk () ⟨rfl, rfl, rfl, trivial⟩ hF
    · refine WP.cond_false _ rfl c1 ?_
      refine WP.exit ?_
      exact KE.mk () trivial hF
end Go.Proofs.Ytgmihbchcmjmdaa

namespace Go.Proofs.Ytgmihbchcmjmdaa
open Go Go.Tr
set_option linter.unusedVariables false
set_option maxRecDepth 100000
set_option maxHeartbeats 400000
def spatelaw11_fair.b2 (p0 : Sl) (p3 : Int) (s : Bool × Int) (h : H) (K : (Bool × Int) ⊕ (Bool ⊕ Bool) → H → Prop) : Prop :=
  if (decide (s.2 < (p0.len : Int))) = true then
    jn (fun (k5 : Bool → H → Prop) =>
      jn (fun (k6 : Bool → H → Prop) =>
        if (p3 == s.2) = true then
          k6 true h
        else
          rd (ixA 3 p0 p3) fun q6 =>
          rd (ld kL (q6.add 1) h) fun x6 =>
          rd (ixA 3 p0 s.2) fun q7 =>
          rd (ld kL (q7.add 1) h) fun x7 =>
          spatelaw11_conflict x6 x7 h fun r1 h8 =>
          k6 (!r1) h8) fun s6 h6 =>
      if s6 = true then
        k5 s.1 h6
      else
        jn (fun (k7 : Bool → H → Prop) =>
          rd (ixA 3 p0 p3) fun q4 =>
          rd (ld kB (q4.add 2) h6) fun x4 =>
          if x4 = true then
            rd (ixA 3 p0 s.2) fun q5 =>
            rd (ld kB (q5.add 2) h6) fun x5 =>
            k7 x5 h6
          else
            k7 false h6) fun s7 h7 =>
        if s7 = true then
          K (.inr (.inr false)) h7
        else
          if s.1 = true then
            k5 true h7
          else
            rd (ixA 3 p0 s.2) fun q2 =>
            rd (ld kB (q2.add 2) h7) fun x2 =>
            if x2 = true then
              k5 true h7
            else
              if (decide (s.2 < p3)) = true then
                rd (ixA 3 p0 s.2) fun q3 =>
                rd (ld kB (q3.add 2) h7) fun x3 =>
                k5 (!x3) h7
              else
                k5 false h7) fun s5 h5 =>
    K (.inl (s5, IntKind.i64.wrap (s.2 + 1))) h5
  else
    K (.inr (.inl s.1)) h
def spatelaw11_fair.b1 (p0 : Sl) (s : Int) (h : H) (K : Int ⊕ (Unit ⊕ Bool) → H → Prop) : Prop :=
  if (decide (s < (p0.len : Int))) = true then
    jn (fun (k2 : Unit → H → Prop) =>
      jn (fun (k3 : Bool → H → Prop) =>
        loopE (spatelaw11_fair.b2 p0 s) (false, 0) h (sumK (fun r2 hh => k3 r2 hh) (fun r3 hh => K (.inr (.inr r3)) hh))) fun s3 h3 =>
      jn (fun (k4 : Bool → H → Prop) =>
        rd (ixA 3 p0 s) fun q1 =>
        rd (ld kB (q1.add 2) h3) fun x1 =>
        if (!x1) = true then
          k4 (!s3) h3
        else
          k4 false h3) fun s4 h4 =>
      if s4 = true then
        K (.inr (.inr false)) h4
      else
        k2 () h4) fun s2 h2 =>
    K (.inl (IntKind.i64.wrap (s + 1))) h2
  else
    K (.inr (.inl ())) h
/-- spate/spatelaw11.fair -/
def spatelaw11_fair (a0 : Sl) (h : H) (Q : Bool → H → Prop) : Prop :=
  jn (fun (k1 : Unit → H → Prop) =>
    loopE (spatelaw11_fair.b1 a0) 0 h (sumK (fun r4 hh => k1 r4 hh) (fun r5 hh => Q r5 hh))) fun s1 h1 =>
  Q true h1
theorem spatelaw11_fair.sound {a0 : Sl} {h : H} {Q : Bool → H → Prop} (hF : spatelaw11_fair a0 h Q) :
    CallsH Try.prog 29 (List.toArray (α := Value) [Sl.val a0]) h fun v h' => ∃ x : Bool, v = .bool x ∧ Q x h' := by
  refine CallsH.of_body Try.func29 rfl 78 rfl rfl ?_
  refine WP.seq ?_
  refine WP.region ?_
  refine EvK.pure (v := .bool false) (w_none rfl) rfl rfl (f_assign rfl rfl) ?_
  refine EvK.nil ?_
  refine WP.joinF (fun (s1 : Unit) => []) hF ?_ ?_
  · intro s1 E0 h1 hF
    refine WP.seq ?_
    refine WP.region ?_
    refine EvK.pure (v := .bool true) (w_none rfl) rfl rfl (f_assign rfl rfl) ?_
    refine EvK.nil ?_
    refine WP.ret ?_
    exact Ret.mk (vs := [.bool true]) true ⟨rfl, trivial⟩ rfl hF
  · intro k1 hF
    refine WP.seq ?_
    refine WP.region ?_
    refine EvK.pure (v := .int .i64 0) (w_none rfl) rfl rfl (f_assign rfl rfl) ?_
    refine EvK.nil ?_
    refine WP.block ?_
    refine WP.loopF (fun (s2 : Int) => [(3, .int .i64 s2), (0, Sl.val a0)]) hF ⟨rfl, rfl, trivial⟩ ?_
    intro k2 s2 E0 h2 hF
    refine WP.seq ?_
    refine WP.seq ?_
    refine WP.region ?_
    refine EvK.pure (v := .int .i64 s2) (w_none rfl) rfl rfl (f_move rfl rfl) ?_
    refine EvK.pure (v := Sl.val a0) (w_none rfl) rfl rfl (f_move rfl rfl) ?_
    refine EvK.pure (v := .int .i64 (a0.len : Int)) (w_none rfl) rfl rfl (f_lenL (s := a0) Try.underlying29 rfl rfl) ?_
    refine EvK.pure (v := .bool (decide (s2 < (a0.len : Int)))) (w_none rfl) rfl rfl (f_lss rfl rfl rfl) ?_
    refine EvK.nil ?_
    rcases ite_inv hF with ⟨c1, hF⟩ | ⟨c1, hF⟩
    · refine WP.cond_true _ rfl c1 ?_
      refine WP.skip ?_
      refine WP.joinF (fun (s3 : Unit) => [(0, Sl.val a0), (3, .int .i64 s2)]) hF ?_ ?_
      · intro s3 E0 h3 hF
        refine WP.region ?_
        refine EvK.pure (v := .int .i64 s2) (w_none rfl) rfl rfl (f_move rfl rfl) ?_
        refine EvK.pure (v := .int .i64 (IntKind.i64.wrap (s2 + 1))) (w_none rfl) rfl rfl (f_add rfl rfl rfl) ?_
        refine EvK.pure (v := .int .i64 (IntKind.i64.wrap (s2 + 1))) (w_none rfl) rfl rfl (f_assign rfl rfl) ?_
        refine EvK.nil ?_
        exact KE.mk (IntKind.i64.wrap (s2 + 1)) ⟨rfl, rfl, trivial⟩ hF
      · intro k3 hF
        refine WP.block ?_
        refine WP.seq ?_
        refine WP.region ?_
        refine EvK.pure (v := .bool false) (w_none rfl) rfl rfl (f_assign rfl rfl) ?_
        refine EvK.nil ?_
        refine WP.joinF (fun (s4 : Bool) => [(4, .bool s4), (0, Sl.val a0), (3, .int .i64 s2)]) hF ?_ ?_
        · intro s4 E0 h4 hF
          refine WP.joinF (fun (s5 : Bool) => [(77, .bool s5), (0, Sl.val a0), (3, .int .i64 s2)]) hF ?_ ?_
          · intro s5 E0 h5 hF
            rcases ite_inv hF with ⟨c2, hF⟩ | ⟨c2, hF⟩
            · refine WP.cond_true _ rfl c2 ?_
              refine WP.seq ?_
              refine WP.region ?_
              refine EvK.pure (v := .bool false) (w_none rfl) rfl rfl (f_assign rfl rfl) ?_
              refine EvK.nil ?_
              refine WP.ret ?_
              exact Ret.mk (vs := [.bool false]) false ⟨rfl, trivial⟩ rfl hF
            · refine WP.cond_false _ rfl c2 ?_
              refine WP.skip ?_
              exact KE.mk () ⟨rfl, rfl, trivial⟩ hF
          · intro k5 hF
            refine WP.region ?_
            refine EvK.pure (v := Sl.val a0) (w_none rfl) rfl rfl (f_move rfl rfl) ?_
            refine EvK.pure (v := .int .i64 s2) (w_none rfl) rfl rfl (f_move rfl rfl) ?_
            obtain ⟨q1, hq1, hF⟩ := hF
            refine EvK.pure (v := .pointer (some q1)) (w_none rfl) rfl rfl (f_indexAddr (s := a0) Try.underlying29 ty35.size rfl rfl rfl hq1) ?_
            refine EvK.pure (v := .pointer (some (q1.add 2))) (w_none rfl) rfl rfl (f_fieldAddr fd35_2 rfl rfl) ?_
            obtain ⟨x1, hx1, hF⟩ := hF
            refine EvK.read (v := .bool x1) (w_none rfl) rfl rfl (f_load kB ty4 rfl rfl hx1 rfl) ?_
            refine EvK.pure (v := .bool (!x1)) (w_none rfl) rfl rfl (f_not rfl rfl) ?_
            refine EvK.pure (v := .bool (!x1)) (w_none rfl) rfl rfl (f_move rfl rfl) ?_
            rcases ite_inv hF with ⟨c3, hF⟩ | ⟨c3, hF⟩
            · refine EvK.pure (v := .bool s4) (w_some rfl rfl c3) rfl rfl (f_move rfl rfl) ?_
              refine EvK.pure (v := .bool (!s4)) (w_some rfl rfl c3) rfl rfl (f_not rfl rfl) ?_
              refine EvK.pure (v := .bool (!s4)) (w_none rfl) rfl rfl (f_pickT rfl rfl c3 rfl) ?_
              refine EvK.nil ?_
              exact KE.mk (!s4) ⟨rfl, rfl, rfl, trivial⟩ hF
            · refine EvK.not (w_not rfl rfl c3) rfl rfl ?_
              refine EvK.not (w_not rfl rfl c3) rfl rfl ?_
              refine EvK.pure (v := .bool false) (w_none rfl) rfl rfl (f_pickF rfl rfl c3 rfl) ?_
              refine EvK.nil ?_
              exact KE.mk false ⟨rfl, rfl, rfl, trivial⟩ hF
        · intro k4 hF
          refine WP.seq ?_
          refine WP.region ?_
          refine EvK.pure (v := .int .i64 0) (w_none rfl) rfl rfl (f_assign rfl rfl) ?_
          refine EvK.nil ?_
          refine WP.block ?_
          refine WP.loopF (fun (s6 : Bool × Int) => [(4, .bool s6.1), (5, .int .i64 s6.2), (0, Sl.val a0), (3, .int .i64 s2)]) hF ⟨rfl, rfl, rfl, rfl, trivial⟩ ?_
          intro k6 s6 E0 h6 hF
          refine WP.seq ?_
          refine WP.seq ?_
          refine WP.region ?_
          refine EvK.pure (v := .int .i64 s6.2) (w_none rfl) rfl rfl (f_move rfl rfl) ?_
          refine EvK.pure (v := Sl.val a0) (w_none rfl) rfl rfl (f_move rfl rfl) ?_
          refine EvK.pure (v := .int .i64 (a0.len : Int)) (w_none rfl) rfl rfl (f_lenL (s := a0) Try.underlying29 rfl rfl) ?_
          refine EvK.pure (v := .bool (decide (s6.2 < (a0.len : Int)))) (w_none rfl) rfl rfl (f_lss rfl rfl rfl) ?_
          refine EvK.nil ?_
          rcases ite_inv hF with ⟨c4, hF⟩ | ⟨c4, hF⟩
          · refine WP.cond_true _ rfl c4 ?_
            refine WP.skip ?_
            refine WP.joinF (fun (s7 : Bool) => [(4, .bool s7), (0, Sl.val a0), (3, .int .i64 s2), (5, .int .i64 s6.2)]) hF ?_ ?_
            · intro s7 E0 h7 hF
              refine WP.region ?_
              refine EvK.pure (v := .int .i64 s6.2) (w_none rfl) rfl rfl (f_move rfl rfl) ?_
              refine EvK.pure (v := .int .i64 (IntKind.i64.wrap (s6.2 + 1))) (w_none rfl) rfl rfl (f_add rfl rfl rfl) ?_
              refine EvK.pure (v := .int .i64 (IntKind.i64.wrap (s6.2 + 1))) (w_none rfl) rfl rfl (f_assign rfl rfl) ?_
              refine EvK.nil ?_
              exact KE.mk (s7, IntKind.i64.wrap (s6.2 + 1)) ⟨rfl, rfl, rfl, rfl, trivial⟩ hF
            · intro k7 hF
              refine WP.block ?_
              refine WP.seq ?_
              refine WP.joinF (fun (s8 : Bool) => [(34, .bool s8), (0, Sl.val a0), (3, .int .i64 s2), (4, .bool s6.1), (5, .int .i64 s6.2)]) hF ?_ ?_
              · intro s8 E0 h8 hF
                rcases ite_inv hF with ⟨c5, hF⟩ | ⟨c5, hF⟩
                · refine WP.cond_true _ rfl c5 ?_
                  refine WP.exit ?_
                  exact KE.mk s6.1 ⟨rfl, rfl, rfl, rfl, trivial⟩ hF
                · refine WP.cond_false _ rfl c5 ?_
                  refine WP.skip ?_
                  refine WP.seq ?_
                  refine WP.joinF (fun (s9 : Bool) => [(46, .bool s9), (0, Sl.val a0), (3, .int .i64 s2), (4, .bool s6.1), (5, .int .i64 s6.2)]) hF ?_ ?_
                  · intro s9 E0 h9 hF
                    rcases ite_inv hF with ⟨c6, hF⟩ | ⟨c6, hF⟩
                    · refine WP.cond_true _ rfl c6 ?_
                      refine WP.seq ?_
                      refine WP.region ?_
                      refine EvK.pure (v := .bool false) (w_none rfl) rfl rfl (f_assign rfl rfl) ?_
                      refine EvK.nil ?_
                      refine WP.ret ?_
                      exact Ret.mk (vs := [.bool false]) false ⟨rfl, trivial⟩ rfl hF
                    · refine WP.cond_false _ rfl c6 ?_
                      refine WP.skip ?_
                      refine WP.region ?_
                      refine EvK.pure (v := .bool s6.1) (w_none rfl) rfl rfl (f_move rfl rfl) ?_
                      refine EvK.pure (v := .bool s6.1) (w_none rfl) rfl rfl (f_move rfl rfl) ?_
                      rcases ite_inv hF with ⟨c7, hF⟩ | ⟨c7, hF⟩
                      · refine EvK.not (w_not rfl rfl c7) rfl rfl ?_
                        refine EvK.not (w_not rfl rfl c7) rfl rfl ?_
                        refine EvK.not (w_not rfl rfl c7) rfl rfl ?_
                        refine EvK.not (w_not rfl rfl c7) rfl rfl ?_
                        refine EvK.not (w_not rfl rfl c7) rfl rfl ?_
                        refine EvK.pure (v := .bool true) (w_none rfl) rfl rfl (f_pickT rfl rfl c7 rfl) ?_
                        refine EvK.pure (v := .bool true) (w_none rfl) rfl rfl (f_move rfl rfl) ?_
                        refine EvK.not (w_not rfl rfl rfl) rfl rfl ?_
                        refine EvK.not (w_not rfl rfl rfl) rfl rfl ?_
                        refine EvK.not (w_not rfl rfl rfl) rfl rfl ?_
                        refine EvK.not (w_not rfl rfl rfl) rfl rfl ?_
                        refine EvK.not (w_undef rfl rfl) rfl rfl ?_
                        refine EvK.not (w_undef rfl rfl) rfl rfl ?_
                        refine EvK.not (w_undef rfl rfl) rfl rfl ?_
                        refine EvK.not (w_undef rfl rfl) rfl rfl ?_
                        refine EvK.not (w_undef rfl rfl) rfl rfl ?_
                        refine EvK.not (w_undef rfl rfl) rfl rfl ?_
                        refine EvK.not (w_not rfl rfl rfl) rfl rfl ?_
                        refine EvK.pure (v := .bool true) (w_none rfl) rfl rfl (f_pickT rfl rfl rfl rfl) ?_
                        refine EvK.pure (v := .bool true) (w_none rfl) rfl rfl (f_assign rfl rfl) ?_
                        refine EvK.nil ?_
                        exact KE.mk true ⟨rfl, rfl, rfl, rfl, trivial⟩ hF
                      · refine EvK.pure (v := Sl.val a0) (w_some rfl rfl c7) rfl rfl (f_move rfl rfl) ?_
                        refine EvK.pure (v := .int .i64 s6.2) (w_some rfl rfl c7) rfl rfl (f_move rfl rfl) ?_
                        obtain ⟨q2, hq2, hF⟩ := hF
                        refine EvK.pure (v := .pointer (some q2)) (w_some rfl rfl c7) rfl rfl (f_indexAddr (s := a0) Try.underlying29 ty35.size rfl rfl rfl hq2) ?_
                        refine EvK.pure (v := .pointer (some (q2.add 2))) (w_some rfl rfl c7) rfl rfl (f_fieldAddr fd35_2 rfl rfl) ?_
                        obtain ⟨x2, hx2, hF⟩ := hF
                        refine EvK.read (v := .bool x2) (w_some rfl rfl c7) rfl rfl (f_load kB ty4 rfl rfl hx2 rfl) ?_
                        refine EvK.pure (v := .bool x2) (w_none rfl) rfl rfl (f_pickF rfl rfl c7 rfl) ?_
                        refine EvK.pure (v := .bool x2) (w_none rfl) rfl rfl (f_move rfl rfl) ?_
                        rcases ite_inv hF with ⟨c8, hF⟩ | ⟨c8, hF⟩
                        · refine EvK.not (w_not rfl rfl c8) rfl rfl ?_
                          refine EvK.not (w_not rfl rfl c8) rfl rfl ?_
                          refine EvK.not (w_not rfl rfl c8) rfl rfl ?_
                          refine EvK.not (w_not rfl rfl c8) rfl rfl ?_
                          refine EvK.not (w_undef rfl rfl) rfl rfl ?_
                          refine EvK.not (w_undef rfl rfl) rfl rfl ?_
                          refine EvK.not (w_undef rfl rfl) rfl rfl ?_
                          refine EvK.not (w_undef rfl rfl) rfl rfl ?_
                          refine EvK.not (w_undef rfl rfl) rfl rfl ?_
                          refine EvK.not (w_undef rfl rfl) rfl rfl ?_
                          refine EvK.not (w_not rfl rfl c8) rfl rfl ?_
                          refine EvK.pure (v := .bool true) (w_none rfl) rfl rfl (f_pickT rfl rfl c8 rfl) ?_
                          refine EvK.pure (v := .bool true) (w_none rfl) rfl rfl (f_assign rfl rfl) ?_
                          refine EvK.nil ?_
                          exact KE.mk true ⟨rfl, rfl, rfl, rfl, trivial⟩ hF
                        · refine EvK.pure (v := .int .i64 s6.2) (w_some rfl rfl c8) rfl rfl (f_move rfl rfl) ?_
                          refine EvK.pure (v := .int .i64 s2) (w_some rfl rfl c8) rfl rfl (f_move rfl rfl) ?_
                          refine EvK.pure (v := .bool (decide (s6.2 < s2))) (w_some rfl rfl c8) rfl rfl (f_lss rfl rfl rfl) ?_
                          refine EvK.pure (v := .bool (decide (s6.2 < s2))) (w_some rfl rfl c8) rfl rfl (f_move rfl rfl) ?_
                          rcases ite_inv hF with ⟨c9, hF⟩ | ⟨c9, hF⟩
                          · refine EvK.pure (v := Sl.val a0) (w_some rfl rfl c9) rfl rfl (f_move rfl rfl) ?_
                            refine EvK.pure (v := .int .i64 s6.2) (w_some rfl rfl c9) rfl rfl (f_move rfl rfl) ?_
                            obtain ⟨q3, hq3, hF⟩ := hF
                            refine EvK.pure (v := .pointer (some q3)) (w_some rfl rfl c9) rfl rfl (f_indexAddr (s := a0) Try.underlying29 ty35.size rfl rfl rfl hq3) ?_
                            refine EvK.pure (v := .pointer (some (q3.add 2))) (w_some rfl rfl c9) rfl rfl (f_fieldAddr fd35_2 rfl rfl) ?_
                            obtain ⟨x3, hx3, hF⟩ := hF
                            refine EvK.read (v := .bool x3) (w_some rfl rfl c9) rfl rfl (f_load kB ty4 rfl rfl hx3 rfl) ?_
                            refine EvK.pure (v := .bool (!x3)) (w_some rfl rfl c9) rfl rfl (f_not rfl rfl) ?_
                            refine EvK.pure (v := .bool (!x3)) (w_some rfl rfl c8) rfl rfl (f_pickT rfl rfl c9 rfl) ?_
                            refine EvK.pure (v := .bool (!x3)) (w_none rfl) rfl rfl (f_pickF rfl rfl c8 rfl) ?_
                            refine EvK.pure (v := .bool (!x3)) (w_none rfl) rfl rfl (f_assign rfl rfl) ?_
                            refine EvK.nil ?_
                            exact KE.mk (!x3) ⟨rfl, rfl, rfl, rfl, trivial⟩ hF
                          · refine EvK.not (w_not rfl rfl c9) rfl rfl ?_
                            refine EvK.not (w_not rfl rfl c9) rfl rfl ?_
                            refine EvK.not (w_not rfl rfl c9) rfl rfl ?_
                            refine EvK.not (w_not rfl rfl c9) rfl rfl ?_
                            refine EvK.not (w_not rfl rfl c9) rfl rfl ?_
                            refine EvK.not (w_not rfl rfl c9) rfl rfl ?_
                            refine EvK.pure (v := .bool false) (w_some rfl rfl c8) rfl rfl (f_pickF rfl rfl c9 rfl) ?_
                            refine EvK.pure (v := .bool false) (w_none rfl) rfl rfl (f_pickF rfl rfl c8 rfl) ?_
                            refine EvK.pure (v := .bool false) (w_none rfl) rfl rfl (f_assign rfl rfl) ?_
                            refine EvK.nil ?_
                            exact KE.mk false ⟨rfl, rfl, rfl, rfl, trivial⟩ hF
                  · intro k9 hF
                    refine WP.region ?_
                    refine EvK.pure (v := Sl.val a0) (w_none rfl) rfl rfl (f_move rfl rfl) ?_
                    refine EvK.pure (v := .int .i64 s2) (w_none rfl) rfl rfl (f_move rfl rfl) ?_
                    obtain ⟨q4, hq4, hF⟩ := hF
                    refine EvK.pure (v := .pointer (some q4)) (w_none rfl) rfl rfl (f_indexAddr (s := a0) Try.underlying29 ty35.size rfl rfl rfl hq4) ?_
                    refine EvK.pure (v := .pointer (some (q4.add 2))) (w_none rfl) rfl rfl (f_fieldAddr fd35_2 rfl rfl) ?_
                    obtain ⟨x4, hx4, hF⟩ := hF
                    refine EvK.read (v := .bool x4) (w_none rfl) rfl rfl (f_load kB ty4 rfl rfl hx4 rfl) ?_
                    refine EvK.pure (v := .bool x4) (w_none rfl) rfl rfl (f_move rfl rfl) ?_
                    rcases ite_inv hF with ⟨c10, hF⟩ | ⟨c10, hF⟩
                    · refine EvK.pure (v := Sl.val a0) (w_some rfl rfl c10) rfl rfl (f_move rfl rfl) ?_
                      refine EvK.pure (v := .int .i64 s6.2) (w_some rfl rfl c10) rfl rfl (f_move rfl rfl) ?_
                      obtain ⟨q5, hq5, hF⟩ := hF
                      refine EvK.pure (v := .pointer (some q5)) (w_some rfl rfl c10) rfl rfl (f_indexAddr (s := a0) Try.underlying29 ty35.size rfl rfl rfl hq5) ?_
                      refine EvK.pure (v := .pointer (some (q5.add 2))) (w_some rfl rfl c10) rfl rfl (f_fieldAddr fd35_2 rfl rfl) ?_
                      obtain ⟨x5, hx5, hF⟩ := hF
                      refine EvK.read (v := .bool x5) (w_some rfl rfl c10) rfl rfl (f_load kB ty4 rfl rfl hx5 rfl) ?_
                      refine EvK.pure (v := .bool x5) (w_none rfl) rfl rfl (f_pickT rfl rfl c10 rfl) ?_
                      refine EvK.nil ?_
                      exact KE.mk x5 ⟨rfl, rfl, rfl, rfl, rfl, trivial⟩ hF
                    · refine EvK.not (w_not rfl rfl c10) rfl rfl ?_
                      refine EvK.not (w_not rfl rfl c10) rfl rfl ?_
                      refine EvK.not (w_not rfl rfl c10) rfl rfl ?_
                      refine EvK.not (w_not rfl rfl c10) rfl rfl ?_
                      refine EvK.not (w_not rfl rfl c10) rfl rfl ?_
                      refine EvK.pure (v := .bool false) (w_none rfl) rfl rfl (f_pickF rfl rfl c10 rfl) ?_
                      refine EvK.nil ?_
                      exact KE.mk false ⟨rfl, rfl, rfl, rfl, rfl, trivial⟩ hF
              · intro k8 hF
                refine WP.draw mixed [.pure, .pure, .pure, .pure, .pure, .pure, .pure, .pure, .read, .pure, .pure, .pure, .pure, .read, .eff [], .pure, .pure] [[], [], [0, 1], [0, 1, 2], [0, 1, 2, 3], [0, 1, 2, 3], [0, 1, 2, 3, 4, 5], [0, 1, 2, 3, 4, 5, 6], [0, 1, 2, 3, 4, 5, 6, 7], [0, 1, 2, 3], [0, 1, 2, 3], [0, 1, 2, 3, 9, 10], [0, 1, 2, 3, 9, 10, 11], [0, 1, 2, 3, 9, 10, 11, 12], [0, 1, 2, 3, 4, 5, 6, 7, 8, 9, 10, 11, 12, 13], [0, 1, 2, 3, 4, 5, 6, 7, 8, 9, 10, 11, 12, 13, 14], [0, 1, 2, 3, 4, 5, 6, 7, 8, 9, 10, 11, 12, 13, 14, 15]] [0, 1, 2, 3, 4, 5, 6, 7, 8, 9, 10, 11, 12, 13, 14, 15, 16] (by kernel_rfl) (by kernel_rfl) ?_
                refine EvI.pure (v := .int .i64 s2) rfl rfl (w_none rfl) rfl (f_move rfl rfl) ?_
                refine EvI.pure (v := .int .i64 s6.2) rfl rfl (w_none rfl) rfl (f_move rfl rfl) ?_
                refine EvI.pure (v := .bool (s2 == s6.2)) rfl rfl (w_none rfl) rfl (f_eql rfl rfl rfl) ?_
                refine EvI.pure (v := .bool (s2 == s6.2)) rfl rfl (w_none rfl) rfl (f_move rfl rfl) ?_
                rcases ite_inv hF with ⟨c11, hF⟩ | ⟨c11, hF⟩
                · refine EvI.not rfl (w_not rfl rfl c11) rfl ?_
                  refine EvI.not rfl (w_not rfl rfl c11) rfl ?_
                  refine EvI.not rfl (w_not rfl rfl c11) rfl ?_
                  refine EvI.not rfl (w_not rfl rfl c11) rfl ?_
                  refine EvI.not rfl (w_not rfl rfl c11) rfl ?_
                  refine EvI.not rfl (w_not rfl rfl c11) rfl ?_
                  refine EvI.not rfl (w_not rfl rfl c11) rfl ?_
                  refine EvI.not rfl (w_not rfl rfl c11) rfl ?_
                  refine EvI.not rfl (w_not rfl rfl c11) rfl ?_
                  refine EvI.not rfl (w_not rfl rfl c11) rfl ?_
                  refine EvI.not rfl (w_not rfl rfl c11) rfl ?_
                  refine EvI.not rfl (w_not rfl rfl c11) rfl ?_
                  refine EvI.pure (v := .bool true) rfl rfl (w_none rfl) rfl (f_pickT rfl rfl c11 rfl) ?_
                  refine EvI.nil ?_
                  exact KE.mk true ⟨rfl, rfl, rfl, rfl, rfl, trivial⟩ hF
                · refine EvI.pure (v := Sl.val a0) rfl rfl (w_some rfl rfl c11) rfl (f_move rfl rfl) ?_
                  refine EvI.pure (v := .int .i64 s2) rfl rfl (w_some rfl rfl c11) rfl (f_move rfl rfl) ?_
                  obtain ⟨q6, hq6, hF⟩ := hF
                  refine EvI.pure (v := .pointer (some q6)) rfl rfl (w_some rfl rfl c11) rfl (f_indexAddr (s := a0) Try.underlying29 ty35.size rfl rfl rfl hq6) ?_
                  refine EvI.pure (v := .pointer (some (q6.add 1))) rfl rfl (w_some rfl rfl c11) rfl (f_fieldAddr fd35_1 rfl rfl) ?_
                  obtain ⟨x6, hx6, hF⟩ := hF
                  refine EvI.read (v := Sl.val x6) rfl rfl (w_some rfl rfl c11) rfl (f_load kL ty30 rfl rfl hx6 rfl) ?_
                  refine EvI.pure (v := Sl.val a0) rfl rfl (w_some rfl rfl c11) rfl (f_move rfl rfl) ?_
                  refine EvI.pure (v := .int .i64 s6.2) rfl rfl (w_some rfl rfl c11) rfl (f_move rfl rfl) ?_
                  obtain ⟨q7, hq7, hF⟩ := hF
                  refine EvI.pure (v := .pointer (some q7)) rfl rfl (w_some rfl rfl c11) rfl (f_indexAddr (s := a0) Try.underlying29 ty35.size rfl rfl rfl hq7) ?_
                  refine EvI.pure (v := .pointer (some (q7.add 1))) rfl rfl (w_some rfl rfl c11) rfl (f_fieldAddr fd35_1 rfl rfl) ?_
                  obtain ⟨x7, hx7, hF⟩ := hF
                  refine EvI.read (v := Sl.val x7) rfl rfl (w_some rfl rfl c11) rfl (f_load kL ty30 rfl rfl hx7 rfl) ?_
                  refine EvI.call rfl rfl (w_some rfl rfl c11) rfl (enterH Try.func26 rfl rfl rfl rfl (spatelaw11_conflict.sound hF)) ?_
                  rintro _ h10 ⟨r1, rfl, hF⟩
                  refine ⟨⟨chk_no rfl, chk_no rfl, trivial⟩, ?_⟩
                  refine EvI.pure (v := .bool (!r1)) rfl rfl (w_some rfl rfl c11) rfl (f_not rfl rfl) ?_
                  refine EvI.pure (v := .bool (!r1)) rfl rfl (w_none rfl) rfl (f_pickF rfl rfl c11 rfl) ?_
                  refine EvI.nil ?_
                  exact KE.mk (!r1) ⟨rfl, rfl, rfl, rfl, rfl, trivial⟩ hF
          · refine WP.cond_false _ rfl c4 ?_
            refine WP.exit ?_
            exact KE.mk s6.1 ⟨rfl, rfl, rfl, trivial⟩ hF
    · refine WP.cond_false _ rfl c1 ?_
      refine WP.exit ?_
      exact KE.mk () trivial hF
end Go.Proofs.Ytgmihbchcmjmdaa

namespace Go.Proofs.Ytgmihbchcmjmdaa
open Go Go.Tr
set_option linter.unusedVariables false
set_option maxRecDepth 100000
set_option maxHeartbeats 400000
def spatelaw11_grant.b1 (p0 : Sl) (p1 : Sl) (s : Int × Int) (h : H) (K : (Int × Int) ⊕ (Unit ⊕ Bool) → H → Prop) : Prop :=
  if (decide (s.2 < (p1.len : Int))) = true then
    rd (ixA 1 p1 s.2) fun q1 =>
    rd (ld (kI .i64) q1 h) fun x1 =>
    spatelaw11_find p0 x1 h fun r2 h3 =>
    jn (fun (k2 : Bool → H → Prop) =>
      if (decide (r2 < 0)) = true then
        k2 true h3
      else
        rd (ixA 3 p0 r2) fun q3 =>
        rd (ld kB (q3.add 2) h3) fun x2 =>
        if x2 = true then
          k2 true h3
        else
          k2 (decide (r2 ≤ s.1)) h3) fun s2 h4 =>
    if s2 = true then
      K (.inr (.inr false)) h4
    else
      rd (ixA 3 p0 r2) fun q2 =>
      rd (st kB (q2.add 2) true h4) fun h5 =>
      K (.inl (r2, IntKind.i64.wrap (s.2 + 1))) h5
  else
    K (.inr (.inl ())) h
/-- spate/spatelaw11.grant -/
def spatelaw11_grant (a0 : Sl) (a1 : Sl) (h : H) (Q : Bool → H → Prop) : Prop :=
  jn (fun (k1 : Unit → H → Prop) =>
    loopE (spatelaw11_grant.b1 a0 a1) ((-1), 0) h (sumK (fun r3 hh => k1 r3 hh) (fun r4 hh => Q r4 hh))) fun s1 h1 =>
  spatelaw11_fair a0 h1 fun r1 h2 =>
  Q r1 h2
theorem spatelaw11_grant.sound {a0 : Sl} {a1 : Sl} {h : H} {Q : Bool → H → Prop} (hF : spatelaw11_grant a0 a1 h Q) :
    CallsH Try.prog 27 (List.toArray (α := Value) [Sl.val a0, Sl.val a1]) h fun v h' => ∃ x : Bool, v = .bool x ∧ Q x h' := by
  refine CallsH.of_body Try.func27 rfl 41 rfl rfl ?_
  refine WP.seq ?_
  refine WP.region ?_
  refine EvK.pure (v := .bool false) (w_none rfl) rfl rfl (f_assign rfl rfl) ?_
  refine EvK.nil ?_
  refine WP.seq ?_
  refine WP.region ?_
  refine EvK.pure (v := .int .i64 (-1)) (w_none rfl) rfl rfl (f_assign rfl rfl) ?_
  refine EvK.nil ?_
  refine WP.joinF (fun (s1 : Unit) => [(0, Sl.val a0)]) hF ?_ ?_
  · intro s1 E0 h1 hF
    refine WP.seq ?_
    refine WP.region ?_
    refine EvK.pure (v := Sl.val a0) (w_none rfl) rfl rfl (f_move rfl rfl) ?_
    refine EvK.call (w_none rfl) rfl rfl (enterH Try.func29 rfl rfl rfl rfl (spatelaw11_fair.sound hF)) ?_
    rintro _ h2 ⟨r1, rfl, hF⟩
    refine EvK.pure (v := .bool r1) (w_none rfl) rfl rfl (f_assign rfl rfl) ?_
    refine EvK.nil ?_
    refine WP.ret ?_
    exact Ret.mk (vs := [.bool r1]) r1 ⟨rfl, trivial⟩ rfl hF
  · intro k1 hF
    refine WP.seq ?_
    refine WP.region ?_
    refine EvK.pure (v := .int .i64 0) (w_none rfl) rfl rfl (f_assign rfl rfl) ?_
    refine EvK.nil ?_
    refine WP.block ?_
    refine WP.loopF (fun (s2 : Int × Int) => [(5, .int .i64 s2.1), (6, .int .i64 s2.2), (0, Sl.val a0), (1, Sl.val a1)]) hF ⟨rfl, rfl, rfl, rfl, trivial⟩ ?_
    intro k2 s2 E0 h3 hF
    refine WP.seq ?_
    refine WP.seq ?_
    refine WP.region ?_
    refine EvK.pure (v := .int .i64 s2.2) (w_none rfl) rfl rfl (f_move rfl rfl) ?_
    refine EvK.pure (v := Sl.val a1) (w_none rfl) rfl rfl (f_move rfl rfl) ?_
    refine EvK.pure (v := .int .i64 (a1.len : Int)) (w_none rfl) rfl rfl (f_lenL (s := a1) Try.underlying22 rfl rfl) ?_
    refine EvK.pure (v := .bool (decide (s2.2 < (a1.len : Int)))) (w_none rfl) rfl rfl (f_lss rfl rfl rfl) ?_
    refine EvK.nil ?_
    rcases ite_inv hF with ⟨c1, hF⟩ | ⟨c1, hF⟩
    · refine WP.cond_true _ rfl c1 ?_
      refine WP.skip ?_
      refine WP.seq ?_
      refine WP.block ?_
      refine WP.seq ?_
      refine WP.region ?_
      refine EvK.pure (v := Sl.val a0) (w_none rfl) rfl rfl (f_move rfl rfl) ?_
      refine EvK.pure (v := Sl.val a1) (w_none rfl) rfl rfl (f_move rfl rfl) ?_
      refine EvK.pure (v := .int .i64 s2.2) (w_none rfl) rfl rfl (f_move rfl rfl) ?_
      obtain ⟨q1, hq1, hF⟩ := hF
      refine EvK.pure (v := .pointer (some q1)) (w_none rfl) rfl rfl (f_indexAddr (s := a1) Try.underlying22 ty3.size rfl rfl rfl hq1) ?_
      obtain ⟨x1, hx1, hF⟩ := hF
      refine EvK.read (v := .int .i64 x1) (w_none rfl) rfl rfl (f_load (kI .i64) ty3 rfl rfl hx1 rfl) ?_
      refine EvK.call (w_none rfl) rfl rfl (enterH Try.func24 rfl rfl rfl rfl (spatelaw11_find.sound hF)) ?_
      rintro _ h4 ⟨r2, rfl, hF⟩
      refine EvK.pure (v := .int .i64 r2) (w_none rfl) rfl rfl (f_assign rfl rfl) ?_
      refine EvK.nil ?_
      refine WP.seq ?_
      refine WP.joinF (fun (s3 : Bool) => [(33, .bool s3), (0, Sl.val a0), (1, Sl.val a1), (6, .int .i64 s2.2), (7, .int .i64 r2)]) hF ?_ ?_
      · intro s3 E0 h5 hF
        rcases ite_inv hF with ⟨c2, hF⟩ | ⟨c2, hF⟩
        · refine WP.cond_true _ rfl c2 ?_
          refine WP.seq ?_
          refine WP.region ?_
          refine EvK.pure (v := .bool false) (w_none rfl) rfl rfl (f_assign rfl rfl) ?_
          refine EvK.nil ?_
          refine WP.ret ?_
          exact Ret.mk (vs := [.bool false]) false ⟨rfl, trivial⟩ rfl hF
        · refine WP.cond_false _ rfl c2 ?_
          refine WP.skip ?_
          refine WP.seq ?_
          refine WP.region ?_
          refine EvK.pure (v := .int .i64 r2) (w_none rfl) rfl rfl (f_move rfl rfl) ?_
          refine EvK.pure (v := .int .i64 r2) (w_none rfl) rfl rfl (f_assign rfl rfl) ?_
          refine EvK.nil ?_
          refine WP.region ?_
          refine EvK.pure (v := Sl.val a0) (w_none rfl) rfl rfl (f_move rfl rfl) ?_
          refine EvK.pure (v := .int .i64 r2) (w_none rfl) rfl rfl (f_move rfl rfl) ?_
          obtain ⟨q2, hq2, hF⟩ := hF
          refine EvK.pure (v := .pointer (some q2)) (w_none rfl) rfl rfl (f_indexAddr (s := a0) Try.underlying29 ty35.size rfl rfl rfl hq2) ?_
          refine EvK.pure (v := .pointer (some (q2.add 2))) (w_none rfl) rfl rfl (f_fieldAddr fd35_2 rfl rfl) ?_
          obtain ⟨h6, hs1, hF⟩ := hF
          refine EvK.runN (w_none rfl) rfl (f_store kB ty4.size (z := true) rfl rfl rfl hs1) ?_
          rintro _ _ ⟨rfl, rfl⟩
          refine EvK.nil ?_
          refine WP.region ?_
          refine EvK.pure (v := .int .i64 s2.2) (w_none rfl) rfl rfl (f_move rfl rfl) ?_
          refine EvK.pure (v := .int .i64 (IntKind.i64.wrap (s2.2 + 1))) (w_none rfl) rfl rfl (f_add rfl rfl rfl) ?_
          refine EvK.pure (v := .int .i64 (IntKind.i64.wrap (s2.2 + 1))) (w_none rfl) rfl rfl (f_assign rfl rfl) ?_
          refine EvK.nil ?_
          exact KE.mk (r2, IntKind.i64.wrap (s2.2 + 1)) ⟨rfl, rfl, rfl, rfl, trivial⟩ hF
      · intro k3 hF
        refine WP.region ?_
        refine EvK.pure (v := .int .i64 r2) (w_none rfl) rfl rfl (f_move rfl rfl) ?_
        refine EvK.pure (v := .bool (decide (r2 < 0))) (w_none rfl) rfl rfl (f_lss rfl rfl rfl) ?_
        refine EvK.pure (v := .bool (decide (r2 < 0))) (w_none rfl) rfl rfl (f_move rfl rfl) ?_
        rcases ite_inv hF with ⟨c3, hF⟩ | ⟨c3, hF⟩
        · refine EvK.not (w_not rfl rfl c3) rfl rfl ?_
          refine EvK.not (w_not rfl rfl c3) rfl rfl ?_
          refine EvK.not (w_not rfl rfl c3) rfl rfl ?_
          refine EvK.not (w_not rfl rfl c3) rfl rfl ?_
          refine EvK.not (w_not rfl rfl c3) rfl rfl ?_
          refine EvK.pure (v := .bool true) (w_none rfl) rfl rfl (f_pickT rfl rfl c3 rfl) ?_
          refine EvK.pure (v := .bool true) (w_none rfl) rfl rfl (f_move rfl rfl) ?_
          refine EvK.not (w_not rfl rfl rfl) rfl rfl ?_
          refine EvK.not (w_not rfl rfl rfl) rfl rfl ?_
          refine EvK.not (w_not rfl rfl rfl) rfl rfl ?_
          refine EvK.pure (v := .bool true) (w_none rfl) rfl rfl (f_pickT rfl rfl rfl rfl) ?_
          refine EvK.nil ?_
          exact KE.mk true ⟨rfl, rfl, rfl, rfl, rfl, trivial⟩ hF
        · refine EvK.pure (v := Sl.val a0) (w_some rfl rfl c3) rfl rfl (f_move rfl rfl) ?_
          refine EvK.pure (v := .int .i64 r2) (w_some rfl rfl c3) rfl rfl (f_move rfl rfl) ?_
          obtain ⟨q3, hq3, hF⟩ := hF
          refine EvK.pure (v := .pointer (some q3)) (w_some rfl rfl c3) rfl rfl (f_indexAddr (s := a0) Try.underlying29 ty35.size rfl rfl rfl hq3) ?_
          refine EvK.pure (v := .pointer (some (q3.add 2))) (w_some rfl rfl c3) rfl rfl (f_fieldAddr fd35_2 rfl rfl) ?_
          obtain ⟨x2, hx2, hF⟩ := hF
          refine EvK.read (v := .bool x2) (w_some rfl rfl c3) rfl rfl (f_load kB ty4 rfl rfl hx2 rfl) ?_
          refine EvK.pure (v := .bool x2) (w_none rfl) rfl rfl (f_pickF rfl rfl c3 rfl) ?_
          refine EvK.pure (v := .bool x2) (w_none rfl) rfl rfl (f_move rfl rfl) ?_
          rcases ite_inv hF with ⟨c4, hF⟩ | ⟨c4, hF⟩
          · refine EvK.not (w_not rfl rfl c4) rfl rfl ?_
            refine EvK.not (w_not rfl rfl c4) rfl rfl ?_
            refine EvK.not (w_not rfl rfl c4) rfl rfl ?_
            refine EvK.pure (v := .bool true) (w_none rfl) rfl rfl (f_pickT rfl rfl c4 rfl) ?_
            refine EvK.nil ?_
            exact KE.mk true ⟨rfl, rfl, rfl, rfl, rfl, trivial⟩ hF
          · refine EvK.pure (v := .int .i64 r2) (w_some rfl rfl c4) rfl rfl (f_move rfl rfl) ?_
            refine EvK.pure (v := .int .i64 s2.1) (w_some rfl rfl c4) rfl rfl (f_move rfl rfl) ?_
            refine EvK.pure (v := .bool (decide (r2 ≤ s2.1))) (w_some rfl rfl c4) rfl rfl (f_leq rfl rfl rfl) ?_
            refine EvK.pure (v := .bool (decide (r2 ≤ s2.1))) (w_none rfl) rfl rfl (f_pickF rfl rfl c4 rfl) ?_
            refine EvK.nil ?_
            exact KE.mk (decide (r2 ≤ s2.1)) ⟨rfl, rfl, rfl, rfl, rfl, trivial⟩ hF
    · refine WP.cond_false _ rfl c1 ?_
      refine WP.exit ?_
      exact KE.mk () ⟨rfl, trivial⟩ hF
end Go.Proofs.Ytgmihbchcmjmdaa

namespace Go.Proofs.Ytgmihbchcmjmdaa
open Go Go.Tr
set_option linter.unusedVariables false
set_option maxRecDepth 100000
set_option maxHeartbeats 400000
def spatelaw11_queue.b1 (p0 : Sl) (s : Sl × Int) (h : H) (K : (Sl × Int) ⊕ Sl → H → Prop) : Prop :=
  if (decide (s.2 < (p0.len : Int))) = true then
    jn (fun (k2 : Sl → H → Prop) =>
      rd (ixA 3 p0 s.2) fun q1 =>
      rd (ld kB (q1.add 2) h) fun x1 =>
      if (!x1) = true then
        rd (ixA 3 p0 s.2) fun q2 =>
        rd (ld (kI .i64) (q2.add 0) h) fun x2 =>
        bs 3 1 ((kI .i64).enc x2) h fun x3 h3 =>
        ap (kI .i64).n 8 3 ((kI .i64).enc 0) s.1 x3 h3 fun x4 h4 =>
        k2 x4 h4
      else
        k2 s.1 h) fun s2 h2 =>
    K (.inl (s2, IntKind.i64.wrap (s.2 + 1))) h2
  else
    K (.inr s.1) h
/-- spate/spatelaw11.queue -/
def spatelaw11_queue (a0 : Sl) (h : H) (Q : Sl → H → Prop) : Prop :=
  jn (fun (k1 : Sl → H → Prop) =>
    loopE (spatelaw11_queue.b1 a0) (Sl.nil, 0) h (fun r1 hh => k1 r1 hh)) fun s1 h1 =>
  Q s1 h1
theorem spatelaw11_queue.sound {a0 : Sl} {h : H} {Q : Sl → H → Prop} (hF : spatelaw11_queue a0 h Q) :
    CallsH Try.prog 30 (List.toArray (α := Value) [Sl.val a0]) h fun v h' => ∃ x : Sl, v = Sl.val x ∧ Q x h' := by
  refine CallsH.of_body Try.func30 rfl 26 rfl rfl ?_
  refine WP.seq ?_
  refine WP.region ?_
  refine EvK.pure (v := Sl.val Sl.nil) (w_none rfl) rfl rfl (f_assign rfl rfl) ?_
  refine EvK.nil ?_
  refine WP.seq ?_
  refine WP.region ?_
  refine EvK.pure (v := Sl.val Sl.nil) (w_none rfl) rfl rfl (f_assign rfl rfl) ?_
  refine EvK.nil ?_
  refine WP.joinF (fun (s1 : Sl) => [(3, Sl.val s1)]) hF ?_ ?_
  · intro s1 E0 h1 hF
    refine WP.seq ?_
    refine WP.region ?_
    refine EvK.pure (v := Sl.val s1) (w_none rfl) rfl rfl (f_move rfl rfl) ?_
    refine EvK.pure (v := Sl.val s1) (w_none rfl) rfl rfl (f_assign rfl rfl) ?_
    refine EvK.nil ?_
    refine WP.ret ?_
    exact Ret.mk (vs := [Sl.val s1]) s1 ⟨rfl, trivial⟩ rfl hF
  · intro k1 hF
    refine WP.seq ?_
    refine WP.region ?_
    refine EvK.pure (v := .int .i64 0) (w_none rfl) rfl rfl (f_assign rfl rfl) ?_
    refine EvK.nil ?_
    refine WP.block ?_
    refine WP.loopF (fun (s2 : Sl × Int) => [(3, Sl.val s2.1), (4, .int .i64 s2.2), (0, Sl.val a0)]) hF ⟨rfl, rfl, rfl, trivial⟩ ?_
    intro k2 s2 E0 h2 hF
    refine WP.seq ?_
    refine WP.seq ?_
    refine WP.region ?_
    refine EvK.pure (v := .int .i64 s2.2) (w_none rfl) rfl rfl (f_move rfl rfl) ?_
    refine EvK.pure (v := Sl.val a0) (w_none rfl) rfl rfl (f_move rfl rfl) ?_
    refine EvK.pure (v := .int .i64 (a0.len : Int)) (w_none rfl) rfl rfl (f_lenL (s := a0) Try.underlying29 rfl rfl) ?_
    refine EvK.pure (v := .bool (decide (s2.2 < (a0.len : Int)))) (w_none rfl) rfl rfl (f_lss rfl rfl rfl) ?_
    refine EvK.nil ?_
    rcases ite_inv hF with ⟨c1, hF⟩ | ⟨c1, hF⟩
    · refine WP.cond_true _ rfl c1 ?_
      refine WP.skip ?_
      refine WP.joinF (fun (s3 : Sl) => [(3, Sl.val s3), (0, Sl.val a0), (4, .int .i64 s2.2)]) hF ?_ ?_
      · intro s3 E0 h3 hF
        refine WP.region ?_
        refine EvK.pure (v := .int .i64 s2.2) (w_none rfl) rfl rfl (f_move rfl rfl) ?_
        refine EvK.pure (v := .int .i64 (IntKind.i64.wrap (s2.2 + 1))) (w_none rfl) rfl rfl (f_add rfl rfl rfl) ?_
        refine EvK.pure (v := .int .i64 (IntKind.i64.wrap (s2.2 + 1))) (w_none rfl) rfl rfl (f_assign rfl rfl) ?_
        refine EvK.nil ?_
        exact KE.mk (s3, IntKind.i64.wrap (s2.2 + 1)) ⟨rfl, rfl, rfl, trivial⟩ hF
      · intro k3 hF
        refine WP.block ?_
        refine WP.seq ?_
        refine WP.region ?_
        refine EvK.pure (v := Sl.val a0) (w_none rfl) rfl rfl (f_move rfl rfl) ?_
        refine EvK.pure (v := .int .i64 s2.2) (w_none rfl) rfl rfl (f_move rfl rfl) ?_
        obtain ⟨q1, hq1, hF⟩ := hF
        refine EvK.pure (v := .pointer (some q1)) (w_none rfl) rfl rfl (f_indexAddr (s := a0) Try.underlying29 ty35.size rfl rfl rfl hq1) ?_
        refine EvK.pure (v := .pointer (some (q1.add 2))) (w_none rfl) rfl rfl (f_fieldAddr fd35_2 rfl rfl) ?_
        obtain ⟨x1, hx1, hF⟩ := hF
        refine EvK.read (v := .bool x1) (w_none rfl) rfl rfl (f_load kB ty4 rfl rfl hx1 rfl) ?_
        refine EvK.pure (v := .bool (!x1)) (w_none rfl) rfl rfl (f_not rfl rfl) ?_
        refine EvK.nil ?_
        rcases ite_inv hF with ⟨c2, hF⟩ | ⟨c2, hF⟩
        · refine WP.cond_true _ rfl c2 ?_
          refine WP.region ?_
          refine EvK.pure (v := Sl.val s2.1) (w_none rfl) rfl rfl (f_move rfl rfl) ?_
          refine EvK.pure (v := Sl.val a0) (w_none rfl) rfl rfl (f_move rfl rfl) ?_
          refine EvK.pure (v := .int .i64 s2.2) (w_none rfl) rfl rfl (f_move rfl rfl) ?_
          obtain ⟨q2, hq2, hF⟩ := hF
          refine EvK.pure (v := .pointer (some q2)) (w_none rfl) rfl rfl (f_indexAddr (s := a0) Try.underlying29 ty35.size rfl rfl rfl hq2) ?_
          refine EvK.pure (v := .pointer (some (q2.add 0))) (w_none rfl) rfl rfl (f_fieldAddr fd35_0 rfl rfl) ?_
          obtain ⟨x2, hx2, hF⟩ := hF
          refine EvK.read (v := .int .i64 x2) (w_none rfl) rfl rfl (f_load (kI .i64) ty3 rfl rfl hx2 rfl) ?_
          refine EvK.alloc (w_none rfl) rfl rfl (f_buildSliceF Try.underlying22 el3 (by decide) rfl rfl rfl hF) ?_
          rintro _ h4 ⟨x3, rfl, hF⟩
          refine EvK.run (w_none rfl) rfl rfl (f_appendE (s := s2.1) (x := x3) Try.underlying22 el3 rfl rfl rfl hF) ?_
          rintro _ h5 ⟨x4, rfl, hF⟩
          refine EvK.pure (v := Sl.val x4) (w_none rfl) rfl rfl (f_assign rfl rfl) ?_
          refine EvK.nil ?_
          exact KE.mk x4 ⟨rfl, rfl, rfl, trivial⟩ hF
        · refine WP.cond_false _ rfl c2 ?_
          refine WP.skip ?_
          exact KE.mk s2.1 ⟨rfl, rfl, rfl, trivial⟩ hF
    · refine WP.cond_false _ rfl c1 ?_
      refine WP.exit ?_
      exact KE.mk s2.1 ⟨rfl, trivial⟩ hF
end Go.Proofs.Ytgmihbchcmjmdaa

namespace Go.Proofs.Ytgmihbchcmjmdaa
open Go Go.Tr
set_option linter.unusedVariables false
set_option maxRecDepth 100000
set_option maxHeartbeats 400000
def spatelaw11_says.b3 (p0 : Option Addr) (p1 : Sl) (p5 : Int) (p6 : Sl) (p7 : Int) (s : Bool × Int) (h : H) (K : (Bool × Int) ⊕ Bool → H → Prop) : Prop :=
  rd (ixA 3 p1 p5) fun q4 =>
  rd (ld kL (q4.add 1) h) fun x4 =>
  if (decide (s.2 < (x4.len : Int))) = true then
    jn (fun (k8 : Bool → H → Prop) =>
      if s.1 = true then
        k8 true h
      else
        rd (ixA 3 p1 p5) fun q5 =>
        rd (ld kL (q5.add 1) h) fun x5 =>
        rd (ixA 2 x5 s.2) fun q6 =>
        rd (ld k31 q6 h) fun x6 =>
        rd (ixA 2 p6 p7) fun q7 =>
        rd (ld k31 q7 h) fun x7 =>
        k8 (eq32 x6 x7) h) fun s8 h9 =>
    K (.inl (s8, IntKind.i64.wrap (s.2 + 1))) h9
  else
    K (.inr s.1) h
def spatelaw11_says.b2 (p0 : Option Addr) (p1 : Sl) (p5 : Int) (p6 : Sl) (s : Int) (h : H) (K : Int ⊕ (Unit ⊕ Bool) → H → Prop) : Prop :=
  if (decide (s < (p6.len : Int))) = true then
    jn (fun (k5 : Unit → H → Prop) =>
      jn (fun (k6 : Bool → H → Prop) =>
        loopE (spatelaw11_says.b3 p0 p1 p5 p6 s) (false, 0) h (fun r2 hh => k6 r2 hh)) fun s6 h7 =>
      jn (fun (k7 : Bool → H → Prop) =>
        if (!s6) = true then
          k7 true h7
        else
          if (decide (s > 0)) = true then
            rd (ixA 2 p6 (IntKind.i64.wrap (s - 1))) fun q2 =>
            rd (ld (kI .i64) (q2.add 0) h7) fun x2 =>
            rd (ixA 2 p6 s) fun q3 =>
            rd (ld (kI .i64) (q3.add 0) h7) fun x3 =>
            k7 (decide (x2 ≥ x3)) h7
          else
            k7 false h7) fun s7 h8 =>
      if s7 = true then
        K (.inr (.inr false)) h8
      else
        k5 () h8) fun s5 h6 =>
    K (.inl (IntKind.i64.wrap (s + 1))) h6
  else
    K (.inr (.inl ())) h
def spatelaw11_says.b1 (p0 : Option Addr) (p1 : Sl) (s : Int) (h : H) (K : Int ⊕ (Unit ⊕ Bool) → H → Prop) : Prop :=
  if (decide (s < (p1.len : Int))) = true then
    jn (fun (k2 : Unit → H → Prop) =>
      rd (ixA 3 p1 s) fun q1 =>
      rd (ld (kI .i64) (q1.add 0) h) fun x1 =>
      locks_Manager_Has p0 x1 h fun r1 h3 =>
      jn (fun (k3 : Bool → H → Prop) =>
        rd (ixA 3 p1 s) fun q10 =>
        rd (ld (kI .i64) (q10.add 0) h3) fun x10 =>
        rd (ixA 3 p1 s) fun q11 =>
        rd (ld kB (q11.add 2) h3) fun x11 =>
        locks_Manager_Waits p0 x10 h3 fun r5 h12 =>
        ld kB (q11.add 2) h12 = some x11 ∧
        if (r5 == x11) = true then
          k3 true h12
        else
          rd (ixA 3 p1 s) fun q12 =>
          rd (ld kB (q12.add 2) h12) fun x12 =>
          k3 (!((decide ((r1.len : Int) > 0)) == x12)) h12) fun s3 h4 =>
      if s3 = true then
        K (.inr (.inr false)) h4
      else
        jn (fun (k4 : Bool → H → Prop) =>
          rd (ixA 3 p1 s) fun q8 =>
          rd (ld kB (q8.add 2) h4) fun x8 =>
          if x8 = true then
            rd (ixA 3 p1 s) fun q9 =>
            rd (ld kL (q9.add 1) h4) fun x9 =>
            k4 ((r1.len : Int) != (x9.len : Int)) h4
          else
            k4 false h4) fun s4 h5 =>
        if s4 = true then
          K (.inr (.inr false)) h5
        else
          loopE (spatelaw11_says.b2 p0 p1 s r1) 0 h5 (sumK (fun r3 hh => k2 r3 hh) (fun r4 hh => K (.inr (.inr r4)) hh))) fun s2 h2 =>
    K (.inl (IntKind.i64.wrap (s + 1))) h2
  else
    K (.inr (.inl ())) h
/-- spate/spatelaw11.says -/
def spatelaw11_says (a0 : Option Addr) (a1 : Sl) (h : H) (Q : Bool → H → Prop) : Prop :=
  jn (fun (k1 : Unit → H → Prop) =>
    loopE (spatelaw11_says.b1 a0 a1) 0 h (sumK (fun r6 hh => k1 r6 hh) (fun r7 hh => Q r7 hh))) fun s1 h1 =>
  Q true h1
theorem spatelaw11_says.sound {a0 : Option Addr} {a1 : Sl} {h : H} {Q : Bool → H → Prop} (hF : spatelaw11_says a0 a1 h Q) :
    CallsH Try.prog 31 (List.toArray (α := Value) [.pointer a0, Sl.val a1]) h fun v h' => ∃ x : Bool, v = .bool x ∧ Q x h' := by
  refine CallsH.of_body Try.func31 rfl 115 rfl rfl ?_
  refine WP.seq ?_
  refine WP.region ?_
  refine EvK.pure (v := .bool false) (w_none rfl) rfl rfl (f_assign rfl rfl) ?_
  refine EvK.nil ?_
  refine WP.joinF (fun (s1 : Unit) => []) hF ?_ ?_
  · intro s1 E0 h1 hF
    refine WP.seq ?_
    refine WP.region ?_
    refine EvK.pure (v := .bool true) (w_none rfl) rfl rfl (f_assign rfl rfl) ?_
    refine EvK.nil ?_
    refine WP.ret ?_
    exact Ret.mk (vs := [.bool true]) true ⟨rfl, trivial⟩ rfl hF
  · intro k1 hF
    refine WP.seq ?_
    refine WP.region ?_
    refine EvK.pure (v := .int .i64 0) (w_none rfl) rfl rfl (f_assign rfl rfl) ?_
    refine EvK.nil ?_
    refine WP.block ?_
    refine WP.loopF (fun (s2 : Int) => [(5, .int .i64 s2), (0, .pointer a0), (1, Sl.val a1)]) hF ⟨rfl, rfl, rfl, trivial⟩ ?_
    intro k2 s2 E0 h2 hF
    refine WP.seq ?_
    refine WP.seq ?_
    refine WP.region ?_
    refine EvK.pure (v := .int .i64 s2) (w_none rfl) rfl rfl (f_move rfl rfl) ?_
    refine EvK.pure (v := Sl.val a1) (w_none rfl) rfl rfl (f_move rfl rfl) ?_
    refine EvK.pure (v := .int .i64 (a1.len : Int)) (w_none rfl) rfl rfl (f_lenL (s := a1) Try.underlying29 rfl rfl) ?_
    refine EvK.pure (v := .bool (decide (s2 < (a1.len : Int)))) (w_none rfl) rfl rfl (f_lss rfl rfl rfl) ?_
    refine EvK.nil ?_
    rcases ite_inv hF with ⟨c1, hF⟩ | ⟨c1, hF⟩
    · refine WP.cond_true _ rfl c1 ?_
      refine WP.skip ?_
      refine WP.joinF (fun (s3 : Unit) => [(0, .pointer a0), (1, Sl.val a1), (5, .int .i64 s2)]) hF ?_ ?_
      · intro s3 E0 h3 hF
        refine WP.region ?_
        refine EvK.pure (v := .int .i64 s2) (w_none rfl) rfl rfl (f_move rfl rfl) ?_
        refine EvK.pure (v := .int .i64 (IntKind.i64.wrap (s2 + 1))) (w_none rfl) rfl rfl (f_add rfl rfl rfl) ?_
        refine EvK.pure (v := .int .i64 (IntKind.i64.wrap (s2 + 1))) (w_none rfl) rfl rfl (f_assign rfl rfl) ?_
        refine EvK.nil ?_
        exact KE.mk (IntKind.i64.wrap (s2 + 1)) ⟨rfl, rfl, rfl, trivial⟩ hF
      · intro k3 hF
        refine WP.block ?_
        refine WP.seq ?_
        refine WP.region ?_
        refine EvK.pure (v := .pointer a0) (w_none rfl) rfl rfl (f_move rfl rfl) ?_
        refine EvK.pure (v := Sl.val a1) (w_none rfl) rfl rfl (f_move rfl rfl) ?_
        refine EvK.pure (v := .int .i64 s2) (w_none rfl) rfl rfl (f_move rfl rfl) ?_
        obtain ⟨q1, hq1, hF⟩ := hF
        refine EvK.pure (v := .pointer (some q1)) (w_none rfl) rfl rfl (f_indexAddr (s := a1) Try.underlying29 ty35.size rfl rfl rfl hq1) ?_
        refine EvK.pure (v := .pointer (some (q1.add 0))) (w_none rfl) rfl rfl (f_fieldAddr fd35_0 rfl rfl) ?_
        obtain ⟨x1, hx1, hF⟩ := hF
        refine EvK.read (v := .int .i64 x1) (w_none rfl) rfl rfl (f_load (kI .i64) ty3 rfl rfl hx1 rfl) ?_
        refine EvK.call (w_none rfl) rfl rfl (enterH Try.func16 rfl rfl rfl rfl (locks_Manager_Has.sound hF)) ?_
        rintro _ h4 ⟨r1, rfl, hF⟩
        refine EvK.pure (v := Sl.val r1) (w_none rfl) rfl rfl (f_assign rfl rfl) ?_
        refine EvK.nil ?_
        refine WP.seq ?_
        refine WP.joinF (fun (s4 : Bool) => [(46, .bool s4), (0, .pointer a0), (1, Sl.val a1), (5, .int .i64 s2), (6, Sl.val r1)]) hF ?_ ?_
        · intro s4 E0 h5 hF
          rcases ite_inv hF with ⟨c2, hF⟩ | ⟨c2, hF⟩
          · refine WP.cond_true _ rfl c2 ?_
            refine WP.seq ?_
            refine WP.region ?_
            refine EvK.pure (v := .bool false) (w_none rfl) rfl rfl (f_assign rfl rfl) ?_
            refine EvK.nil ?_
            refine WP.ret ?_
            exact Ret.mk (vs := [.bool false]) false ⟨rfl, trivial⟩ rfl hF
          · refine WP.cond_false _ rfl c2 ?_
            refine WP.skip ?_
            refine WP.seq ?_
            refine WP.joinF (fun (s5 : Bool) => [(62, .bool s5), (0, .pointer a0), (1, Sl.val a1), (5, .int .i64 s2), (6, Sl.val r1)]) hF ?_ ?_
            · intro s5 E0 h6 hF
              rcases ite_inv hF with ⟨c3, hF⟩ | ⟨c3, hF⟩
              · refine WP.cond_true _ rfl c3 ?_
                refine WP.seq ?_
                refine WP.region ?_
                refine EvK.pure (v := .bool false) (w_none rfl) rfl rfl (f_assign rfl rfl) ?_
                refine EvK.nil ?_
                refine WP.ret ?_
                exact Ret.mk (vs := [.bool false]) false ⟨rfl, trivial⟩ rfl hF
              · refine WP.cond_false _ rfl c3 ?_
                refine WP.skip ?_
                refine WP.seq ?_
                refine WP.region ?_
                refine EvK.pure (v := .int .i64 0) (w_none rfl) rfl rfl (f_assign rfl rfl) ?_
                refine EvK.nil ?_
                refine WP.block ?_
                refine WP.loopF (fun (s6 : Int) => [(7, .int .i64 s6), (0, .pointer a0), (1, Sl.val a1), (5, .int .i64 s2), (6, Sl.val r1)]) hF ⟨rfl, rfl, rfl, rfl, rfl, trivial⟩ ?_
                intro k6 s6 E0 h7 hF
                refine WP.seq ?_
                refine WP.seq ?_
                refine WP.region ?_
                refine EvK.pure (v := .int .i64 s6) (w_none rfl) rfl rfl (f_move rfl rfl) ?_
                refine EvK.pure (v := Sl.val r1) (w_none rfl) rfl rfl (f_move rfl rfl) ?_
                refine EvK.pure (v := .int .i64 (r1.len : Int)) (w_none rfl) rfl rfl (f_lenL (s := r1) Try.underlying30 rfl rfl) ?_
                refine EvK.pure (v := .bool (decide (s6 < (r1.len : Int)))) (w_none rfl) rfl rfl (f_lss rfl rfl rfl) ?_
                refine EvK.nil ?_
                rcases ite_inv hF with ⟨c4, hF⟩ | ⟨c4, hF⟩
                · refine WP.cond_true _ rfl c4 ?_
                  refine WP.skip ?_
                  refine WP.joinF (fun (s7 : Unit) => [(0, .pointer a0), (1, Sl.val a1), (5, .int .i64 s2), (6, Sl.val r1), (7, .int .i64 s6)]) hF ?_ ?_
                  · intro s7 E0 h8 hF
                    refine WP.region ?_
                    refine EvK.pure (v := .int .i64 s6) (w_none rfl) rfl rfl (f_move rfl rfl) ?_
                    refine EvK.pure (v := .int .i64 (IntKind.i64.wrap (s6 + 1))) (w_none rfl) rfl rfl (f_add rfl rfl rfl) ?_
                    refine EvK.pure (v := .int .i64 (IntKind.i64.wrap (s6 + 1))) (w_none rfl) rfl rfl (f_assign rfl rfl) ?_
                    refine EvK.nil ?_
                    exact KE.mk (IntKind.i64.wrap (s6 + 1)) ⟨rfl, rfl, rfl, rfl, rfl, trivial⟩ hF
                  · intro k7 hF
                    refine WP.block ?_
                    refine WP.seq ?_
                    refine WP.region ?_
                    refine EvK.pure (v := .bool false) (w_none rfl) rfl rfl (f_assign rfl rfl) ?_
                    refine EvK.nil ?_
                    refine WP.joinF (fun (s8 : Bool) => [(8, .bool s8), (0, .pointer a0), (1, Sl.val a1), (5, .int .i64 s2), (6, Sl.val r1), (7, .int .i64 s6)]) hF ?_ ?_
                    · intro s8 E0 h9 hF
                      refine WP.joinF (fun (s9 : Bool) => [(114, .bool s9), (0, .pointer a0), (1, Sl.val a1), (5, .int .i64 s2), (6, Sl.val r1), (7, .int .i64 s6)]) hF ?_ ?_
                      · intro s9 E0 h10 hF
                        rcases ite_inv hF with ⟨c5, hF⟩ | ⟨c5, hF⟩
                        · refine WP.cond_true _ rfl c5 ?_
                          refine WP.seq ?_
                          refine WP.region ?_
                          refine EvK.pure (v := .bool false) (w_none rfl) rfl rfl (f_assign rfl rfl) ?_
                          refine EvK.nil ?_
                          refine WP.ret ?_
                          exact Ret.mk (vs := [.bool false]) false ⟨rfl, trivial⟩ rfl hF
                        · refine WP.cond_false _ rfl c5 ?_
                          refine WP.skip ?_
                          exact KE.mk () ⟨rfl, rfl, rfl, rfl, rfl, trivial⟩ hF
                      · intro k9 hF
                        refine WP.draw mixed [.pure, .pure, .pure, .pure, .pure, .pure, .pure, .pure, .pure, .pure, .pure, .read, .pure, .pure, .pure, .pure, .read, .pure, .pure, .pure] [[], [0], [0, 1], [0, 1, 2], [0, 1, 2, 3], [0, 1, 2, 3, 4], [0, 1, 2, 3, 4, 5], [0, 1, 2, 3, 4, 5], [0, 1, 2, 3, 4, 5, 7], [0, 1, 2, 3, 4, 5, 6, 7, 8], [0, 1, 2, 3, 4, 5, 6, 7, 8, 9], [0, 1, 2, 3, 4, 5, 6, 7, 8, 9, 10], [0, 1, 2, 3, 4, 5], [0, 1, 2, 3, 4, 5], [0, 1, 2, 3, 4, 5, 12, 13], [0, 1, 2, 3, 4, 5, 12, 13, 14], [0, 1, 2, 3, 4, 5, 12, 13, 14, 15], [0, 1, 2, 3, 4, 5, 6, 7, 8, 9, 10, 11, 12, 13, 14, 15, 16], [0, 1, 2, 3, 4, 5, 6, 7, 8, 9, 10, 11, 12, 13, 14, 15, 16, 17], [0, 1, 2, 3, 4, 5, 6, 7, 8, 9, 10, 11, 12, 13, 14, 15, 16, 17, 18]] [0, 1, 2, 3, 4, 5, 6, 7, 8, 9, 10, 11, 12, 13, 14, 15, 16, 17, 18, 19] (by kernel_rfl) (by kernel_rfl) ?_
                        refine EvI.pure (v := .bool s8) rfl rfl (w_none rfl) rfl (f_move rfl rfl) ?_
                        refine EvI.pure (v := .bool (!s8)) rfl rfl (w_none rfl) rfl (f_not rfl rfl) ?_
                        refine EvI.pure (v := .bool (!s8)) rfl rfl (w_none rfl) rfl (f_move rfl rfl) ?_
                        rcases ite_inv hF with ⟨c6, hF⟩ | ⟨c6, hF⟩
                        · refine EvI.not rfl (w_not rfl rfl c6) rfl ?_
                          refine EvI.not rfl (w_not rfl rfl c6) rfl ?_
                          refine EvI.not rfl (w_not rfl rfl c6) rfl ?_
                          refine EvI.not rfl (w_undef rfl rfl) rfl ?_
                          refine EvI.not rfl (w_undef rfl rfl) rfl ?_
                          refine EvI.not rfl (w_undef rfl rfl) rfl ?_
                          refine EvI.not rfl (w_undef rfl rfl) rfl ?_
                          refine EvI.not rfl (w_undef rfl rfl) rfl ?_
                          refine EvI.not rfl (w_undef rfl rfl) rfl ?_
                          refine EvI.not rfl (w_undef rfl rfl) rfl ?_
                          refine EvI.not rfl (w_undef rfl rfl) rfl ?_
                          refine EvI.not rfl (w_undef rfl rfl) rfl ?_
                          refine EvI.not rfl (w_undef rfl rfl) rfl ?_
                          refine EvI.not rfl (w_undef rfl rfl) rfl ?_
                          refine EvI.not rfl (w_undef rfl rfl) rfl ?_
                          refine EvI.not rfl (w_not rfl rfl c6) rfl ?_
                          refine EvI.pure (v := .bool true) rfl rfl (w_none rfl) rfl (f_pickT rfl rfl c6 rfl) ?_
                          refine EvI.nil ?_
                          exact KE.mk true ⟨rfl, rfl, rfl, rfl, rfl, rfl, trivial⟩ hF
                        · refine EvI.pure (v := .int .i64 s6) rfl rfl (w_some rfl rfl c6) rfl (f_move rfl rfl) ?_
                          refine EvI.pure (v := .bool (decide (s6 > 0))) rfl rfl (w_some rfl rfl c6) rfl (f_gtr rfl rfl rfl) ?_
                          refine EvI.pure (v := .bool (decide (s6 > 0))) rfl rfl (w_some rfl rfl c6) rfl (f_move rfl rfl) ?_
                          rcases ite_inv hF with ⟨c7, hF⟩ | ⟨c7, hF⟩
                          · refine EvI.pure (v := Sl.val r1) rfl rfl (w_some rfl rfl c7) rfl (f_move rfl rfl) ?_
                            refine EvI.pure (v := .int .i64 s6) rfl rfl (w_some rfl rfl c7) rfl (f_move rfl rfl) ?_
                            refine EvI.pure (v := .int .i64 (IntKind.i64.wrap (s6 - 1))) rfl rfl (w_some rfl rfl c7) rfl (f_sub rfl rfl rfl) ?_
                            obtain ⟨q2, hq2, hF⟩ := hF
                            refine EvI.pure (v := .pointer (some q2)) rfl rfl (w_some rfl rfl c7) rfl (f_indexAddr (s := r1) Try.underlying30 ty32.size rfl rfl rfl hq2) ?_
                            refine EvI.pure (v := .pointer (some (q2.add 0))) rfl rfl (w_some rfl rfl c7) rfl (f_fieldAddr fd32_0 rfl rfl) ?_
                            obtain ⟨x2, hx2, hF⟩ := hF
                            refine EvI.read (v := .int .i64 x2) rfl rfl (w_some rfl rfl c7) rfl (f_load (kI .i64) ty3 rfl rfl hx2 rfl) ?_
                            refine EvI.pure (v := Sl.val r1) rfl rfl (w_some rfl rfl c7) rfl (f_move rfl rfl) ?_
                            refine EvI.pure (v := .int .i64 s6) rfl rfl (w_some rfl rfl c7) rfl (f_move rfl rfl) ?_
                            obtain ⟨q3, hq3, hF⟩ := hF
                            refine EvI.pure (v := .pointer (some q3)) rfl rfl (w_some rfl rfl c7) rfl (f_indexAddr (s := r1) Try.underlying30 ty32.size rfl rfl rfl hq3) ?_
                            refine EvI.pure (v := .pointer (some (q3.add 0))) rfl rfl (w_some rfl rfl c7) rfl (f_fieldAddr fd32_0 rfl rfl) ?_
                            obtain ⟨x3, hx3, hF⟩ := hF
                            refine EvI.read (v := .int .i64 x3) rfl rfl (w_some rfl rfl c7) rfl (f_load (kI .i64) ty3 rfl rfl hx3 rfl) ?_
                            refine EvI.pure (v := .bool (decide (x2 ≥ x3))) rfl rfl (w_some rfl rfl c7) rfl (f_geq rfl rfl rfl) ?_
                            refine EvI.pure (v := .bool (decide (x2 ≥ x3))) rfl rfl (w_some rfl rfl c6) rfl (f_pickT rfl rfl c7 rfl) ?_
                            refine EvI.pure (v := .bool (decide (x2 ≥ x3))) rfl rfl (w_none rfl) rfl (f_pickF rfl rfl c6 rfl) ?_
                            refine EvI.nil ?_
                            exact KE.mk (decide (x2 ≥ x3)) ⟨rfl, rfl, rfl, rfl, rfl, rfl, trivial⟩ hF
                          · refine EvI.not rfl (w_not rfl rfl c7) rfl ?_
                            refine EvI.not rfl (w_not rfl rfl c7) rfl ?_
                            refine EvI.not rfl (w_not rfl rfl c7) rfl ?_
                            refine EvI.not rfl (w_not rfl rfl c7) rfl ?_
                            refine EvI.not rfl (w_not rfl rfl c7) rfl ?_
                            refine EvI.not rfl (w_not rfl rfl c7) rfl ?_
                            refine EvI.not rfl (w_not rfl rfl c7) rfl ?_
                            refine EvI.not rfl (w_not rfl rfl c7) rfl ?_
                            refine EvI.not rfl (w_not rfl rfl c7) rfl ?_
                            refine EvI.not rfl (w_not rfl rfl c7) rfl ?_
                            refine EvI.not rfl (w_not rfl rfl c7) rfl ?_
                            refine EvI.not rfl (w_not rfl rfl c7) rfl ?_
                            refine EvI.pure (v := .bool false) rfl rfl (w_some rfl rfl c6) rfl (f_pickF rfl rfl c7 rfl) ?_
                            refine EvI.pure (v := .bool false) rfl rfl (w_none rfl) rfl (f_pickF rfl rfl c6 rfl) ?_
                            refine EvI.nil ?_
                            exact KE.mk false ⟨rfl, rfl, rfl, rfl, rfl, rfl, trivial⟩ hF
                    · intro k8 hF
                      refine WP.seq ?_
                      refine WP.region ?_
                      refine EvK.pure (v := .int .i64 0) (w_none rfl) rfl rfl (f_assign rfl rfl) ?_
                      refine EvK.nil ?_
                      refine WP.block ?_
                      refine WP.loopF (fun (s10 : Bool × Int) => [(8, .bool s10.1), (9, .int .i64 s10.2), (0, .pointer a0), (1, Sl.val a1), (5, .int .i64 s2), (6, Sl.val r1), (7, .int .i64 s6)]) hF ⟨rfl, rfl, rfl, rfl, rfl, rfl, rfl, trivial⟩ ?_
                      intro k10 s10 E0 h11 hF
                      refine WP.seq ?_
                      refine WP.seq ?_
                      refine WP.region ?_
                      refine EvK.pure (v := .int .i64 s10.2) (w_none rfl) rfl rfl (f_move rfl rfl) ?_
                      refine EvK.pure (v := Sl.val a1) (w_none rfl) rfl rfl (f_move rfl rfl) ?_
                      refine EvK.pure (v := .int .i64 s2) (w_none rfl) rfl rfl (f_move rfl rfl) ?_
                      obtain ⟨q4, hq4, hF⟩ := hF
                      refine EvK.pure (v := .pointer (some q4)) (w_none rfl) rfl rfl (f_indexAddr (s := a1) Try.underlying29 ty35.size rfl rfl rfl hq4) ?_
                      refine EvK.pure (v := .pointer (some (q4.add 1))) (w_none rfl) rfl rfl (f_fieldAddr fd35_1 rfl rfl) ?_
                      obtain ⟨x4, hx4, hF⟩ := hF
                      refine EvK.read (v := Sl.val x4) (w_none rfl) rfl rfl (f_load kL ty30 rfl rfl hx4 rfl) ?_
                      refine EvK.pure (v := .int .i64 (x4.len : Int)) (w_none rfl) rfl rfl (f_lenL (s := x4) Try.underlying30 rfl rfl) ?_
                      refine EvK.pure (v := .bool (decide (s10.2 < (x4.len : Int)))) (w_none rfl) rfl rfl (f_lss rfl rfl rfl) ?_
                      refine EvK.nil ?_
                      rcases ite_inv hF with ⟨c8, hF⟩ | ⟨c8, hF⟩
                      · refine WP.cond_true _ rfl c8 ?_
                        refine WP.skip ?_
                        refine WP.joinF (fun (s11 : Bool) => [(8, .bool s11), (0, .pointer a0), (1, Sl.val a1), (5, .int .i64 s2), (6, Sl.val r1), (7, .int .i64 s6), (9, .int .i64 s10.2)]) hF ?_ ?_
                        · intro s11 E0 h12 hF
                          refine WP.region ?_
                          refine EvK.pure (v := .int .i64 s10.2) (w_none rfl) rfl rfl (f_move rfl rfl) ?_
                          refine EvK.pure (v := .int .i64 (IntKind.i64.wrap (s10.2 + 1))) (w_none rfl) rfl rfl (f_add rfl rfl rfl) ?_
                          refine EvK.pure (v := .int .i64 (IntKind.i64.wrap (s10.2 + 1))) (w_none rfl) rfl rfl (f_assign rfl rfl) ?_
                          refine EvK.nil ?_
                          exact KE.mk (s11, IntKind.i64.wrap (s10.2 + 1)) ⟨rfl, rfl, rfl, rfl, rfl, rfl, rfl, trivial⟩ hF
                        · intro k11 hF
                          refine WP.block ?_
                          refine WP.draw mixed [.pure, .pure, .pure, .pure, .pure, .pure, .read, .pure, .pure, .read, .pure, .pure, .pure, .read, .pure, .pure, .pure] [[], [0], [0, 1], [0, 1], [0, 1, 2, 3], [0, 1, 2, 3, 4], [0, 1, 2, 3, 4, 5], [0, 1], [0, 1, 2, 3, 4, 5, 6, 7], [0, 1, 2, 3, 4, 5, 6, 7, 8], [0, 1], [0, 1], [0, 1, 10, 11], [0, 1, 10, 11, 12], [0, 1, 2, 3, 4, 5, 6, 7, 8, 9, 10, 11, 12, 13], [0, 1, 2, 3, 4, 5, 6, 7, 8, 9, 10, 11, 12, 13, 14], [0, 1, 2, 3, 4, 5, 6, 7, 8, 9, 10, 11, 12, 13, 14, 15]] [0, 1, 2, 3, 4, 5, 6, 7, 8, 9, 10, 11, 12, 13, 14, 15, 16] (by kernel_rfl) (by kernel_rfl) ?_
                          refine EvI.pure (v := .bool s10.1) rfl rfl (w_none rfl) rfl (f_move rfl rfl) ?_
                          refine EvI.pure (v := .bool s10.1) rfl rfl (w_none rfl) rfl (f_move rfl rfl) ?_
                          rcases ite_inv hF with ⟨c9, hF⟩ | ⟨c9, hF⟩
                          · refine EvI.not rfl (w_not rfl rfl c9) rfl ?_
                            refine EvI.not rfl (w_not rfl rfl c9) rfl ?_
                            refine EvI.not rfl (w_not rfl rfl c9) rfl ?_
                            refine EvI.not rfl (w_not rfl rfl c9) rfl ?_
                            refine EvI.not rfl (w_not rfl rfl c9) rfl ?_
                            refine EvI.not rfl (w_not rfl rfl c9) rfl ?_
                            refine EvI.not rfl (w_not rfl rfl c9) rfl ?_
                            refine EvI.not rfl (w_not rfl rfl c9) rfl ?_
                            refine EvI.not rfl (w_not rfl rfl c9) rfl ?_
                            refine EvI.not rfl (w_not rfl rfl c9) rfl ?_
                            refine EvI.not rfl (w_not rfl rfl c9) rfl ?_
                            refine EvI.not rfl (w_not rfl rfl c9) rfl ?_
                            refine EvI.not rfl (w_not rfl rfl c9) rfl ?_
                            refine EvI.pure (v := .bool true) rfl rfl (w_none rfl) rfl (f_pickT rfl rfl c9 rfl) ?_
                            refine EvI.pure (v := .bool true) rfl rfl (w_none rfl) rfl (f_assign rfl rfl) ?_
                            refine EvI.nil ?_
                            exact KE.mk true ⟨rfl, rfl, rfl, rfl, rfl, rfl, rfl, trivial⟩ hF
                          · refine EvI.pure (v := Sl.val a1) rfl rfl (w_some rfl rfl c9) rfl (f_move rfl rfl) ?_
                            refine EvI.pure (v := .int .i64 s2) rfl rfl (w_some rfl rfl c9) rfl (f_move rfl rfl) ?_
                            obtain ⟨q5, hq5, hF⟩ := hF
                            refine EvI.pure (v := .pointer (some q5)) rfl rfl (w_some rfl rfl c9) rfl (f_indexAddr (s := a1) Try.underlying29 ty35.size rfl rfl rfl hq5) ?_
                            refine EvI.pure (v := .pointer (some (q5.add 1))) rfl rfl (w_some rfl rfl c9) rfl (f_fieldAddr fd35_1 rfl rfl) ?_
                            obtain ⟨x5, hx5, hF⟩ := hF
                            refine EvI.read (v := Sl.val x5) rfl rfl (w_some rfl rfl c9) rfl (f_load kL ty30 rfl rfl hx5 rfl) ?_
                            refine EvI.pure (v := .int .i64 s10.2) rfl rfl (w_some rfl rfl c9) rfl (f_move rfl rfl) ?_
                            obtain ⟨q6, hq6, hF⟩ := hF
                            refine EvI.pure (v := .pointer (some q6)) rfl rfl (w_some rfl rfl c9) rfl (f_indexAddr (s := x5) Try.underlying30 ty32.size rfl rfl rfl hq6) ?_
                            obtain ⟨x6, hx6, hF⟩ := hF
                            refine EvI.read (v := k31.val x6) rfl rfl (w_some rfl rfl c9) rfl (f_load k31 ty32 rfl rfl hx6 rfl) ?_
                            refine EvI.pure (v := Sl.val r1) rfl rfl (w_some rfl rfl c9) rfl (f_move rfl rfl) ?_
                            refine EvI.pure (v := .int .i64 s6) rfl rfl (w_some rfl rfl c9) rfl (f_move rfl rfl) ?_
                            obtain ⟨q7, hq7, hF⟩ := hF
                            refine EvI.pure (v := .pointer (some q7)) rfl rfl (w_some rfl rfl c9) rfl (f_indexAddr (s := r1) Try.underlying30 ty32.size rfl rfl rfl hq7) ?_
                            obtain ⟨x7, hx7, hF⟩ := hF
                            refine EvI.read (v := k31.val x7) rfl rfl (w_some rfl rfl c9) rfl (f_load k31 ty32 rfl rfl hx7 rfl) ?_
                            refine EvI.pure (v := .bool (eq32 x6 x7)) rfl rfl (w_some rfl rfl c9) rfl (f_eqlOf rfl rfl rfl (guard32 _ _) rfl (eqIn32 _ _)) ?_
                            refine EvI.pure (v := .bool (eq32 x6 x7)) rfl rfl (w_none rfl) rfl (f_pickF rfl rfl c9 rfl) ?_
                            refine EvI.pure (v := .bool (eq32 x6 x7)) rfl rfl (w_none rfl) rfl (f_assign rfl rfl) ?_
                            refine EvI.nil ?_
                            exact KE.mk (eq32 x6 x7) ⟨rfl, rfl, rfl, rfl, rfl, rfl, rfl, trivial⟩ hF
                      · refine WP.cond_false _ rfl c8 ?_
                        refine WP.exit ?_
                        exact KE.mk s10.1 ⟨rfl, rfl, rfl, rfl, rfl, rfl, trivial⟩ hF
                · refine WP.cond_false _ rfl c4 ?_
                  refine WP.exit ?_
                  exact KE.mk () ⟨rfl, rfl, rfl, trivial⟩ hF
            · intro k5 hF
              refine WP.region ?_
              refine EvK.pure (v := Sl.val a1) (w_none rfl) rfl rfl (f_move rfl rfl) ?_
              refine EvK.pure (v := .int .i64 s2) (w_none rfl) rfl rfl (f_move rfl rfl) ?_
              obtain ⟨q8, hq8, hF⟩ := hF
              refine EvK.pure (v := .pointer (some q8)) (w_none rfl) rfl rfl (f_indexAddr (s := a1) Try.underlying29 ty35.size rfl rfl rfl hq8) ?_
              refine EvK.pure (v := .pointer (some (q8.add 2))) (w_none rfl) rfl rfl (f_fieldAddr fd35_2 rfl rfl) ?_
              obtain ⟨x8, hx8, hF⟩ := hF
              refine EvK.read (v := .bool x8) (w_none rfl) rfl rfl (f_load kB ty4 rfl rfl hx8 rfl) ?_
              refine EvK.pure (v := .bool x8) (w_none rfl) rfl rfl (f_move rfl rfl) ?_
              rcases ite_inv hF with ⟨c10, hF⟩ | ⟨c10, hF⟩
              · refine EvK.pure (v := Sl.val r1) (w_some rfl rfl c10) rfl rfl (f_move rfl rfl) ?_
                refine EvK.pure (v := .int .i64 (r1.len : Int)) (w_some rfl rfl c10) rfl rfl (f_lenL (s := r1) Try.underlying30 rfl rfl) ?_
                refine EvK.pure (v := Sl.val a1) (w_some rfl rfl c10) rfl rfl (f_move rfl rfl) ?_
                refine EvK.pure (v := .int .i64 s2) (w_some rfl rfl c10) rfl rfl (f_move rfl rfl) ?_
                obtain ⟨q9, hq9, hF⟩ := hF
                refine EvK.pure (v := .pointer (some q9)) (w_some rfl rfl c10) rfl rfl (f_indexAddr (s := a1) Try.underlying29 ty35.size rfl rfl rfl hq9) ?_
                refine EvK.pure (v := .pointer (some (q9.add 1))) (w_some rfl rfl c10) rfl rfl (f_fieldAddr fd35_1 rfl rfl) ?_
                obtain ⟨x9, hx9, hF⟩ := hF
                refine EvK.read (v := Sl.val x9) (w_some rfl rfl c10) rfl rfl (f_load kL ty30 rfl rfl hx9 rfl) ?_
                refine EvK.pure (v := .int .i64 (x9.len : Int)) (w_some rfl rfl c10) rfl rfl (f_lenL (s := x9) Try.underlying30 rfl rfl) ?_
                refine EvK.pure (v := .bool ((r1.len : Int) != (x9.len : Int))) (w_some rfl rfl c10) rfl rfl (f_neq rfl rfl rfl) ?_
                refine EvK.pure (v := .bool ((r1.len : Int) != (x9.len : Int))) (w_none rfl) rfl rfl (f_pickT rfl rfl c10 rfl) ?_
                refine EvK.nil ?_
                exact KE.mk ((r1.len : Int) != (x9.len : Int)) ⟨rfl, rfl, rfl, rfl, rfl, trivial⟩ hF
              · refine EvK.not (w_not rfl rfl c10) rfl rfl ?_
                refine EvK.not (w_not rfl rfl c10) rfl rfl ?_
                refine EvK.not (w_not rfl rfl c10) rfl rfl ?_
                refine EvK.not (w_not rfl rfl c10) rfl rfl ?_
                refine EvK.not (w_not rfl rfl c10) rfl rfl ?_
                refine EvK.not (w_not rfl rfl c10) rfl rfl ?_
                refine EvK.not (w_not rfl rfl c10) rfl rfl ?_
                refine EvK.not (w_not rfl rfl c10) rfl rfl ?_
                refine EvK.not (w_not rfl rfl c10) rfl rfl ?_
                refine EvK.pure (v := .bool false) (w_none rfl) rfl rfl (f_pickF rfl rfl c10 rfl) ?_
                refine EvK.nil ?_
                exact KE.mk false ⟨rfl, rfl, rfl, rfl, rfl, trivial⟩ hF
        · intro k4 hF
          refine WP.draw mixed [.pure, .pure, .pure, .pure, .pure, .read, .eff [11], .pure, .pure, .pure, .pure, .read, .pure, .pure, .pure, .pure, .pure, .pure, .pure, .pure, .pure, .read, .pure, .pure] [[], [], [], [1, 2], [1, 2, 3], [1, 2, 3, 4], [0, 1, 2, 3, 4, 5], [], [], [7, 8], [7, 8, 9], [7, 8, 9, 10], [0, 1, 2, 3, 4, 5, 6, 7, 8, 9, 10, 11], [0, 1, 2, 3, 4, 5, 6, 7, 8, 9, 10, 11, 12], [0, 1, 2, 3, 4, 5, 6, 7, 8, 9, 10, 11, 12, 13], [0, 1, 2, 3, 4, 5, 6, 7, 8, 9, 10, 11, 12, 13, 14], [0, 1, 2, 3, 4, 5, 6, 7, 8, 9, 10, 11, 12, 13, 14, 15], [0, 1, 2, 3, 4, 5, 6, 7, 8, 9, 10, 11, 12, 13], [0, 1, 2, 3, 4, 5, 6, 7, 8, 9, 10, 11, 12, 13], [0, 1, 2, 3, 4, 5, 6, 7, 8, 9, 10, 11, 12, 13, 17, 18], [0, 1, 2, 3, 4, 5, 6, 7, 8, 9, 10, 11, 12, 13, 17, 18, 19], [0, 1, 2, 3, 4, 5, 6, 7, 8, 9, 10, 11, 12, 13, 17, 18, 19, 20], [0, 1, 2, 3, 4, 5, 6, 7, 8, 9, 10, 11, 12, 13, 14, 15, 16, 17, 18, 19, 20, 21], [0, 1, 2, 3, 4, 5, 6, 7, 8, 9, 10, 11, 12, 13, 14, 15, 16, 17, 18, 19, 20, 21, 22]] [0, 1, 2, 3, 4, 5, 7, 8, 9, 10, 11, 6, 12, 13, 14, 15, 16, 17, 18, 19, 20, 21, 22, 23] (by kernel_rfl) (by kernel_rfl) ?_
          refine EvI.pure (v := .pointer a0) rfl rfl (w_none rfl) rfl (f_move rfl rfl) ?_
          refine EvI.pure (v := Sl.val a1) rfl rfl (w_none rfl) rfl (f_move rfl rfl) ?_
          refine EvI.pure (v := .int .i64 s2) rfl rfl (w_none rfl) rfl (f_move rfl rfl) ?_
          obtain ⟨q10, hq10, hF⟩ := hF
          refine EvI.pure (v := .pointer (some q10)) rfl rfl (w_none rfl) rfl (f_indexAddr (s := a1) Try.underlying29 ty35.size rfl rfl rfl hq10) ?_
          refine EvI.pure (v := .pointer (some (q10.add 0))) rfl rfl (w_none rfl) rfl (f_fieldAddr fd35_0 rfl rfl) ?_
          obtain ⟨x10, hx10, hF⟩ := hF
          refine EvI.read (v := .int .i64 x10) rfl rfl (w_none rfl) rfl (f_load (kI .i64) ty3 rfl rfl hx10 rfl) ?_
          refine EvI.pure (v := Sl.val a1) rfl rfl (w_none rfl) rfl (f_move rfl rfl) ?_
          refine EvI.pure (v := .int .i64 s2) rfl rfl (w_none rfl) rfl (f_move rfl rfl) ?_
          obtain ⟨q11, hq11, hF⟩ := hF
          refine EvI.pure (v := .pointer (some q11)) rfl rfl (w_none rfl) rfl (f_indexAddr (s := a1) Try.underlying29 ty35.size rfl rfl rfl hq11) ?_
          refine EvI.pure (v := .pointer (some (q11.add 2))) rfl rfl (w_none rfl) rfl (f_fieldAddr fd35_2 rfl rfl) ?_
          obtain ⟨x11, hx11, hF⟩ := hF
          refine EvI.read (v := .bool x11) rfl rfl (w_none rfl) rfl (f_load kB ty4 rfl rfl hx11 rfl) ?_
          refine EvI.call rfl rfl (w_none rfl) rfl (enterH Try.func32 rfl rfl rfl rfl (locks_Manager_Waits.sound hF)) ?_
          rintro _ h13 ⟨r5, rfl, hF⟩
          obtain ⟨hy1, hF⟩ := hF
          refine ⟨⟨chk_yes rfl (f_load kB ty4 rfl rfl hy1 rfl), chk_no rfl, trivial⟩, ?_⟩
          refine EvI.pure (v := .bool (r5 == x11)) rfl rfl (w_none rfl) rfl (f_beql Try.underlying4 rfl rfl rfl) ?_
          refine EvI.pure (v := .bool (r5 == x11)) rfl rfl (w_none rfl) rfl (f_move rfl rfl) ?_
          rcases ite_inv hF with ⟨c11, hF⟩ | ⟨c11, hF⟩
          · refine EvI.not rfl (w_not rfl rfl c11) rfl ?_
            refine EvI.not rfl (w_not rfl rfl c11) rfl ?_
            refine EvI.not rfl (w_not rfl rfl c11) rfl ?_
            refine EvI.not rfl (w_not rfl rfl c11) rfl ?_
            refine EvI.not rfl (w_not rfl rfl c11) rfl ?_
            refine EvI.not rfl (w_not rfl rfl c11) rfl ?_
            refine EvI.not rfl (w_not rfl rfl c11) rfl ?_
            refine EvI.not rfl (w_not rfl rfl c11) rfl ?_
            refine EvI.not rfl (w_not rfl rfl c11) rfl ?_
            refine EvI.pure (v := .bool true) rfl rfl (w_none rfl) rfl (f_pickT rfl rfl c11 rfl) ?_
            refine EvI.nil ?_
            exact KE.mk true ⟨rfl, rfl, rfl, rfl, rfl, trivial⟩ hF
          · refine EvI.pure (v := Sl.val r1) rfl rfl (w_some rfl rfl c11) rfl (f_move rfl rfl) ?_
            refine EvI.pure (v := .int .i64 (r1.len : Int)) rfl rfl (w_some rfl rfl c11) rfl (f_lenL (s := r1) Try.underlying30 rfl rfl) ?_
            refine EvI.pure (v := .bool (decide ((r1.len : Int) > 0))) rfl rfl (w_some rfl rfl c11) rfl (f_gtr rfl rfl rfl) ?_
            refine EvI.pure (v := Sl.val a1) rfl rfl (w_some rfl rfl c11) rfl (f_move rfl rfl) ?_
            refine EvI.pure (v := .int .i64 s2) rfl rfl (w_some rfl rfl c11) rfl (f_move rfl rfl) ?_
            obtain ⟨q12, hq12, hF⟩ := hF
            refine EvI.pure (v := .pointer (some q12)) rfl rfl (w_some rfl rfl c11) rfl (f_indexAddr (s := a1) Try.underlying29 ty35.size rfl rfl rfl hq12) ?_
            refine EvI.pure (v := .pointer (some (q12.add 2))) rfl rfl (w_some rfl rfl c11) rfl (f_fieldAddr fd35_2 rfl rfl) ?_
            obtain ⟨x12, hx12, hF⟩ := hF
            refine EvI.read (v := .bool x12) rfl rfl (w_some rfl rfl c11) rfl (f_load kB ty4 rfl rfl hx12 rfl) ?_
            refine EvI.pure (v := .bool (!((decide ((r1.len : Int) > 0)) == x12))) rfl rfl (w_some rfl rfl c11) rfl (f_bneq Try.underlying4 rfl rfl rfl) ?_
            refine EvI.pure (v := .bool (!((decide ((r1.len : Int) > 0)) == x12))) rfl rfl (w_none rfl) rfl (f_pickF rfl rfl c11 rfl) ?_
            refine EvI.nil ?_
            exact KE.mk (!((decide ((r1.len : Int) > 0)) == x12)) ⟨rfl, rfl, rfl, rfl, rfl, trivial⟩ hF
    · refine WP.cond_false _ rfl c1 ?_
      refine WP.exit ?_
      exact KE.mk () trivial hF
end Go.Proofs.Ytgmihbchcmjmdaa

namespace Go.Proofs.Ytgmihbchcmjmdaa
open Go Go.Tr
set_option linter.unusedVariables false
set_option maxRecDepth 100000
set_option maxHeartbeats 400000
def spatelaw11_names.b1 (p0 : Sl) (p1 : Int) (s : Sl × Int) (h : H) (K : (Sl × Int) ⊕ Sl → H → Prop) : Prop :=
  if (decide (s.2 < (p0.len : Int))) = true then
    rd (ixA 1 p0 s.2) fun q1 =>
    rd (ld (kI .i64) q1 h) fun x1 =>
    bs 3 1 ((kI .i64).enc (IntKind.i64.wrap ((IntKind.i64.wrap (3 * x1)) + p1))) h fun x2 h2 =>
    ap (kI .i64).n 8 3 ((kI .i64).enc 0) s.1 x2 h2 fun x3 h3 =>
    K (.inl (x3, IntKind.i64.wrap (s.2 + 1))) h3
  else
    K (.inr s.1) h
/-- spate/spatelaw11.names -/
def spatelaw11_names (a0 : Sl) (a1 : Int) (h : H) (Q : Sl → H → Prop) : Prop :=
  jn (fun (k1 : Sl → H → Prop) =>
    loopE (spatelaw11_names.b1 a0 a1) (Sl.nil, 0) h (fun r1 hh => k1 r1 hh)) fun s1 h1 =>
  Q s1 h1
theorem spatelaw11_names.sound {a0 : Sl} {a1 : Int} {h : H} {Q : Sl → H → Prop} (hF : spatelaw11_names a0 a1 h Q) :
    CallsH Try.prog 33 (List.toArray (α := Value) [Sl.val a0, .int .i64 a1]) h fun v h' => ∃ x : Sl, v = Sl.val x ∧ Q x h' := by
  refine CallsH.of_body Try.func33 rfl 24 rfl rfl ?_
  refine WP.seq ?_
  refine WP.region ?_
  refine EvK.pure (v := Sl.val Sl.nil) (w_none rfl) rfl rfl (f_assign rfl rfl) ?_
  refine EvK.nil ?_
  refine WP.seq ?_
  refine WP.region ?_
  refine EvK.pure (v := Sl.val Sl.nil) (w_none rfl) rfl rfl (f_assign rfl rfl) ?_
  refine EvK.nil ?_
  refine WP.joinF (fun (s1 : Sl) => [(5, Sl.val s1)]) hF ?_ ?_
  · intro s1 E0 h1 hF
    refine WP.seq ?_
    refine WP.region ?_
    refine EvK.pure (v := Sl.val s1) (w_none rfl) rfl rfl (f_move rfl rfl) ?_
    refine EvK.pure (v := Sl.val s1) (w_none rfl) rfl rfl (f_assign rfl rfl) ?_
    refine EvK.nil ?_
    refine WP.ret ?_
    exact Ret.mk (vs := [Sl.val s1]) s1 ⟨rfl, trivial⟩ rfl hF
  · intro k1 hF
    refine WP.seq ?_
    refine WP.region ?_
    refine EvK.pure (v := .int .i64 0) (w_none rfl) rfl rfl (f_assign rfl rfl) ?_
    refine EvK.nil ?_
    refine WP.block ?_
    refine WP.loopF (fun (s2 : Sl × Int) => [(5, Sl.val s2.1), (6, .int .i64 s2.2), (0, Sl.val a0), (1, .int .i64 a1)]) hF ⟨rfl, rfl, rfl, rfl, trivial⟩ ?_
    intro k2 s2 E0 h2 hF
    refine WP.seq ?_
    refine WP.seq ?_
    refine WP.region ?_
    refine EvK.pure (v := .int .i64 s2.2) (w_none rfl) rfl rfl (f_move rfl rfl) ?_
    refine EvK.pure (v := Sl.val a0) (w_none rfl) rfl rfl (f_move rfl rfl) ?_
    refine EvK.pure (v := .int .i64 (a0.len : Int)) (w_none rfl) rfl rfl (f_lenL (s := a0) Try.underlying22 rfl rfl) ?_
    refine EvK.pure (v := .bool (decide (s2.2 < (a0.len : Int)))) (w_none rfl) rfl rfl (f_lss rfl rfl rfl) ?_
    refine EvK.nil ?_
    rcases ite_inv hF with ⟨c1, hF⟩ | ⟨c1, hF⟩
    · refine WP.cond_true _ rfl c1 ?_
      refine WP.skip ?_
      refine WP.seq ?_
      refine WP.block ?_
      refine WP.region ?_
      refine EvK.pure (v := Sl.val s2.1) (w_none rfl) rfl rfl (f_move rfl rfl) ?_
      refine EvK.pure (v := Sl.val a0) (w_none rfl) rfl rfl (f_move rfl rfl) ?_
      refine EvK.pure (v := .int .i64 s2.2) (w_none rfl) rfl rfl (f_move rfl rfl) ?_
      obtain ⟨q1, hq1, hF⟩ := hF
      refine EvK.pure (v := .pointer (some q1)) (w_none rfl) rfl rfl (f_indexAddr (s := a0) Try.underlying22 ty3.size rfl rfl rfl hq1) ?_
      obtain ⟨x1, hx1, hF⟩ := hF
      refine EvK.read (v := .int .i64 x1) (w_none rfl) rfl rfl (f_load (kI .i64) ty3 rfl rfl hx1 rfl) ?_
      refine EvK.pure (v := .int .i64 (IntKind.i64.wrap (3 * x1))) (w_none rfl) rfl rfl (f_mul rfl rfl rfl) ?_
      refine EvK.pure (v := .int .i64 a1) (w_none rfl) rfl rfl (f_move rfl rfl) ?_
      refine EvK.pure (v := .int .i64 (IntKind.i64.wrap ((IntKind.i64.wrap (3 * x1)) + a1))) (w_none rfl) rfl rfl (f_add rfl rfl rfl) ?_
      refine EvK.alloc (w_none rfl) rfl rfl (f_buildSliceF Try.underlying22 el3 (by decide) rfl rfl rfl hF) ?_
      rintro _ h3 ⟨x2, rfl, hF⟩
      refine EvK.run (w_none rfl) rfl rfl (f_appendE (s := s2.1) (x := x2) Try.underlying22 el3 rfl rfl rfl hF) ?_
      rintro _ h4 ⟨x3, rfl, hF⟩
      refine EvK.pure (v := Sl.val x3) (w_none rfl) rfl rfl (f_assign rfl rfl) ?_
      refine EvK.nil ?_
      refine WP.region ?_
      refine EvK.pure (v := .int .i64 s2.2) (w_none rfl) rfl rfl (f_move rfl rfl) ?_
      refine EvK.pure (v := .int .i64 (IntKind.i64.wrap (s2.2 + 1))) (w_none rfl) rfl rfl (f_add rfl rfl rfl) ?_
      refine EvK.pure (v := .int .i64 (IntKind.i64.wrap (s2.2 + 1))) (w_none rfl) rfl rfl (f_assign rfl rfl) ?_
      refine EvK.nil ?_
      exact KE.mk (x3, IntKind.i64.wrap (s2.2 + 1)) ⟨rfl, rfl, rfl, rfl, trivial⟩ hF
    · refine WP.cond_false _ rfl c1 ?_
      refine WP.exit ?_
      exact KE.mk s2.1 ⟨rfl, trivial⟩ hF
end Go.Proofs.Ytgmihbchcmjmdaa

namespace Go.Proofs.Ytgmihbchcmjmdaa
open Go Go.Tr
set_option linter.unusedVariables false
set_option maxRecDepth 100000
set_option maxHeartbeats 400000
def spatelaw11_spoil.b1 (p0 : Sl) (s : Int) (h : H) (K : Int ⊕ Unit → H → Prop) : Prop :=
  if (decide (s < (p0.len : Int))) = true then
    rd (ixA 1 p0 s) fun q2 =>
    rd (st (kI .i64) q2 (-41) h) fun h5 =>
    K (.inl (IntKind.i64.wrap (s + 1))) h5
  else
    K (.inr ()) h
/-- spate/spatelaw11.spoil -/
def spatelaw11_spoil (a0 : Sl) (h : H) (Q : Unit → H → Prop) : Prop :=
  jn (fun (k1 : Unit → H → Prop) =>
    loopE (spatelaw11_spoil.b1 a0) 0 h (fun r1 hh => k1 r1 hh)) fun s1 h1 =>
  bs 3 2 ((kI .i64).enc 42 ++ (kI .i64).enc 43) h1 fun x1 h2 =>
  ap (kI .i64).n 8 3 ((kI .i64).enc 0) a0 x1 h2 fun x2 h3 =>
  rd (ixA 1 x2 0) fun q1 =>
  rd (st (kI .i64) q1 44 h3) fun h4 =>
  Q () h4
theorem spatelaw11_spoil.sound {a0 : Sl} {h : H} {Q : Unit → H → Prop} (hF : spatelaw11_spoil a0 h Q) :
    CallsH Try.prog 34 (List.toArray (α := Value) [Sl.val a0]) h fun v h' => ∃ x : Unit, v = .tuple #[] ∧ Q x h' := by
  refine CallsH.of_body Try.func34 rfl 17 rfl rfl ?_
  refine WP.joinF (fun (s1 : Unit) => [(0, Sl.val a0)]) hF ?_ ?_
  · intro s1 E0 h1 hF
    refine WP.seq ?_
    refine WP.region ?_
    refine EvK.pure (v := Sl.val a0) (w_none rfl) rfl rfl (f_move rfl rfl) ?_
    refine EvK.alloc (w_none rfl) rfl rfl (f_buildSliceF Try.underlying22 el3 (by decide) rfl rfl rfl hF) ?_
    rintro _ h2 ⟨x1, rfl, hF⟩
    refine EvK.run (w_none rfl) rfl rfl (f_appendE (s := a0) (x := x1) Try.underlying22 el3 rfl rfl rfl hF) ?_
    rintro _ h3 ⟨x2, rfl, hF⟩
    refine EvK.pure (v := Sl.val x2) (w_none rfl) rfl rfl (f_assign rfl rfl) ?_
    refine EvK.nil ?_
    refine WP.region ?_
    refine EvK.pure (v := Sl.val x2) (w_none rfl) rfl rfl (f_move rfl rfl) ?_
    obtain ⟨q1, hq1, hF⟩ := hF
    refine EvK.pure (v := .pointer (some q1)) (w_none rfl) rfl rfl (f_indexAddr (s := x2) Try.underlying22 ty3.size rfl rfl rfl hq1) ?_
    obtain ⟨h4, hs1, hF⟩ := hF
    refine EvK.runN (w_none rfl) rfl (f_store (kI .i64) ty3.size (z := 44) rfl rfl rfl hs1) ?_
    rintro _ _ ⟨rfl, rfl⟩
    refine EvK.nil ?_
    exact Ret.mk (vs := []) () trivial rfl hF
  · intro k1 hF
    refine WP.seq ?_
    refine WP.region ?_
    refine EvK.pure (v := .int .i64 0) (w_none rfl) rfl rfl (f_assign rfl rfl) ?_
    refine EvK.nil ?_
    refine WP.block ?_
    refine WP.loopF (fun (s2 : Int) => [(2, .int .i64 s2), (0, Sl.val a0)]) hF ⟨rfl, rfl, trivial⟩ ?_
    intro k2 s2 E0 h5 hF
    refine WP.seq ?_
    refine WP.seq ?_
    refine WP.region ?_
    refine EvK.pure (v := .int .i64 s2) (w_none rfl) rfl rfl (f_move rfl rfl) ?_
    refine EvK.pure (v := Sl.val a0) (w_none rfl) rfl rfl (f_move rfl rfl) ?_
    refine EvK.pure (v := .int .i64 (a0.len : Int)) (w_none rfl) rfl rfl (f_lenL (s := a0) Try.underlying22 rfl rfl) ?_
    refine EvK.pure (v := .bool (decide (s2 < (a0.len : Int)))) (w_none rfl) rfl rfl (f_lss rfl rfl rfl) ?_
    refine EvK.nil ?_
    rcases ite_inv hF with ⟨c1, hF⟩ | ⟨c1, hF⟩
    · refine WP.cond_true _ rfl c1 ?_
      refine WP.skip ?_
      refine WP.seq ?_
      refine WP.block ?_
      refine WP.region ?_
      refine EvK.pure (v := Sl.val a0) (w_none rfl) rfl rfl (f_move rfl rfl) ?_
      refine EvK.pure (v := .int .i64 s2) (w_none rfl) rfl rfl (f_move rfl rfl) ?_
      obtain ⟨q2, hq2, hF⟩ := hF
      refine EvK.pure (v := .pointer (some q2)) (w_none rfl) rfl rfl (f_indexAddr (s := a0) Try.underlying22 ty3.size rfl rfl rfl hq2) ?_
      obtain ⟨h6, hs2, hF⟩ := hF
      refine EvK.runN (w_none rfl) rfl (f_store (kI .i64) ty3.size (z := (-41)) rfl rfl rfl hs2) ?_
      rintro _ _ ⟨rfl, rfl⟩
      refine EvK.nil ?_
      refine WP.region ?_
      refine EvK.pure (v := .int .i64 s2) (w_none rfl) rfl rfl (f_move rfl rfl) ?_
      refine EvK.pure (v := .int .i64 (IntKind.i64.wrap (s2 + 1))) (w_none rfl) rfl rfl (f_add rfl rfl rfl) ?_
      refine EvK.pure (v := .int .i64 (IntKind.i64.wrap (s2 + 1))) (w_none rfl) rfl rfl (f_assign rfl rfl) ?_
      refine EvK.nil ?_
      exact KE.mk (IntKind.i64.wrap (s2 + 1)) ⟨rfl, rfl, trivial⟩ hF
    · refine WP.cond_false _ rfl c1 ?_
      refine WP.exit ?_
      exact KE.mk () ⟨rfl, trivial⟩ hF
end Go.Proofs.Ytgmihbchcmjmdaa

namespace Go.Proofs.Ytgmihbchcmjmdaa
open Go Go.Tr
set_option linter.unusedVariables false
set_option maxRecDepth 100000
set_option maxHeartbeats 400000
/-- (*spate/locks.Refused).Unwrap -/
def locks_Refused_Unwrap (a0 : Option Addr) (h : H) (Q : IF → H → Prop) : Prop :=
  rd a0 fun q1 =>
  rd (ld kIf (q1.add 1) h) fun x1 =>
  Q x1 h
theorem locks_Refused_Unwrap.sound {a0 : Option Addr} {h : H} {Q : IF → H → Prop} (hF : locks_Refused_Unwrap a0 h Q) :
    CallsH Try.prog 79 (List.toArray (α := Value) [.pointer a0]) h fun v h' => ∃ x : IF, v = IF.val x ∧ Q x h' := by
  refine CallsH.of_body Try.func79 rfl 7 rfl rfl ?_
  refine WP.seq ?_
  refine WP.region ?_
  refine EvK.pure (v := IF.val none) (w_none rfl) rfl rfl (f_assign rfl rfl) ?_
  refine EvK.nil ?_
  refine WP.seq ?_
  refine WP.region ?_
  refine EvK.pure (v := .pointer a0) (w_none rfl) rfl rfl (f_move rfl rfl) ?_
  obtain ⟨q1, hq1, hF⟩ := hF
  refine EvK.pure (v := .pointer (some q1)) (w_none rfl) rfl rfl (f_nilCheck rfl (congrArg Value.pointer hq1)) ?_
  refine EvK.pure (v := .pointer (some (q1.add 1))) (w_none rfl) rfl rfl (f_fieldAddr fd84_1 rfl rfl) ?_
  obtain ⟨x1, hx1, hF⟩ := hF
  refine EvK.read (v := IF.val x1) (w_none rfl) rfl rfl (f_load kIf ty37 rfl rfl hx1 rfl) ?_
  refine EvK.pure (v := IF.val x1) (w_none rfl) rfl rfl (f_assign rfl rfl) ?_
  refine EvK.nil ?_
  refine WP.ret ?_
  exact Ret.mk (vs := [IF.val x1]) x1 ⟨rfl, trivial⟩ rfl hF
end Go.Proofs.Ytgmihbchcmjmdaa
