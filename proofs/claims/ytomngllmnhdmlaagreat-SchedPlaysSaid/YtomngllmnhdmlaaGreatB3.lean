/- Merged by merge.py: texts of this seat, one behind the other, in an order that builds. -/
import Derived.Test.YtomngllmnhdmlaaGreatB0
import Derived.Test.YtomngllmnhdmlaaGreatB2
import Derived.Test.YtomngllmnhdmlaaGreatB1
import Derived.ChangeArms
import Derived.DataReads
import Derived.ChangeSlices
import Derived.ProofKit
import Derived.SizedLaws
/- (*spate/sched.Sched).of, as a predicate over the heap, and that the code comes to it. Printed by gen.py. -/
namespace Go.Proofs.YtomngllmnhdmlaaGreat
open Go Go.Tr
set_option linter.unusedVariables false
set_option maxRecDepth 100000
set_option maxHeartbeats 400000
/-- (*spate/sched.Sched).of -/
def sched_Sched_of (a0 : Option Addr) (a1 : Int) (h : H) (Q : (S77 × Bool) → H → Prop) : Prop :=
  rd a0 fun q0 =>
  al 78 (k77.enc z77) h fun q1 h1 =>
  sync_Mutex_Lock (some (q0.add 0)) h1 fun r1 h2 =>
  jn (fun (k1 : Bool → H → Prop) =>
    if (decide (a1 < 0)) = true then
      k1 true h2
    else
      rd (ld kL (q0.add 3) h2) fun x5 =>
      k1 (decide (a1 ≥ (x5.len : Int))) h2) fun s1 h3 =>
  if s1 = true then
    rd (st k77 q1 (S77.mk none 0 0 none) h3) fun h4 =>
    muUnlock (q0.add 0) h4 fun h5 =>
    rd (ld k77 q1 h5) fun x1 =>
    Q (x1, false) h5
  else
    rd (ld kL (q0.add 3) h3) fun x2 =>
    rd (ixA 4 x2 a1) fun q2 =>
    rd (ld k77 q2 h3) fun x3 =>
    rd (st k77 q1 x3 h3) fun h6 =>
    muUnlock (q0.add 0) h6 fun h7 =>
    rd (ld k77 q1 h7) fun x4 =>
    Q (x4, true) h7
theorem sched_Sched_of.sound {a0 : Option Addr} {a1 : Int} {h : H} {Q : (S77 × Bool) → H → Prop} (hF : sched_Sched_of a0 a1 h Q) :
    CallsH Tryz.prog 35 (List.toArray (α := Value) [.pointer a0, .int .i64 a1]) h fun v h' => ∃ x : S77 × Bool, v = .tuple #[k77.val x.1, .bool x.2] ∧ Q x h' := by
  obtain ⟨q0, rfl, hF⟩ := hF
  refine CallsH.of_bodyD ⟨.fn (.func 22) #[], List.toArray (α := Value) [.pointer (some (q0.add 0))]⟩ Tryz.func35 rfl 32 rfl rfl ?_
  refine WPd.pre ?_
  refine WP.region ?_
  refine EvK.alloc (w_none rfl) rfl rfl (f_allocF zero78 rfl rfl hF) ?_
  rintro _ h1 ⟨q1, rfl, hF⟩
  refine EvK.pure (v := .bool false) (w_none rfl) rfl rfl (f_assign rfl rfl) ?_
  refine EvK.nil ?_
  refine WPd.pre ?_
  refine WP.region ?_
  refine EvK.pure (v := .pointer (some q0)) (w_none rfl) rfl rfl (f_move rfl rfl) ?_
  refine EvK.pure (v := .pointer (some q0)) (w_none rfl) rfl rfl (f_nilCheck rfl rfl) ?_
  refine EvK.pure (v := .pointer (some (q0.add 0))) (w_none rfl) rfl rfl (f_fieldAddr fd66_0 rfl rfl) ?_
  refine EvK.call (w_none rfl) rfl rfl (enterH Tryz.func21 rfl rfl rfl rfl (sync_Mutex_Lock.sound hF)) ?_
  rintro _ h2 ⟨r1, rfl, hF⟩
  refine EvK.nil ?_
  refine WPd.deferL rfl rfl ?_
  refine EvK.pure (v := .pointer (some q0)) (w_none rfl) rfl rfl (f_move rfl rfl) ?_
  refine EvK.pure (v := .pointer (some q0)) (w_none rfl) rfl rfl (f_nilCheck rfl rfl) ?_
  refine EvK.pure (v := .pointer (some (q0.add 0))) (w_none rfl) rfl rfl (f_fieldAddr fd66_0 rfl rfl) ?_
  refine EvK.nil ⟨w_none rfl, f_defer rfl rfl, ?_⟩
  refine WP.seq ?_
  refine WP.joinF (fun (s1 : Bool) => [(23, .bool s1), (0, .pointer (some q0)), (1, .int .i64 a1), (4, .pointer (some q1))]) hF ?_ ?_
  · intro s1 E0 h3 hF
    rcases ite_inv hF with ⟨c1, hF⟩ | ⟨c1, hF⟩
    · refine WP.cond_true _ rfl c1 ?_
      refine WP.seq ?_
      refine WP.region ?_
      refine EvK.pure (v := k77.val (S77.mk none 0 0 none)) (w_none rfl) rfl rfl (f_build (cells := k77.enc (S77.mk none 0 0 none)) st78 rfl rfl rfl) ?_
      obtain ⟨h4, hs1, hF⟩ := hF
      refine EvK.runN (w_none rfl) rfl (f_store k77 ty78.size (z := (S77.mk none 0 0 none)) rfl rfl rfl hs1) ?_
      rintro _ _ ⟨rfl, rfl⟩
      refine EvK.pure (v := .bool false) (w_none rfl) rfl rfl (f_assign rfl rfl) ?_
      refine EvK.nil ?_
      refine WP.ret ?_
      refine Undo.mono (muUnlock.undo hF) fun h5 hF => ?_
      obtain ⟨x1, hx1, hF⟩ := hF
      exact Ret.mk (vs := [k77.val x1, .bool false]) (x1, false) ⟨⟨_, rfl, fun c d => run_loadVar k77 ty78 hx1 c d⟩, rfl, trivial⟩ rfl hF
    · refine WP.cond_false _ rfl c1 ?_
      refine WP.skip ?_
      refine WP.seq ?_
      refine WP.region ?_
      refine EvK.pure (v := .pointer (some q0)) (w_none rfl) rfl rfl (f_move rfl rfl) ?_
      refine EvK.pure (v := .pointer (some q0)) (w_none rfl) rfl rfl (f_nilCheck rfl rfl) ?_
      refine EvK.pure (v := .pointer (some (q0.add 3))) (w_none rfl) rfl rfl (f_fieldAddr fd66_2 rfl rfl) ?_
      obtain ⟨x2, hx2, hF⟩ := hF
      refine EvK.read (v := Sl.val x2) (w_none rfl) rfl rfl (f_load kL ty64 rfl rfl hx2 rfl) ?_
      refine EvK.pure (v := .int .i64 a1) (w_none rfl) rfl rfl (f_move rfl rfl) ?_
      obtain ⟨q2, hq1, hF⟩ := hF
      refine EvK.pure (v := .pointer (some q2)) (w_none rfl) rfl rfl (f_indexAddr (s := x2) Tryz.underlying64 ty78.size rfl rfl rfl hq1) ?_
      obtain ⟨x3, hx3, hF⟩ := hF
      refine EvK.read (v := k77.val x3) (w_none rfl) rfl rfl (f_load k77 ty78 rfl rfl hx3 rfl) ?_
      obtain ⟨h6, hs2, hF⟩ := hF
      refine EvK.runN (w_none rfl) rfl (f_store k77 ty78.size (z := x3) rfl rfl rfl hs2) ?_
      rintro _ _ ⟨rfl, rfl⟩
      refine EvK.pure (v := .bool true) (w_none rfl) rfl rfl (f_assign rfl rfl) ?_
      refine EvK.nil ?_
      refine WP.ret ?_
      refine Undo.mono (muUnlock.undo hF) fun h7 hF => ?_
      obtain ⟨x4, hx4, hF⟩ := hF
      exact Ret.mk (vs := [k77.val x4, .bool true]) (x4, true) ⟨⟨_, rfl, fun c d => run_loadVar k77 ty78 hx4 c d⟩, rfl, trivial⟩ rfl hF
  · intro k1 hF
    refine WP.region ?_
    refine EvK.pure (v := .int .i64 a1) (w_none rfl) rfl rfl (f_move rfl rfl) ?_
    refine EvK.pure (v := .bool (decide (a1 < 0))) (w_none rfl) rfl rfl (f_lss rfl rfl rfl) ?_
    refine EvK.pure (v := .bool (decide (a1 < 0))) (w_none rfl) rfl rfl (f_move rfl rfl) ?_
    rcases ite_inv hF with ⟨c2, hF⟩ | ⟨c2, hF⟩
    · refine EvK.not (w_not rfl rfl c2) rfl rfl ?_
      refine EvK.not (w_not rfl rfl c2) rfl rfl ?_
      refine EvK.not (w_not rfl rfl c2) rfl rfl ?_
      refine EvK.not (w_not rfl rfl c2) rfl rfl ?_
      refine EvK.not (w_not rfl rfl c2) rfl rfl ?_
      refine EvK.not (w_not rfl rfl c2) rfl rfl ?_
      refine EvK.not (w_not rfl rfl c2) rfl rfl ?_
      refine EvK.pure (v := .bool true) (w_none rfl) rfl rfl (f_pickT rfl rfl c2 rfl) ?_
      refine EvK.nil ?_
      exact KE.mk true ⟨rfl, rfl, rfl, rfl, trivial⟩ hF
    · refine EvK.pure (v := .int .i64 a1) (w_some rfl rfl c2) rfl rfl (f_move rfl rfl) ?_
      refine EvK.pure (v := .pointer (some q0)) (w_some rfl rfl c2) rfl rfl (f_move rfl rfl) ?_
      refine EvK.pure (v := .pointer (some q0)) (w_some rfl rfl c2) rfl rfl (f_nilCheck rfl rfl) ?_
      refine EvK.pure (v := .pointer (some (q0.add 3))) (w_some rfl rfl c2) rfl rfl (f_fieldAddr fd66_2 rfl rfl) ?_
      obtain ⟨x5, hx5, hF⟩ := hF
      refine EvK.read (v := Sl.val x5) (w_some rfl rfl c2) rfl rfl (f_load kL ty64 rfl rfl hx5 rfl) ?_
      refine EvK.pure (v := .int .i64 (x5.len : Int)) (w_some rfl rfl c2) rfl rfl (f_lenL (s := x5) Tryz.underlying64 rfl rfl) ?_
      refine EvK.pure (v := .bool (decide (a1 ≥ (x5.len : Int)))) (w_some rfl rfl c2) rfl rfl (f_geq rfl rfl rfl) ?_
      refine EvK.pure (v := .bool (decide (a1 ≥ (x5.len : Int)))) (w_none rfl) rfl rfl (f_pickF rfl rfl c2 rfl) ?_
      refine EvK.nil ?_
      exact KE.mk (decide (a1 ≥ (x5.len : Int))) ⟨rfl, rfl, rfl, rfl, trivial⟩ hF
end Go.Proofs.YtomngllmnhdmlaaGreat
/- (*spate/sched.Sched).State, as a predicate over the heap, and that the code comes to it. Printed by gen.py. -/
namespace Go.Proofs.YtomngllmnhdmlaaGreat
open Go Go.Tr
set_option linter.unusedVariables false
set_option maxRecDepth 100000
set_option maxHeartbeats 400000
/-- (*spate/sched.Sched).State -/
def sched_Sched_State (a0 : Option Addr) (a1 : Int) (h : H) (Q : Int → H → Prop) : Prop :=
  sched_Sched_of a0 a1 h fun r1 h1 =>
  al 78 (k77.enc z77) h1 fun q1 h2 =>
  rd (st k77 q1 r1.1 h2) fun h3 =>
  rd (ld (kI .i64) (q1.add 1) h3) fun x1 =>
  Q x1 h3
theorem sched_Sched_State.sound {a0 : Option Addr} {a1 : Int} {h : H} {Q : Int → H → Prop} (hF : sched_Sched_State a0 a1 h Q) :
    CallsH Tryz.prog 17 (List.toArray (α := Value) [.pointer a0, .int .i64 a1]) h fun v h' => ∃ x : Int, v = .int .i64 x ∧ Q x h' := by
  refine CallsH.of_body Tryz.func17 rfl 15 rfl rfl ?_
  refine WP.seq ?_
  refine WP.region ?_
  refine EvK.pure (v := .int .i64 0) (w_none rfl) rfl rfl (f_assign rfl rfl) ?_
  refine EvK.nil ?_
  refine WP.seq ?_
  refine WP.region ?_
  refine EvK.pure (v := .pointer a0) (w_none rfl) rfl rfl (f_move rfl rfl) ?_
  refine EvK.pure (v := .int .i64 a1) (w_none rfl) rfl rfl (f_move rfl rfl) ?_
  refine EvK.call (w_none rfl) rfl rfl (enterH Tryz.func35 rfl rfl rfl rfl (sched_Sched_of.sound hF)) ?_
  rintro _ h1 ⟨r1, rfl, hF⟩
  refine EvK.pure (v := .tuple #[k77.val r1.1, .bool r1.2]) (w_none rfl) rfl rfl (f_move rfl rfl) ?_
  refine EvK.pure (v := k77.val r1.1) (w_none rfl) rfl rfl (f_extract (vs := #[k77.val r1.1, .bool r1.2]) rfl rfl rfl) ?_
  refine EvK.pure (v := .bool r1.2) (w_none rfl) rfl rfl (f_extract (vs := #[k77.val r1.1, .bool r1.2]) rfl rfl rfl) ?_
  refine EvK.alloc (w_none rfl) rfl rfl (f_allocF zero78 rfl rfl hF) ?_
  rintro _ h2 ⟨q1, rfl, hF⟩
  obtain ⟨h3, hs1, hF⟩ := hF
  refine EvK.runN (w_none rfl) rfl (f_store k77 ty78.size (z := r1.1) rfl rfl rfl hs1) ?_
  rintro _ _ ⟨rfl, rfl⟩
  refine EvK.pure (v := .bool r1.2) (w_none rfl) rfl rfl (f_assign rfl rfl) ?_
  refine EvK.nil ?_
  refine WP.seq ?_
  refine WP.region ?_
  refine EvK.pure (v := .pointer (some (q1.add 1))) (w_none rfl) rfl rfl (f_fieldAddr fd78_1 rfl rfl) ?_
  obtain ⟨x1, hx1, hF⟩ := hF
  refine EvK.read (v := .int .i64 x1) (w_none rfl) rfl rfl (f_load (kI .i64) ty3 rfl rfl hx1 rfl) ?_
  refine EvK.pure (v := .int .i64 x1) (w_none rfl) rfl rfl (f_assign rfl rfl) ?_
  refine EvK.nil ?_
  refine WP.ret ?_
  exact Ret.mk (vs := [.int .i64 x1]) x1 ⟨rfl, trivial⟩ rfl hF
end Go.Proofs.YtomngllmnhdmlaaGreat
/- (*spate/sched.Sched).Fault, as a predicate over the heap, and that the code comes to it. Printed by gen.py. -/
namespace Go.Proofs.YtomngllmnhdmlaaGreat
open Go Go.Tr
set_option linter.unusedVariables false
set_option maxRecDepth 100000
set_option maxHeartbeats 400000
/-- (*spate/sched.Sched).Fault -/
def sched_Sched_Fault (a0 : Option Addr) (a1 : Int) (h : H) (Q : IF → H → Prop) : Prop :=
  sched_Sched_of a0 a1 h fun r1 h1 =>
  al 78 (k77.enc z77) h1 fun q1 h2 =>
  rd (st k77 q1 r1.1 h2) fun h3 =>
  rd (ld kIf (q1.add 3) h3) fun x1 =>
  Q x1 h3
theorem sched_Sched_Fault.sound {a0 : Option Addr} {a1 : Int} {h : H} {Q : IF → H → Prop} (hF : sched_Sched_Fault a0 a1 h Q) :
    CallsH Tryz.prog 33 (List.toArray (α := Value) [.pointer a0, .int .i64 a1]) h fun v h' => ∃ x : IF, v = IF.val x ∧ Q x h' := by
  refine CallsH.of_body Tryz.func33 rfl 15 rfl rfl ?_
  refine WP.seq ?_
  refine WP.region ?_
  refine EvK.pure (v := IF.val none) (w_none rfl) rfl rfl (f_assign rfl rfl) ?_
  refine EvK.nil ?_
  refine WP.seq ?_
  refine WP.region ?_
  refine EvK.pure (v := .pointer a0) (w_none rfl) rfl rfl (f_move rfl rfl) ?_
  refine EvK.pure (v := .int .i64 a1) (w_none rfl) rfl rfl (f_move rfl rfl) ?_
  refine EvK.call (w_none rfl) rfl rfl (enterH Tryz.func35 rfl rfl rfl rfl (sched_Sched_of.sound hF)) ?_
  rintro _ h1 ⟨r1, rfl, hF⟩
  refine EvK.pure (v := .tuple #[k77.val r1.1, .bool r1.2]) (w_none rfl) rfl rfl (f_move rfl rfl) ?_
  refine EvK.pure (v := k77.val r1.1) (w_none rfl) rfl rfl (f_extract (vs := #[k77.val r1.1, .bool r1.2]) rfl rfl rfl) ?_
  refine EvK.pure (v := .bool r1.2) (w_none rfl) rfl rfl (f_extract (vs := #[k77.val r1.1, .bool r1.2]) rfl rfl rfl) ?_
  refine EvK.alloc (w_none rfl) rfl rfl (f_allocF zero78 rfl rfl hF) ?_
  rintro _ h2 ⟨q1, rfl, hF⟩
  obtain ⟨h3, hs1, hF⟩ := hF
  refine EvK.runN (w_none rfl) rfl (f_store k77 ty78.size (z := r1.1) rfl rfl rfl hs1) ?_
  rintro _ _ ⟨rfl, rfl⟩
  refine EvK.pure (v := .bool r1.2) (w_none rfl) rfl rfl (f_assign rfl rfl) ?_
  refine EvK.nil ?_
  refine WP.seq ?_
  refine WP.region ?_
  refine EvK.pure (v := .pointer (some (q1.add 3))) (w_none rfl) rfl rfl (f_fieldAddr fd78_3 rfl rfl) ?_
  obtain ⟨x1, hx1, hF⟩ := hF
  refine EvK.read (v := IF.val x1) (w_none rfl) rfl rfl (f_load kIf ty76 rfl rfl hx1 rfl) ?_
  refine EvK.pure (v := IF.val x1) (w_none rfl) rfl rfl (f_assign rfl rfl) ?_
  refine EvK.nil ?_
  refine WP.ret ?_
  exact Ret.mk (vs := [IF.val x1]) x1 ⟨rfl, trivial⟩ rfl hF
end Go.Proofs.YtomngllmnhdmlaaGreat
/- (*spate/sched.Sched).Tasks, as a predicate over the heap, and that the code comes to it. Printed by gen.py. -/
namespace Go.Proofs.YtomngllmnhdmlaaGreat
open Go Go.Tr
set_option linter.unusedVariables false
set_option maxRecDepth 100000
set_option maxHeartbeats 400000
/-- (*spate/sched.Sched).Tasks -/
def sched_Sched_Tasks (a0 : Option Addr) (h : H) (Q : Int → H → Prop) : Prop :=
  rd a0 fun q0 =>
  sync_Mutex_Lock (some (q0.add 0)) h fun r1 h1 =>
  rd (ld kL (q0.add 3) h1) fun x1 =>
  muUnlock (q0.add 0) h1 fun h2 =>
  Q (x1.len : Int) h2
theorem sched_Sched_Tasks.sound {a0 : Option Addr} {h : H} {Q : Int → H → Prop} (hF : sched_Sched_Tasks a0 h Q) :
    CallsH Tryz.prog 18 (List.toArray (α := Value) [.pointer a0]) h fun v h' => ∃ x : Int, v = .int .i64 x ∧ Q x h' := by
  obtain ⟨q0, rfl, hF⟩ := hF
  refine CallsH.of_bodyD ⟨.fn (.func 22) #[], List.toArray (α := Value) [.pointer (some (q0.add 0))]⟩ Tryz.func18 rfl 15 rfl rfl ?_
  refine WPd.pre ?_
  refine WP.region ?_
  refine EvK.pure (v := .int .i64 0) (w_none rfl) rfl rfl (f_assign rfl rfl) ?_
  refine EvK.nil ?_
  refine WPd.pre ?_
  refine WP.region ?_
  refine EvK.pure (v := .pointer (some q0)) (w_none rfl) rfl rfl (f_move rfl rfl) ?_
  refine EvK.pure (v := .pointer (some q0)) (w_none rfl) rfl rfl (f_nilCheck rfl rfl) ?_
  refine EvK.pure (v := .pointer (some (q0.add 0))) (w_none rfl) rfl rfl (f_fieldAddr fd66_0 rfl rfl) ?_
  refine EvK.call (w_none rfl) rfl rfl (enterH Tryz.func21 rfl rfl rfl rfl (sync_Mutex_Lock.sound hF)) ?_
  rintro _ h1 ⟨r1, rfl, hF⟩
  refine EvK.nil ?_
  refine WPd.deferL rfl rfl ?_
  refine EvK.pure (v := .pointer (some q0)) (w_none rfl) rfl rfl (f_move rfl rfl) ?_
  refine EvK.pure (v := .pointer (some q0)) (w_none rfl) rfl rfl (f_nilCheck rfl rfl) ?_
  refine EvK.pure (v := .pointer (some (q0.add 0))) (w_none rfl) rfl rfl (f_fieldAddr fd66_0 rfl rfl) ?_
  refine EvK.nil ⟨w_none rfl, f_defer rfl rfl, ?_⟩
  refine WP.seq ?_
  refine WP.region ?_
  refine EvK.pure (v := .pointer (some q0)) (w_none rfl) rfl rfl (f_move rfl rfl) ?_
  refine EvK.pure (v := .pointer (some q0)) (w_none rfl) rfl rfl (f_nilCheck rfl rfl) ?_
  refine EvK.pure (v := .pointer (some (q0.add 3))) (w_none rfl) rfl rfl (f_fieldAddr fd66_2 rfl rfl) ?_
  obtain ⟨x1, hx1, hF⟩ := hF
  refine EvK.read (v := Sl.val x1) (w_none rfl) rfl rfl (f_load kL ty64 rfl rfl hx1 rfl) ?_
  refine EvK.pure (v := .int .i64 (x1.len : Int)) (w_none rfl) rfl rfl (f_lenL (s := x1) Tryz.underlying64 rfl rfl) ?_
  refine EvK.pure (v := .int .i64 (x1.len : Int)) (w_none rfl) rfl rfl (f_assign rfl rfl) ?_
  refine EvK.nil ?_
  refine WP.ret ?_
  refine Undo.mono (muUnlock.undo hF) fun h2 hF => ?_
  exact Ret.mk (vs := [.int .i64 (x1.len : Int)]) (x1.len : Int) ⟨rfl, trivial⟩ rfl hF
end Go.Proofs.YtomngllmnhdmlaaGreat
/- (*spate/sched.Sched).Add, as a predicate over the heap, and that the code comes to it. Printed by gen.py. -/
namespace Go.Proofs.YtomngllmnhdmlaaGreat
open Go Go.Tr
set_option linter.unusedVariables false
set_option maxRecDepth 100000
set_option maxHeartbeats 400000
/-- (*spate/sched.Sched).Add -/
def sched_Sched_Add (a0 : Option Addr) (a1 : IF) (h : H) (Q : Int → H → Prop) : Prop :=
  rd a0 fun q0 =>
  sync_Mutex_Lock (some (q0.add 0)) h fun r1 h1 =>
  rd (ld kL (q0.add 3) h1) fun x1 =>
  bs 78 1 (k77.enc (S77.mk a1 1 0 none)) h1 fun x2 h2 =>
  ap k77.n 48 78 (k77.enc z77) x1 x2 h2 fun x3 h3 =>
  rd (st kL (q0.add 3) x3 h3) fun h4 =>
  rd (ld kL (q0.add 3) h4) fun x4 =>
  muUnlock (q0.add 0) h4 fun h5 =>
  Q (IntKind.i64.wrap ((x4.len : Int) - 1)) h5
theorem sched_Sched_Add.sound {a0 : Option Addr} {a1 : IF} {h : H} {Q : Int → H → Prop} (hF : sched_Sched_Add a0 a1 h Q) :
    CallsH Tryz.prog 8 (List.toArray (α := Value) [.pointer a0, IF.val a1]) h fun v h' => ∃ x : Int, v = .int .i64 x ∧ Q x h' := by
  obtain ⟨q0, rfl, hF⟩ := hF
  refine CallsH.of_bodyD ⟨.fn (.func 22) #[], List.toArray (α := Value) [.pointer (some (q0.add 0))]⟩ Tryz.func8 rfl 29 rfl rfl ?_
  refine WPd.pre ?_
  refine WP.region ?_
  refine EvK.pure (v := .int .i64 0) (w_none rfl) rfl rfl (f_assign rfl rfl) ?_
  refine EvK.nil ?_
  refine WPd.pre ?_
  refine WP.region ?_
  refine EvK.pure (v := .pointer (some q0)) (w_none rfl) rfl rfl (f_move rfl rfl) ?_
  refine EvK.pure (v := .pointer (some q0)) (w_none rfl) rfl rfl (f_nilCheck rfl rfl) ?_
  refine EvK.pure (v := .pointer (some (q0.add 0))) (w_none rfl) rfl rfl (f_fieldAddr fd66_0 rfl rfl) ?_
  refine EvK.call (w_none rfl) rfl rfl (enterH Tryz.func21 rfl rfl rfl rfl (sync_Mutex_Lock.sound hF)) ?_
  rintro _ h1 ⟨r1, rfl, hF⟩
  refine EvK.nil ?_
  refine WPd.deferL rfl rfl ?_
  refine EvK.pure (v := .pointer (some q0)) (w_none rfl) rfl rfl (f_move rfl rfl) ?_
  refine EvK.pure (v := .pointer (some q0)) (w_none rfl) rfl rfl (f_nilCheck rfl rfl) ?_
  refine EvK.pure (v := .pointer (some (q0.add 0))) (w_none rfl) rfl rfl (f_fieldAddr fd66_0 rfl rfl) ?_
  refine EvK.nil ⟨w_none rfl, f_defer rfl rfl, ?_⟩
  refine WP.seq ?_
  refine WP.region ?_
  refine EvK.pure (v := .pointer (some q0)) (w_none rfl) rfl rfl (f_move rfl rfl) ?_
  refine EvK.pure (v := .pointer (some q0)) (w_none rfl) rfl rfl (f_move rfl rfl) ?_
  refine EvK.pure (v := .pointer (some q0)) (w_none rfl) rfl rfl (f_nilCheck rfl rfl) ?_
  refine EvK.pure (v := .pointer (some (q0.add 3))) (w_none rfl) rfl rfl (f_fieldAddr fd66_2 rfl rfl) ?_
  obtain ⟨x1, hx1, hF⟩ := hF
  refine EvK.read (v := Sl.val x1) (w_none rfl) rfl rfl (f_load kL ty64 rfl rfl hx1 rfl) ?_
  refine EvK.pure (v := IF.val a1) (w_none rfl) rfl rfl (f_move rfl rfl) ?_
  refine EvK.pure (v := k77.val (S77.mk a1 1 0 none)) (w_none rfl) rfl rfl (f_build (cells := k77.enc (S77.mk a1 1 0 none)) (pl := [(0, kIf.enc a1), (1, (kI .i64).enc 1)]) st78 rfl (by show [(0, (IF.val a1 : Value).cells.toList), (1, (.int .i64 1 : Value).cells.toList)] = _; simp only [if_cells, fn_cells]; rfl) rfl) ?_
  refine EvK.alloc (w_none rfl) rfl rfl (f_buildSliceF Tryz.underlying64 el78 (by decide) rfl rfl rfl hF) ?_
  rintro _ h2 ⟨x2, rfl, hF⟩
  refine EvK.run (w_none rfl) rfl rfl (f_appendE (s := x1) (x := x2) Tryz.underlying64 el78 rfl rfl rfl hF) ?_
  rintro _ h3 ⟨x3, rfl, hF⟩
  refine EvK.pure (v := .pointer (some q0)) (w_none rfl) rfl rfl (f_nilCheck rfl rfl) ?_
  refine EvK.pure (v := .pointer (some (q0.add 3))) (w_none rfl) rfl rfl (f_fieldAddr fd66_2 rfl rfl) ?_
  obtain ⟨h4, hs1, hF⟩ := hF
  refine EvK.runN (w_none rfl) rfl (f_store kL ty64.size (z := x3) rfl rfl rfl hs1) ?_
  rintro _ _ ⟨rfl, rfl⟩
  refine EvK.nil ?_
  refine WP.seq ?_
  refine WP.region ?_
  refine EvK.pure (v := .pointer (some q0)) (w_none rfl) rfl rfl (f_move rfl rfl) ?_
  refine EvK.pure (v := .pointer (some q0)) (w_none rfl) rfl rfl (f_nilCheck rfl rfl) ?_
  refine EvK.pure (v := .pointer (some (q0.add 3))) (w_none rfl) rfl rfl (f_fieldAddr fd66_2 rfl rfl) ?_
  obtain ⟨x4, hx2, hF⟩ := hF
  refine EvK.read (v := Sl.val x4) (w_none rfl) rfl rfl (f_load kL ty64 rfl rfl hx2 rfl) ?_
  refine EvK.pure (v := .int .i64 (x4.len : Int)) (w_none rfl) rfl rfl (f_lenL (s := x4) Tryz.underlying64 rfl rfl) ?_
  refine EvK.pure (v := .int .i64 (IntKind.i64.wrap ((x4.len : Int) - 1))) (w_none rfl) rfl rfl (f_sub rfl rfl rfl) ?_
  refine EvK.pure (v := .int .i64 (IntKind.i64.wrap ((x4.len : Int) - 1))) (w_none rfl) rfl rfl (f_assign rfl rfl) ?_
  refine EvK.nil ?_
  refine WP.ret ?_
  refine Undo.mono (muUnlock.undo hF) fun h5 hF => ?_
  exact Ret.mk (vs := [.int .i64 (IntKind.i64.wrap ((x4.len : Int) - 1))]) (IntKind.i64.wrap ((x4.len : Int) - 1)) ⟨rfl, trivial⟩ rfl hF
end Go.Proofs.YtomngllmnhdmlaaGreat
/- spate/sched.New, as a predicate over the heap, and that the code comes to it. Printed by gen.py. -/
namespace Go.Proofs.YtomngllmnhdmlaaGreat
open Go Go.Tr
set_option linter.unusedVariables false
set_option maxRecDepth 100000
set_option maxHeartbeats 400000
/-- spate/sched.New -/
def sched_New (a0 : Int) (h : H) (Q : ((Option Addr) × Int) → H → Prop) : Prop :=
  locks_New a0 h fun r1 h1 =>
  if (r1.2 != 0) = true then
    Q (none, r1.2) h1
  else
    al 66 (k65.enc (S65.mk z62 r1.1 Sl.nil)) h1 fun q1 h2 =>
    Q ((some q1), 0) h2
theorem sched_New.sound {a0 : Int} {h : H} {Q : ((Option Addr) × Int) → H → Prop} (hF : sched_New a0 h Q) :
    CallsH Tryz.prog 5 (List.toArray (α := Value) [.int .i64 a0]) h fun v h' => ∃ x : (Option Addr) × Int, v = .tuple #[.pointer x.1, .int .i64 x.2] ∧ Q x h' := by
  refine CallsH.of_body Tryz.func5 rfl 17 rfl rfl ?_
  refine WP.seq ?_
  refine WP.region ?_
  refine EvK.pure (v := .pointer none) (w_none rfl) rfl rfl (f_assign rfl rfl) ?_
  refine EvK.pure (v := .int .i64 0) (w_none rfl) rfl rfl (f_assign rfl rfl) ?_
  refine EvK.nil ?_
  refine WP.seq ?_
  refine WP.region ?_
  refine EvK.pure (v := .int .i64 a0) (w_none rfl) rfl rfl (f_move rfl rfl) ?_
  refine EvK.call (w_none rfl) rfl rfl (enterH Tryz.func19 rfl rfl rfl rfl (locks_New.sound hF)) ?_
  rintro _ h1 ⟨r1, rfl, hF⟩
  refine EvK.pure (v := .tuple #[.pointer r1.1, .int .i64 r1.2]) (w_none rfl) rfl rfl (f_move rfl rfl) ?_
  refine EvK.pure (v := .pointer r1.1) (w_none rfl) rfl rfl (f_extract (vs := #[.pointer r1.1, .int .i64 r1.2]) rfl rfl rfl) ?_
  refine EvK.pure (v := .int .i64 r1.2) (w_none rfl) rfl rfl (f_extract (vs := #[.pointer r1.1, .int .i64 r1.2]) rfl rfl rfl) ?_
  refine EvK.pure (v := .pointer r1.1) (w_none rfl) rfl rfl (f_assign rfl rfl) ?_
  refine EvK.pure (v := .int .i64 r1.2) (w_none rfl) rfl rfl (f_assign rfl rfl) ?_
  refine EvK.nil ?_
  refine WP.seq ?_
  refine WP.seq ?_
  refine WP.region ?_
  refine EvK.pure (v := .int .i64 r1.2) (w_none rfl) rfl rfl (f_move rfl rfl) ?_
  refine EvK.pure (v := .bool (r1.2 != 0)) (w_none rfl) rfl rfl (f_neq rfl rfl rfl) ?_
  refine EvK.nil ?_
  rcases ite_inv hF with ⟨c1, hF⟩ | ⟨c1, hF⟩
  · refine WP.cond_true _ rfl c1 ?_
    refine WP.seq ?_
    refine WP.region ?_
    refine EvK.pure (v := .int .i64 r1.2) (w_none rfl) rfl rfl (f_move rfl rfl) ?_
    refine EvK.pure (v := .pointer none) (w_none rfl) rfl rfl (f_assign rfl rfl) ?_
    refine EvK.pure (v := .int .i64 r1.2) (w_none rfl) rfl rfl (f_assign rfl rfl) ?_
    refine EvK.nil ?_
    refine WP.ret ?_
    exact Ret.mk (vs := [.pointer none, .int .i64 r1.2]) (none, r1.2) ⟨rfl, rfl, trivial⟩ rfl hF
  · refine WP.cond_false _ rfl c1 ?_
    refine WP.skip ?_
    refine WP.seq ?_
    refine WP.region ?_
    refine EvK.pure (v := .pointer r1.1) (w_none rfl) rfl rfl (f_move rfl rfl) ?_
    refine EvK.pure (v := k65.val (S65.mk z62 r1.1 Sl.nil)) (w_none rfl) rfl rfl (f_build (cells := k65.enc (S65.mk z62 r1.1 Sl.nil)) st66 rfl rfl rfl) ?_
    refine EvK.alloc (w_none rfl) rfl rfl (f_boxF (v := k65.val (S65.mk z62 r1.1 Sl.nil)) rfl rfl rfl hF) ?_
    rintro _ h2 ⟨q1, rfl, hF⟩
    refine EvK.pure (v := .pointer (some q1)) (w_none rfl) rfl rfl (f_assign rfl rfl) ?_
    refine EvK.pure (v := .int .i64 0) (w_none rfl) rfl rfl (f_assign rfl rfl) ?_
    refine EvK.nil ?_
    refine WP.ret ?_
    exact Ret.mk (vs := [.pointer (some q1), .int .i64 0]) ((some q1), 0) ⟨rfl, rfl, trivial⟩ rfl hF
end Go.Proofs.YtomngllmnhdmlaaGreat
/- The scheduler's calls. -/
namespace Go.Proofs.YtomngllmnhdmlaaGreat
open Go Go.Tr
set_option linter.unusedVariables false
def pickI (n : Int) (len : Nat) : Nat := (if n.tmod (len : Int) < 0 then n.tmod (len : Int) + len else n.tmod (len : Int)).toNat
theorem pickI_lt {n : Int} {len : Nat} (h : 0 < len) : pickI n len < len := by
  have h1 := Int.tmod_lt_of_pos n (b := (len : Int)) (by omega)
  have h2 : -(len : Int) < n.tmod len := by
    have := Int.tmod_lt_of_pos (-n) (b := (len : Int)) (by omega)
    rw [Int.neg_tmod] at this
    omega
  unfold pickI
  split <;> omega
theorem rem_pick {n : Int} {len : Nat} (h : 0 < len) (h2 : len < 4611686018427387904) : ∃ r, remI n (len : Int) = some r ∧ (if r < 0 then IntKind.i64.wrap (r + (len : Int)) else r) = (pickI n len : Int) := by
  refine ⟨n.tmod len, by unfold remI; rw [if_neg (by omega)], ?_⟩
  have h1 := Int.tmod_lt_of_pos n (b := (len : Int)) (by omega)
  have h2 : -(len : Int) < n.tmod len := by
    have := Int.tmod_lt_of_pos (-n) (b := (len : Int)) (by omega)
    rw [Int.neg_tmod] at this
    omega
  unfold pickI
  split
  · rw [wrap64_id (by omega) (by omega)]; omega
  · omega
abbrev WS := AS × List PLY
def mvAtL (L : List PLY) (n : Nat) : MV := match L[n]? with | some p => p.mv | none => ⟨5, [], 0, []⟩
theorem mvAtL_eq {L : List PLY} {n : Nat} (h : n < L.length) : mvAtL L n = L[n].mv := by unfold mvAtL; rw [List.getElem?_eq_getElem h]
def WS.step (W : WS) (n : Nat) : WS := (W.1.step n (mvAtL W.2 n), bump W.2 n)
/-- One of those that were ready at a round's beginning. -/
def rstep (w : WS × Nat) (t : Int) : WS × Nat := if rdyB w.1.1.ts t.toNat then (w.1.step t.toNat, w.2 + 1) else w
def roundW (W : WS) : WS × Nat := (readyT W.1.ts).foldl rstep (W, 0)
structure WS.Ok (W : WS) (B N : Nat) : Prop where
  a : W.1.Ok B
  l : W.1.ts.length = W.2.length
  x : ∀ p ∈ W.2, p.nx ≤ N
theorem WS.Ok.mono {W : WS} {B N B' N' : Nat} (o : W.Ok B N) (h1 : B ≤ B') (h2 : N ≤ N') : W.Ok B' N' := ⟨o.a.mono h1, o.l, fun p hp => Nat.le_trans (o.x p hp) h2⟩
theorem WS.Ok.step {W : WS} {B N n : Nat} (o : W.Ok B N) (hn : n < W.1.ts.length) : (W.step n).Ok (B + 1) (N + 1) := by
  refine ⟨o.a.step hn _, ?_, fun p hp => ?_⟩
  · show (W.1.step n _).ts.length = (bump W.2 n).length
    rw [AS.step_len, bump_len]; exact o.l
  · obtain ⟨i, hi⟩ := List.getElem?_of_mem hp
    unfold WS.step bump at hi
    rw [List.getElem?_modify] at hi
    cases hp' : W.2[i]? with
    | none => rw [hp'] at hi; cases hi
    | some y =>
      rw [hp'] at hi
      have := o.x y (List.mem_of_getElem? hp')
      by_cases c : n = i
      · simp [c] at hi; rw [← hi]; show y.nx + 1 ≤ N + 1; omega
      · simp [c] at hi; rw [← hi]; omega
theorem bump_at {L : List PLY} {n i : Nat} : (bump L n)[i]? = if n = i then L[i]?.map PLY.up else L[i]? := by
  unfold bump
  rw [List.getElem?_modify]
  by_cases c : n = i
  · simp [c]
  · simp [c]
section
variable {F0 : Nat → Prop} {h0 h : H} {q mb : Nat} {lk : Int} {M : AM} {ts : Sl} {es : List EN} {B N : Nat} {Rs : List HP} {X : HP} {A : AS} {L : List PLY} {bs : List Nat}
theorem lock_go (S : SG F0 h0 h (sdL q 0 mb M ts es ++ Rs)) {Q : Unit → H → Prop} (k : ∀ h', SG F0 h0 h' (sdL q 1 mb M ts es ++ Rs) → Q () h') : sync_Mutex_Lock (some ((⟨q, 0, none⟩ : Addr).add 0)) h Q := by
  obtain ⟨h', hs, S', _⟩ := varP.st S fs_lk 0 rfl 1
  refine ⟨_, rfl, by rw [add_mk]; exact varP.ld S fs_lk 0 rfl, h', by rw [add_mk]; exact hs, k h' S'⟩
theorem unlock_go (S : SG F0 h0 h (sdL q 1 mb M ts es ++ Rs)) {T : H → Prop} (k : ∀ h', SG F0 h0 h' (sdL q 0 mb M ts es ++ Rs) → T h') : muUnlock ((⟨q, 0, none⟩ : Addr).add 0) h T := by
  obtain ⟨h', hs, S', _⟩ := varP.st S fs_lk 0 rfl 0
  exact ⟨by rw [add_mk]; exact varP.ld S fs_lk 0 rfl, h', by rw [add_mk]; exact hs, k h' S'⟩
theorem len_es (e1 : es.map EN.tk = A.ts) : es.length = A.ts.length := by rw [← e1, List.length_map]
theorem mkA (e1 : es.map EN.tk = A.ts) : AS.mk A.m (es.map EN.tk) = A := by rw [e1]
theorem Ready_spec (ok : A.Ok B) (S : SG F0 h0 h (schP q A bs :: Rs)) {Q : Sl → H → Prop} (k : ∀ s h', SG F0 h0 h' (ownP (kI .i64) s (readyT A.ts) :: schP q A bs :: Rs) → Q s h') : sched_Sched_Ready (some ⟨q, 0, none⟩) h Q := by
  obtain ⟨mb, ts, es, e1, e2, S⟩ := sch_open S
  have hl := len_es e1
  have hn := ok.n
  unfold sched_Sched_Ready
  refine rd_some rfl (lock_go S fun h1 S1 => ready_spec S1 (by omega) fun s h2 S2 => ?_)
  have S2 : SG F0 h0 h2 (sdL q 1 mb A.m ts es ++ (ownP (kI .i64) s (readyT (es.map EN.tk)) :: Rs)) := S2.perm (List.perm_middle (l₁ := sdL q 1 mb A.m ts es)).symm
  refine unlock_go S2 fun h3 S3 => k s h3 ?_
  rw [e1] at S3
  exact (sch_close e1 e2 S3).swap
theorem Wake_spec (ok : A.Ok B) (on : Int) (S : SG F0 h0 h (schP q A bs :: Rs)) {Q : Int → H → Prop} (k : ∀ h', SG F0 h0 h' (schP q ⟨A.m, wakeT A.ts on⟩ bs :: Rs) → Q (wakeN A.ts on : Nat) h') : sched_Sched_Wake (some ⟨q, 0, none⟩) on h Q := by
  obtain ⟨mb, ts, es, e1, e2, S⟩ := sch_open S
  have hl := len_es e1
  have hn := ok.n
  unfold sched_Sched_Wake
  refine rd_some rfl (lock_go S fun h1 S1 => wake_spec S1 (by omega) on fun h2 S2 => unlock_go S2 fun h3 S3 => ?_)
  rw [e1]
  refine k h3 (sch_close (es := es.map (wkE on)) ?_ ?_ S3)
  · have := wakesE_tk [on] es
    rw [← e1]; exact this
  · have := wakesE_b [on] es
    rw [← e2]; exact this
theorem Tasks_spec (S : SG F0 h0 h (schP q A bs :: Rs)) {Q : Int → H → Prop} (k : ∀ h', SG F0 h0 h' (schP q A bs :: Rs) → Q (A.ts.length : Nat) h') : sched_Sched_Tasks (some ⟨q, 0, none⟩) h Q := by
  obtain ⟨mb, ts, es, e1, e2, S⟩ := sch_open S
  have hl := len_es e1
  unfold sched_Sched_Tasks
  refine rd_some rfl (lock_go S fun h1 S1 => rd_some (by rw [add_mk]; exact varP.ld S1 fs_ts 0 rfl) (unlock_go S1 fun h2 S2 => ?_))
  have hlen := ownP.len (K := kEn) S2 2 rfl
  rw [List.length_map] at hlen
  show Q (ts.len : Int) h2
  rw [hlen, hl]
  exact k h2 (sch_close e1 e2 S2)
def stAt (ts : List TK) (t : Int) : Int := if t < 0 then 0 else match ts[t.toNat]? with | some x => x.st | none => 0
def flAt (ts : List TK) (t : Int) : Int := if t < 0 then 0 else match ts[t.toNat]? with | some x => x.fl | none => 0
def entAt (es : List EN) (t : Int) : En := if t < 0 then ⟨none, 0, 0, none⟩ else match es[t.toNat]? with | some e => erow e | none => ⟨none, 0, 0, none⟩
theorem of_go (hl : es.length ≤ 400) (t : Int) (S : SG F0 h0 h (sdL q 0 mb M ts es ++ Rs)) {Q : (En × Bool) → H → Prop} (k : ∀ b h', SG F0 h0 h' (sdL q 0 mb M ts es ++ Rs) → Q (entAt es t, b) h') : sched_Sched_of (some ⟨q, 0, none⟩) t h Q := by
  unfold sched_Sched_of
  refine rd_some rfl (S.var (K := kEn) (x := ⟨none, 0, 0, none⟩) fun p h1 S1 _ => ?_)
  have S1 : SG F0 h0 h1 (sdL q 0 mb M ts es ++ (varP kEn p ⟨none, 0, 0, none⟩ :: Rs)) := S1.perm (List.perm_middle (l₁ := sdL q 0 mb M ts es)).symm
  refine lock_go S1 fun h2 S2 => ?_
  have hlen := ownP.len (K := kEn) S2 2 rfl
  rw [List.length_map] at hlen
  have ht : ld kL ⟨q, 3, none⟩ h2 = some ts := varP.ld S2 fs_ts 0 rfl
  have fin : ∀ (x : En) (b : Bool) (h3 : H), entAt es t = x → SG F0 h0 h3 (sdL q 1 mb M ts es ++ (varP kEn p x :: Rs)) → muUnlock ((⟨q, 0, none⟩ : Addr).add 0) h3 fun h5 => rd (ld kEn ⟨p, 0, none⟩ h5) fun x1 => Q (x1, b) h5 := fun x b h3 e S3 => by
    refine unlock_go S3 fun h4 S4 => rd_some (varP.ld S4 (Fld.whole kEn) 4 rfl) ?_
    rw [← e]
    exact k b h4 (S4.perm (List.perm_middle (l₁ := sdL q 0 mb M ts es))).tail
  by_cases hin : 0 ≤ t ∧ t < (es.length : Int)
  · obtain ⟨n, rfl⟩ : ∃ n : Nat, t = n := ⟨t.toNat, by omega⟩
    have hn : n < es.length := by omega
    refine jn_c false h2 (fun K1 hK => ite_f (by rw [decide_eq_false_iff_not]; omega) (rd_some (by rw [add_mk]; exact ht) ?_)) (ite_f rfl ?_)
    · have e : decide ((n : Int) ≥ (ts.len : Int)) = false := by rw [decide_eq_false_iff_not]; omega
      show K1 (decide ((n : Int) ≥ (ts.len : Int))) h2
      rw [e]; exact hK
    refine rd_some (by rw [add_mk]; exact ht) ?_
    have hn' : n < (es.map erow).length := by rw [List.length_map]; exact hn
    refine (ownP.rds (K := kEn) S2 2 rfl).elt0 hn' rfl ?_
    rw [List.getElem_map]
    obtain ⟨h3, hs, S3, _⟩ := varP.st S2 (Fld.whole kEn) 4 rfl (erow es[n])
    refine rd_some hs (fin _ true h3 ?_ S3)
    unfold entAt
    rw [if_neg (by omega), Int.toNat_natCast, List.getElem?_eq_getElem hn]
  · refine jn_c true h2 (fun K1 hK => ite_b (fun c => hK) (fun c => rd_some (by rw [add_mk]; exact ht) ?_)) (ite_t rfl ?_)
    · rw [decide_eq_false_iff_not] at c
      have e : decide (t ≥ (ts.len : Int)) = true := by rw [decide_eq_true_eq]; omega
      show K1 (decide (t ≥ (ts.len : Int))) h2
      rw [e]; exact hK
    obtain ⟨h3, hs, S3, _⟩ := varP.st S2 (Fld.whole kEn) 4 rfl ⟨none, 0, 0, none⟩
    refine rd_some hs (fin _ false h3 ?_ S3)
    unfold entAt
    split
    · rfl
    · rw [List.getElem?_eq_none (by omega)]
theorem entAt_st (e1 : es.map EN.tk = A.ts) (t : Int) : (entAt es t).f1 = stAt A.ts t := by
  unfold entAt stAt
  rw [← e1]
  split
  · rfl
  · rw [List.getElem?_map]; cases es[t.toNat]? <;> rfl
theorem State_spec (ok : A.Ok B) (t : Int) (S : SG F0 h0 h (schP q A bs :: Rs)) {Q : Int → H → Prop} (k : ∀ h', SG F0 h0 h' (schP q A bs :: Rs) → Q (stAt A.ts t) h') : sched_Sched_State (some ⟨q, 0, none⟩) t h Q := by
  obtain ⟨mb, ts, es, e1, e2, S⟩ := sch_open S
  have hl := len_es e1
  have hn := ok.n
  unfold sched_Sched_State
  refine of_go (by omega) t S fun b h1 S1 => S1.cell (K := kEn) (x := entAt es t) fun p h2 S2 _ => rd_some (by rw [add_mk]; exact varP.ld S2 fe_st 0 rfl) ?_
  rw [entAt_st e1]
  exact k h2 (sch_close e1 e2 S2.tail)
theorem Fault_spec (ok : A.Ok B) (t : Int) (S : SG F0 h0 h (schP q A bs :: Rs)) {Q : IF → H → Prop} (k : ∀ v h', SG F0 h0 h' (schP q A bs :: Rs) → ((flAt A.ts t = 0 ∧ v = none) ∨ (flAt A.ts t ≠ 0 ∧ v.isNone = false ∧ ErrIs v h' (flAt A.ts t))) → Q v h') : sched_Sched_Fault (some ⟨q, 0, none⟩) t h Q := by
  obtain ⟨mb, ts, es, e1, e2, S⟩ := sch_open S
  have hl := len_es e1
  have hn := ok.n
  unfold sched_Sched_Fault
  refine of_go (by omega) t S fun b h1 S1 => S1.cell (K := kEn) (x := entAt es t) fun p h2 S2 _ => rd_some (by rw [add_mk]; exact varP.ld S2 fe_fl 0 rfl) ?_
  refine k _ h2 (sch_close e1 e2 S2.tail) ?_
  unfold entAt flAt
  rw [← e1]
  split
  · exact .inl ⟨rfl, rfl⟩
  · rw [List.getElem?_map]
    cases he : es[t.toNat]? with
    | none => exact .inl ⟨rfl, rfl⟩
    | some e => exact faultsP.is S2 4 rfl (List.mem_of_getElem? he)
/-- One more task. -/
theorem Add_spec (ok : A.Ok B) (hl4 : A.ts.length < 400) {b : Nat} (S : SG F0 h0 h (schP q A bs :: Rs)) {Q : Int → H → Prop} (k : ∀ h', SG F0 h0 h' (schP q A.add (bs ++ [b]) :: Rs) → Q (A.ts.length : Nat) h') : sched_Sched_Add (some ⟨q, 0, none⟩) (some (tPlay, .pointer (some ⟨b, 0, none⟩))) h Q := by
  obtain ⟨mb, ts, es, e1, e2, S⟩ := sch_open S
  have hl := len_es e1
  unfold sched_Sched_Add
  refine rd_some rfl (lock_go S fun h1 S1 => rd_some (by rw [add_mk]; exact varP.ld S1 fs_ts 0 rfl) ?_)
  refine ownP.push (K := kEn) (by decide) S1 2 rfl (erow ⟨b, 1, 0, none, 0⟩) (by simp; omega) (by simp; omega) fun s2 h2 S2 => ?_
  have S2 : SG F0 h0 h2 (varP kSd q (sd 1 mb ts) :: mgrP mb A.m :: ownP kEn s2 (es.map erow ++ [erow ⟨b, 1, 0, none, 0⟩]) :: faultsP es :: Rs) := S2
  obtain ⟨h3, hs, S3, _⟩ := varP.st S2 fs_ts 0 rfl s2
  refine rd_some (by rw [add_mk]; exact hs) (rd_some (by rw [add_mk]; exact varP.ld S3 fs_ts 0 rfl) ?_)
  have S4 : SG F0 h0 h3 (sdL q 1 mb A.m s2 (es ++ [⟨b, 1, 0, none, 0⟩]) ++ Rs) := by
    have e : es.map erow ++ [erow ⟨b, 1, 0, none, 0⟩] = (es ++ [(⟨b, 1, 0, none, 0⟩ : EN)]).map erow := by rw [List.map_append]; rfl
    rw [e] at S3
    have S3 : SG F0 h0 h3 (varP kSd q (sd 1 mb s2) :: mgrP mb A.m :: ownP kEn s2 ((es ++ [(⟨b, 1, 0, none, 0⟩ : EN)]).map erow) :: faultsP es :: Rs) := S3
    exact S3.imp 3 rfl (faultsP (es ++ [⟨b, 1, 0, none, 0⟩])) fun F ⟨v, l⟩ => ⟨fun e he => by
      rcases List.mem_append.1 he with he | he
      · exact v e he
      · obtain rfl := List.mem_singleton.1 he
        exact .inl ⟨rfl, rfl⟩, l⟩
  refine unlock_go S4 fun h4 S5 => ?_
  have hlen := ownP.len (K := kEn) S5 2 rfl
  have hw : IntKind.i64.wrap ((s2.len : Int) - 1) = ((A.ts.length : Nat) : Int) := by
    have : s2.len = es.length + 1 := by rw [hlen]; simp
    rw [wrap64_id (by omega) (by omega)]; omega
  rw [hw]
  refine k h4 (sch_close (es := es ++ [⟨b, 1, 0, none, 0⟩]) ?_ ?_ S5)
  · rw [List.map_append, e1]; rfl
  · rw [List.map_append, e2]; rfl
theorem New_spec {n : Int} (S : SG F0 h0 h Rs) {Q : Option Addr × Int → H → Prop} (bad : n < 1 ∨ n > 1024 → Q (none, 1) h) (good : 1 ≤ n → n ≤ 1024 → ∀ q h', SG F0 h0 h' (schP q (AS.new n.toNat) [] :: Rs) → Q (some ⟨q, 0, none⟩, 0) h') : sched_New n h Q := by
  unfold sched_New
  refine new_spec S (fun hb => ite_t rfl (bad hb)) fun g1 g2 mb h1 S1 => ite_f rfl ?_
  have S2 := S1.made (Ext.refl h1) (Own.nil kEn h1 (fun b => h1.size ≤ b))
  have S3 := S2.add (P := faultsP []) (F1 := fun _ => False) ⟨by simp, fun _ h => h.elim⟩ (Ext.refl h1) fun _ h => h.elim
  refine S3.var (K := kSd) fun q h2 S4 _ => good g1 g2 q h2 ?_
  have S4 : SG F0 h0 h2 (varP kSd q (sd 0 mb Sl.nil) :: faultsP [] :: ownP kEn Sl.nil [] :: mgrP mb (AM.new n.toNat) :: Rs) := S4
  have S5 : SG F0 h0 h2 (sdL q 0 mb (AM.new n.toNat) Sl.nil [] ++ Rs) := (((S4.front 1 rfl).front 2 rfl).front 3 rfl).front 3 rfl
  exact sch_close (es := []) rfl rfl S5
/-- A pick. -/
theorem Pick_spec (o : WS.Ok (A, L) B N) (hB : B ≤ 80000000) (hN : N ≤ 1000000000000) (hX : Xok X L) (n : Int) (S : SG F0 h0 h (schP q A (L.map (·.b)) :: (cells L ++ (X :: Rs)))) {Q : (Int × Bool) → H → Prop}
    (k0 : readyT A.ts = [] → ∀ h', SG F0 h0 h' (schP q A (L.map (·.b)) :: (cells L ++ (X :: Rs))) → Q (0, false) h')
    (k1 : ∀ t : Nat, t < L.length → (readyT A.ts)[pickI n (readyT A.ts).length]? = some (t : Int) → ∀ h', SG F0 h0 h' (schP q (WS.step (A, L) t).1 ((WS.step (A, L) t).2.map (·.b)) :: (cells (WS.step (A, L) t).2 ++ (X :: Rs))) → Q ((t : Int), true) h') :
    sched_Sched_Pick (some ⟨q, 0, none⟩) n h Q := by
  obtain ⟨mb, ts, es, e1, e2, S⟩ := sch_open S
  have hl := len_es e1
  have hn := o.a.n
  have hn : A.ts.length ≤ 400 := hn
  unfold sched_Sched_Pick
  refine rd_some rfl (lock_go S fun h1 S1 => ready_spec S1 (by omega) fun s h2 S2 => ?_)
  rw [e1] at S2
  have hs := ownP.len (K := kI .i64) S2 0 rfl
  have hrl := readyTo_len A.ts A.ts.length
  have hrl : (readyT A.ts).length ≤ A.ts.length := hrl
  have S3 : SG F0 h0 h2 (sdL q 1 mb A.m ts es ++ (ownP (kI .i64) s (readyT A.ts) :: (cells L ++ (X :: Rs)))) := S2.perm (List.perm_middle (l₁ := sdL q 1 mb A.m ts es)).symm
  refine ite_b (fun c => ?_) (fun c => ?_)
  · have hz : readyT A.ts = [] := by
      have c : ((s.len : Int) == 0) = true := c
      rw [beq_iff_eq] at c
      exact List.length_eq_zero_iff.1 (by omega)
    refine unlock_go S3 fun h3 S4 => k0 hz h3 (sch_close (mb := mb) (ts := ts) e1 e2 ?_)
    exact (S4.perm (List.perm_middle (l₁ := sdL q 0 mb A.m ts es))).tail
  · have hpos : 0 < (readyT A.ts).length := by
      have c : ((s.len : Int) == 0) = false := c
      rw [beq_eq_false_iff_ne] at c
      omega
    obtain ⟨r, hr, hp⟩ := rem_pick (n := n) hpos (by omega)
    rw [hs]
    refine rd_some hr ?_
    have hpl := pickI_lt (n := n) hpos
    obtain ⟨t, ht, htl, hst⟩ := readyT_mem (List.getElem_mem hpl)
    have htL : t < L.length := by rw [← o.l]; exact htl
    refine jn_c (pickI n (readyT A.ts).length : Int) h2 (fun K1 hK => ite_b (fun c2 => ?_) (fun c2 => ?_)) ?_
    · have c2 : r < 0 := by rw [decide_eq_true_eq] at c2; exact c2
      rw [if_pos c2] at hp
      rw [hp]; exact hK
    · have c2 : ¬ r < 0 := by rw [decide_eq_false_iff_not] at c2; exact c2
      rw [if_neg c2] at hp
      rw [hp]; exact hK
    have RR := ownP.rds (K := kI .i64) S2 0 rfl
    refine RR.elt0 hpl rfl ?_
    rw [ht]
    have S5 : SG F0 h0 h2 (sdL q 1 mb A.m ts es ++ (cells L ++ (X :: (ownP (kI .i64) s (readyT A.ts) :: Rs)))) := by
      refine S3.perm (List.Perm.append_left _ ?_)
      have p1 : (ownP (kI .i64) s (readyT A.ts) :: (cells L ++ (X :: Rs))).Perm (cells L ++ (ownP (kI .i64) s (readyT A.ts) :: (X :: Rs))) := List.perm_middle.symm
      exact p1.trans (List.Perm.append_left _ (List.Perm.swap _ _ _))
    have hmk := mkA (A := A) e1
    refine step_spec (n := t) (by omega) (by rw [hmk]; exact o.a) hB e2 hX (fun p hp => Nat.le_trans (o.x p hp) hN) S5 fun hnL es' h3 et eb S6 => ?_
    rw [hmk] at et S6
    have S7 : SG F0 h0 h3 (ownP (kI .i64) s (readyT A.ts) :: (sdL q 1 mb (A.step t L[t].mv).m ts es' ++ (cells (bump L t) ++ (X :: Rs)))) := by
      have p1 : (X :: ownP (kI .i64) s (readyT A.ts) :: Rs).Perm (ownP (kI .i64) s (readyT A.ts) :: X :: Rs) := List.Perm.swap _ _ _
      have p2 := (List.Perm.append_left (cells (bump L t)) p1).trans List.perm_middle
      exact S6.perm ((List.Perm.append_left _ p2).trans List.perm_middle)
    refine (ownP.rds (K := kI .i64) S7 0 rfl).elt0 hpl rfl ?_
    rw [ht]
    have S8 : SG F0 h0 h3 (sdL q 1 mb (A.step t L[t].mv).m ts es' ++ (cells (bump L t) ++ (X :: Rs))) := S7.tail
    refine unlock_go S8 fun h4 S9 => k1 t htL ?_ h4 ?_
    · rw [List.getElem?_eq_getElem hpl, ht]
    · unfold WS.step
      simp only [mvAtL_eq htL]
      refine sch_close (es := es') et ?_ S9
      rw [eb, e2]; exact (bump_b L t).symm
theorem rstep_ok {w : WS × Nat} {t : Int} (o : w.1.Ok B N) : (rstep w t).1.Ok (B + 1) (N + 1) := by
  unfold rstep
  split
  · rename_i h
    refine o.step ?_
    unfold rdyB at h
    rcases Nat.lt_or_ge t.toNat w.1.1.ts.length with hl | hl
    · exact hl
    · rw [List.getElem?_eq_none hl] at h; cases h
  · exact o.mono (by omega) (by omega)
theorem rfold_ok : ∀ (l : List Int) (w : WS × Nat) (B N : Nat), w.1.Ok B N → (l.foldl rstep w).1.Ok (B + l.length) (N + l.length)
  | [], w, B, N, o => o
  | t :: l, w, B, N, o => by
    have := rfold_ok l (rstep w t) (B + 1) (N + 1) (rstep_ok o)
    rw [List.foldl_cons]
    refine this.mono ?_ ?_ <;> (simp; omega)
theorem rfold_n : ∀ (l : List Int) (w : WS × Nat), (l.foldl rstep w).2 ≤ w.2 + l.length
  | [], w => Nat.le_refl _
  | t :: l, w => by
    rw [List.foldl_cons]
    have := rfold_n l (rstep w t)
    have h2 : (rstep w t).2 ≤ w.2 + 1 := by unfold rstep; split <;> simp
    simp; omega
theorem step_lenW (W : WS) (n : Nat) : (W.step n).1.ts.length = W.1.ts.length := AS.step_len _
theorem rfold_len : ∀ (l : List Int) (w : WS × Nat), (l.foldl rstep w).1.1.ts.length = w.1.1.ts.length
  | [], w => rfl
  | t :: l, w => by
    rw [List.foldl_cons, rfold_len l]
    unfold rstep
    split
    · exact step_lenW _ _
    · rfl
theorem Round_spec (o : WS.Ok (A, L) B N) (hB : B ≤ 79000000) (hN : N ≤ 900000000000) (hX : Xok X L) (S : SG F0 h0 h (schP q A (L.map (·.b)) :: (cells L ++ (X :: Rs)))) {Q : Int → H → Prop}
    (k : ∀ h', Xok X (roundW (A, L)).1.2 → SG F0 h0 h' (schP q (roundW (A, L)).1.1 ((roundW (A, L)).1.2.map (·.b)) :: (cells (roundW (A, L)).1.2 ++ (X :: Rs))) → Q ((roundW (A, L)).2 : Nat) h') :
    sched_Sched_Round (some ⟨q, 0, none⟩) h Q := by
  obtain ⟨mb, ts, es, e1, e2, S⟩ := sch_open S
  have hl := len_es e1
  have hn : A.ts.length ≤ 400 := o.a.n
  unfold sched_Sched_Round
  refine rd_some rfl (lock_go S fun h1 S1 => ?_)
  have hrl : (readyT A.ts).length ≤ A.ts.length := readyTo_len A.ts A.ts.length
  refine jn_q (fun n h2 => n = ((roundW (A, L)).2 : Nat) ∧ Xok X (roundW (A, L)).1.2 ∧ ∃ es', es'.map EN.tk = (roundW (A, L)).1.1.ts ∧ es'.map EN.b = (roundW (A, L)).1.2.map (·.b) ∧ SG F0 h0 h2 (sdL q 1 mb (roundW (A, L)).1.1.m ts es' ++ (cells (roundW (A, L)).1.2 ++ (X :: Rs)))) (fun K1 hK1 => ?_) ?_
  · refine ready_spec S1 (by omega) fun s h2 S2 => ?_
    rw [e1] at S2
    have hs := ownP.len (K := kI .i64) S2 0 rfl
    rw [hs]
    refine for0 (mk := fun (n : Int) i => (n, i)) (s := 0) (n := (readyT A.ts).length) (by omega) (fun j n h3 => n = (((readyT A.ts).take j).foldl rstep ((A, L), 0)).2 ∧ Xok X (((readyT A.ts).take j).foldl rstep ((A, L), 0)).1.2 ∧ ∃ es', es'.map EN.tk = (((readyT A.ts).take j).foldl rstep ((A, L), 0)).1.1.ts ∧ es'.map EN.b = (((readyT A.ts).take j).foldl rstep ((A, L), 0)).1.2.map (·.b) ∧ SG F0 h0 h3 (ownP (kI .i64) s (readyT A.ts) :: (sdL q 1 mb (((readyT A.ts).take j).foldl rstep ((A, L), 0)).1.1.m ts es' ++ (cells (((readyT A.ts).take j).foldl rstep ((A, L), 0)).1.2 ++ (X :: Rs))))) ⟨rfl, hX, es, e1, e2, S2⟩ (fun j n h3 K hj hI next done => ?_) (fun n h3 K hI done => ?_)
    · obtain ⟨rfl, hXj, es', et, eb, S3⟩ := hI
      have oj := rfold_ok ((readyT A.ts).take j) ((A, L), 0) B N o
      have hcj := rfold_n ((readyT A.ts).take j) ((A, L), 0)
      have hlj := rfold_len ((readyT A.ts).take j) ((A, L), 0)
      have hlt : ((readyT A.ts).take j).length ≤ 400 := by simp; omega
      have hstep : ((readyT A.ts).take (j + 1)).foldl rstep ((A, L), 0) = rstep (((readyT A.ts).take j).foldl rstep ((A, L), 0)) (readyT A.ts)[j] := by
        rw [List.take_add_one, List.getElem?_eq_getElem hj, Option.toList_some, List.foldl_append]; rfl
      rw [hstep] at next
      generalize ((readyT A.ts).take j).foldl rstep ((A, L), 0) = w at hXj et eb S3 oj hcj hlj next
      obtain ⟨⟨A', L'⟩, c⟩ := w
      obtain ⟨t, ht, htl, _⟩ := readyT_mem (List.getElem_mem hj)
      have hlA : A'.ts.length = A.ts.length := hlj
      have hc : c ≤ 0 + ((readyT A.ts).take j).length := hcj
      have hle := len_es (A := A') et
      have htes : t < es'.length := by omega
      unfold sched_Sched_Round.b1
      refine ite_t (clt_t hj) (jn_q (fun n' h4 => n' = (rstep ((A', L'), c) (readyT A.ts)[j]).2 ∧ Xok X (rstep ((A', L'), c) (readyT A.ts)[j]).1.2 ∧ ∃ es2, es2.map EN.tk = (rstep ((A', L'), c) (readyT A.ts)[j]).1.1.ts ∧ es2.map EN.b = (rstep ((A', L'), c) (readyT A.ts)[j]).1.2.map (·.b) ∧ SG F0 h0 h4 (ownP (kI .i64) s (readyT A.ts) :: (sdL q 1 mb (rstep ((A', L'), c) (readyT A.ts)[j]).1.1.m ts es2 ++ (cells (rstep ((A', L'), c) (readyT A.ts)[j]).1.2 ++ (X :: Rs))))) (fun K2 hK2 => ?_) fun n' h4 hI => next n' h4 hI)
      refine (ownP.rds (K := kI .i64) S3 0 rfl).elt0 hj rfl ?_
      rw [ht] at hK2 ⊢
      have S4 : SG F0 h0 h3 (sdL q 1 mb A'.m ts es' ++ (cells L' ++ (X :: (ownP (kI .i64) s (readyT A.ts) :: Rs)))) := by
        have S3' : SG F0 h0 h3 (sdL q 1 mb A'.m ts es' ++ (ownP (kI .i64) s (readyT A.ts) :: (cells L' ++ (X :: Rs)))) := S3.perm (List.perm_middle (l₁ := sdL q 1 mb A'.m ts es')).symm
        refine S3'.perm (List.Perm.append_left _ ?_)
        have p1 : (ownP (kI .i64) s (readyT A.ts) :: (cells L' ++ (X :: Rs))).Perm (cells L' ++ (ownP (kI .i64) s (readyT A.ts) :: (X :: Rs))) := List.perm_middle.symm
        exact p1.trans (List.Perm.append_left _ (List.Perm.swap _ _ _))
      refine rd_some (by rw [add_mk]; exact varP.ld S4 fs_ts 0 rfl) ?_
      obtain ⟨a, ha, h1⟩ := ldE fe_st S4 htes
      refine rd_some ha (rd_some h1 ?_)
      have hrdy : rdyB A'.ts t = (es'[t].st == 1) := by
        unfold rdyB
        rw [← et, List.getElem?_map, List.getElem?_eq_getElem htes]; rfl
      unfold rstep at hK2
      simp only [Int.toNat_natCast, hrdy] at hK2
      refine ite_b (fun d => ?_) (fun d => ?_)
      · have d : (es'[t].st == 1) = true := d
        simp only [d, if_true] at hK2
        have hmk := mkA (A := A') et
        have oa : A'.Ok (B + ((readyT A.ts).take j).length) := oj.a
        refine step_spec (n := t) htes (by rw [hmk]; exact oa) (by omega) eb hXj (fun p hp => Nat.le_trans (oj.x p hp) (by omega)) S4 fun hnL es2 h4 et2 eb2 S6 => ?_
        rw [hmk] at et2 S6
        have hw : IntKind.i64.wrap ((c : Int) + 1) = ((c + 1 : Nat) : Int) := by rw [wrap64_id (by omega) (by omega)]; rfl
        rw [hw]
        refine hK2 _ h4 ⟨rfl, hXj.up t, es2, ?_, ?_, ?_⟩
        · unfold WS.step; simp only [mvAtL_eq hnL]; exact et2
        · unfold WS.step; simp only; rw [eb2, eb]; exact (bump_b L' t).symm
        · unfold WS.step
          simp only [mvAtL_eq hnL]
          have p1 : (X :: ownP (kI .i64) s (readyT A.ts) :: Rs).Perm (ownP (kI .i64) s (readyT A.ts) :: X :: Rs) := List.Perm.swap _ _ _
          have p2 := (List.Perm.append_left (cells (bump L' t)) p1).trans List.perm_middle
          exact S6.perm ((List.Perm.append_left _ p2).trans List.perm_middle)
      · have d : (es'[t].st == 1) = false := d
        simp only [d, Bool.false_eq_true, if_false] at hK2
        exact hK2 _ h3 ⟨rfl, hXj, es', et, eb, S3⟩
    · obtain ⟨rfl, hXj, es', et, eb, S3⟩ := hI
      rw [List.take_length] at hXj et eb S3 ⊢
      unfold sched_Sched_Round.b1
      exact ite_f (clt_f (Nat.lt_irrefl _)) (done _ _ (hK1 _ h3 ⟨rfl, hXj, es', et, eb, S3.tail⟩))
  · rintro _ h2 ⟨rfl, hX2, es', et, eb, S2⟩
    exact unlock_go S2 fun h3 S3 => k h3 hX2 (sch_close et eb S3)
end
end Go.Proofs.YtomngllmnhdmlaaGreat
/- append, up to the widest that a caller can hand. -/
namespace Go.Proofs.YtomngllmnhdmlaaGreat
open Go Go.Tr
set_option linter.unusedVariables false
theorem nextcap_wide (n c : Nat) (h : c < n) : Builtin.nextslicecap n c ≤ n + n / 4 + 192 := by
  unfold Builtin.nextslicecap
  split
  · omega
  · split
    · omega
    · exact growBy_le n _ (by omega) 4 c (by omega)
section
variable {α : Type} {K : Kd α} {F0 : Nat → Prop} {h0 h : H} {Ps : List HP}
theorem ownP.appW (hK : 0 < K.n) (S : SG F0 h0 h Ps) (i : Nat) {s x : Sl} {xs ys : List α} (hi : Ps[i]? = some (ownP K s xs)) (R : Rds K h x ys) {bytes : Nat} {t : TypeId} {z : α} (hb : (xs.length + ys.length + (xs.length + ys.length) / 4 + 192) * bytes ≤ 281474976710656) (hb2 : xs.length + ys.length < 4611686018427387904) {Q : Sl → H → Prop}
    (k : ∀ s' h', SG F0 h0 h' (Ps.set i (ownP K s' (xs ++ ys))) → Q s' h') : ap K.n bytes t (K.enc z) s x h Q := by
  obtain ⟨F1, ⟨o, l⟩, back⟩ := S.at i hi
  refine ap_ownG hK o R.rdAll R.len (fun c hc => Nat.le_trans (Nat.mul_le_mul_right _ (nextcap_wide _ _ hc)) hb) hb2 fun s' h' o' f => k s' h' (back _ h' (fun b => (F1 b ∨ b = h.size) ∧ b < h'.size) ⟨o'.monoL fun b hb hl => ⟨hb, hl⟩, fun b hb => hb.2⟩ ⟨f.1, f.2, fun b hb => ?_⟩)
  rcases hb.1 with hb | hb
  · exact .inl hb
  · exact .inr (by omega)
theorem ownP.pushW (hK : 0 < K.n) (S : SG F0 h0 h Ps) (i : Nat) {s : Sl} {xs : List α} (hi : Ps[i]? = some (ownP K s xs)) (x : α) {bytes : Nat} {t t' : TypeId} {z : α} (hb : (xs.length + 1 + (xs.length + 1) / 4 + 192) * bytes ≤ 281474976710656) (hb2 : xs.length + 1 < 4611686018427387904) {Q : Sl → H → Prop}
    (k : ∀ s' h', SG F0 h0 h' (Ps.set i (ownP K s' (xs ++ [x]))) → Q s' h') : bs t' 1 (K.enc x) h fun y h1 => ap K.n bytes t (K.enc z) s y h1 Q :=
  bs_own (K := K) [x] (by simp [encs]) rfl fun y h1 o1 hl1 e1 z1 => ownP.appW hK (S.ext e1) i hi o1.rds (by simpa using hb) (by simpa using hb2) k
end
end Go.Proofs.YtomngllmnhdmlaaGreat
/- spate/spatelaw12.known, as a predicate over the heap, and that the code comes to it. Printed by gen.py. -/
namespace Go.Proofs.YtomngllmnhdmlaaGreat
open Go Go.Tr
set_option linter.unusedVariables false
set_option maxRecDepth 100000
set_option maxHeartbeats 400000
/-- spate/spatelaw12.known -/
def spatelaw12_known  (h : H) (Q : Bool → H → Prop) : Prop :=
  sched_New 1 h fun r1 h1 =>
  sched_New 0 h1 fun r2 h2 =>
  jn (fun (k1 : Bool → H → Prop) =>
    if (r1.2 != 0) = true then
      k1 true h2
    else
      if r1.1.isNone = true then
        k1 true h2
      else
        if (!r2.1.isNone) = true then
          k1 true h2
        else
          k1 (r2.2 != 1) h2) fun s1 h3 =>
  if s1 = true then
    Q false h3
  else
    bs 49 1 (k48.enc (S48.mk 0 false)) h3 fun x1 h4 =>
    al 53 (k52.enc z52) h4 fun q1 h5 =>
    rd (st k52 q1 (S52.mk 2 x1 0 Sl.nil) h5) fun h6 =>
    rd (ld k52 q1 h6) fun x2 =>
    bs 3 1 ((kI .i64).enc 7) h6 fun x3 h7 =>
    bs 53 3 (k52.enc x2 ++ k52.enc (S52.mk 1 Sl.nil 0 x3) ++ k52.enc (S52.mk 3 Sl.nil 0 Sl.nil)) h7 fun x4 h8 =>
    al 37 (k36.enc (S36.mk x4 0)) h8 fun q2 h9 =>
    sched_Sched_Add r1.1 (some (33, .pointer (some q2)) : IF) h9 fun r3 h10 =>
    rd (ld k52 q1 h10) fun x5 =>
    bs 53 3 (k52.enc x5 ++ k52.enc (S52.mk 3 Sl.nil 0 Sl.nil) ++ k52.enc (S52.mk 4 Sl.nil 7 Sl.nil)) h10 fun x6 h11 =>
    al 37 (k36.enc (S36.mk x6 0)) h11 fun q3 h12 =>
    sched_Sched_Add r1.1 (some (33, .pointer (some q3)) : IF) h12 fun r4 h13 =>
    sched_Sched_Pick r1.1 0 h13 fun r5 h14 =>
    sched_Sched_Pick r1.1 1 h14 fun r6 h15 =>
    jn (fun (k2 : Bool → H → Prop) =>
      if (r3 == 0) = true then
        if (r4 == 1) = true then
          if (r5.1 == 0) = true then
            if r5.2 = true then
              if (r6.1 == 1) = true then
                if r6.2 = true then
                  sched_Sched_State r1.1 0 h15 fun r7 h17 =>
                  if (r7 == 1) = true then
                    sched_Sched_State r1.1 1 h17 fun r8 h18 =>
                    if (r8 == 2) = true then
                      sched_Sched_State r1.1 2 h18 fun r9 h19 =>
                      if (r9 == 0) = true then
                        sched_Sched_Tasks r1.1 h19 fun r10 h20 =>
                        k2 (r10 == 2) h20
                      else
                        k2 false h19
                    else
                      k2 false h18
                  else
                    k2 false h17
                else
                  k2 false h15
              else
                k2 false h15
            else
              k2 false h15
          else
            k2 false h15
        else
          k2 false h15
      else
        k2 false h15) fun s2 h16 =>
    Q s2 h16
theorem spatelaw12_known.sound  {h : H} {Q : Bool → H → Prop} (hF : spatelaw12_known  h Q) :
    CallsH Tryz.prog 4 (List.toArray (α := Value) []) h fun v h' => ∃ x : Bool, v = .bool x ∧ Q x h' := by
  refine CallsH.of_body Tryz.func4 rfl 106 rfl rfl ?_
  refine WP.seq ?_
  refine WP.region ?_
  refine EvK.pure (v := .bool false) (w_none rfl) rfl rfl (f_assign rfl rfl) ?_
  refine EvK.nil ?_
  refine WP.seq ?_
  refine WP.region ?_
  refine EvK.call (w_none rfl) rfl rfl (enterH Tryz.func5 rfl rfl rfl rfl (sched_New.sound hF)) ?_
  rintro _ h1 ⟨r1, rfl, hF⟩
  refine EvK.pure (v := .tuple #[.pointer r1.1, .int .i64 r1.2]) (w_none rfl) rfl rfl (f_move rfl rfl) ?_
  refine EvK.pure (v := .pointer r1.1) (w_none rfl) rfl rfl (f_extract (vs := #[.pointer r1.1, .int .i64 r1.2]) rfl rfl rfl) ?_
  refine EvK.pure (v := .int .i64 r1.2) (w_none rfl) rfl rfl (f_extract (vs := #[.pointer r1.1, .int .i64 r1.2]) rfl rfl rfl) ?_
  refine EvK.pure (v := .pointer r1.1) (w_none rfl) rfl rfl (f_assign rfl rfl) ?_
  refine EvK.pure (v := .int .i64 r1.2) (w_none rfl) rfl rfl (f_assign rfl rfl) ?_
  refine EvK.nil ?_
  refine WP.seq ?_
  refine WP.region ?_
  refine EvK.call (w_none rfl) rfl rfl (enterH Tryz.func5 rfl rfl rfl rfl (sched_New.sound hF)) ?_
  rintro _ h2 ⟨r2, rfl, hF⟩
  refine EvK.pure (v := .tuple #[.pointer r2.1, .int .i64 r2.2]) (w_none rfl) rfl rfl (f_move rfl rfl) ?_
  refine EvK.pure (v := .pointer r2.1) (w_none rfl) rfl rfl (f_extract (vs := #[.pointer r2.1, .int .i64 r2.2]) rfl rfl rfl) ?_
  refine EvK.pure (v := .int .i64 r2.2) (w_none rfl) rfl rfl (f_extract (vs := #[.pointer r2.1, .int .i64 r2.2]) rfl rfl rfl) ?_
  refine EvK.pure (v := .pointer r2.1) (w_none rfl) rfl rfl (f_assign rfl rfl) ?_
  refine EvK.pure (v := .int .i64 r2.2) (w_none rfl) rfl rfl (f_assign rfl rfl) ?_
  refine EvK.nil ?_
  refine WP.seq ?_
  refine WP.joinF (fun (s1 : Bool) => [(33, .bool s1), (1, .pointer r1.1)]) hF ?_ ?_
  · intro s1 E0 h3 hF
    rcases ite_inv hF with ⟨c1, hF⟩ | ⟨c1, hF⟩
    · refine WP.cond_true _ rfl c1 ?_
      refine WP.seq ?_
      refine WP.region ?_
      refine EvK.pure (v := .bool false) (w_none rfl) rfl rfl (f_assign rfl rfl) ?_
      refine EvK.nil ?_
      refine WP.ret ?_
      exact Ret.mk (vs := [.bool false]) false ⟨rfl, trivial⟩ rfl hF
    · refine WP.cond_false _ rfl c1 ?_
      refine WP.skip ?_
      refine WP.seq ?_
      refine WP.region ?_
      refine EvK.pure (v := k48.val (S48.mk 0 false)) (w_none rfl) rfl rfl (f_build (cells := k48.enc (S48.mk 0 false)) st49 rfl rfl rfl) ?_
      refine EvK.alloc (w_none rfl) rfl rfl (f_buildSliceF Tryz.underlying50 el49 (by decide) rfl rfl rfl hF) ?_
      rintro _ h4 ⟨x1, rfl, hF⟩
      refine EvK.pure (v := k52.val (S52.mk 2 x1 0 Sl.nil)) (w_none rfl) rfl rfl (f_build (cells := k52.enc (S52.mk 2 x1 0 Sl.nil)) st53 rfl rfl rfl) ?_
      refine EvK.alloc (w_none rfl) rfl rfl (f_allocF zero53 rfl rfl hF) ?_
      rintro _ h5 ⟨q1, rfl, hF⟩
      obtain ⟨h6, hs1, hF⟩ := hF
      refine EvK.runN (w_none rfl) rfl (f_store k52 ty53.size (z := (S52.mk 2 x1 0 Sl.nil)) rfl rfl rfl hs1) ?_
      rintro _ _ ⟨rfl, rfl⟩
      refine EvK.nil ?_
      refine WP.seq ?_
      refine WP.region ?_
      refine EvK.pure (v := .pointer r1.1) (w_none rfl) rfl rfl (f_move rfl rfl) ?_
      obtain ⟨x2, hx1, hF⟩ := hF
      refine EvK.read (v := k52.val x2) (w_none rfl) rfl rfl (f_load k52 ty53 rfl rfl hx1 rfl) ?_
      refine EvK.alloc (w_none rfl) rfl rfl (f_buildSliceF Tryz.underlying51 el3 (by decide) rfl rfl rfl hF) ?_
      rintro _ h7 ⟨x3, rfl, hF⟩
      refine EvK.pure (v := k52.val (S52.mk 1 Sl.nil 0 x3)) (w_none rfl) rfl rfl (f_build (cells := k52.enc (S52.mk 1 Sl.nil 0 x3)) st53 rfl rfl rfl) ?_
      refine EvK.pure (v := k52.val (S52.mk 3 Sl.nil 0 Sl.nil)) (w_none rfl) rfl rfl (f_build (cells := k52.enc (S52.mk 3 Sl.nil 0 Sl.nil)) st53 rfl rfl rfl) ?_
      refine EvK.alloc (w_none rfl) rfl rfl (f_buildSliceF Tryz.underlying34 el53 (by decide) rfl rfl rfl hF) ?_
      rintro _ h8 ⟨x4, rfl, hF⟩
      refine EvK.pure (v := k36.val (S36.mk x4 0)) (w_none rfl) rfl rfl (f_build (cells := k36.enc (S36.mk x4 0)) st37 rfl rfl rfl) ?_
      refine EvK.alloc (w_none rfl) rfl rfl (f_boxF (v := k36.val (S36.mk x4 0)) rfl rfl rfl hF) ?_
      rintro _ h9 ⟨q2, rfl, hF⟩
      refine EvK.pure (v := IF.val (some (33, .pointer (some q2)) : IF)) (w_none rfl) rfl rfl (f_makeIf Tryz.underlying33 rfl rfl rfl) ?_
      refine EvK.call (w_none rfl) rfl rfl (enterH (vs := [.pointer r1.1, IF.val (some (33, .pointer (some q2)) : IF)]) Tryz.func8 rfl rfl rfl rfl (sched_Sched_Add.sound hF)) ?_
      rintro _ h10 ⟨r3, rfl, hF⟩
      refine EvK.pure (v := .int .i64 r3) (w_none rfl) rfl rfl (f_assign rfl rfl) ?_
      refine EvK.nil ?_
      refine WP.seq ?_
      refine WP.region ?_
      refine EvK.pure (v := .pointer r1.1) (w_none rfl) rfl rfl (f_move rfl rfl) ?_
      obtain ⟨x5, hx2, hF⟩ := hF
      refine EvK.read (v := k52.val x5) (w_none rfl) rfl rfl (f_load k52 ty53 rfl rfl hx2 rfl) ?_
      refine EvK.pure (v := k52.val (S52.mk 3 Sl.nil 0 Sl.nil)) (w_none rfl) rfl rfl (f_build (cells := k52.enc (S52.mk 3 Sl.nil 0 Sl.nil)) st53 rfl rfl rfl) ?_
      refine EvK.pure (v := k52.val (S52.mk 4 Sl.nil 7 Sl.nil)) (w_none rfl) rfl rfl (f_build (cells := k52.enc (S52.mk 4 Sl.nil 7 Sl.nil)) st53 rfl rfl rfl) ?_
      refine EvK.alloc (w_none rfl) rfl rfl (f_buildSliceF Tryz.underlying34 el53 (by decide) rfl rfl rfl hF) ?_
      rintro _ h11 ⟨x6, rfl, hF⟩
      refine EvK.pure (v := k36.val (S36.mk x6 0)) (w_none rfl) rfl rfl (f_build (cells := k36.enc (S36.mk x6 0)) st37 rfl rfl rfl) ?_
      refine EvK.alloc (w_none rfl) rfl rfl (f_boxF (v := k36.val (S36.mk x6 0)) rfl rfl rfl hF) ?_
      rintro _ h12 ⟨q3, rfl, hF⟩
      refine EvK.pure (v := IF.val (some (33, .pointer (some q3)) : IF)) (w_none rfl) rfl rfl (f_makeIf Tryz.underlying33 rfl rfl rfl) ?_
      refine EvK.call (w_none rfl) rfl rfl (enterH (vs := [.pointer r1.1, IF.val (some (33, .pointer (some q3)) : IF)]) Tryz.func8 rfl rfl rfl rfl (sched_Sched_Add.sound hF)) ?_
      rintro _ h13 ⟨r4, rfl, hF⟩
      refine EvK.pure (v := .int .i64 r4) (w_none rfl) rfl rfl (f_assign rfl rfl) ?_
      refine EvK.nil ?_
      refine WP.seq ?_
      refine WP.region ?_
      refine EvK.pure (v := .pointer r1.1) (w_none rfl) rfl rfl (f_move rfl rfl) ?_
      refine EvK.call (w_none rfl) rfl rfl (enterH Tryz.func10 rfl rfl rfl rfl (sched_Sched_Pick.sound hF)) ?_
      rintro _ h14 ⟨r5, rfl, hF⟩
      refine EvK.pure (v := .tuple #[.int .i64 r5.1, .bool r5.2]) (w_none rfl) rfl rfl (f_move rfl rfl) ?_
      refine EvK.pure (v := .int .i64 r5.1) (w_none rfl) rfl rfl (f_extract (vs := #[.int .i64 r5.1, .bool r5.2]) rfl rfl rfl) ?_
      refine EvK.pure (v := .bool r5.2) (w_none rfl) rfl rfl (f_extract (vs := #[.int .i64 r5.1, .bool r5.2]) rfl rfl rfl) ?_
      refine EvK.pure (v := .int .i64 r5.1) (w_none rfl) rfl rfl (f_assign rfl rfl) ?_
      refine EvK.pure (v := .bool r5.2) (w_none rfl) rfl rfl (f_assign rfl rfl) ?_
      refine EvK.nil ?_
      refine WP.seq ?_
      refine WP.region ?_
      refine EvK.pure (v := .pointer r1.1) (w_none rfl) rfl rfl (f_move rfl rfl) ?_
      refine EvK.call (w_none rfl) rfl rfl (enterH Tryz.func10 rfl rfl rfl rfl (sched_Sched_Pick.sound hF)) ?_
      rintro _ h15 ⟨r6, rfl, hF⟩
      refine EvK.pure (v := .tuple #[.int .i64 r6.1, .bool r6.2]) (w_none rfl) rfl rfl (f_move rfl rfl) ?_
      refine EvK.pure (v := .int .i64 r6.1) (w_none rfl) rfl rfl (f_extract (vs := #[.int .i64 r6.1, .bool r6.2]) rfl rfl rfl) ?_
      refine EvK.pure (v := .bool r6.2) (w_none rfl) rfl rfl (f_extract (vs := #[.int .i64 r6.1, .bool r6.2]) rfl rfl rfl) ?_
      refine EvK.pure (v := .int .i64 r6.1) (w_none rfl) rfl rfl (f_assign rfl rfl) ?_
      refine EvK.pure (v := .bool r6.2) (w_none rfl) rfl rfl (f_assign rfl rfl) ?_
      refine EvK.nil ?_
      refine WP.joinF (fun (s2 : Bool) => [(0, .bool s2)]) hF ?_ ?_
      · intro s2 E0 h16 hF
        refine WP.ret ?_
        exact Ret.mk (vs := [.bool s2]) s2 ⟨rfl, trivial⟩ rfl hF
      · intro k2 hF
        refine WP.region ?_
        refine EvK.pure (v := .int .i64 r3) (w_none rfl) rfl rfl (f_move rfl rfl) ?_
        refine EvK.pure (v := .bool (r3 == 0)) (w_none rfl) rfl rfl (f_eql rfl rfl rfl) ?_
        refine EvK.pure (v := .bool (r3 == 0)) (w_none rfl) rfl rfl (f_move rfl rfl) ?_
        rcases ite_inv hF with ⟨c2, hF⟩ | ⟨c2, hF⟩
        · refine EvK.pure (v := .int .i64 r4) (w_some rfl rfl c2) rfl rfl (f_move rfl rfl) ?_
          refine EvK.pure (v := .bool (r4 == 1)) (w_some rfl rfl c2) rfl rfl (f_eql rfl rfl rfl) ?_
          refine EvK.pure (v := .bool (r4 == 1)) (w_none rfl) rfl rfl (f_pickT rfl rfl c2 rfl) ?_
          refine EvK.pure (v := .bool (r4 == 1)) (w_none rfl) rfl rfl (f_move rfl rfl) ?_
          rcases ite_inv hF with ⟨c3, hF⟩ | ⟨c3, hF⟩
          · refine EvK.pure (v := .int .i64 r5.1) (w_some rfl rfl c3) rfl rfl (f_move rfl rfl) ?_
            refine EvK.pure (v := .bool (r5.1 == 0)) (w_some rfl rfl c3) rfl rfl (f_eql rfl rfl rfl) ?_
            refine EvK.pure (v := .bool (r5.1 == 0)) (w_none rfl) rfl rfl (f_pickT rfl rfl c3 rfl) ?_
            refine EvK.pure (v := .bool (r5.1 == 0)) (w_none rfl) rfl rfl (f_move rfl rfl) ?_
            rcases ite_inv hF with ⟨c4, hF⟩ | ⟨c4, hF⟩
            · refine EvK.pure (v := .bool r5.2) (w_some rfl rfl c4) rfl rfl (f_move rfl rfl) ?_
              refine EvK.pure (v := .bool r5.2) (w_none rfl) rfl rfl (f_pickT rfl rfl c4 rfl) ?_
              refine EvK.pure (v := .bool r5.2) (w_none rfl) rfl rfl (f_move rfl rfl) ?_
              rcases ite_inv hF with ⟨c5, hF⟩ | ⟨c5, hF⟩
              · refine EvK.pure (v := .int .i64 r6.1) (w_some rfl rfl c5) rfl rfl (f_move rfl rfl) ?_
                refine EvK.pure (v := .bool (r6.1 == 1)) (w_some rfl rfl c5) rfl rfl (f_eql rfl rfl rfl) ?_
                refine EvK.pure (v := .bool (r6.1 == 1)) (w_none rfl) rfl rfl (f_pickT rfl rfl c5 rfl) ?_
                refine EvK.pure (v := .bool (r6.1 == 1)) (w_none rfl) rfl rfl (f_move rfl rfl) ?_
                rcases ite_inv hF with ⟨c6, hF⟩ | ⟨c6, hF⟩
                · refine EvK.pure (v := .bool r6.2) (w_some rfl rfl c6) rfl rfl (f_move rfl rfl) ?_
                  refine EvK.pure (v := .bool r6.2) (w_none rfl) rfl rfl (f_pickT rfl rfl c6 rfl) ?_
                  refine EvK.pure (v := .bool r6.2) (w_none rfl) rfl rfl (f_move rfl rfl) ?_
                  rcases ite_inv hF with ⟨c7, hF⟩ | ⟨c7, hF⟩
                  · refine EvK.pure (v := .pointer r1.1) (w_some rfl rfl c7) rfl rfl (f_move rfl rfl) ?_
                    refine EvK.call (w_some rfl rfl c7) rfl rfl (enterH Tryz.func17 rfl rfl rfl rfl (sched_Sched_State.sound hF)) ?_
                    rintro _ h17 ⟨r7, rfl, hF⟩
                    refine EvK.pure (v := .bool (r7 == 1)) (w_some rfl rfl c7) rfl rfl (f_eql rfl rfl rfl) ?_
                    refine EvK.pure (v := .bool (r7 == 1)) (w_none rfl) rfl rfl (f_pickT rfl rfl c7 rfl) ?_
                    refine EvK.pure (v := .bool (r7 == 1)) (w_none rfl) rfl rfl (f_move rfl rfl) ?_
                    rcases ite_inv hF with ⟨c8, hF⟩ | ⟨c8, hF⟩
                    · refine EvK.pure (v := .pointer r1.1) (w_some rfl rfl c8) rfl rfl (f_move rfl rfl) ?_
                      refine EvK.call (w_some rfl rfl c8) rfl rfl (enterH Tryz.func17 rfl rfl rfl rfl (sched_Sched_State.sound hF)) ?_
                      rintro _ h18 ⟨r8, rfl, hF⟩
                      refine EvK.pure (v := .bool (r8 == 2)) (w_some rfl rfl c8) rfl rfl (f_eql rfl rfl rfl) ?_
                      refine EvK.pure (v := .bool (r8 == 2)) (w_none rfl) rfl rfl (f_pickT rfl rfl c8 rfl) ?_
                      refine EvK.pure (v := .bool (r8 == 2)) (w_none rfl) rfl rfl (f_move rfl rfl) ?_
                      rcases ite_inv hF with ⟨c9, hF⟩ | ⟨c9, hF⟩
                      · refine EvK.pure (v := .pointer r1.1) (w_some rfl rfl c9) rfl rfl (f_move rfl rfl) ?_
                        refine EvK.call (w_some rfl rfl c9) rfl rfl (enterH Tryz.func17 rfl rfl rfl rfl (sched_Sched_State.sound hF)) ?_
                        rintro _ h19 ⟨r9, rfl, hF⟩
                        refine EvK.pure (v := .bool (r9 == 0)) (w_some rfl rfl c9) rfl rfl (f_eql rfl rfl rfl) ?_
                        refine EvK.pure (v := .bool (r9 == 0)) (w_none rfl) rfl rfl (f_pickT rfl rfl c9 rfl) ?_
                        refine EvK.pure (v := .bool (r9 == 0)) (w_none rfl) rfl rfl (f_move rfl rfl) ?_
                        rcases ite_inv hF with ⟨c10, hF⟩ | ⟨c10, hF⟩
                        · refine EvK.pure (v := .pointer r1.1) (w_some rfl rfl c10) rfl rfl (f_move rfl rfl) ?_
                          refine EvK.call (w_some rfl rfl c10) rfl rfl (enterH Tryz.func18 rfl rfl rfl rfl (sched_Sched_Tasks.sound hF)) ?_
                          rintro _ h20 ⟨r10, rfl, hF⟩
                          refine EvK.pure (v := .bool (r10 == 2)) (w_some rfl rfl c10) rfl rfl (f_eql rfl rfl rfl) ?_
                          refine EvK.pure (v := .bool (r10 == 2)) (w_none rfl) rfl rfl (f_pickT rfl rfl c10 rfl) ?_
                          refine EvK.pure (v := .bool (r10 == 2)) (w_none rfl) rfl rfl (f_assign rfl rfl) ?_
                          refine EvK.nil ?_
                          exact KE.mk (r10 == 2) ⟨rfl, trivial⟩ hF
                        · refine EvK.not (w_not rfl rfl c10) rfl rfl ?_
                          refine EvK.not (w_not rfl rfl c10) rfl rfl ?_
                          refine EvK.not (w_not rfl rfl c10) rfl rfl ?_
                          refine EvK.pure (v := .bool false) (w_none rfl) rfl rfl (f_pickF rfl rfl c10 rfl) ?_
                          refine EvK.pure (v := .bool false) (w_none rfl) rfl rfl (f_assign rfl rfl) ?_
                          refine EvK.nil ?_
                          exact KE.mk false ⟨rfl, trivial⟩ hF
                      · refine EvK.not (w_not rfl rfl c9) rfl rfl ?_
                        refine EvK.not (w_not rfl rfl c9) rfl rfl ?_
                        refine EvK.not (w_not rfl rfl c9) rfl rfl ?_
                        refine EvK.pure (v := .bool false) (w_none rfl) rfl rfl (f_pickF rfl rfl c9 rfl) ?_
                        refine EvK.pure (v := .bool false) (w_none rfl) rfl rfl (f_move rfl rfl) ?_
                        refine EvK.not (w_not rfl rfl rfl) rfl rfl ?_
                        refine EvK.not (w_not rfl rfl rfl) rfl rfl ?_
                        refine EvK.not (w_not rfl rfl rfl) rfl rfl ?_
                        refine EvK.pure (v := .bool false) (w_none rfl) rfl rfl (f_pickF rfl rfl rfl rfl) ?_
                        refine EvK.pure (v := .bool false) (w_none rfl) rfl rfl (f_assign rfl rfl) ?_
                        refine EvK.nil ?_
                        exact KE.mk false ⟨rfl, trivial⟩ hF
                    · refine EvK.not (w_not rfl rfl c8) rfl rfl ?_
                      refine EvK.not (w_not rfl rfl c8) rfl rfl ?_
                      refine EvK.not (w_not rfl rfl c8) rfl rfl ?_
                      refine EvK.pure (v := .bool false) (w_none rfl) rfl rfl (f_pickF rfl rfl c8 rfl) ?_
                      refine EvK.pure (v := .bool false) (w_none rfl) rfl rfl (f_move rfl rfl) ?_
                      refine EvK.not (w_not rfl rfl rfl) rfl rfl ?_
                      refine EvK.not (w_not rfl rfl rfl) rfl rfl ?_
                      refine EvK.not (w_not rfl rfl rfl) rfl rfl ?_
                      refine EvK.pure (v := .bool false) (w_none rfl) rfl rfl (f_pickF rfl rfl rfl rfl) ?_
                      refine EvK.pure (v := .bool false) (w_none rfl) rfl rfl (f_move rfl rfl) ?_
                      refine EvK.not (w_not rfl rfl rfl) rfl rfl ?_
                      refine EvK.not (w_not rfl rfl rfl) rfl rfl ?_
                      refine EvK.not (w_not rfl rfl rfl) rfl rfl ?_
                      refine EvK.pure (v := .bool false) (w_none rfl) rfl rfl (f_pickF rfl rfl rfl rfl) ?_
                      refine EvK.pure (v := .bool false) (w_none rfl) rfl rfl (f_assign rfl rfl) ?_
                      refine EvK.nil ?_
                      exact KE.mk false ⟨rfl, trivial⟩ hF
                  · refine EvK.not (w_not rfl rfl c7) rfl rfl ?_
                    refine EvK.not (w_not rfl rfl c7) rfl rfl ?_
                    refine EvK.not (w_not rfl rfl c7) rfl rfl ?_
                    refine EvK.pure (v := .bool false) (w_none rfl) rfl rfl (f_pickF rfl rfl c7 rfl) ?_
                    refine EvK.pure (v := .bool false) (w_none rfl) rfl rfl (f_move rfl rfl) ?_
                    refine EvK.not (w_not rfl rfl rfl) rfl rfl ?_
                    refine EvK.not (w_not rfl rfl rfl) rfl rfl ?_
                    refine EvK.not (w_not rfl rfl rfl) rfl rfl ?_
                    refine EvK.pure (v := .bool false) (w_none rfl) rfl rfl (f_pickF rfl rfl rfl rfl) ?_
                    refine EvK.pure (v := .bool false) (w_none rfl) rfl rfl (f_move rfl rfl) ?_
                    refine EvK.not (w_not rfl rfl rfl) rfl rfl ?_
                    refine EvK.not (w_not rfl rfl rfl) rfl rfl ?_
                    refine EvK.not (w_not rfl rfl rfl) rfl rfl ?_
                    refine EvK.pure (v := .bool false) (w_none rfl) rfl rfl (f_pickF rfl rfl rfl rfl) ?_
                    refine EvK.pure (v := .bool false) (w_none rfl) rfl rfl (f_move rfl rfl) ?_
                    refine EvK.not (w_not rfl rfl rfl) rfl rfl ?_
                    refine EvK.not (w_not rfl rfl rfl) rfl rfl ?_
                    refine EvK.not (w_not rfl rfl rfl) rfl rfl ?_
                    refine EvK.pure (v := .bool false) (w_none rfl) rfl rfl (f_pickF rfl rfl rfl rfl) ?_
                    refine EvK.pure (v := .bool false) (w_none rfl) rfl rfl (f_assign rfl rfl) ?_
                    refine EvK.nil ?_
                    exact KE.mk false ⟨rfl, trivial⟩ hF
                · refine EvK.not (w_not rfl rfl c6) rfl rfl ?_
                  refine EvK.pure (v := .bool false) (w_none rfl) rfl rfl (f_pickF rfl rfl c6 rfl) ?_
                  refine EvK.pure (v := .bool false) (w_none rfl) rfl rfl (f_move rfl rfl) ?_
                  refine EvK.not (w_not rfl rfl rfl) rfl rfl ?_
                  refine EvK.not (w_not rfl rfl rfl) rfl rfl ?_
                  refine EvK.not (w_not rfl rfl rfl) rfl rfl ?_
                  refine EvK.pure (v := .bool false) (w_none rfl) rfl rfl (f_pickF rfl rfl rfl rfl) ?_
                  refine EvK.pure (v := .bool false) (w_none rfl) rfl rfl (f_move rfl rfl) ?_
                  refine EvK.not (w_not rfl rfl rfl) rfl rfl ?_
                  refine EvK.not (w_not rfl rfl rfl) rfl rfl ?_
                  refine EvK.not (w_not rfl rfl rfl) rfl rfl ?_
                  refine EvK.pure (v := .bool false) (w_none rfl) rfl rfl (f_pickF rfl rfl rfl rfl) ?_
                  refine EvK.pure (v := .bool false) (w_none rfl) rfl rfl (f_move rfl rfl) ?_
                  refine EvK.not (w_not rfl rfl rfl) rfl rfl ?_
                  refine EvK.not (w_not rfl rfl rfl) rfl rfl ?_
                  refine EvK.not (w_not rfl rfl rfl) rfl rfl ?_
                  refine EvK.pure (v := .bool false) (w_none rfl) rfl rfl (f_pickF rfl rfl rfl rfl) ?_
                  refine EvK.pure (v := .bool false) (w_none rfl) rfl rfl (f_move rfl rfl) ?_
                  refine EvK.not (w_not rfl rfl rfl) rfl rfl ?_
                  refine EvK.not (w_not rfl rfl rfl) rfl rfl ?_
                  refine EvK.not (w_not rfl rfl rfl) rfl rfl ?_
                  refine EvK.pure (v := .bool false) (w_none rfl) rfl rfl (f_pickF rfl rfl rfl rfl) ?_
                  refine EvK.pure (v := .bool false) (w_none rfl) rfl rfl (f_assign rfl rfl) ?_
                  refine EvK.nil ?_
                  exact KE.mk false ⟨rfl, trivial⟩ hF
              · refine EvK.not (w_not rfl rfl c5) rfl rfl ?_
                refine EvK.not (w_not rfl rfl c5) rfl rfl ?_
                refine EvK.pure (v := .bool false) (w_none rfl) rfl rfl (f_pickF rfl rfl c5 rfl) ?_
                refine EvK.pure (v := .bool false) (w_none rfl) rfl rfl (f_move rfl rfl) ?_
                refine EvK.not (w_not rfl rfl rfl) rfl rfl ?_
                refine EvK.pure (v := .bool false) (w_none rfl) rfl rfl (f_pickF rfl rfl rfl rfl) ?_
                refine EvK.pure (v := .bool false) (w_none rfl) rfl rfl (f_move rfl rfl) ?_
                refine EvK.not (w_not rfl rfl rfl) rfl rfl ?_
                refine EvK.not (w_not rfl rfl rfl) rfl rfl ?_
                refine EvK.not (w_not rfl rfl rfl) rfl rfl ?_
                refine EvK.pure (v := .bool false) (w_none rfl) rfl rfl (f_pickF rfl rfl rfl rfl) ?_
                refine EvK.pure (v := .bool false) (w_none rfl) rfl rfl (f_move rfl rfl) ?_
                refine EvK.not (w_not rfl rfl rfl) rfl rfl ?_
                refine EvK.not (w_not rfl rfl rfl) rfl rfl ?_
                refine EvK.not (w_not rfl rfl rfl) rfl rfl ?_
                refine EvK.pure (v := .bool false) (w_none rfl) rfl rfl (f_pickF rfl rfl rfl rfl) ?_
                refine EvK.pure (v := .bool false) (w_none rfl) rfl rfl (f_move rfl rfl) ?_
                refine EvK.not (w_not rfl rfl rfl) rfl rfl ?_
                refine EvK.not (w_not rfl rfl rfl) rfl rfl ?_
                refine EvK.not (w_not rfl rfl rfl) rfl rfl ?_
                refine EvK.pure (v := .bool false) (w_none rfl) rfl rfl (f_pickF rfl rfl rfl rfl) ?_
                refine EvK.pure (v := .bool false) (w_none rfl) rfl rfl (f_move rfl rfl) ?_
                refine EvK.not (w_not rfl rfl rfl) rfl rfl ?_
                refine EvK.not (w_not rfl rfl rfl) rfl rfl ?_
                refine EvK.not (w_not rfl rfl rfl) rfl rfl ?_
                refine EvK.pure (v := .bool false) (w_none rfl) rfl rfl (f_pickF rfl rfl rfl rfl) ?_
                refine EvK.pure (v := .bool false) (w_none rfl) rfl rfl (f_assign rfl rfl) ?_
                refine EvK.nil ?_
                exact KE.mk false ⟨rfl, trivial⟩ hF
            · refine EvK.not (w_not rfl rfl c4) rfl rfl ?_
              refine EvK.pure (v := .bool false) (w_none rfl) rfl rfl (f_pickF rfl rfl c4 rfl) ?_
              refine EvK.pure (v := .bool false) (w_none rfl) rfl rfl (f_move rfl rfl) ?_
              refine EvK.not (w_not rfl rfl rfl) rfl rfl ?_
              refine EvK.not (w_not rfl rfl rfl) rfl rfl ?_
              refine EvK.pure (v := .bool false) (w_none rfl) rfl rfl (f_pickF rfl rfl rfl rfl) ?_
              refine EvK.pure (v := .bool false) (w_none rfl) rfl rfl (f_move rfl rfl) ?_
              refine EvK.not (w_not rfl rfl rfl) rfl rfl ?_
              refine EvK.pure (v := .bool false) (w_none rfl) rfl rfl (f_pickF rfl rfl rfl rfl) ?_
              refine EvK.pure (v := .bool false) (w_none rfl) rfl rfl (f_move rfl rfl) ?_
              refine EvK.not (w_not rfl rfl rfl) rfl rfl ?_
              refine EvK.not (w_not rfl rfl rfl) rfl rfl ?_
              refine EvK.not (w_not rfl rfl rfl) rfl rfl ?_
              refine EvK.pure (v := .bool false) (w_none rfl) rfl rfl (f_pickF rfl rfl rfl rfl) ?_
              refine EvK.pure (v := .bool false) (w_none rfl) rfl rfl (f_move rfl rfl) ?_
              refine EvK.not (w_not rfl rfl rfl) rfl rfl ?_
              refine EvK.not (w_not rfl rfl rfl) rfl rfl ?_
              refine EvK.not (w_not rfl rfl rfl) rfl rfl ?_
              refine EvK.pure (v := .bool false) (w_none rfl) rfl rfl (f_pickF rfl rfl rfl rfl) ?_
              refine EvK.pure (v := .bool false) (w_none rfl) rfl rfl (f_move rfl rfl) ?_
              refine EvK.not (w_not rfl rfl rfl) rfl rfl ?_
              refine EvK.not (w_not rfl rfl rfl) rfl rfl ?_
              refine EvK.not (w_not rfl rfl rfl) rfl rfl ?_
              refine EvK.pure (v := .bool false) (w_none rfl) rfl rfl (f_pickF rfl rfl rfl rfl) ?_
              refine EvK.pure (v := .bool false) (w_none rfl) rfl rfl (f_move rfl rfl) ?_
              refine EvK.not (w_not rfl rfl rfl) rfl rfl ?_
              refine EvK.not (w_not rfl rfl rfl) rfl rfl ?_
              refine EvK.not (w_not rfl rfl rfl) rfl rfl ?_
              refine EvK.pure (v := .bool false) (w_none rfl) rfl rfl (f_pickF rfl rfl rfl rfl) ?_
              refine EvK.pure (v := .bool false) (w_none rfl) rfl rfl (f_assign rfl rfl) ?_
              refine EvK.nil ?_
              exact KE.mk false ⟨rfl, trivial⟩ hF
          · refine EvK.not (w_not rfl rfl c3) rfl rfl ?_
            refine EvK.not (w_not rfl rfl c3) rfl rfl ?_
            refine EvK.pure (v := .bool false) (w_none rfl) rfl rfl (f_pickF rfl rfl c3 rfl) ?_
            refine EvK.pure (v := .bool false) (w_none rfl) rfl rfl (f_move rfl rfl) ?_
            refine EvK.not (w_not rfl rfl rfl) rfl rfl ?_
            refine EvK.pure (v := .bool false) (w_none rfl) rfl rfl (f_pickF rfl rfl rfl rfl) ?_
            refine EvK.pure (v := .bool false) (w_none rfl) rfl rfl (f_move rfl rfl) ?_
            refine EvK.not (w_not rfl rfl rfl) rfl rfl ?_
            refine EvK.not (w_not rfl rfl rfl) rfl rfl ?_
            refine EvK.pure (v := .bool false) (w_none rfl) rfl rfl (f_pickF rfl rfl rfl rfl) ?_
            refine EvK.pure (v := .bool false) (w_none rfl) rfl rfl (f_move rfl rfl) ?_
            refine EvK.not (w_not rfl rfl rfl) rfl rfl ?_
            refine EvK.pure (v := .bool false) (w_none rfl) rfl rfl (f_pickF rfl rfl rfl rfl) ?_
            refine EvK.pure (v := .bool false) (w_none rfl) rfl rfl (f_move rfl rfl) ?_
            refine EvK.not (w_not rfl rfl rfl) rfl rfl ?_
            refine EvK.not (w_not rfl rfl rfl) rfl rfl ?_
            refine EvK.not (w_not rfl rfl rfl) rfl rfl ?_
            refine EvK.pure (v := .bool false) (w_none rfl) rfl rfl (f_pickF rfl rfl rfl rfl) ?_
            refine EvK.pure (v := .bool false) (w_none rfl) rfl rfl (f_move rfl rfl) ?_
            refine EvK.not (w_not rfl rfl rfl) rfl rfl ?_
            refine EvK.not (w_not rfl rfl rfl) rfl rfl ?_
            refine EvK.not (w_not rfl rfl rfl) rfl rfl ?_
            refine EvK.pure (v := .bool false) (w_none rfl) rfl rfl (f_pickF rfl rfl rfl rfl) ?_
            refine EvK.pure (v := .bool false) (w_none rfl) rfl rfl (f_move rfl rfl) ?_
            refine EvK.not (w_not rfl rfl rfl) rfl rfl ?_
            refine EvK.not (w_not rfl rfl rfl) rfl rfl ?_
            refine EvK.not (w_not rfl rfl rfl) rfl rfl ?_
            refine EvK.pure (v := .bool false) (w_none rfl) rfl rfl (f_pickF rfl rfl rfl rfl) ?_
            refine EvK.pure (v := .bool false) (w_none rfl) rfl rfl (f_move rfl rfl) ?_
            refine EvK.not (w_not rfl rfl rfl) rfl rfl ?_
            refine EvK.not (w_not rfl rfl rfl) rfl rfl ?_
            refine EvK.not (w_not rfl rfl rfl) rfl rfl ?_
            refine EvK.pure (v := .bool false) (w_none rfl) rfl rfl (f_pickF rfl rfl rfl rfl) ?_
            refine EvK.pure (v := .bool false) (w_none rfl) rfl rfl (f_assign rfl rfl) ?_
            refine EvK.nil ?_
            exact KE.mk false ⟨rfl, trivial⟩ hF
        · refine EvK.not (w_not rfl rfl c2) rfl rfl ?_
          refine EvK.not (w_not rfl rfl c2) rfl rfl ?_
          refine EvK.pure (v := .bool false) (w_none rfl) rfl rfl (f_pickF rfl rfl c2 rfl) ?_
          refine EvK.pure (v := .bool false) (w_none rfl) rfl rfl (f_move rfl rfl) ?_
          refine EvK.not (w_not rfl rfl rfl) rfl rfl ?_
          refine EvK.not (w_not rfl rfl rfl) rfl rfl ?_
          refine EvK.pure (v := .bool false) (w_none rfl) rfl rfl (f_pickF rfl rfl rfl rfl) ?_
          refine EvK.pure (v := .bool false) (w_none rfl) rfl rfl (f_move rfl rfl) ?_
          refine EvK.not (w_not rfl rfl rfl) rfl rfl ?_
          refine EvK.pure (v := .bool false) (w_none rfl) rfl rfl (f_pickF rfl rfl rfl rfl) ?_
          refine EvK.pure (v := .bool false) (w_none rfl) rfl rfl (f_move rfl rfl) ?_
          refine EvK.not (w_not rfl rfl rfl) rfl rfl ?_
          refine EvK.not (w_not rfl rfl rfl) rfl rfl ?_
          refine EvK.pure (v := .bool false) (w_none rfl) rfl rfl (f_pickF rfl rfl rfl rfl) ?_
          refine EvK.pure (v := .bool false) (w_none rfl) rfl rfl (f_move rfl rfl) ?_
          refine EvK.not (w_not rfl rfl rfl) rfl rfl ?_
          refine EvK.pure (v := .bool false) (w_none rfl) rfl rfl (f_pickF rfl rfl rfl rfl) ?_
          refine EvK.pure (v := .bool false) (w_none rfl) rfl rfl (f_move rfl rfl) ?_
          refine EvK.not (w_not rfl rfl rfl) rfl rfl ?_
          refine EvK.not (w_not rfl rfl rfl) rfl rfl ?_
          refine EvK.not (w_not rfl rfl rfl) rfl rfl ?_
          refine EvK.pure (v := .bool false) (w_none rfl) rfl rfl (f_pickF rfl rfl rfl rfl) ?_
          refine EvK.pure (v := .bool false) (w_none rfl) rfl rfl (f_move rfl rfl) ?_
          refine EvK.not (w_not rfl rfl rfl) rfl rfl ?_
          refine EvK.not (w_not rfl rfl rfl) rfl rfl ?_
          refine EvK.not (w_not rfl rfl rfl) rfl rfl ?_
          refine EvK.pure (v := .bool false) (w_none rfl) rfl rfl (f_pickF rfl rfl rfl rfl) ?_
          refine EvK.pure (v := .bool false) (w_none rfl) rfl rfl (f_move rfl rfl) ?_
          refine EvK.not (w_not rfl rfl rfl) rfl rfl ?_
          refine EvK.not (w_not rfl rfl rfl) rfl rfl ?_
          refine EvK.not (w_not rfl rfl rfl) rfl rfl ?_
          refine EvK.pure (v := .bool false) (w_none rfl) rfl rfl (f_pickF rfl rfl rfl rfl) ?_
          refine EvK.pure (v := .bool false) (w_none rfl) rfl rfl (f_move rfl rfl) ?_
          refine EvK.not (w_not rfl rfl rfl) rfl rfl ?_
          refine EvK.not (w_not rfl rfl rfl) rfl rfl ?_
          refine EvK.not (w_not rfl rfl rfl) rfl rfl ?_
          refine EvK.pure (v := .bool false) (w_none rfl) rfl rfl (f_pickF rfl rfl rfl rfl) ?_
          refine EvK.pure (v := .bool false) (w_none rfl) rfl rfl (f_assign rfl rfl) ?_
          refine EvK.nil ?_
          exact KE.mk false ⟨rfl, trivial⟩ hF
  · intro k1 hF
    refine WP.region ?_
    refine EvK.pure (v := .int .i64 r1.2) (w_none rfl) rfl rfl (f_move rfl rfl) ?_
    refine EvK.pure (v := .bool (r1.2 != 0)) (w_none rfl) rfl rfl (f_neq rfl rfl rfl) ?_
    refine EvK.pure (v := .bool (r1.2 != 0)) (w_none rfl) rfl rfl (f_move rfl rfl) ?_
    rcases ite_inv hF with ⟨c11, hF⟩ | ⟨c11, hF⟩
    · refine EvK.not (w_not rfl rfl c11) rfl rfl ?_
      refine EvK.not (w_not rfl rfl c11) rfl rfl ?_
      refine EvK.pure (v := .bool true) (w_none rfl) rfl rfl (f_pickT rfl rfl c11 rfl) ?_
      refine EvK.pure (v := .bool true) (w_none rfl) rfl rfl (f_move rfl rfl) ?_
      refine EvK.not (w_not rfl rfl rfl) rfl rfl ?_
      refine EvK.not (w_not rfl rfl rfl) rfl rfl ?_
      refine EvK.pure (v := .bool true) (w_none rfl) rfl rfl (f_pickT rfl rfl rfl rfl) ?_
      refine EvK.pure (v := .bool true) (w_none rfl) rfl rfl (f_move rfl rfl) ?_
      refine EvK.not (w_not rfl rfl rfl) rfl rfl ?_
      refine EvK.not (w_not rfl rfl rfl) rfl rfl ?_
      refine EvK.pure (v := .bool true) (w_none rfl) rfl rfl (f_pickT rfl rfl rfl rfl) ?_
      refine EvK.nil ?_
      exact KE.mk true ⟨rfl, rfl, trivial⟩ hF
    · refine EvK.pure (v := .pointer r1.1) (w_some rfl rfl c11) rfl rfl (f_move rfl rfl) ?_
      refine EvK.pure (v := .bool r1.1.isNone) (w_some rfl rfl c11) rfl rfl (f_peqln Tryz.underlying25 rfl rfl rfl) ?_
      refine EvK.pure (v := .bool r1.1.isNone) (w_none rfl) rfl rfl (f_pickF rfl rfl c11 rfl) ?_
      refine EvK.pure (v := .bool r1.1.isNone) (w_none rfl) rfl rfl (f_move rfl rfl) ?_
      rcases ite_inv hF with ⟨c12, hF⟩ | ⟨c12, hF⟩
      · refine EvK.not (w_not rfl rfl c12) rfl rfl ?_
        refine EvK.not (w_not rfl rfl c12) rfl rfl ?_
        refine EvK.pure (v := .bool true) (w_none rfl) rfl rfl (f_pickT rfl rfl c12 rfl) ?_
        refine EvK.pure (v := .bool true) (w_none rfl) rfl rfl (f_move rfl rfl) ?_
        refine EvK.not (w_not rfl rfl rfl) rfl rfl ?_
        refine EvK.not (w_not rfl rfl rfl) rfl rfl ?_
        refine EvK.pure (v := .bool true) (w_none rfl) rfl rfl (f_pickT rfl rfl rfl rfl) ?_
        refine EvK.nil ?_
        exact KE.mk true ⟨rfl, rfl, trivial⟩ hF
      · refine EvK.pure (v := .pointer r2.1) (w_some rfl rfl c12) rfl rfl (f_move rfl rfl) ?_
        refine EvK.pure (v := .bool (!r2.1.isNone)) (w_some rfl rfl c12) rfl rfl (f_pneqn Tryz.underlying25 rfl rfl rfl) ?_
        refine EvK.pure (v := .bool (!r2.1.isNone)) (w_none rfl) rfl rfl (f_pickF rfl rfl c12 rfl) ?_
        refine EvK.pure (v := .bool (!r2.1.isNone)) (w_none rfl) rfl rfl (f_move rfl rfl) ?_
        rcases ite_inv hF with ⟨c13, hF⟩ | ⟨c13, hF⟩
        · refine EvK.not (w_not rfl rfl c13) rfl rfl ?_
          refine EvK.not (w_not rfl rfl c13) rfl rfl ?_
          refine EvK.pure (v := .bool true) (w_none rfl) rfl rfl (f_pickT rfl rfl c13 rfl) ?_
          refine EvK.nil ?_
          exact KE.mk true ⟨rfl, rfl, trivial⟩ hF
        · refine EvK.pure (v := .int .i64 r2.2) (w_some rfl rfl c13) rfl rfl (f_move rfl rfl) ?_
          refine EvK.pure (v := .bool (r2.2 != 1)) (w_some rfl rfl c13) rfl rfl (f_neq rfl rfl rfl) ?_
          refine EvK.pure (v := .bool (r2.2 != 1)) (w_none rfl) rfl rfl (f_pickF rfl rfl c13 rfl) ?_
          refine EvK.nil ?_
          exact KE.mk (r2.2 != 1) ⟨rfl, rfl, trivial⟩ hF
end Go.Proofs.YtomngllmnhdmlaaGreat
/- spate/spatelaw12.twin, as a predicate over the heap, and that the code comes to it. Printed by gen.py. -/
namespace Go.Proofs.YtomngllmnhdmlaaGreat
open Go Go.Tr
set_option linter.unusedVariables false
set_option maxRecDepth 100000
set_option maxHeartbeats 400000
def spatelaw12_twin.b1 (p0 : Sl) (s : Sl × Int) (h : H) (K : (Sl × Int) ⊕ Sl → H → Prop) : Prop :=
  if (decide (s.2 < (p0.len : Int))) = true then
    rd (ixA 4 p0 s.2) fun q1 =>
    rd (ld k52 q1 h) fun x1 =>
    al 53 (k52.enc z52) h fun q2 h2 =>
    rd (st k52 q2 x1 h2) fun h3 =>
    bs 49 0 ([]) h3 fun x2 h4 =>
    rd (ld kL (q2.add 1) h4) fun x3 =>
    ap k48.n 16 49 (k48.enc z48) x2 x3 h4 fun x4 h5 =>
    rd (st kL (q2.add 1) x4 h5) fun h6 =>
    bs 3 0 ([]) h6 fun x5 h7 =>
    rd (ld kL (q2.add 3) h7) fun x6 =>
    ap (kI .i64).n 8 3 ((kI .i64).enc 0) x5 x6 h7 fun x7 h8 =>
    rd (st kL (q2.add 3) x7 h8) fun h9 =>
    rd (ld k52 q2 h9) fun x8 =>
    bs 53 1 (k52.enc x8) h9 fun x9 h10 =>
    ap k52.n 64 53 (k52.enc z52) s.1 x9 h10 fun x10 h11 =>
    K (.inl (x10, IntKind.i64.wrap (s.2 + 1))) h11
  else
    K (.inr s.1) h
/-- spate/spatelaw12.twin -/
def spatelaw12_twin (a0 : Sl) (h : H) (Q : Sl → H → Prop) : Prop :=
  jn (fun (k1 : Sl → H → Prop) =>
    loopE (spatelaw12_twin.b1 a0) (Sl.nil, 0) h (fun r1 hh => k1 r1 hh)) fun s1 h1 =>
  Q s1 h1
theorem spatelaw12_twin.sound {a0 : Sl} {h : H} {Q : Sl → H → Prop} (hF : spatelaw12_twin a0 h Q) :
    CallsH Tryz.prog 7 (List.toArray (α := Value) [Sl.val a0]) h fun v h' => ∃ x : Sl, v = Sl.val x ∧ Q x h' := by
  refine CallsH.of_body Tryz.func7 rfl 31 rfl rfl ?_
  refine WP.seq ?_
  refine WP.region ?_
  refine EvK.pure (v := Sl.val Sl.nil) (w_none rfl) rfl rfl (f_assign rfl rfl) ?_
  refine EvK.nil ?_
  refine WP.seq ?_
  refine WP.region ?_
  refine EvK.pure (v := Sl.val Sl.nil) (w_none rfl) rfl rfl (f_assign rfl rfl) ?_
  refine EvK.nil ?_
  refine WP.joinF (fun (s1 : Sl) => [(3, Sl.val s1)]) hF ?_ ?_
  · intro s1 E0 h1 hF
    refine WP.seq ?_
    refine WP.region ?_
    refine EvK.pure (v := Sl.val s1) (w_none rfl) rfl rfl (f_move rfl rfl) ?_
    refine EvK.pure (v := Sl.val s1) (w_none rfl) rfl rfl (f_assign rfl rfl) ?_
    refine EvK.nil ?_
    refine WP.ret ?_
    exact Ret.mk (vs := [Sl.val s1]) s1 ⟨rfl, trivial⟩ rfl hF
  · intro k1 hF
    refine WP.seq ?_
    refine WP.region ?_
    refine EvK.pure (v := .int .i64 0) (w_none rfl) rfl rfl (f_assign rfl rfl) ?_
    refine EvK.nil ?_
    refine WP.block ?_
    refine WP.loopF (fun (s2 : Sl × Int) => [(3, Sl.val s2.1), (4, .int .i64 s2.2), (0, Sl.val a0)]) hF ⟨rfl, rfl, rfl, trivial⟩ ?_
    intro k2 s2 E0 h2 hF
    refine WP.seq ?_
    refine WP.seq ?_
    refine WP.region ?_
    refine EvK.pure (v := .int .i64 s2.2) (w_none rfl) rfl rfl (f_move rfl rfl) ?_
    refine EvK.pure (v := Sl.val a0) (w_none rfl) rfl rfl (f_move rfl rfl) ?_
    refine EvK.pure (v := .int .i64 (a0.len : Int)) (w_none rfl) rfl rfl (f_lenL (s := a0) Tryz.underlying34 rfl rfl) ?_
    refine EvK.pure (v := .bool (decide (s2.2 < (a0.len : Int)))) (w_none rfl) rfl rfl (f_lss rfl rfl rfl) ?_
    refine EvK.nil ?_
    rcases ite_inv hF with ⟨c1, hF⟩ | ⟨c1, hF⟩
    · refine WP.cond_true _ rfl c1 ?_
      refine WP.skip ?_
      refine WP.seq ?_
      refine WP.block ?_
      refine WP.seq ?_
      refine WP.region ?_
      refine EvK.pure (v := Sl.val a0) (w_none rfl) rfl rfl (f_move rfl rfl) ?_
      refine EvK.pure (v := .int .i64 s2.2) (w_none rfl) rfl rfl (f_move rfl rfl) ?_
      obtain ⟨q1, hq1, hF⟩ := hF
      refine EvK.pure (v := .pointer (some q1)) (w_none rfl) rfl rfl (f_indexAddr (s := a0) Tryz.underlying34 ty53.size rfl rfl rfl hq1) ?_
      obtain ⟨x1, hx1, hF⟩ := hF
      refine EvK.read (v := k52.val x1) (w_none rfl) rfl rfl (f_load k52 ty53 rfl rfl hx1 rfl) ?_
      refine EvK.alloc (w_none rfl) rfl rfl (f_allocF zero53 rfl rfl hF) ?_
      rintro _ h3 ⟨q2, rfl, hF⟩
      obtain ⟨h4, hs1, hF⟩ := hF
      refine EvK.runN (w_none rfl) rfl (f_store k52 ty53.size (z := x1) rfl rfl rfl hs1) ?_
      rintro _ _ ⟨rfl, rfl⟩
      refine EvK.nil ?_
      refine WP.seq ?_
      refine WP.region ?_
      refine EvK.alloc (w_none rfl) rfl rfl (f_buildSliceF Tryz.underlying50 el49 (by decide) rfl rfl rfl hF) ?_
      rintro _ h5 ⟨x2, rfl, hF⟩
      refine EvK.pure (v := .pointer (some (q2.add 1))) (w_none rfl) rfl rfl (f_fieldAddr fd53_1 rfl rfl) ?_
      obtain ⟨x3, hx2, hF⟩ := hF
      refine EvK.read (v := Sl.val x3) (w_none rfl) rfl rfl (f_load kL ty50 rfl rfl hx2 rfl) ?_
      refine EvK.run (w_none rfl) rfl rfl (f_appendE (s := x2) (x := x3) Tryz.underlying50 el49 rfl rfl rfl hF) ?_
      rintro _ h6 ⟨x4, rfl, hF⟩
      refine EvK.pure (v := .pointer (some (q2.add 1))) (w_none rfl) rfl rfl (f_fieldAddr fd53_1 rfl rfl) ?_
      obtain ⟨h7, hs2, hF⟩ := hF
      refine EvK.runN (w_none rfl) rfl (f_store kL ty50.size (z := x4) rfl rfl rfl hs2) ?_
      rintro _ _ ⟨rfl, rfl⟩
      refine EvK.nil ?_
      refine WP.seq ?_
      refine WP.region ?_
      refine EvK.alloc (w_none rfl) rfl rfl (f_buildSliceF Tryz.underlying51 el3 (by decide) rfl rfl rfl hF) ?_
      rintro _ h8 ⟨x5, rfl, hF⟩
      refine EvK.pure (v := .pointer (some (q2.add 3))) (w_none rfl) rfl rfl (f_fieldAddr fd53_3 rfl rfl) ?_
      obtain ⟨x6, hx3, hF⟩ := hF
      refine EvK.read (v := Sl.val x6) (w_none rfl) rfl rfl (f_load kL ty51 rfl rfl hx3 rfl) ?_
      refine EvK.run (w_none rfl) rfl rfl (f_appendE (s := x5) (x := x6) Tryz.underlying51 el3 rfl rfl rfl hF) ?_
      rintro _ h9 ⟨x7, rfl, hF⟩
      refine EvK.pure (v := .pointer (some (q2.add 3))) (w_none rfl) rfl rfl (f_fieldAddr fd53_3 rfl rfl) ?_
      obtain ⟨h10, hs3, hF⟩ := hF
      refine EvK.runN (w_none rfl) rfl (f_store kL ty51.size (z := x7) rfl rfl rfl hs3) ?_
      rintro _ _ ⟨rfl, rfl⟩
      refine EvK.nil ?_
      refine WP.region ?_
      refine EvK.pure (v := Sl.val s2.1) (w_none rfl) rfl rfl (f_move rfl rfl) ?_
      obtain ⟨x8, hx4, hF⟩ := hF
      refine EvK.read (v := k52.val x8) (w_none rfl) rfl rfl (f_load k52 ty53 rfl rfl hx4 rfl) ?_
      refine EvK.alloc (w_none rfl) rfl rfl (f_buildSliceF Tryz.underlying34 el53 (by decide) rfl rfl rfl hF) ?_
      rintro _ h11 ⟨x9, rfl, hF⟩
      refine EvK.run (w_none rfl) rfl rfl (f_appendE (s := s2.1) (x := x9) Tryz.underlying34 el53 rfl rfl rfl hF) ?_
      rintro _ h12 ⟨x10, rfl, hF⟩
      refine EvK.pure (v := Sl.val x10) (w_none rfl) rfl rfl (f_assign rfl rfl) ?_
      refine EvK.nil ?_
      refine WP.region ?_
      refine EvK.pure (v := .int .i64 s2.2) (w_none rfl) rfl rfl (f_move rfl rfl) ?_
      refine EvK.pure (v := .int .i64 (IntKind.i64.wrap (s2.2 + 1))) (w_none rfl) rfl rfl (f_add rfl rfl rfl) ?_
      refine EvK.pure (v := .int .i64 (IntKind.i64.wrap (s2.2 + 1))) (w_none rfl) rfl rfl (f_assign rfl rfl) ?_
      refine EvK.nil ?_
      exact KE.mk (x10, IntKind.i64.wrap (s2.2 + 1)) ⟨rfl, rfl, rfl, trivial⟩ hF
    · refine WP.cond_false _ rfl c1 ?_
      refine WP.exit ?_
      exact KE.mk s2.1 ⟨rfl, trivial⟩ hF
end Go.Proofs.YtomngllmnhdmlaaGreat
/- Moves told apart; the statements' small helpers; what is known of two tasks and one lock. -/
namespace Go.Proofs.YtomngllmnhdmlaaGreat
open Go Go.Tr
set_option linter.unusedVariables false
theorem jn_c' {α : Type} {m : (α → H → Prop) → Prop} {Q : α → H → Prop} (a : α) (h : H) (hm : ∀ K : α → H → Prop, K a h → m K) (k : Q a h) : jn m Q := hm Q k
/-- The sets of a row of moves. -/
def rbagP (rows : List MR) : HP where
  p h F := (∀ r ∈ rows, Own kLk h F r.v.f1 r.l ∧ Own (kI .i64) h F r.v.f3 r.w) ∧ ∀ b, F b → b < h.size
  st := fun ⟨v, l⟩ hs k => ⟨fun r hr => ⟨(v r hr).1.same fun b hb _ => k b hb, (v r hr).2.same fun b hb _ => k b hb⟩, fun b hb => Nat.lt_of_lt_of_le (l b hb) hs⟩
  lt := fun ⟨_, l⟩ => l
/-- Rows of moves, whole. -/
def mvsP (Lm : List (Sl × List MR)) : HP where
  p h F := (∀ x ∈ Lm, Own kMv h F x.1 (x.2.map fun r : MR => r.v) ∧ ∀ r ∈ x.2, Own kLk h F r.v.f1 r.l ∧ Own (kI .i64) h F r.v.f3 r.w) ∧ ∀ b, F b → b < h.size
  st := fun ⟨v, l⟩ hs k => ⟨fun x hx => ⟨(v x hx).1.same fun b hb _ => k b hb, fun r hr => ⟨((v x hx).2 r hr).1.same fun b hb _ => k b hb, ((v x hx).2 r hr).2.same fun b hb _ => k b hb⟩⟩, fun b hb => Nat.lt_of_lt_of_le (l b hb) hs⟩
  lt := fun ⟨_, l⟩ => l
def rowsOk (rows : List MR) : Prop := rows.length ≤ 140737488351232 ∧ ∀ r ∈ rows, r.l.length ≤ 140737488351232 ∧ r.w.length ≤ 140737488351232
def lm (L : List PLY) : List (Sl × List MR) := L.map fun p => (p.sl, p.rows)
theorem lm_bump (L : List PLY) (n : Nat) : lm (bump L n) = lm L := by
  unfold lm
  apply List.ext_getElem?
  intro i
  rw [List.getElem?_map, List.getElem?_map, bump_at]
  split
  · cases L[i]? <;> rfl
  · rfl
theorem mvs_ok {L : List PLY} (h : ∀ p ∈ L, rowsOk p.rows) : Xok (mvsP (lm L)) L := fun g F ⟨v, l⟩ p hp => by
  have := v (p.sl, p.rows) (List.mem_map_of_mem (f := fun p : PLY => (p.sl, p.rows)) hp)
  have hb := h p hp
  exact ⟨this.1.rds, fun r hr => (this.2 r hr).1.rds, fun r hr => (this.2 r hr).2.rds, hb.1, hb.2⟩
section
variable {F0 : Nat → Prop} {h0 h : H} {Ps Rs : List HP}
theorem mvsP.nil (S : SG F0 h0 h Ps) : SG F0 h0 h (mvsP [] :: Ps) :=
  S.add (P := mvsP []) (F1 := fun _ => False) ⟨by simp, fun _ h => h.elim⟩ (Ext.refl h) fun _ h => h.elim
theorem rbagP.nil (S : SG F0 h0 h Ps) : SG F0 h0 h (rbagP [] :: Ps) :=
  S.add (P := rbagP []) (F1 := fun _ => False) ⟨by simp, fun _ h => h.elim⟩ (Ext.refl h) fun _ h => h.elim
/-- Two parts as one. -/
theorem SG.two {P Q R : HP} (k : ∀ h F1 F2, P.p h F1 → Q.p h F2 → R.p h fun b => F1 b ∨ F2 b) (S : SG F0 h0 h (P :: Q :: Rs)) : SG F0 h0 h (R :: Rs) := by
  obtain ⟨F, ⟨F1, _, o, ⟨F2, F3, a2, r, c2, d2⟩, c, d⟩, f⟩ := S
  refine ⟨F, ⟨fun k => F1 k ∨ F2 k, F3, k h F1 F2 o a2, r, fun k hk h3 => ?_, fun k => ?_⟩, f⟩
  · rcases hk with hk | hk
    · exact c _ hk ((d2 _).2 (.inr h3))
    · exact c2 k hk h3
  · rw [d k, d2 k, or_assoc]
theorem rbagP.add {r : MR} {rows : List MR} (S : SG F0 h0 h (ownP (kI .i64) r.v.f3 r.w :: ownP kLk r.v.f1 r.l :: rbagP rows :: Rs)) : SG F0 h0 h (rbagP (rows ++ [r]) :: Rs) := by
  have S2 : SG F0 h0 h (rbagP [r] :: rbagP rows :: Rs) := SG.two (P := ownP (kI .i64) r.v.f3 r.w) (Q := ownP kLk r.v.f1 r.l) (R := rbagP [r]) (fun g F1 F2 a b => ⟨fun x hx => by
    obtain rfl := List.mem_singleton.1 hx
    exact ⟨b.1.mono fun _ h => .inr h, a.1.mono fun _ h => .inl h⟩, fun b' hb => hb.elim (a.2 b') (b.2 b')⟩) S
  refine SG.two (P := rbagP [r]) (Q := rbagP rows) (R := rbagP (rows ++ [r])) (fun g F1 F2 a b => ⟨fun x hx => ?_, fun b' hb => hb.elim (a.2 b') (b.2 b')⟩) S2
  rcases List.mem_append.1 hx with hx | hx
  · exact ⟨(b.1 x hx).1.mono fun _ h => .inr h, (b.1 x hx).2.mono fun _ h => .inr h⟩
  · exact ⟨(a.1 x hx).1.mono fun _ h => .inl h, (a.1 x hx).2.mono fun _ h => .inl h⟩
theorem mvsP.add {s : Sl} {rows : List MR} {Lm : List (Sl × List MR)} (S : SG F0 h0 h (ownP kMv s (rows.map (·.v)) :: rbagP rows :: mvsP Lm :: Rs)) : SG F0 h0 h (mvsP (Lm ++ [(s, rows)]) :: Rs) := by
  have S2 : SG F0 h0 h (mvsP [(s, rows)] :: mvsP Lm :: Rs) := SG.two (P := ownP kMv s (rows.map (·.v))) (Q := rbagP rows) (R := mvsP [(s, rows)]) (fun g F1 F2 a b => ⟨fun x hx => by
    obtain rfl := List.mem_singleton.1 hx
    exact ⟨a.1.mono fun _ h => .inl h, fun r hr => ⟨(b.1 r hr).1.mono fun _ h => .inr h, (b.1 r hr).2.mono fun _ h => .inr h⟩⟩, fun b' hb => hb.elim (a.2 b') (b.2 b')⟩) S
  refine SG.two (P := mvsP [(s, rows)]) (Q := mvsP Lm) (R := mvsP (Lm ++ [(s, rows)])) (fun g F1 F2 a b => ⟨fun x hx => ?_, fun b' hb => hb.elim (a.2 b') (b.2 b')⟩) S2
  rcases List.mem_append.1 hx with hx | hx
  · exact ⟨(b.1 x hx).1.mono fun _ h => .inr h, fun r hr => ⟨((b.1 x hx).2 r hr).1.mono fun _ h => .inr h, ((b.1 x hx).2 r hr).2.mono fun _ h => .inr h⟩⟩
  · exact ⟨(a.1 x hx).1.mono fun _ h => .inl h, fun r hr => ⟨((a.1 x hx).2 r hr).1.mono fun _ h => .inl h, ((a.1 x hx).2 r hr).2.mono fun _ h => .inl h⟩⟩
end
theorem mv_ext {r r' : MR} (h0 : r.v.f0 = r'.v.f0) (h1 : r.l = r'.l) (h2 : r.v.f2 = r'.v.f2) (h3 : r.w = r'.w) : r.mv = r'.mv := by unfold MR.mv; rw [h0, h1, h2, h3]
section
variable {h0 h : H} {Ps : List HP}
/-- Moves apart. -/
theorem twin_spec {src : Sl} {rows0 : List MR} (M : MvRd h0 src rows0) (hn : rows0.length ≤ 2199023255552) (hm : ∀ r ∈ rows0, r.l.length ≤ 8796093022080 ∧ r.w.length ≤ 17592186044160) (S : SS h0 h Ps) {Q : Sl → H → Prop}
    (k : ∀ s rows h', rows.map MR.mv = rows0.map MR.mv → SS h0 h' (ownP kMv s (rows.map (·.v)) :: rbagP rows :: Ps) → Q s h') : spatelaw12_twin src h Q := by
  unfold spatelaw12_twin
  have hlen := M.r.len
  rw [List.length_map] at hlen
  refine jn_i (for0 (mk := fun (s : Sl) i => (s, i)) (s := Sl.nil) (n := rows0.length) (by omega) (fun j s h' => ∃ rows, rows.map MR.mv = (rows0.take j).map MR.mv ∧ SS h0 h' (ownP kMv s (rows.map (·.v)) :: rbagP rows :: Ps)) ⟨[], rfl, (rbagP.nil S).made (Ext.refl h) (Own.nil kMv h _)⟩ (fun j s h1 K hj hI next done => ?_) (fun s h1 K hI done => ?_))
  · obtain ⟨rows, er, S1⟩ := hI
    have hrl : rows.length = j := by
      have := congrArg List.length er
      simp at this; omega
    have hj' : j < (rows0.map (·.v)).length := by rw [List.length_map]; exact hj
    have hr := List.getElem_mem hj
    have hb := hm _ hr
    unfold spatelaw12_twin.b1
    refine ite_t (by rw [hlen]; exact clt_t hj) ((M.r.ext (SS.e S1)).elt0 hj' rfl ?_)
    rw [List.getElem_map]
    refine S1.cell (K := kMv) (x := rows0[j].v) fun q2 h2 S2 _ => ?_
    -- its locks
    refine bs_own (K := kLk) [] rfl rfl fun x2 h3 o3 hl3 e3 z3 => ?_
    have S3 := S2.made e3 (o3.mono fun b hb => by omega)
    refine rd_some (by rw [add_mk]; exact varP.ld S3 fv_l 1 rfl) ?_
    refine ownP.app (K := kLk) (by decide) S3 0 rfl ((M.l _ hr).ext (SS.e S3)) (by simp; omega) (by simp; omega) fun x4 h4 S4 => ?_
    have S4 : SS h0 h4 (ownP kLk x4 ([] ++ rows0[j].l) :: varP kMv q2 rows0[j].v :: ownP kMv s (rows.map (·.v)) :: rbagP rows :: Ps) := S4
    rw [List.nil_append] at S4
    obtain ⟨h5, hs5, S5, _⟩ := varP.st S4 fv_l 1 rfl x4
    have S5 : SS h0 h5 (ownP kLk x4 rows0[j].l :: varP kMv q2 { rows0[j].v with f1 := x4 } :: ownP kMv s (rows.map (·.v)) :: rbagP rows :: Ps) := S5
    refine rd_some (by rw [add_mk]; exact hs5) ?_
    -- whom it wakes
    refine bs_own (K := kI .i64) [] rfl rfl fun x5 h6 o6 hl6 e6 z6 => ?_
    have S6 := S5.made e6 (o6.mono fun b hb => by omega)
    have hld6 : ld kL ⟨q2, 3, none⟩ h6 = some ({ rows0[j].v with f1 := x4 } : Mv).f3 := varP.ld S6 fv_w 2 rfl
    have hld6 : ld kL ⟨q2, 3, none⟩ h6 = some rows0[j].v.f3 := hld6
    refine rd_some (by rw [add_mk]; exact hld6) ?_
    refine ownP.app (K := kI .i64) (by decide) S6 0 rfl ((M.w _ hr).ext (SS.e S6)) (by simp; omega) (by simp; omega) fun x7 h7 S7 => ?_
    have S7 : SS h0 h7 (ownP (kI .i64) x7 ([] ++ rows0[j].w) :: ownP kLk x4 rows0[j].l :: varP kMv q2 { rows0[j].v with f1 := x4 } :: ownP kMv s (rows.map (·.v)) :: rbagP rows :: Ps) := S7
    rw [List.nil_append] at S7
    obtain ⟨h8, hs8, S8, _⟩ := varP.st S7 fv_w 2 rfl x7
    have hld8 : ld kMv ⟨q2, 0, none⟩ h8 = some { rows0[j].v with f1 := x4, f3 := x7 } := varP.ld S8 (Fld.whole kMv) 2 rfl
    refine rd_some (by rw [add_mk]; exact hs8) (rd_some hld8 ?_)
    refine ownP.pushW (K := kMv) (by decide) S8 3 rfl { rows0[j].v with f1 := x4, f3 := x7 } (by simp; omega) (by simp; omega) fun s' h9 S9 => next s' h9 ⟨rows ++ [⟨{ rows0[j].v with f1 := x4, f3 := x7 }, rows0[j].l, rows0[j].w⟩], ?_, ?_⟩
    · rw [List.map_append, er, List.take_add_one, List.getElem?_eq_getElem hj, Option.toList_some, List.map_append]; rfl
    · have S9 : SS h0 h9 (ownP (kI .i64) x7 rows0[j].w :: ownP kLk x4 rows0[j].l :: varP kMv q2 { rows0[j].v with f1 := x4, f3 := x7 } :: ownP kMv s' (rows.map (·.v) ++ [{ rows0[j].v with f1 := x4, f3 := x7 }]) :: rbagP rows :: Ps) := S9
      have T1 : SS h0 h9 (ownP (kI .i64) x7 rows0[j].w :: ownP kLk x4 rows0[j].l :: rbagP rows :: ownP kMv s' (rows.map (·.v) ++ [{ rows0[j].v with f1 := x4, f3 := x7 }]) :: Ps) := ((((S9.front 2 rfl).tail).front 3 rfl).front 2 rfl).front 2 rfl
      have T2 := rbagP.add (r := ⟨{ rows0[j].v with f1 := x4, f3 := x7 }, rows0[j].l, rows0[j].w⟩) T1
      rw [List.map_append]
      exact T2.swap
  · obtain ⟨rows, er, S1⟩ := hI
    unfold spatelaw12_twin.b1
    rw [List.take_length] at er
    exact ite_f (by rw [hlen]; exact clt_f (Nat.lt_irrefl _)) (done _ _ (k s rows h1 er S1))
def askM : MV := ⟨2, [⟨0, false⟩], 0, []⟩
def goM : MV := ⟨1, [], 0, [7]⟩
def freeM : MV := ⟨3, [], 0, []⟩
def waitM : MV := ⟨4, [], 7, []⟩
theorem known_spec {Q : Bool → H → Prop} (k : ∀ h', Ext h h' → Q true h') : spatelaw12_known h Q := by
  unfold spatelaw12_known
  have S0 : SS h h [] := SS.nil (Ext.refl h)
  refine New_spec S0 (fun hb => by omega) fun _ _ q h1 S1 => New_spec S1 (fun _ => ?_) fun a _ => by omega
  refine jn_c' false h1 (fun K hK => ite_f rfl (ite_f rfl (ite_f rfl hK))) (ite_f rfl ?_)
  refine bs_own (K := kLk) [⟨0, false⟩] rfl rfl fun x1 h4 o4 hl4 e4 z4 => ?_
  have S4 := S1.made e4 (o4.mono fun b hb => by omega)
  refine S4.cell (K := kMv) (x := ⟨2, x1, 0, Sl.nil⟩) fun q1 h6 S6 _ => rd_some (varP.ld S6 (Fld.whole kMv) 0 rfl) ?_
  refine bs_own (K := kI .i64) [7] rfl rfl fun x3 h7 o7 hl7 e7 z7 => ?_
  have S7 := S6.made e7 (o7.mono fun b hb => by omega)
  refine bs_own (K := kMv) [⟨2, x1, 0, Sl.nil⟩, ⟨1, Sl.nil, 0, x3⟩, ⟨3, Sl.nil, 0, Sl.nil⟩] (by simp [encs]) rfl fun x4 h8 o8 hl8 e8 z8 => ?_
  have S8 := S7.made e8 (o8.mono fun b hb => by omega)
  refine S8.var (K := kPl) fun b1 h9 S9 _ => ?_
  have S9 : SS h h9 [varP kPl b1 ⟨x4, 0⟩, ownP kMv x4 [⟨2, x1, 0, Sl.nil⟩, ⟨1, Sl.nil, 0, x3⟩, ⟨3, Sl.nil, 0, Sl.nil⟩], ownP (kI .i64) x3 [7], varP kMv q1 ⟨2, x1, 0, Sl.nil⟩, ownP kLk x1 [⟨0, false⟩], schP q (AS.new 1) []] := S9
  have ok0 : (AS.new 1).Ok 0 := AS.Ok.new (by decide) (by decide)
  refine Add_spec ok0 (by decide) (b := b1) (S9.front 5 rfl) fun h10 S10 => ?_
  have S10 : SS h h10 [schP q (AS.new 1).add [b1], varP kPl b1 ⟨x4, 0⟩, ownP kMv x4 [⟨2, x1, 0, Sl.nil⟩, ⟨1, Sl.nil, 0, x3⟩, ⟨3, Sl.nil, 0, Sl.nil⟩], ownP (kI .i64) x3 [7], varP kMv q1 ⟨2, x1, 0, Sl.nil⟩, ownP kLk x1 [⟨0, false⟩]] := S10
  refine rd_some (varP.ld S10 (Fld.whole kMv) 4 rfl) ?_
  refine bs_own (K := kMv) [⟨2, x1, 0, Sl.nil⟩, ⟨3, Sl.nil, 0, Sl.nil⟩, ⟨4, Sl.nil, 7, Sl.nil⟩] (by simp [encs]) rfl fun x6 h11 o11 hl11 e11 z11 => ?_
  have S11 := S10.made e11 (o11.mono fun b hb => by omega)
  refine S11.var (K := kPl) fun b2 h12 S12 _ => ?_
  have S12 : SS h h12 [varP kPl b2 ⟨x6, 0⟩, ownP kMv x6 [⟨2, x1, 0, Sl.nil⟩, ⟨3, Sl.nil, 0, Sl.nil⟩, ⟨4, Sl.nil, 7, Sl.nil⟩], schP q (AS.new 1).add [b1], varP kPl b1 ⟨x4, 0⟩, ownP kMv x4 [⟨2, x1, 0, Sl.nil⟩, ⟨1, Sl.nil, 0, x3⟩, ⟨3, Sl.nil, 0, Sl.nil⟩], ownP (kI .i64) x3 [7], varP kMv q1 ⟨2, x1, 0, Sl.nil⟩, ownP kLk x1 [⟨0, false⟩]] := S12
  have ok1 : (AS.new 1).add.Ok 0 := ok0.add (by decide)
  refine Add_spec ok1 (by decide) (b := b2) (S12.front 2 rfl) fun h13 S13 => ?_
  have S13 : SS h h13 [schP q (AS.new 1).add.add [b1, b2], varP kPl b2 ⟨x6, 0⟩, ownP kMv x6 [⟨2, x1, 0, Sl.nil⟩, ⟨3, Sl.nil, 0, Sl.nil⟩, ⟨4, Sl.nil, 7, Sl.nil⟩], varP kPl b1 ⟨x4, 0⟩, ownP kMv x4 [⟨2, x1, 0, Sl.nil⟩, ⟨1, Sl.nil, 0, x3⟩, ⟨3, Sl.nil, 0, Sl.nil⟩], ownP (kI .i64) x3 [7], varP kMv q1 ⟨2, x1, 0, Sl.nil⟩, ownP kLk x1 [⟨0, false⟩]] := S13
  -- the two plays
  have rA : ∃ r : List MR, r = [⟨⟨2, x1, 0, Sl.nil⟩, [⟨0, false⟩], []⟩, ⟨⟨1, Sl.nil, 0, x3⟩, [], [7]⟩, ⟨⟨3, Sl.nil, 0, Sl.nil⟩, [], []⟩] := ⟨_, rfl⟩
  have rB : ∃ r : List MR, r = [⟨⟨2, x1, 0, Sl.nil⟩, [⟨0, false⟩], []⟩, ⟨⟨3, Sl.nil, 0, Sl.nil⟩, [], []⟩, ⟨⟨4, Sl.nil, 7, Sl.nil⟩, [], []⟩] := ⟨_, rfl⟩
  obtain ⟨rA, hA⟩ := rA
  obtain ⟨rB, hB⟩ := rB
  have T1 : SS h h13 [ownP kLk x1 [⟨0, false⟩], ownP (kI .i64) x3 [7], schP q (AS.new 1).add.add [b1, b2], varP kPl b2 ⟨x6, 0⟩, ownP kMv x6 [⟨2, x1, 0, Sl.nil⟩, ⟨3, Sl.nil, 0, Sl.nil⟩, ⟨4, Sl.nil, 7, Sl.nil⟩], varP kPl b1 ⟨x4, 0⟩, ownP kMv x4 [⟨2, x1, 0, Sl.nil⟩, ⟨1, Sl.nil, 0, x3⟩, ⟨3, Sl.nil, 0, Sl.nil⟩]] := ((S13.front 6 rfl).tail.front 5 rfl |> fun S => (S.front 6 rfl))
  have T2 : SS h h13 (rbagP (rA ++ rB) :: [schP q (AS.new 1).add.add [b1, b2], varP kPl b2 ⟨x6, 0⟩, ownP kMv x6 [⟨2, x1, 0, Sl.nil⟩, ⟨3, Sl.nil, 0, Sl.nil⟩, ⟨4, Sl.nil, 7, Sl.nil⟩], varP kPl b1 ⟨x4, 0⟩, ownP kMv x4 [⟨2, x1, 0, Sl.nil⟩, ⟨1, Sl.nil, 0, x3⟩, ⟨3, Sl.nil, 0, Sl.nil⟩]]) := by
    refine SG.two (P := ownP kLk x1 [⟨0, false⟩]) (Q := ownP (kI .i64) x3 [7]) (R := rbagP (rA ++ rB)) (fun g F1 F2 a b => ⟨fun r hr => ?_, fun b' hb => hb.elim (a.2 b') (b.2 b')⟩) T1
    have nl : Own kLk g (fun b => F1 b ∨ F2 b) Sl.nil [] := Own.nil _ _ _
    have nw : Own (kI .i64) g (fun b => F1 b ∨ F2 b) Sl.nil [] := Own.nil _ _ _
    have al := a.1.mono (G := fun b => F1 b ∨ F2 b) fun _ h => .inl h
    have bl := b.1.mono (G := fun b => F1 b ∨ F2 b) fun _ h => .inr h
    rw [hA, hB] at hr
    simp only [List.cons_append, List.nil_append, List.mem_cons, List.not_mem_nil, or_false] at hr
    rcases hr with rfl | rfl | rfl | rfl | rfl | rfl
    · exact ⟨al, nw⟩
    · exact ⟨nl, bl⟩
    · exact ⟨nl, nw⟩
    · exact ⟨al, nw⟩
    · exact ⟨nl, nw⟩
    · exact ⟨nl, nw⟩
  have T3 : SS h h13 (ownP kMv x4 (rA.map (·.v)) :: ownP kMv x6 (rB.map (·.v)) :: rbagP (rA ++ rB) :: [schP q (AS.new 1).add.add [b1, b2], varP kPl b2 ⟨x6, 0⟩, varP kPl b1 ⟨x4, 0⟩]) := by
    rw [hA, hB]
    rw [hA, hB] at T2
    exact (T2.front 3 rfl).front 5 rfl
  obtain ⟨X, hXd⟩ : ∃ X : HP, X = HP.all [ownP kMv x4 (rA.map (·.v)), ownP kMv x6 (rB.map (·.v)), rbagP (rA ++ rB)] := ⟨_, rfl⟩
  obtain ⟨L, hL⟩ : ∃ L : List PLY, L = [⟨b1, x4, 0, rA⟩, ⟨b2, x6, 0, rB⟩] := ⟨_, rfl⟩
  have hA3 : rA.length = 3 ∧ ∀ r ∈ rA, r.l.length ≤ 1 ∧ r.w.length ≤ 1 := by rw [hA]; simp
  have hB3 : rB.length = 3 ∧ ∀ r ∈ rB, r.l.length ≤ 1 ∧ r.w.length ≤ 1 := by rw [hB]; simp
  have hX : Xok X L := by
    intro g F p y hy
    rw [hXd] at p
    have Sx : SG F g g [ownP kMv x4 (rA.map (·.v)), ownP kMv x6 (rB.map (·.v)), rbagP (rA ++ rB)] := ⟨F, p, Frm.refl _ _⟩
    obtain ⟨F3, ⟨rb, _⟩, _⟩ := Sx.at 2 rfl
    rw [hL] at hy
    simp only [List.mem_cons, List.not_mem_nil, or_false] at hy
    rcases hy with rfl | rfl
    · exact ⟨ownP.rds Sx 0 rfl, fun r hr => (rb r (List.mem_append_left _ hr)).1.rds, fun r hr => (rb r (List.mem_append_left _ hr)).2.rds, by show rA.length ≤ _; omega, fun r hr => by have := hA3.2 r hr; omega⟩
    · exact ⟨ownP.rds Sx 1 rfl, fun r hr => (rb r (List.mem_append_right _ hr)).1.rds, fun r hr => (rb r (List.mem_append_right _ hr)).2.rds, by show rB.length ≤ _; omega, fun r hr => by have := hB3.2 r hr; omega⟩
  have T4 : SS h h13 (schP q (AS.new 1).add.add (L.map (·.b)) :: (cells L ++ (X :: []))) := by
    rw [hL, hXd]
    have U := SG.fold [ownP kMv x4 (rA.map (·.v)), ownP kMv x6 (rB.map (·.v)), rbagP (rA ++ rB)] T3
    exact ((U.rot.front 1 rfl).front 2 rfl).front 2 rfl
  have o : WS.Ok ((AS.new 1).add.add, L) 0 0 := ⟨ok1.add (by decide), by rw [hL]; rfl, fun p hp => by
    rw [hL] at hp
    simp only [List.mem_cons, List.not_mem_nil, or_false] at hp
    rcases hp with rfl | rfl <;> exact Nat.le_refl _⟩
  refine Pick_spec (N := 0) o (by decide) (by decide) hX 0 T4 (fun hz => absurd hz (by decide)) fun t ht hr h14 S14 => ?_
  have ht0 : t = 0 := by
    have e : (readyT (AS.new 1).add.add.ts)[pickI 0 (readyT (AS.new 1).add.add.ts).length]? = some 0 := by decide
    rw [e] at hr
    have := Option.some.inj hr
    omega
  subst ht0
  have hm0 : mvAtL L 0 = askM := by rw [hL, hA]; rfl
  have o2 := o.step (n := 0) (by show 0 < (AS.new 1).add.add.ts.length; decide)
  have e1 : WS.step ((AS.new 1).add.add, L) 0 = ((AS.new 1).add.add.step 0 askM, bump L 0) := by unfold WS.step; rw [hm0]
  rw [e1] at S14 o2
  refine Pick_spec (N := 1) o2 (by decide) (by decide) (hX.up 0) 1 S14 (fun hz => absurd hz (by decide)) fun t ht hr h15 S15 => ?_
  have ht1 : t = 1 := by
    have e : (readyT ((AS.new 1).add.add.step 0 askM).ts)[pickI 1 (readyT ((AS.new 1).add.add.step 0 askM).ts).length]? = some 1 := by decide
    rw [e] at hr
    have := Option.some.inj hr
    omega
  subst ht1
  have hm1 : mvAtL (bump L 0) 1 = askM := by rw [hL, hB]; rfl
  have o3 := o2.step (n := 1) (by show 1 < ((AS.new 1).add.add.step 0 askM).ts.length; decide)
  have e2 : WS.step ((AS.new 1).add.add.step 0 askM, bump L 0) 1 = (((AS.new 1).add.add.step 0 askM).step 1 askM, bump (bump L 0) 1) := by unfold WS.step; rw [hm1]
  rw [e2] at S15 o3
  have oA : (((AS.new 1).add.add.step 0 askM).step 1 askM).Ok 2 := o3.a
  have S15 : SS h h15 (schP q (((AS.new 1).add.add.step 0 askM).step 1 askM) ((bump (bump L 0) 1).map (·.b)) :: (cells (bump (bump L 0) 1) ++ (X :: []))) := S15
  refine jn_q (fun v h' => v = true ∧ Ext h h') (fun K hK => ite_t rfl (ite_t rfl (ite_t rfl (ite_t rfl (ite_t rfl (ite_t rfl ?_)))))) ?_
  · refine State_spec oA 0 S15 fun h16 S16 => ite_t (by decide) (State_spec oA 1 S16 fun h17 S17 => ite_t (by decide) (State_spec oA 2 S17 fun h18 S18 => ite_t (by decide) (Tasks_spec S18 fun h19 S19 => ?_)))
    exact hK _ _ ⟨by decide, SS.e S19⟩
  · rintro _ h16 ⟨rfl, e⟩
    exact k h16 e
end
end Go.Proofs.YtomngllmnhdmlaaGreat
/- spate/spatelaw12.ints, as a predicate over the heap, and that the code comes to it. Printed by gen.py. -/
namespace Go.Proofs.YtomngllmnhdmlaaGreat
open Go Go.Tr
set_option linter.unusedVariables false
set_option maxRecDepth 100000
set_option maxHeartbeats 400000
def spatelaw12_ints.b1 (p0 : Sl) (p1 : Sl) (s : Int) (h : H) (K : Int ⊕ (Unit ⊕ Bool) → H → Prop) : Prop :=
  if (decide (s < (p0.len : Int))) = true then
    rd (ixA 1 p0 s) fun q1 =>
    rd (ld (kI .i64) q1 h) fun x1 =>
    rd (ixA 1 p1 s) fun q2 =>
    rd (ld (kI .i64) q2 h) fun x2 =>
    if (x1 != x2) = true then
      K (.inr (.inr false)) h
    else
      K (.inl (IntKind.i64.wrap (s + 1))) h
  else
    K (.inr (.inl ())) h
/-- spate/spatelaw12.ints -/
def spatelaw12_ints (a0 : Sl) (a1 : Sl) (h : H) (Q : Bool → H → Prop) : Prop :=
  if ((a0.len : Int) != (a1.len : Int)) = true then
    Q false h
  else
    jn (fun (k1 : Unit → H → Prop) =>
      loopE (spatelaw12_ints.b1 a0 a1) 0 h (sumK (fun r1 hh => k1 r1 hh) (fun r2 hh => Q r2 hh))) fun s1 h1 =>
    Q true h1
theorem spatelaw12_ints.sound {a0 : Sl} {a1 : Sl} {h : H} {Q : Bool → H → Prop} (hF : spatelaw12_ints a0 a1 h Q) :
    CallsH Tryz.prog 29 (List.toArray (α := Value) [Sl.val a0, Sl.val a1]) h fun v h' => ∃ x : Bool, v = .bool x ∧ Q x h' := by
  refine CallsH.of_body Tryz.func29 rfl 26 rfl rfl ?_
  refine WP.seq ?_
  refine WP.region ?_
  refine EvK.pure (v := .bool false) (w_none rfl) rfl rfl (f_assign rfl rfl) ?_
  refine EvK.nil ?_
  refine WP.seq ?_
  refine WP.seq ?_
  refine WP.region ?_
  refine EvK.pure (v := Sl.val a0) (w_none rfl) rfl rfl (f_move rfl rfl) ?_
  refine EvK.pure (v := .int .i64 (a0.len : Int)) (w_none rfl) rfl rfl (f_lenL (s := a0) Tryz.underlying51 rfl rfl) ?_
  refine EvK.pure (v := Sl.val a1) (w_none rfl) rfl rfl (f_move rfl rfl) ?_
  refine EvK.pure (v := .int .i64 (a1.len : Int)) (w_none rfl) rfl rfl (f_lenL (s := a1) Tryz.underlying51 rfl rfl) ?_
  refine EvK.pure (v := .bool ((a0.len : Int) != (a1.len : Int))) (w_none rfl) rfl rfl (f_neq rfl rfl rfl) ?_
  refine EvK.nil ?_
  rcases ite_inv hF with ⟨c1, hF⟩ | ⟨c1, hF⟩
  · refine WP.cond_true _ rfl c1 ?_
    refine WP.seq ?_
    refine WP.region ?_
    refine EvK.pure (v := .bool false) (w_none rfl) rfl rfl (f_assign rfl rfl) ?_
    refine EvK.nil ?_
    refine WP.ret ?_
    exact Ret.mk (vs := [.bool false]) false ⟨rfl, trivial⟩ rfl hF
  · refine WP.cond_false _ rfl c1 ?_
    refine WP.skip ?_
    refine WP.joinF (fun (s1 : Unit) => []) hF ?_ ?_
    · intro s1 E0 h1 hF
      refine WP.seq ?_
      refine WP.region ?_
      refine EvK.pure (v := .bool true) (w_none rfl) rfl rfl (f_assign rfl rfl) ?_
      refine EvK.nil ?_
      refine WP.ret ?_
      exact Ret.mk (vs := [.bool true]) true ⟨rfl, trivial⟩ rfl hF
    · intro k1 hF
      refine WP.seq ?_
      refine WP.region ?_
      refine EvK.pure (v := .int .i64 0) (w_none rfl) rfl rfl (f_assign rfl rfl) ?_
      refine EvK.nil ?_
      refine WP.block ?_
      refine WP.loopF (fun (s2 : Int) => [(5, .int .i64 s2), (0, Sl.val a0), (1, Sl.val a1)]) hF ⟨rfl, rfl, rfl, trivial⟩ ?_
      intro k2 s2 E0 h2 hF
      refine WP.seq ?_
      refine WP.seq ?_
      refine WP.region ?_
      refine EvK.pure (v := .int .i64 s2) (w_none rfl) rfl rfl (f_move rfl rfl) ?_
      refine EvK.pure (v := Sl.val a0) (w_none rfl) rfl rfl (f_move rfl rfl) ?_
      refine EvK.pure (v := .int .i64 (a0.len : Int)) (w_none rfl) rfl rfl (f_lenL (s := a0) Tryz.underlying51 rfl rfl) ?_
      refine EvK.pure (v := .bool (decide (s2 < (a0.len : Int)))) (w_none rfl) rfl rfl (f_lss rfl rfl rfl) ?_
      refine EvK.nil ?_
      rcases ite_inv hF with ⟨c2, hF⟩ | ⟨c2, hF⟩
      · refine WP.cond_true _ rfl c2 ?_
        refine WP.skip ?_
        refine WP.seq ?_
        refine WP.block ?_
        refine WP.seq ?_
        refine WP.draw mixed [.pure, .pure, .pure, .read, .pure, .pure, .pure, .read, .pure] [[], [], [0, 1], [0, 1, 2], [], [], [4, 5], [4, 5, 6], [0, 1, 2, 3, 4, 5, 6, 7]] [0, 1, 2, 3, 4, 5, 6, 7, 8] (by kernel_rfl) (by kernel_rfl) ?_
        refine EvI.pure (v := Sl.val a0) rfl rfl (w_none rfl) rfl (f_move rfl rfl) ?_
        refine EvI.pure (v := .int .i64 s2) rfl rfl (w_none rfl) rfl (f_move rfl rfl) ?_
        obtain ⟨q1, hq1, hF⟩ := hF
        refine EvI.pure (v := .pointer (some q1)) rfl rfl (w_none rfl) rfl (f_indexAddr (s := a0) Tryz.underlying51 ty3.size rfl rfl rfl hq1) ?_
        obtain ⟨x1, hx1, hF⟩ := hF
        refine EvI.read (v := .int .i64 x1) rfl rfl (w_none rfl) rfl (f_load (kI .i64) ty3 rfl rfl hx1 rfl) ?_
        refine EvI.pure (v := Sl.val a1) rfl rfl (w_none rfl) rfl (f_move rfl rfl) ?_
        refine EvI.pure (v := .int .i64 s2) rfl rfl (w_none rfl) rfl (f_move rfl rfl) ?_
        obtain ⟨q2, hq2, hF⟩ := hF
        refine EvI.pure (v := .pointer (some q2)) rfl rfl (w_none rfl) rfl (f_indexAddr (s := a1) Tryz.underlying51 ty3.size rfl rfl rfl hq2) ?_
        obtain ⟨x2, hx2, hF⟩ := hF
        refine EvI.read (v := .int .i64 x2) rfl rfl (w_none rfl) rfl (f_load (kI .i64) ty3 rfl rfl hx2 rfl) ?_
        refine EvI.pure (v := .bool (x1 != x2)) rfl rfl (w_none rfl) rfl (f_neq rfl rfl rfl) ?_
        refine EvI.nil ?_
        rcases ite_inv hF with ⟨c3, hF⟩ | ⟨c3, hF⟩
        · refine WP.cond_true _ rfl c3 ?_
          refine WP.seq ?_
          refine WP.region ?_
          refine EvK.pure (v := .bool false) (w_none rfl) rfl rfl (f_assign rfl rfl) ?_
          refine EvK.nil ?_
          refine WP.ret ?_
          exact Ret.mk (vs := [.bool false]) false ⟨rfl, trivial⟩ rfl hF
        · refine WP.cond_false _ rfl c3 ?_
          refine WP.skip ?_
          refine WP.region ?_
          refine EvK.pure (v := .int .i64 s2) (w_none rfl) rfl rfl (f_move rfl rfl) ?_
          refine EvK.pure (v := .int .i64 (IntKind.i64.wrap (s2 + 1))) (w_none rfl) rfl rfl (f_add rfl rfl rfl) ?_
          refine EvK.pure (v := .int .i64 (IntKind.i64.wrap (s2 + 1))) (w_none rfl) rfl rfl (f_assign rfl rfl) ?_
          refine EvK.nil ?_
          exact KE.mk (IntKind.i64.wrap (s2 + 1)) ⟨rfl, rfl, rfl, trivial⟩ hF
      · refine WP.cond_false _ rfl c2 ?_
        refine WP.exit ?_
        exact KE.mk () trivial hF
end Go.Proofs.YtomngllmnhdmlaaGreat
/- A scheduler with its plays, as one part; its calls. -/
namespace Go.Proofs.YtomngllmnhdmlaaGreat
open Go Go.Tr
set_option linter.unusedVariables false
abbrev Act := S40
abbrev kAct : Kd Act := k40
theorem fa_k : Fld kAct (kI .i64) 0 (·.f0) (fun x v => { x with f0 := v }) := (Fld.whole (kI .i64)).fst.iso
theorem fa_n : Fld kAct (kI .i64) 1 (·.f1) (fun x v => { x with f1 := v }) := (Fld.whole (kI .i64)).snd.iso
def rOk (W : WS) : Prop := ∀ p ∈ W.2, rowsOk p.rows
def runL (q : Nat) (W : WS) (Rs : List HP) : List HP := schP q W.1 (W.2.map (·.b)) :: (cells W.2 ++ (mvsP (lm W.2) :: Rs))
def runP (q : Nat) (W : WS) : HP := HP.and (rOk W) (HP.all (schP q W.1 (W.2.map (·.b)) :: (cells W.2 ++ [mvsP (lm W.2)])))
section
variable {F0 : Nat → Prop} {h0 h : H} {q : Nat} {W : WS} {B N : Nat} {Rs Ps : List HP}
theorem run_un (S : SG F0 h0 h (runP q W :: Rs)) : rOk W ∧ SG F0 h0 h (runL q W Rs) := by
  obtain ⟨r, S⟩ := S.unand
  have S := S.flat
  refine ⟨r, ?_⟩
  unfold runL
  have e : (schP q W.1 (W.2.map (·.b)) :: (cells W.2 ++ [mvsP (lm W.2)])) ++ Rs = schP q W.1 (W.2.map (·.b)) :: (cells W.2 ++ (mvsP (lm W.2) :: Rs)) := by simp
  rw [e] at S; exact S
theorem run_re (r : rOk W) (S : SG F0 h0 h (runL q W Rs)) : SG F0 h0 h (runP q W :: Rs) := by
  unfold runL at S
  have e : (schP q W.1 (W.2.map (·.b)) :: (cells W.2 ++ [mvsP (lm W.2)])) ++ Rs = schP q W.1 (W.2.map (·.b)) :: (cells W.2 ++ (mvsP (lm W.2) :: Rs)) := by simp
  rw [← e] at S
  exact SG.toand r (SG.fold _ S)
theorem rOk_step (r : rOk W) (n : Nat) : rOk (W.step n) := fun p hp => by
  obtain ⟨y, hy, _, e⟩ := mem_bump hp
  rw [← e]; exact r y hy
theorem rOk_fold : ∀ (l : List Int) (w : WS × Nat), rOk w.1 → rOk (l.foldl rstep w).1
  | [], w, r => r
  | t :: l, w, r => by
    rw [List.foldl_cons]
    refine rOk_fold l _ ?_
    unfold rstep
    split
    · exact rOk_step r _
    · exact r
theorem lm_fold : ∀ (l : List Int) (w : WS × Nat), lm (l.foldl rstep w).1.2 = lm w.1.2
  | [], w => rfl
  | t :: l, w => by
    rw [List.foldl_cons, lm_fold l]
    unfold rstep
    split
    · exact lm_bump _ _
    · rfl
theorem run_pick (o : W.Ok B N) (hB : B ≤ 80000000) (hN : N ≤ 1000000000000) (n : Int) (S : SG F0 h0 h (runP q W :: Rs)) {Q : (Int × Bool) → H → Prop}
    (k0 : readyT W.1.ts = [] → ∀ h', SG F0 h0 h' (runP q W :: Rs) → Q (0, false) h')
    (k1 : ∀ t : Nat, t < W.2.length → (readyT W.1.ts)[pickI n (readyT W.1.ts).length]? = some (t : Int) → ∀ h', SG F0 h0 h' (runP q (W.step t) :: Rs) → Q ((t : Int), true) h') :
    sched_Sched_Pick (some ⟨q, 0, none⟩) n h Q := by
  obtain ⟨r, S⟩ := run_un S
  obtain ⟨A, L⟩ := W
  refine Pick_spec (X := mvsP (lm L)) o hB hN (mvs_ok r) n S (fun hz h' S' => k0 hz h' (run_re r S')) fun t ht hr h' S' => k1 t ht hr h' (run_re (rOk_step r t) ?_)
  unfold runL
  have e : lm (WS.step (A, L) t).2 = lm L := lm_bump L t
  rw [e]; exact S'
theorem run_round (o : W.Ok B N) (hB : B ≤ 79000000) (hN : N ≤ 900000000000) (S : SG F0 h0 h (runP q W :: Rs)) {Q : Int → H → Prop}
    (k : ∀ h', SG F0 h0 h' (runP q (roundW W).1 :: Rs) → Q ((roundW W).2 : Nat) h') : sched_Sched_Round (some ⟨q, 0, none⟩) h Q := by
  obtain ⟨r, S⟩ := run_un S
  obtain ⟨A, L⟩ := W
  refine Round_spec (X := mvsP (lm L)) o hB hN (mvs_ok r) S fun h' _ S' => k h' (run_re (rOk_fold _ _ r) ?_)
  unfold runL
  have e : lm (roundW (A, L)).1.2 = lm L := lm_fold _ _
  rw [e]; exact S'
def WS.wake (W : WS) (on : Int) : WS := (⟨W.1.m, wakeT W.1.ts on⟩, W.2)
theorem run_wake (o : W.Ok B N) (on : Int) (S : SG F0 h0 h (runP q W :: Rs)) {Q : Int → H → Prop} (k : ∀ h', SG F0 h0 h' (runP q (W.wake on) :: Rs) → Q (wakeN W.1.ts on : Nat) h') : sched_Sched_Wake (some ⟨q, 0, none⟩) on h Q := by
  obtain ⟨r, S⟩ := run_un S
  exact Wake_spec o.a on S fun h' S' => k h' (run_re (W := W.wake on) r S')
theorem run_ready (o : W.Ok B N) (S : SG F0 h0 h (runP q W :: Rs)) {Q : Sl → H → Prop} (k : ∀ s h', SG F0 h0 h' (ownP (kI .i64) s (readyT W.1.ts) :: runP q W :: Rs) → Q s h') : sched_Sched_Ready (some ⟨q, 0, none⟩) h Q := by
  obtain ⟨r, S⟩ := run_un S
  refine Ready_spec o.a S fun s h' S' => k s h' ?_
  have S' : SG F0 h0 h' (runL q W (ownP (kI .i64) s (readyT W.1.ts) :: Rs)) := by
    unfold runL
    refine S'.perm ?_
    have p1 : (ownP (kI .i64) s (readyT W.1.ts) :: (cells W.2 ++ (mvsP (lm W.2) :: Rs))).Perm (cells W.2 ++ (mvsP (lm W.2) :: ownP (kI .i64) s (readyT W.1.ts) :: Rs)) := List.perm_middle.symm.trans (List.Perm.append_left _ (List.Perm.swap _ _ _))
    exact (List.Perm.swap _ _ _).trans (p1.cons _)
  exact (run_re r S').swap
theorem run_state (o : W.Ok B N) (t : Int) (S : SG F0 h0 h (runP q W :: Rs)) {Q : Int → H → Prop} (k : ∀ h', SG F0 h0 h' (runP q W :: Rs) → Q (stAt W.1.ts t) h') : sched_Sched_State (some ⟨q, 0, none⟩) t h Q := by
  obtain ⟨r, S⟩ := run_un S
  exact State_spec o.a t S fun h' S' => k h' (run_re r S')
theorem run_fault (o : W.Ok B N) (t : Int) (S : SG F0 h0 h (runP q W :: Rs)) {Q : IF → H → Prop} (k : ∀ v h', SG F0 h0 h' (runP q W :: Rs) → ((flAt W.1.ts t = 0 ∧ v = none) ∨ (flAt W.1.ts t ≠ 0 ∧ v.isNone = false ∧ ErrIs v h' (flAt W.1.ts t))) → Q v h') : sched_Sched_Fault (some ⟨q, 0, none⟩) t h Q := by
  obtain ⟨r, S⟩ := run_un S
  exact Fault_spec o.a t S fun v h' S' hv => k v h' (run_re r S') hv
theorem run_tasks (S : SG F0 h0 h (runP q W :: Rs)) {Q : Int → H → Prop} (k : ∀ h', SG F0 h0 h' (runP q W :: Rs) → Q (W.1.ts.length : Nat) h') : sched_Sched_Tasks (some ⟨q, 0, none⟩) h Q := by
  obtain ⟨r, S⟩ := run_un S
  exact Tasks_spec S fun h' S' => k h' (run_re r S')
def WS.add (W : WS) (p : PLY) : WS := (W.1.add, W.2 ++ [p])
theorem WS.Ok.add {p : PLY} (o : W.Ok B N) (h : W.1.ts.length < 400) (hp : p.nx ≤ N) : (W.add p).Ok B N := by
  refine ⟨o.a.add h, ?_, fun y hy => ?_⟩
  · show (W.1.ts ++ [_]).length = (W.2 ++ [p]).length
    simp [o.l]
  · rcases List.mem_append.1 hy with hy | hy
    · exact o.x y hy
    · obtain rfl := List.mem_singleton.1 hy; exact hp
theorem rOk_add {p : PLY} (r : rOk W) (h : rowsOk p.rows) : rOk (W.add p) := fun y hy => by
  rcases List.mem_append.1 hy with hy | hy
  · exact r y hy
  · obtain rfl := List.mem_singleton.1 hy; exact h
theorem cells_append (L L' : List PLY) : cells (L ++ L') = cells L ++ cells L' := by unfold cells; rw [List.map_append]
theorem lm_append (L L' : List PLY) : lm (L ++ L') = lm L ++ lm L' := by unfold lm; rw [List.map_append]
/-- A play added. -/
theorem run_add (o : W.Ok B N) (hl : W.1.ts.length < 400) {b : Nat} {s : Sl} {rows : List MR} (hr : rowsOk rows) (S : SG F0 h0 h (varP kPl b ⟨s, 0⟩ :: ownP kMv s (rows.map (·.v)) :: rbagP rows :: runP q W :: Rs)) {Q : Int → H → Prop}
    (k : ∀ h', SG F0 h0 h' (runP q (W.add ⟨b, s, 0, rows⟩) :: Rs) → Q (W.1.ts.length : Nat) h') : sched_Sched_Add (some ⟨q, 0, none⟩) (some (tPlay, .pointer (some ⟨b, 0, none⟩))) h Q := by
  obtain ⟨r, S1⟩ := run_un (S.front 3 rfl)
  refine Add_spec o.a hl (b := b) S1 fun h' S2 => k h' (run_re (rOk_add r hr) ?_)
  have S2 : SG F0 h0 h' (schP q W.1.add (W.2.map (·.b) ++ [b]) :: (cells W.2 ++ (mvsP (lm W.2) :: varP kPl b ⟨s, 0⟩ :: ownP kMv s (rows.map (·.v)) :: rbagP rows :: Rs))) := S2
  have S3 : SG F0 h0 h' (ownP kMv s (rows.map (·.v)) :: rbagP rows :: mvsP (lm W.2) :: (varP kPl b ⟨s, 0⟩ :: schP q W.1.add (W.2.map (·.b) ++ [b]) :: (cells W.2 ++ Rs))) := by
    refine S2.perm ?_
    have p1 : (cells W.2 ++ (mvsP (lm W.2) :: varP kPl b ⟨s, 0⟩ :: ownP kMv s (rows.map (·.v)) :: rbagP rows :: Rs)).Perm (mvsP (lm W.2) :: varP kPl b ⟨s, 0⟩ :: ownP kMv s (rows.map (·.v)) :: rbagP rows :: (cells W.2 ++ Rs)) :=
      (List.perm_append_comm_assoc (cells W.2) [mvsP (lm W.2), varP kPl b ⟨s, 0⟩, ownP kMv s (rows.map fun r : MR => r.v), rbagP rows] Rs)
    refine (p1.cons _).trans ?_
    have p2 : (schP q W.1.add (W.2.map (·.b) ++ [b]) :: [mvsP (lm W.2), varP kPl b ⟨s, 0⟩, ownP kMv s (rows.map (·.v)), rbagP rows]).Perm [ownP kMv s (rows.map (·.v)), rbagP rows, mvsP (lm W.2), varP kPl b ⟨s, 0⟩, schP q W.1.add (W.2.map (·.b) ++ [b])] := by
      generalize schP q W.1.add (W.2.map (·.b) ++ [b]) = a
      generalize mvsP (lm W.2) = c
      generalize varP kPl b ⟨s, 0⟩ = d
      generalize ownP kMv s (rows.map (·.v)) = e
      generalize rbagP rows = f
      -- a c d e f  ~  e f c d a
      have q1 : [a, c, d, e, f].Perm ([e, f] ++ [a, c, d]) := List.perm_append_comm (l₁ := [a, c, d])
      have q2 : [a, c, d].Perm ([c, d] ++ [a]) := List.perm_append_comm (l₁ := [a])
      exact q1.trans (List.Perm.append_left [e, f] q2)
    exact p2.append_right (cells W.2 ++ Rs)
  have S4 := mvsP.add S3
  unfold runL
  have e1 : (W.add ⟨b, s, 0, rows⟩).2.map (·.b) = W.2.map (·.b) ++ [b] := by unfold WS.add; rw [List.map_append]; rfl
  have e2 : cells (W.add ⟨b, s, 0, rows⟩).2 = cells W.2 ++ [varP kPl b ⟨s, 0⟩] := by unfold WS.add; rw [cells_append]; rfl
  have e3 : lm (W.add ⟨b, s, 0, rows⟩).2 = lm W.2 ++ [(s, rows)] := by unfold WS.add; rw [lm_append]; rfl
  rw [e1, e2, e3]
  refine S4.perm ?_
  generalize mvsP (lm W.2 ++ [(s, rows)]) = m
  generalize varP kPl b ⟨s, 0⟩ = v
  have p1 : (m :: v :: schP q W.1.add (W.2.map (·.b) ++ [b]) :: (cells W.2 ++ Rs)).Perm (schP q W.1.add (W.2.map (·.b) ++ [b]) :: ([v, m] ++ (cells W.2 ++ Rs))) := by
    have q1 : (m :: v :: [schP q W.1.add (W.2.map (·.b) ++ [b])]).Perm (schP q W.1.add (W.2.map (·.b) ++ [b]) :: [v, m]) := by
      generalize schP q W.1.add (W.2.map (·.b) ++ [b]) = a
      exact (List.perm_append_comm (l₁ := [m, v]) (l₂ := [a])).trans ((List.Perm.swap v m []).cons a)
    exact q1.append_right (cells W.2 ++ Rs)
  refine p1.trans (List.Perm.cons _ ?_)
  have p2 := List.perm_append_comm_assoc [v, m] (cells W.2) Rs
  rw [List.append_assoc]
  exact p2
theorem run_new {n : Int} (S : SG F0 h0 h Rs) {Q : Option Addr × Int → H → Prop} (bad : n < 1 ∨ n > 1024 → Q (none, 1) h) (good : 1 ≤ n → n ≤ 1024 → ∀ q h', SG F0 h0 h' (runP q (AS.new n.toNat, []) :: Rs) → Q (some ⟨q, 0, none⟩, 0) h') : sched_New n h Q := by
  refine New_spec S bad fun g1 g2 q h' S' => good g1 g2 q h' (run_re (fun p hp => absurd hp (by simp)) ?_)
  exact (mvsP.nil S').swap
theorem new_ok {n : Int} (g1 : 1 ≤ n) (g2 : n ≤ 1024) : WS.Ok (AS.new n.toNat, []) 0 0 := ⟨AS.Ok.new (by omega) (by omega), rfl, by simp⟩
/-- How often a play's step was called. -/
theorem run_nx (S : SG F0 h0 h Ps) (i : Nat) (hi : Ps[i]? = some (runP q W)) {t : Nat} (ht : t < W.2.length) : ld (kI .i64) ⟨W.2[t].b, 1, none⟩ h = some (W.2[t].nx : Int) := by
  obtain ⟨_, S1⟩ := run_un (S.front i hi)
  unfold runL at S1
  refine varP.ld S1 fp_nx (1 + t) (x := ⟨W.2[t].sl, (W.2[t].nx : Int)⟩) ?_
  rw [Nat.add_comm, List.getElem?_cons_succ, List.getElem?_append_left (by unfold cells; simpa using ht)]
  unfold cells
  rw [List.getElem?_map, List.getElem?_eq_getElem ht]; rfl
def WS.act (W : WS) (x : Act) : WS :=
  if x.f0 = 1 then (match (readyT W.1.ts)[pickI x.f1 (readyT W.1.ts).length]? with | some t => W.step t.toNat | none => W)
  else if x.f0 = 2 then (roundW W).1
  else if x.f0 = 3 then W.wake x.f1
  else W
theorem WS.Ok.wake (o : W.Ok B N) (on : Int) : (W.wake on).Ok B N := by
  have hl : (wakeT W.1.ts on).length = W.1.ts.length := by unfold wakeT; simp
  refine ⟨⟨o.a.m, fun c hc => ?_, by show (wakeT W.1.ts on).length ≤ 400; rw [hl]; exact o.a.n⟩, by show (wakeT W.1.ts on).length = _; rw [hl]; exact o.l, o.x⟩
  obtain ⟨n, h1, h2⟩ := o.a.t c hc
  exact ⟨n, h1, by show n < (wakeT W.1.ts on).length; omega⟩
theorem WS.Ok.round (o : W.Ok B N) : (roundW W).1.Ok (B + 400) (N + 400) := by
  have h1 := rfold_ok (readyT W.1.ts) (W, 0) B N o
  have h2 : (readyT W.1.ts).length ≤ W.1.ts.length := readyTo_len _ _
  have := o.a.n
  exact h1.mono (by omega) (by omega)
theorem ready_get {ts : List TK} {n : Int} {t : Int} (h : (readyT ts)[pickI n (readyT ts).length]? = some t) : ∃ k : Nat, t = k ∧ k < ts.length := by
  obtain ⟨k, e, hk, _⟩ := readyT_mem (List.mem_of_getElem? h)
  exact ⟨k, e, hk⟩
theorem WS.Ok.act (o : W.Ok B N) (x : Act) : (W.act x).Ok (B + 400) (N + 400) := by
  unfold WS.act
  split
  · split
    · rename_i t ht
      obtain ⟨k, rfl, hk⟩ := ready_get ht
      exact (o.step hk).mono (by omega) (by omega)
    · exact o.mono (by omega) (by omega)
  · split
    · exact o.round
    · split
      · exact (o.wake _).mono (by omega) (by omega)
      · exact o.mono (by omega) (by omega)
theorem pick_none {ts : List TK} {n : Int} (hz : readyT ts = []) : (readyT ts)[pickI n (readyT ts).length]? = none := by rw [hz]; rfl
end
theorem ints_spec {h : H} {s t : Sl} {xs : List Int} (R : Rds (kI .i64) h s xs) (R2 : Rds (kI .i64) h t xs) (hl : xs.length < 4611686018427387904) {Q : Bool → H → Prop} (k : Q true h) : spatelaw12_ints s t h Q := by
  unfold spatelaw12_ints
  have h1 := R.len
  have h2 := R2.len
  refine ite_f (by rw [h1, h2]; simp) (jn_i ?_)
  refine for0 (mk := fun (_ : Unit) i => i) (s := ()) (n := xs.length) hl (fun j _ h' => h' = h) rfl (fun j _ h' K hj e next done => ?_) (fun _ h' K e done => ?_)
  · subst e
    unfold spatelaw12_ints.b1
    exact ite_t (by rw [h1]; exact clt_t hj) (R.elt0 hj rfl (R2.elt0 hj rfl (ite_f (by simp) (next () _ rfl))))
  · subst e
    unfold spatelaw12_ints.b1
    exact ite_f (by rw [h1]; exact clt_f (Nat.lt_irrefl _)) (done _ _ k)
end Go.Proofs.YtomngllmnhdmlaaGreat
/- What the caller hands, read: a slice's elements as a list, in the heap at the call and in every later heap that keeps it; no slice longer than a process's memory. -/
namespace Go.Proofs.YtomngllmnhdmlaaGreat
open Go Go.Tr
set_option linter.unusedVariables false

abbrev Fits {T : Type} (P : Program) (t : TypeId) (x : DataW T) : Prop := ∀ n ∈ x.weights P t, n ≤ reachBytes
/-- A Go type's cells, as the row reads them, are the kind's. -/
structure Opens (P : Program) (t : TypeId) {α : Type} (K : Kd α) (W : H → α → Prop) : Prop where
  out : ∀ {T : Type} {enc : TypeId × Value → T} {w : World} {base : Nat} {sp : Nat → Bool} {held : Bool} {fuel : Nat} {cs : List Value} {x : DataW T × List MemPlace}, DataW.trod enc P w base sp held fuel t cs = some x → Fits P t x.1 → ∃ y, K.dec cs = some y ∧ W w.heap y
structure OpensF (P : Program) (fs : List Field) (off total : Nat) {α : Type} (K : Kd α) (W : H → α → Prop) : Prop where
  out : ∀ {T : Type} {enc : TypeId × Value → T} {w : World} {base : Nat} {sp : Nat → Bool} {held : Bool} {n : Nat} {cs : List Value}, cs.length = total →
    (∀ f ∈ fs, ∃ x, DataW.trod enc P w base sp held n f.type ((cs.drop f.offset).take (P.cellsOf f.type)) = some x ∧ Fits P f.type x.1) → ∃ y, K.dec (cs.drop off) = some y ∧ W w.heap y
section
variable {P : Program} {α β : Type} {t : TypeId}
theorem opens_int {k : IntKind} (ht : P.underlying t = some (.int k)) : Opens P t (kI k) (fun _ n => (Lit.int k n).wf = true) := by
  refine ⟨?_⟩
  intro T enc w base sp held fuel cs x h _
  obtain ⟨n, rfl, _, hw⟩ := DataW.trod_int ht h
  exact ⟨n, (kI k).full n, hw⟩
theorem opens_bool (ht : P.underlying t = some .bool) : Opens P t kB (fun _ _ => True) := by
  refine ⟨?_⟩
  intro T enc w base sp held fuel cs x h _
  obtain ⟨n, rfl, _⟩ := DataW.trod_bool ht h
  exact ⟨n, kB.full n, trivial⟩
theorem opens_string (ht : P.underlying t = some .string) : Opens P t kS (fun _ s => s.size ≤ reachBytes) := by
  refine ⟨?_⟩
  intro T enc w base sp held fuel cs x h hx
  obtain ⟨n, rfl, rfl, hl⟩ := DataW.trod_string ht h
  exact ⟨n, kS.full n, hx _ (by simp [DataW.weights])⟩
theorem opensF_last {f : Field} {off total : Nat} {K : Kd α} {W : H → α → Prop} (h : Opens P f.type K W) (ho : f.offset = off) (hc : P.cellsOf f.type = K.n) (ht : off + K.n = total) : OpensF P [f] off total K W := by
  refine ⟨?_⟩
  intro T enc w base sp held n cs hl hx
  obtain ⟨x, hx, hf⟩ := hx f (by simp)
  rw [ho, hc, List.take_of_length_le (by simp; omega)] at hx
  exact h.out hx hf
theorem opensF_cons {f : Field} {fs : List Field} {off total : Nat} {A : Kd α} {B : Kd β} {WA : H → α → Prop} {WB : H → β → Prop} (h : Opens P f.type A WA) (ho : f.offset = off) (hc : P.cellsOf f.type = A.n) (r : OpensF P fs (off + A.n) total B WB) :
    OpensF P (f :: fs) off total (kPair A B) (fun h x => WA h x.1 ∧ WB h x.2) := by
  refine ⟨?_⟩
  intro T enc w base sp held n cs hl hx
  obtain ⟨x, hx1, hf⟩ := hx f (by simp)
  rw [ho, hc] at hx1
  obtain ⟨y, hy, wy⟩ := h.out hx1 hf
  obtain ⟨z, hz, wz⟩ := r.out hl (fun g hg => hx g (List.mem_cons_of_mem _ hg))
  refine ⟨(y, z), ?_, wy, wz⟩
  show ((A.dec ((cs.drop off).take A.n)).bind fun a => (B.dec ((cs.drop off).drop A.n)).map fun b => (a, b)) = _
  rw [hy, List.drop_drop, hz]; rfl
theorem opens_struct {fs : Array Field} {total : Nat} {A : Kd α} {W : H → α → Prop} {f : β → α} {g : α → β} {h1 : ∀ x, g (f x) = x} {h2 : ∀ y, f (g y) = y} {W' : H → β → Prop} (hW : ∀ h y, W h (f y) → W' h y) (ht : P.underlying t = some (.struct fs)) (hc : P.cellsOf t = total) (r : OpensF P fs.toList 0 total A W) :
    Opens P t (kIso A f g h1 h2) W' := by
  refine ⟨?_⟩
  intro T enc w base sp held fuel cs x h hF
  obtain ⟨xs, n, _, rfl, hl, hs, hx⟩ := DataW.trod_struct ht h
  obtain ⟨y, hy, wy⟩ := r.out (by rw [hl, hc]) (w := w) (enc := enc) (base := base) (sp := sp) (held := held) (n := n) (cs := cs) (fun f hf => by
    obtain ⟨i, hi, e⟩ := List.getElem_of_mem hf
    have hi' : i < fs.size := by simpa using hi
    have e' : fs[i]? = some f := by rw [Array.getElem?_eq_getElem hi']; simp at e; rw [e]
    have := hx i f e'
    rw [this]
    refine ⟨_, List.getElem?_eq_getElem (by omega), fun m hm => hF m ?_⟩
    simp only [DataW.weights, ht]
    exact DataW.weights_mem_each (j := i) (by simp [e']) (by simp [List.getElem?_eq_getElem (show i < xs.length by omega)]) m hm)
  refine ⟨g y, ?_, hW _ _ (by rw [h2]; exact wy)⟩
  show (A.dec cs).map g = _
  rw [List.drop_zero] at hy
  rw [hy]; rfl
end
theorem weights_mem_all {T : Type} {P : Program} {e : TypeId} : ∀ {ds : List (DataW T)} {d : DataW T}, d ∈ ds → ∀ n ∈ d.weights P e, n ∈ DataW.weightsAll P e ds
  | [], _, h, _, _ => by cases h
  | x :: ds, d, h, n, hn => by
    simp only [DataW.weightsAll, List.mem_append]
    rcases List.mem_cons.1 h with rfl | h
    · exact .inl hn
    · exact .inr (weights_mem_all h n hn)
/-- The slice that a caller hands. -/
theorem opens_slice {P : Program} {T : Type} {enc : TypeId × Value → T} {w : World} {base : Nat} {sp : Nat → Bool} {held : Bool} {fuel : Nat} {t e : TypeId} {cs : List Value} {x : DataW T × List MemPlace} {α : Type} {K : Kd α} {W : H → α → Prop}
    (ht : P.underlying t = some (.slice e)) (hc : P.cellsOf e = K.n) (o : Opens P e K W) (h : DataW.trod enc P w base sp held fuel t cs = some x) (hF : Fits P t x.1) :
    ∃ (s : Sl) (xs : List α), cs = [Sl.val s] ∧ Rds K w.heap s xs ∧ (∀ y ∈ xs, W w.heap y) ∧ xs.length * P.bytesOf e ≤ reachBytes ∧ (x.1 = .nil ∧ xs = [] ∨ ∃ es rs, x.1 = .slice es rs ∧ es.length = xs.length) := by
  rcases DataW.trod_slice ht h with ⟨rfl, rfl⟩ | ⟨a, len, cap, es, rs, n, _, rfl, rfl, hb, hl, hm, hel, hx, _⟩
  · exact ⟨Sl.nil, [], rfl, Rds.nil none 0, by simp, by simp, .inl ⟨rfl, rfl⟩⟩
  · have hw : ∀ m ∈ ((es.map (·.1)).length * P.bytesOf e + (rs.map (·.1)).length * P.bytesOf e) :: (DataW.weightsAll P e (es.map (·.1)) ++ DataW.weightsAll P e (rs.map (·.1))), m ≤ reachBytes := by
      intro m hm
      refine hF m ?_
      simp only [DataW.weights, ht]
      rw [Nat.add_mul]; exact hm
    have each : ∀ i, i < len → ∃ y, ld K (a.add (i * K.n)) w.heap = some y ∧ W w.heap y := by
      intro i hi
      have h1 := hx i hi
      rw [List.getElem?_eq_getElem (by omega), hc] at h1
      obtain ⟨cs', h2, h3⟩ := Option.bind_eq_some_iff.1 h1
      obtain ⟨_, h4, h5⟩ := World.cells?_some h2
      obtain ⟨y, hy, wy⟩ := o.out h3 (fun m hm => hw m (List.mem_cons_of_mem _ (List.mem_append_left _ (weights_mem_all (List.mem_map_of_mem (List.getElem_mem _)) m hm))))
      refine ⟨y, ?_, wy⟩
      unfold ld rdCells
      rw [rdFrom_of w.heap _ K.n 0 cs' h4 (fun j hj => by rw [Nat.zero_add]; exact h5 j hj)]
      exact hy
    obtain ⟨ys, hys, hy⟩ : ∃ ys : List α, ys.length = len ∧ ∀ (i : Nat) (hi : i < ys.length), ld K (a.add (i * K.n)) w.heap = some ys[i] ∧ W w.heap ys[i] := by
      refine ⟨List.ofFn (fun i : Fin len => (each i.1 i.2).choose), by simp, fun i hi => ?_⟩
      rw [List.getElem_ofFn]
      exact (each i (by simpa using hi)).choose_spec
    refine ⟨⟨some a, len, cap⟩, ys, rfl, ⟨hys.symm, hl, fun i hi => ⟨a, rfl, (hy i hi).1⟩⟩, fun y h => ?_, ?_, .inr ⟨_, _, rfl, by simp; omega⟩⟩
    · obtain ⟨i, hi, rfl⟩ := List.getElem_of_mem h
      exact (hy i hi).2
    · have := hw _ List.mem_cons_self
      rw [List.length_map, hel, ← hys] at this
      omega
/-- A slice inside of what a caller hands. -/
def SlW {α : Type} (K : Kd α) (W : H → α → Prop) (b : Nat) (h : H) (s : Sl) : Prop := ∃ xs : List α, Rds K h s xs ∧ (∀ y ∈ xs, W h y) ∧ xs.length * b ≤ reachBytes
theorem opens_sl {P : Program} {t e : TypeId} {α : Type} {K : Kd α} {W : H → α → Prop} {b : Nat} (ht : P.underlying t = some (.slice e)) (hc : P.cellsOf e = K.n) (hb : P.bytesOf e = b) (o : Opens P e K W) : Opens P t kL (SlW K W b) := by
  refine ⟨?_⟩
  intro T enc w base sp held fuel cs x h hF
  obtain ⟨s, xs, rfl, R, hW, hl, _⟩ := opens_slice ht hc o h hF
  rw [hb] at hl
  exact ⟨s, kL.full s, xs, R, hW, hl⟩
/-- What the rows weigh of an argument. -/
theorem fits_of {T : Type} {P : Program} {ts : List TypeId} {ds : List (DataW T)} (h : (DataW.weightsEach P ts ds).all (· ≤ reachBytes) = true) (j : Nat) {t : TypeId} {d : DataW T} (ht : ts[j]? = some t) (hd : ds[j]? = some d) : Fits P t d :=
  fun n hn => by simpa using List.all_eq_true.1 h n (DataW.weights_mem_each ht hd n hn)
end Go.Proofs.YtomngllmnhdmlaaGreat
/- What the caller hands; two runs alike; a play added for each task. -/
namespace Go.Proofs.YtomngllmnhdmlaaGreat
open Go Go.Tr
set_option linter.unusedVariables false
def wMv (h : H) (v : Mv) : Prop := (∃ l : List Lk, Rds kLk h v.f1 l ∧ (∀ y ∈ l, True) ∧ l.length * 16 ≤ reachBytes) ∧ (∃ w : List Int, Rds (kI .i64) h v.f3 w ∧ (∀ y ∈ w, (Lit.int .i64 y).wf = true) ∧ w.length * 8 ≤ reachBytes)
def wTask (h : H) (s : Sl) : Prop := SlW kMv wMv 64 h s
theorem opLk : Opens Tryz.prog 49 kLk (fun _ _ => True) :=
  opens_struct (total := 2) (fun h y w => trivial) Tryz.underlying49 (by kernel_rfl) (opensF_cons (opens_int Tryz.underlying3) rfl (by kernel_rfl) (opensF_last (opens_bool Tryz.underlying4) rfl (by kernel_rfl) rfl))
theorem opLks : Opens Tryz.prog 50 kL (SlW kLk (fun _ _ => True) 16) := opens_sl Tryz.underlying50 (by kernel_rfl) (by kernel_rfl) opLk
theorem opInts : Opens Tryz.prog 51 kL (SlW (kI .i64) (fun _ n => (Lit.int .i64 n).wf = true) 8) := opens_sl Tryz.underlying51 (by kernel_rfl) (by kernel_rfl) (opens_int Tryz.underlying3)
theorem opMv : Opens Tryz.prog 53 kMv wMv :=
  opens_struct (total := 4) (fun h y w => by obtain ⟨_, a, _, b⟩ := w; exact ⟨a, b⟩) Tryz.underlying53 (by kernel_rfl) (opensF_cons (opens_int Tryz.underlying3) rfl (by kernel_rfl) (opensF_cons opLks rfl (by kernel_rfl) (opensF_cons (opens_int Tryz.underlying3) rfl (by kernel_rfl) (opensF_last opInts rfl (by kernel_rfl) rfl))))
theorem opTask : Opens Tryz.prog 34 kL wTask := opens_sl Tryz.underlying34 (by kernel_rfl) (by kernel_rfl) opMv
theorem opAct : Opens Tryz.prog 41 kAct (fun _ _ => True) :=
  opens_struct (total := 2) (fun h y w => trivial) Tryz.underlying41 (by kernel_rfl) (opensF_cons (opens_int Tryz.underlying3) rfl (by kernel_rfl) (opensF_last (opens_int Tryz.underlying3) rfl (by kernel_rfl) rfl))
theorem rows_of : ∀ {h : H} (xs : List Mv), (∀ y ∈ xs, wMv h y) → ∃ rows : List MR, rows.map (·.v) = xs ∧ ∀ r ∈ rows, Rds kLk h r.v.f1 r.l ∧ Rds (kI .i64) h r.v.f3 r.w ∧ r.l.length * 16 ≤ reachBytes ∧ r.w.length * 8 ≤ reachBytes
  | h, [], _ => ⟨[], rfl, by simp⟩
  | h, x :: xs, hx => by
    obtain ⟨rows, e, hr⟩ := rows_of xs fun y hy => hx y (List.mem_cons_of_mem _ hy)
    obtain ⟨⟨l, a, _, b⟩, w, c, _, d⟩ := hx x List.mem_cons_self
    refine ⟨⟨x, l, w⟩ :: rows, by rw [List.map_cons, e], fun r hr' => ?_⟩
    rcases List.mem_cons.1 hr' with rfl | hr'
    · exact ⟨a, c, b, d⟩
    · exact hr r hr'
/-- A task that the caller hands, as rows. -/
structure TRd (h : H) (s : Sl) (rows : List MR) : Prop where
  m : MvRd h s rows
  n : rows.length ≤ 2199023255488
  b : ∀ r ∈ rows, r.l.length ≤ 8796093022076 ∧ r.w.length ≤ 17592186044152
theorem task_rows {h : H} {s : Sl} (w : wTask h s) : ∃ rows, TRd h s rows := by
  obtain ⟨xs, R, hw, hl⟩ := w
  obtain ⟨rows, rfl, hr⟩ := rows_of xs hw
  unfold reachBytes at hl hr
  rw [List.length_map] at hl
  refine ⟨rows, ⟨R, fun r hr' => (hr r hr').1, fun r hr' => (hr r hr').2.1, by omega, fun r hr' => ?_⟩, by omega, fun r hr' => ?_⟩
  · have := hr r hr'; omega
  · have := hr r hr'; omega
/-- What of a play the scheduler sees. -/
def PLY.ab (p : PLY) : Nat × List MV := (p.nx, p.rows.map MR.mv)
def abMv (x : Nat × List MV) : MV := x.2.getD x.1 endR.mv
theorem mv_ab (p : PLY) : p.mv = abMv p.ab := by
  unfold PLY.mv curR abMv PLY.ab
  simp only [List.getD_eq_getElem?_getD, List.getElem?_map]
  cases p.rows[p.nx]? <;> rfl
def Same (V W : WS) : Prop := V.1 = W.1 ∧ V.2.map PLY.ab = W.2.map PLY.ab
theorem Same.mv {V W : WS} (s : Same V W) (n : Nat) : mvAtL V.2 n = mvAtL W.2 n := by
  have h : (V.2.map PLY.ab)[n]? = (W.2.map PLY.ab)[n]? := by rw [s.2]
  rw [List.getElem?_map, List.getElem?_map] at h
  unfold mvAtL
  cases hv : V.2[n]? with
  | none => rw [hv] at h; cases hw : W.2[n]? with
    | none => rfl
    | some y => rw [hw] at h; cases h
  | some x => rw [hv] at h; cases hw : W.2[n]? with
    | none => rw [hw] at h; cases h
    | some y =>
      rw [hw] at h
      have h : x.ab = y.ab := by simpa using h
      simp only
      rw [mv_ab, mv_ab, h]
theorem bump_ab (L : List PLY) (n : Nat) : (bump L n).map PLY.ab = (L.map PLY.ab).modify n fun x => (x.1 + 1, x.2) := by
  apply List.ext_getElem?
  intro i
  rw [List.getElem?_map, bump_at, List.getElem?_modify, List.getElem?_map]
  by_cases c : n = i
  · simp only [c, if_true]; cases L[i]? <;> rfl
  · simp [c]
theorem Same.step {V W : WS} (s : Same V W) (n : Nat) : Same (V.step n) (W.step n) := by
  refine ⟨?_, ?_⟩
  · show V.1.step n (mvAtL V.2 n) = W.1.step n (mvAtL W.2 n)
    rw [s.1, s.mv]
  · show (bump V.2 n).map PLY.ab = (bump W.2 n).map PLY.ab
    rw [bump_ab, bump_ab, s.2]
theorem Same.rst {v w : WS × Nat} (s : Same v.1 w.1) (e : v.2 = w.2) (t : Int) : Same (rstep v t).1 (rstep w t).1 ∧ (rstep v t).2 = (rstep w t).2 := by
  unfold rstep
  rw [s.1, e]
  split
  · exact ⟨s.step _, rfl⟩
  · exact ⟨s, e⟩
theorem Same.fold : ∀ (l : List Int) (v w : WS × Nat), Same v.1 w.1 → v.2 = w.2 → Same (l.foldl rstep v).1 (l.foldl rstep w).1 ∧ (l.foldl rstep v).2 = (l.foldl rstep w).2
  | [], v, w, s, e => ⟨s, e⟩
  | t :: l, v, w, s, e => by
    rw [List.foldl_cons, List.foldl_cons]
    have := s.rst e t
    exact Same.fold l _ _ this.1 this.2
theorem Same.round {V W : WS} (s : Same V W) : Same (roundW V).1 (roundW W).1 ∧ (roundW V).2 = (roundW W).2 := by
  unfold roundW
  rw [s.1]
  exact Same.fold _ _ _ s rfl
theorem Same.wake {V W : WS} (s : Same V W) (on : Int) : Same (V.wake on) (W.wake on) := ⟨by unfold WS.wake; rw [s.1], s.2⟩
theorem Same.act {V W : WS} (s : Same V W) (x : Act) : Same (V.act x) (W.act x) := by
  unfold WS.act
  rw [s.1]
  split
  · split
    · exact s.step _
    · exact s
  · split
    · exact s.round.1
    · split
      · exact s.wake _
      · exact s
theorem Same.add {V W : WS} (s : Same V W) {p p' : PLY} (e : p.ab = p'.ab) : Same (V.add p) (W.add p') := by
  refine ⟨by show V.1.add = W.1.add; rw [s.1], ?_⟩
  show (V.2 ++ [p]).map PLY.ab = (W.2 ++ [p']).map PLY.ab
  simp [s.2, e]
section
variable {h0 h : H} {q : Nat} {W : WS} {B N : Nat} {Ps Rs : List HP}
theorem rows_ok {rows rows0 : List MR} (e : rows.map MR.mv = rows0.map MR.mv) {h : H} {s : Sl} (T : TRd h s rows0) : rowsOk rows := by
  have hl : rows.length = rows0.length := by have := congrArg List.length e; simpa using this
  refine ⟨by have := T.n; omega, fun r hr => ?_⟩
  obtain ⟨i, hi, rfl⟩ := List.getElem_of_mem hr
  have hi' : i < rows0.length := by omega
  have h1 : (rows.map MR.mv)[i]? = (rows0.map MR.mv)[i]? := by rw [e]
  rw [List.getElem?_map, List.getElem?_map, List.getElem?_eq_getElem hi, List.getElem?_eq_getElem hi'] at h1
  have h2 : rows[i].mv = rows0[i].mv := by simpa using h1
  have h3 := T.b _ (List.getElem_mem hi')
  have h4 : rows[i].l = rows0[i].l := congrArg MV.l h2
  have h5 : rows[i].w = rows0[i].w := congrArg MV.w h2
  rw [h4, h5]; omega
/-- A play made of a task. -/
theorem play_new {src : Sl} {rows0 : List MR} (T : TRd h0 src rows0) (S : SS h0 h Ps) {Q : Sl → H → Prop}
    (k : ∀ s rows h', rows.map MR.mv = rows0.map MR.mv → rowsOk rows → SS h0 h' (ownP kMv s (rows.map (·.v)) :: rbagP rows :: Ps) → Q s h') : spatelaw12_twin src h Q :=
  twin_spec T.m (by have := T.n; omega) (fun r hr => by have := T.b r hr; omega) S fun s rows h' e S' => k s rows h' e (rows_ok e T) S'
end
end Go.Proofs.YtomngllmnhdmlaaGreat
/- spate/spateref11.conflict, as a predicate over the heap, and that the code comes to it. Printed by gen.py. -/
namespace Go.Proofs.YtomngllmnhdmlaaGreat
open Go Go.Tr
set_option linter.unusedVariables false
set_option maxRecDepth 100000
set_option maxHeartbeats 400000
def spateref11_conflict.b2 (p2 : Addr) (p3 : Addr) (p5 : Int) (s : Int) (h : H) (K : Int ⊕ (Unit ⊕ Bool) → H → Prop) : Prop :=
  rd (ld kL (p3.add 1) h) fun x2 =>
  if (decide (s < (x2.len : Int))) = true then
    jn (fun (k3 : Bool → H → Prop) =>
      rd (ld kL (p2.add 1) h) fun x3 =>
      rd (ixA 2 x3 p5) fun q3 =>
      rd (ld (kI .i64) (q3.add 0) h) fun x4 =>
      rd (ld kL (p3.add 1) h) fun x5 =>
      rd (ixA 2 x5 s) fun q4 =>
      rd (ld (kI .i64) (q4.add 0) h) fun x6 =>
      if (x4 == x6) = true then
        rd (ld kL (p2.add 1) h) fun x7 =>
        rd (ixA 2 x7 p5) fun q5 =>
        rd (ld kB (q5.add 1) h) fun x8 =>
        if x8 = true then
          rd (ld kL (p3.add 1) h) fun x9 =>
          rd (ixA 2 x9 s) fun q6 =>
          rd (ld kB (q6.add 1) h) fun x10 =>
          k3 (!x10) h
        else
          k3 (!false) h
      else
        k3 false h) fun s3 h5 =>
    if s3 = true then
      K (.inr (.inr true)) h5
    else
      K (.inl (IntKind.i64.wrap (s + 1))) h5
  else
    K (.inr (.inl ())) h
def spateref11_conflict.b1 (p2 : Addr) (p3 : Addr) (s : Int) (h : H) (K : Int ⊕ (Unit ⊕ Bool) → H → Prop) : Prop :=
  rd (ld kL (p2.add 1) h) fun x1 =>
  if (decide (s < (x1.len : Int))) = true then
    jn (fun (k2 : Unit → H → Prop) =>
      loopE (spateref11_conflict.b2 p2 p3 s) 0 h (sumK (fun r1 hh => k2 r1 hh) (fun r2 hh => K (.inr (.inr r2)) hh))) fun s2 h4 =>
    K (.inl (IntKind.i64.wrap (s + 1))) h4
  else
    K (.inr (.inl ())) h
/-- spate/spateref11.conflict -/
def spateref11_conflict (a0 : S149) (a1 : S149) (h : H) (Q : Bool → H → Prop) : Prop :=
  al 150 (k149.enc a0) h fun q1 h1 =>
  al 150 (k149.enc a1) h1 fun q2 h2 =>
  jn (fun (k1 : Unit → H → Prop) =>
    loopE (spateref11_conflict.b1 q1 q2) 0 h2 (sumK (fun r3 hh => k1 r3 hh) (fun r4 hh => Q r4 hh))) fun s1 h3 =>
  Q false h3
theorem spateref11_conflict.sound {a0 : S149} {a1 : S149} {h : H} {Q : Bool → H → Prop} (hF : spateref11_conflict a0 a1 h Q) :
    CallsH Tryz.prog 82 (List.toArray (α := Value) [k149.val a0, k149.val a1]) h fun v h' => ∃ x : Bool, v = .bool x ∧ Q x h' := by
  refine CallsH.of_body Tryz.func82 rfl 51 rfl rfl ?_
  refine WP.seq ?_
  refine WP.region ?_
  refine EvK.alloc (w_none rfl) rfl rfl (f_boxF (v := k149.val a0) rfl rfl rfl hF) ?_
  rintro _ h1 ⟨q1, rfl, hF⟩
  refine EvK.alloc (w_none rfl) rfl rfl (f_boxF (v := k149.val a1) rfl rfl rfl hF) ?_
  rintro _ h2 ⟨q2, rfl, hF⟩
  refine EvK.pure (v := .bool false) (w_none rfl) rfl rfl (f_assign rfl rfl) ?_
  refine EvK.nil ?_
  refine WP.joinF (fun (s1 : Unit) => []) hF ?_ ?_
  · intro s1 E0 h3 hF
    refine WP.seq ?_
    refine WP.region ?_
    refine EvK.pure (v := .bool false) (w_none rfl) rfl rfl (f_assign rfl rfl) ?_
    refine EvK.nil ?_
    refine WP.ret ?_
    exact Ret.mk (vs := [.bool false]) false ⟨rfl, trivial⟩ rfl hF
  · intro k1 hF
    refine WP.seq ?_
    refine WP.region ?_
    refine EvK.pure (v := .int .i64 0) (w_none rfl) rfl rfl (f_assign rfl rfl) ?_
    refine EvK.nil ?_
    refine WP.block ?_
    refine WP.loopF (fun (s2 : Int) => [(5, .int .i64 s2), (2, .pointer (some q1)), (3, .pointer (some q2))]) hF ⟨rfl, rfl, rfl, trivial⟩ ?_
    intro k2 s2 E0 h4 hF
    refine WP.seq ?_
    refine WP.seq ?_
    refine WP.region ?_
    refine EvK.pure (v := .int .i64 s2) (w_none rfl) rfl rfl (f_move rfl rfl) ?_
    refine EvK.pure (v := .pointer (some (q1.add 1))) (w_none rfl) rfl rfl (f_fieldAddr fd150_1 rfl rfl) ?_
    obtain ⟨x1, hx1, hF⟩ := hF
    refine EvK.read (v := Sl.val x1) (w_none rfl) rfl rfl (f_load kL ty50 rfl rfl hx1 rfl) ?_
    refine EvK.pure (v := .int .i64 (x1.len : Int)) (w_none rfl) rfl rfl (f_lenL (s := x1) Tryz.underlying50 rfl rfl) ?_
    refine EvK.pure (v := .bool (decide (s2 < (x1.len : Int)))) (w_none rfl) rfl rfl (f_lss rfl rfl rfl) ?_
    refine EvK.nil ?_
    rcases ite_inv hF with ⟨c1, hF⟩ | ⟨c1, hF⟩
    · refine WP.cond_true _ rfl c1 ?_
      refine WP.skip ?_
      refine WP.joinF (fun (s3 : Unit) => [(2, .pointer (some q1)), (3, .pointer (some q2)), (5, .int .i64 s2)]) hF ?_ ?_
      · intro s3 E0 h5 hF
        refine WP.region ?_
        refine EvK.pure (v := .int .i64 s2) (w_none rfl) rfl rfl (f_move rfl rfl) ?_
        refine EvK.pure (v := .int .i64 (IntKind.i64.wrap (s2 + 1))) (w_none rfl) rfl rfl (f_add rfl rfl rfl) ?_
        refine EvK.pure (v := .int .i64 (IntKind.i64.wrap (s2 + 1))) (w_none rfl) rfl rfl (f_assign rfl rfl) ?_
        refine EvK.nil ?_
        exact KE.mk (IntKind.i64.wrap (s2 + 1)) ⟨rfl, rfl, rfl, trivial⟩ hF
      · intro k3 hF
        refine WP.block ?_
        refine WP.seq ?_
        refine WP.region ?_
        refine EvK.pure (v := .int .i64 0) (w_none rfl) rfl rfl (f_assign rfl rfl) ?_
        refine EvK.nil ?_
        refine WP.block ?_
        refine WP.loopF (fun (s4 : Int) => [(6, .int .i64 s4), (2, .pointer (some q1)), (3, .pointer (some q2)), (5, .int .i64 s2)]) hF ⟨rfl, rfl, rfl, rfl, trivial⟩ ?_
        intro k4 s4 E0 h6 hF
        refine WP.seq ?_
        refine WP.seq ?_
        refine WP.region ?_
        refine EvK.pure (v := .int .i64 s4) (w_none rfl) rfl rfl (f_move rfl rfl) ?_
        refine EvK.pure (v := .pointer (some (q2.add 1))) (w_none rfl) rfl rfl (f_fieldAddr fd150_1 rfl rfl) ?_
        obtain ⟨x2, hx2, hF⟩ := hF
        refine EvK.read (v := Sl.val x2) (w_none rfl) rfl rfl (f_load kL ty50 rfl rfl hx2 rfl) ?_
        refine EvK.pure (v := .int .i64 (x2.len : Int)) (w_none rfl) rfl rfl (f_lenL (s := x2) Tryz.underlying50 rfl rfl) ?_
        refine EvK.pure (v := .bool (decide (s4 < (x2.len : Int)))) (w_none rfl) rfl rfl (f_lss rfl rfl rfl) ?_
        refine EvK.nil ?_
        rcases ite_inv hF with ⟨c2, hF⟩ | ⟨c2, hF⟩
        · refine WP.cond_true _ rfl c2 ?_
          refine WP.skip ?_
          refine WP.seq ?_
          refine WP.block ?_
          refine WP.joinF (fun (s5 : Bool) => [(50, .bool s5), (2, .pointer (some q1)), (3, .pointer (some q2)), (5, .int .i64 s2), (6, .int .i64 s4)]) hF ?_ ?_
          · intro s5 E0 h7 hF
            rcases ite_inv hF with ⟨c3, hF⟩ | ⟨c3, hF⟩
            · refine WP.cond_true _ rfl c3 ?_
              refine WP.seq ?_
              refine WP.region ?_
              refine EvK.pure (v := .bool true) (w_none rfl) rfl rfl (f_assign rfl rfl) ?_
              refine EvK.nil ?_
              refine WP.ret ?_
              exact Ret.mk (vs := [.bool true]) true ⟨rfl, trivial⟩ rfl hF
            · refine WP.cond_false _ rfl c3 ?_
              refine WP.skip ?_
              refine WP.region ?_
              refine EvK.pure (v := .int .i64 s4) (w_none rfl) rfl rfl (f_move rfl rfl) ?_
              refine EvK.pure (v := .int .i64 (IntKind.i64.wrap (s4 + 1))) (w_none rfl) rfl rfl (f_add rfl rfl rfl) ?_
              refine EvK.pure (v := .int .i64 (IntKind.i64.wrap (s4 + 1))) (w_none rfl) rfl rfl (f_assign rfl rfl) ?_
              refine EvK.nil ?_
              exact KE.mk (IntKind.i64.wrap (s4 + 1)) ⟨rfl, rfl, rfl, rfl, trivial⟩ hF
          · intro k5 hF
            refine WP.draw mixed [.pure, .read, .pure, .pure, .pure, .read, .pure, .read, .pure, .pure, .pure, .read, .pure, .pure, .pure, .read, .pure, .pure, .pure, .read, .pure, .pure, .read, .pure, .pure, .pure, .read, .pure, .pure, .pure] [[], [0], [], [0, 1, 2], [0, 1, 2, 3], [0, 1, 2, 3, 4], [], [6], [], [6, 7, 8], [6, 7, 8, 9], [6, 7, 8, 9, 10], [0, 1, 2, 3, 4, 5, 6, 7, 8, 9, 10, 11], [0, 1, 2, 3, 4, 5, 6, 7, 8, 9, 10, 11, 12], [0, 1, 2, 3, 4, 5, 6, 7, 8, 9, 10, 11, 12, 13], [0, 1, 2, 3, 4, 5, 6, 7, 8, 9, 10, 11, 12, 13, 14], [0, 1, 2, 3, 4, 5, 6, 7, 8, 9, 10, 11, 12, 13], [0, 1, 2, 3, 4, 5, 6, 7, 8, 9, 10, 11, 12, 13, 14, 15, 16], [0, 1, 2, 3, 4, 5, 6, 7, 8, 9, 10, 11, 12, 13, 14, 15, 16, 17], [0, 1, 2, 3, 4, 5, 6, 7, 8, 9, 10, 11, 12, 13, 14, 15, 16, 17, 18], [0, 1, 2, 3, 4, 5, 6, 7, 8, 9, 10, 11, 12, 13, 14, 15, 16, 17, 18, 19], [0, 1, 2, 3, 4, 5, 6, 7, 8, 9, 10, 11, 12, 13, 14, 15, 16, 17, 18, 19, 20], [0, 1, 2, 3, 4, 5, 6, 7, 8, 9, 10, 11, 12, 13, 14, 15, 16, 17, 18, 19, 20, 21], [0, 1, 2, 3, 4, 5, 6, 7, 8, 9, 10, 11, 12, 13, 14, 15, 16, 17, 18, 19, 20], [0, 1, 2, 3, 4, 5, 6, 7, 8, 9, 10, 11, 12, 13, 14, 15, 16, 17, 18, 19, 20, 21, 22, 23], [0, 1, 2, 3, 4, 5, 6, 7, 8, 9, 10, 11, 12, 13, 14, 15, 16, 17, 18, 19, 20, 21, 22, 23, 24], [0, 1, 2, 3, 4, 5, 6, 7, 8, 9, 10, 11, 12, 13, 14, 15, 16, 17, 18, 19, 20, 21, 22, 23, 24, 25], [0, 1, 2, 3, 4, 5, 6, 7, 8, 9, 10, 11, 12, 13, 14, 15, 16, 17, 18, 19, 20, 21, 22, 23, 24, 25, 26], [0, 1, 2, 3, 4, 5, 6, 7, 8, 9, 10, 11, 12, 13, 14, 15, 16, 17, 18, 19, 20, 21, 22, 23, 24, 25, 26, 27], [0, 1, 2, 3, 4, 5, 6, 7, 8, 9, 10, 11, 12, 13, 14, 15, 16, 17, 18, 19, 20, 21, 22, 23, 24, 25, 26, 27, 28]] [0, 1, 2, 3, 4, 5, 6, 7, 8, 9, 10, 11, 12, 13, 14, 15, 16, 17, 18, 19, 20, 21, 22, 23, 24, 25, 26, 27, 28, 29] (by kernel_rfl) (by kernel_rfl) ?_
            refine EvI.pure (v := .pointer (some (q1.add 1))) rfl rfl (w_none rfl) rfl (f_fieldAddr fd150_1 rfl rfl) ?_
            obtain ⟨x3, hx3, hF⟩ := hF
            refine EvI.read (v := Sl.val x3) rfl rfl (w_none rfl) rfl (f_load kL ty50 rfl rfl hx3 rfl) ?_
            refine EvI.pure (v := .int .i64 s2) rfl rfl (w_none rfl) rfl (f_move rfl rfl) ?_
            obtain ⟨q3, hq1, hF⟩ := hF
            refine EvI.pure (v := .pointer (some q3)) rfl rfl (w_none rfl) rfl (f_indexAddr (s := x3) Tryz.underlying50 ty49.size rfl rfl rfl hq1) ?_
            refine EvI.pure (v := .pointer (some (q3.add 0))) rfl rfl (w_none rfl) rfl (f_fieldAddr fd49_0 rfl rfl) ?_
            obtain ⟨x4, hx4, hF⟩ := hF
            refine EvI.read (v := .int .i64 x4) rfl rfl (w_none rfl) rfl (f_load (kI .i64) ty3 rfl rfl hx4 rfl) ?_
            refine EvI.pure (v := .pointer (some (q2.add 1))) rfl rfl (w_none rfl) rfl (f_fieldAddr fd150_1 rfl rfl) ?_
            obtain ⟨x5, hx5, hF⟩ := hF
            refine EvI.read (v := Sl.val x5) rfl rfl (w_none rfl) rfl (f_load kL ty50 rfl rfl hx5 rfl) ?_
            refine EvI.pure (v := .int .i64 s4) rfl rfl (w_none rfl) rfl (f_move rfl rfl) ?_
            obtain ⟨q4, hq2, hF⟩ := hF
            refine EvI.pure (v := .pointer (some q4)) rfl rfl (w_none rfl) rfl (f_indexAddr (s := x5) Tryz.underlying50 ty49.size rfl rfl rfl hq2) ?_
            refine EvI.pure (v := .pointer (some (q4.add 0))) rfl rfl (w_none rfl) rfl (f_fieldAddr fd49_0 rfl rfl) ?_
            obtain ⟨x6, hx6, hF⟩ := hF
            refine EvI.read (v := .int .i64 x6) rfl rfl (w_none rfl) rfl (f_load (kI .i64) ty3 rfl rfl hx6 rfl) ?_
            refine EvI.pure (v := .bool (x4 == x6)) rfl rfl (w_none rfl) rfl (f_eql rfl rfl rfl) ?_
            refine EvI.pure (v := .bool (x4 == x6)) rfl rfl (w_none rfl) rfl (f_move rfl rfl) ?_
            rcases ite_inv hF with ⟨c4, hF⟩ | ⟨c4, hF⟩
            · refine EvI.pure (v := .pointer (some (q1.add 1))) rfl rfl (w_some rfl rfl c4) rfl (f_fieldAddr fd150_1 rfl rfl) ?_
              obtain ⟨x7, hx7, hF⟩ := hF
              refine EvI.read (v := Sl.val x7) rfl rfl (w_some rfl rfl c4) rfl (f_load kL ty50 rfl rfl hx7 rfl) ?_
              refine EvI.pure (v := .int .i64 s2) rfl rfl (w_some rfl rfl c4) rfl (f_move rfl rfl) ?_
              obtain ⟨q5, hq3, hF⟩ := hF
              refine EvI.pure (v := .pointer (some q5)) rfl rfl (w_some rfl rfl c4) rfl (f_indexAddr (s := x7) Tryz.underlying50 ty49.size rfl rfl rfl hq3) ?_
              refine EvI.pure (v := .pointer (some (q5.add 1))) rfl rfl (w_some rfl rfl c4) rfl (f_fieldAddr fd49_1 rfl rfl) ?_
              obtain ⟨x8, hx8, hF⟩ := hF
              refine EvI.read (v := .bool x8) rfl rfl (w_some rfl rfl c4) rfl (f_load kB ty4 rfl rfl hx8 rfl) ?_
              refine EvI.pure (v := .bool x8) rfl rfl (w_some rfl rfl c4) rfl (f_move rfl rfl) ?_
              rcases ite_inv hF with ⟨c5, hF⟩ | ⟨c5, hF⟩
              · refine EvI.pure (v := .pointer (some (q2.add 1))) rfl rfl (w_some rfl rfl c5) rfl (f_fieldAddr fd150_1 rfl rfl) ?_
                obtain ⟨x9, hx9, hF⟩ := hF
                refine EvI.read (v := Sl.val x9) rfl rfl (w_some rfl rfl c5) rfl (f_load kL ty50 rfl rfl hx9 rfl) ?_
                refine EvI.pure (v := .int .i64 s4) rfl rfl (w_some rfl rfl c5) rfl (f_move rfl rfl) ?_
                obtain ⟨q6, hq4, hF⟩ := hF
                refine EvI.pure (v := .pointer (some q6)) rfl rfl (w_some rfl rfl c5) rfl (f_indexAddr (s := x9) Tryz.underlying50 ty49.size rfl rfl rfl hq4) ?_
                refine EvI.pure (v := .pointer (some (q6.add 1))) rfl rfl (w_some rfl rfl c5) rfl (f_fieldAddr fd49_1 rfl rfl) ?_
                obtain ⟨x10, hx10, hF⟩ := hF
                refine EvI.read (v := .bool x10) rfl rfl (w_some rfl rfl c5) rfl (f_load kB ty4 rfl rfl hx10 rfl) ?_
                refine EvI.pure (v := .bool x10) rfl rfl (w_some rfl rfl c4) rfl (f_pickT rfl rfl c5 rfl) ?_
                refine EvI.pure (v := .bool (!x10)) rfl rfl (w_some rfl rfl c4) rfl (f_not rfl rfl) ?_
                refine EvI.pure (v := .bool (!x10)) rfl rfl (w_none rfl) rfl (f_pickT rfl rfl c4 rfl) ?_
                refine EvI.nil ?_
                exact KE.mk (!x10) ⟨rfl, rfl, rfl, rfl, rfl, trivial⟩ hF
              · refine EvI.not rfl (w_not rfl rfl c5) rfl ?_
                refine EvI.not rfl (w_not rfl rfl c5) rfl ?_
                refine EvI.not rfl (w_not rfl rfl c5) rfl ?_
                refine EvI.not rfl (w_not rfl rfl c5) rfl ?_
                refine EvI.not rfl (w_not rfl rfl c5) rfl ?_
                refine EvI.not rfl (w_not rfl rfl c5) rfl ?_
                refine EvI.pure (v := .bool false) rfl rfl (w_some rfl rfl c4) rfl (f_pickF rfl rfl c5 rfl) ?_
                refine EvI.pure (v := .bool (!false)) rfl rfl (w_some rfl rfl c4) rfl (f_not rfl rfl) ?_
                refine EvI.pure (v := .bool (!false)) rfl rfl (w_none rfl) rfl (f_pickT rfl rfl c4 rfl) ?_
                refine EvI.nil ?_
                exact KE.mk (!false) ⟨rfl, rfl, rfl, rfl, rfl, trivial⟩ hF
            · refine EvI.not rfl (w_not rfl rfl c4) rfl ?_
              refine EvI.not rfl (w_not rfl rfl c4) rfl ?_
              refine EvI.not rfl (w_not rfl rfl c4) rfl ?_
              refine EvI.not rfl (w_not rfl rfl c4) rfl ?_
              refine EvI.not rfl (w_not rfl rfl c4) rfl ?_
              refine EvI.not rfl (w_not rfl rfl c4) rfl ?_
              refine EvI.not rfl (w_not rfl rfl c4) rfl ?_
              refine EvI.not rfl (w_undef rfl rfl) rfl ?_
              refine EvI.not rfl (w_undef rfl rfl) rfl ?_
              refine EvI.not rfl (w_undef rfl rfl) rfl ?_
              refine EvI.not rfl (w_undef rfl rfl) rfl ?_
              refine EvI.not rfl (w_undef rfl rfl) rfl ?_
              refine EvI.not rfl (w_undef rfl rfl) rfl ?_
              refine EvI.not rfl (w_not rfl rfl c4) rfl ?_
              refine EvI.not rfl (w_not rfl rfl c4) rfl ?_
              refine EvI.pure (v := .bool false) rfl rfl (w_none rfl) rfl (f_pickF rfl rfl c4 rfl) ?_
              refine EvI.nil ?_
              exact KE.mk false ⟨rfl, rfl, rfl, rfl, rfl, trivial⟩ hF
        · refine WP.cond_false _ rfl c2 ?_
          refine WP.exit ?_
          exact KE.mk () ⟨rfl, rfl, rfl, trivial⟩ hF
    · refine WP.cond_false _ rfl c1 ?_
      refine WP.exit ?_
      exact KE.mk () trivial hF
end Go.Proofs.YtomngllmnhdmlaaGreat
/- spate/spateref11.conflicts, as a predicate over the heap, and that the code comes to it. Printed by gen.py. -/
namespace Go.Proofs.YtomngllmnhdmlaaGreat
open Go Go.Tr
set_option linter.unusedVariables false
set_option maxRecDepth 100000
set_option maxHeartbeats 400000
def spateref11_conflicts.b1 (p0 : Sl) (p3 : Addr) (s : Int) (h : H) (K : Int ⊕ (Unit ⊕ Bool) → H → Prop) : Prop :=
  if (decide (s < (p0.len : Int))) = true then
    rd (ixA 2 p0 s) fun q2 =>
    rd (ld k149 q2 h) fun x1 =>
    rd (ld k149 p3 h) fun x2 =>
    spateref11_conflict x1 x2 h fun r1 h3 =>
    if r1 = true then
      K (.inr (.inr true)) h3
    else
      K (.inl (IntKind.i64.wrap (s + 1))) h3
  else
    K (.inr (.inl ())) h
/-- spate/spateref11.conflicts -/
def spateref11_conflicts (a0 : Sl) (a1 : S149) (h : H) (Q : Bool → H → Prop) : Prop :=
  al 150 (k149.enc a1) h fun q1 h1 =>
  jn (fun (k1 : Unit → H → Prop) =>
    loopE (spateref11_conflicts.b1 a0 q1) 0 h1 (sumK (fun r2 hh => k1 r2 hh) (fun r3 hh => Q r3 hh))) fun s1 h2 =>
  Q false h2
theorem spateref11_conflicts.sound {a0 : Sl} {a1 : S149} {h : H} {Q : Bool → H → Prop} (hF : spateref11_conflicts a0 a1 h Q) :
    CallsH Tryz.prog 79 (List.toArray (α := Value) [Sl.val a0, k149.val a1]) h fun v h' => ∃ x : Bool, v = .bool x ∧ Q x h' := by
  refine CallsH.of_body Tryz.func79 rfl 18 rfl rfl ?_
  refine WP.seq ?_
  refine WP.region ?_
  refine EvK.alloc (w_none rfl) rfl rfl (f_boxF (v := k149.val a1) rfl rfl rfl hF) ?_
  rintro _ h1 ⟨q1, rfl, hF⟩
  refine EvK.pure (v := .bool false) (w_none rfl) rfl rfl (f_assign rfl rfl) ?_
  refine EvK.nil ?_
  refine WP.joinF (fun (s1 : Unit) => []) hF ?_ ?_
  · intro s1 E0 h2 hF
    refine WP.seq ?_
    refine WP.region ?_
    refine EvK.pure (v := .bool false) (w_none rfl) rfl rfl (f_assign rfl rfl) ?_
    refine EvK.nil ?_
    refine WP.ret ?_
    exact Ret.mk (vs := [.bool false]) false ⟨rfl, trivial⟩ rfl hF
  · intro k1 hF
    refine WP.seq ?_
    refine WP.region ?_
    refine EvK.pure (v := .int .i64 0) (w_none rfl) rfl rfl (f_assign rfl rfl) ?_
    refine EvK.nil ?_
    refine WP.block ?_
    refine WP.loopF (fun (s2 : Int) => [(5, .int .i64 s2), (0, Sl.val a0), (3, .pointer (some q1))]) hF ⟨rfl, rfl, rfl, trivial⟩ ?_
    intro k2 s2 E0 h3 hF
    refine WP.seq ?_
    refine WP.seq ?_
    refine WP.region ?_
    refine EvK.pure (v := .int .i64 s2) (w_none rfl) rfl rfl (f_move rfl rfl) ?_
    refine EvK.pure (v := Sl.val a0) (w_none rfl) rfl rfl (f_move rfl rfl) ?_
    refine EvK.pure (v := .int .i64 (a0.len : Int)) (w_none rfl) rfl rfl (f_lenL (s := a0) Tryz.underlying91 rfl rfl) ?_
    refine EvK.pure (v := .bool (decide (s2 < (a0.len : Int)))) (w_none rfl) rfl rfl (f_lss rfl rfl rfl) ?_
    refine EvK.nil ?_
    rcases ite_inv hF with ⟨c1, hF⟩ | ⟨c1, hF⟩
    · refine WP.cond_true _ rfl c1 ?_
      refine WP.skip ?_
      refine WP.seq ?_
      refine WP.block ?_
      refine WP.seq ?_
      refine WP.draw mixed [.pure, .pure, .pure, .read, .read, .eff []] [[], [], [0, 1], [0, 1, 2], [], [0, 1, 2, 3, 4]] [0, 1, 2, 3, 4, 5] (by kernel_rfl) (by kernel_rfl) ?_
      refine EvI.pure (v := Sl.val a0) rfl rfl (w_none rfl) rfl (f_move rfl rfl) ?_
      refine EvI.pure (v := .int .i64 s2) rfl rfl (w_none rfl) rfl (f_move rfl rfl) ?_
      obtain ⟨q2, hq1, hF⟩ := hF
      refine EvI.pure (v := .pointer (some q2)) rfl rfl (w_none rfl) rfl (f_indexAddr (s := a0) Tryz.underlying91 ty150.size rfl rfl rfl hq1) ?_
      obtain ⟨x1, hx1, hF⟩ := hF
      refine EvI.read (v := k149.val x1) rfl rfl (w_none rfl) rfl (f_load k149 ty150 rfl rfl hx1 rfl) ?_
      obtain ⟨x2, hx2, hF⟩ := hF
      refine EvI.read (v := k149.val x2) rfl rfl (w_none rfl) rfl (f_load k149 ty150 rfl rfl hx2 rfl) ?_
      refine EvI.call rfl rfl (w_none rfl) rfl (enterH Tryz.func82 rfl rfl rfl rfl (spateref11_conflict.sound hF)) ?_
      rintro _ h4 ⟨r1, rfl, hF⟩
      refine ⟨⟨chk_no rfl, chk_no rfl, trivial⟩, ?_⟩
      refine EvI.nil ?_
      rcases ite_inv hF with ⟨c2, hF⟩ | ⟨c2, hF⟩
      · refine WP.cond_true _ rfl c2 ?_
        refine WP.seq ?_
        refine WP.region ?_
        refine EvK.pure (v := .bool true) (w_none rfl) rfl rfl (f_assign rfl rfl) ?_
        refine EvK.nil ?_
        refine WP.ret ?_
        exact Ret.mk (vs := [.bool true]) true ⟨rfl, trivial⟩ rfl hF
      · refine WP.cond_false _ rfl c2 ?_
        refine WP.skip ?_
        refine WP.region ?_
        refine EvK.pure (v := .int .i64 s2) (w_none rfl) rfl rfl (f_move rfl rfl) ?_
        refine EvK.pure (v := .int .i64 (IntKind.i64.wrap (s2 + 1))) (w_none rfl) rfl rfl (f_add rfl rfl rfl) ?_
        refine EvK.pure (v := .int .i64 (IntKind.i64.wrap (s2 + 1))) (w_none rfl) rfl rfl (f_assign rfl rfl) ?_
        refine EvK.nil ?_
        exact KE.mk (IntKind.i64.wrap (s2 + 1)) ⟨rfl, rfl, rfl, trivial⟩ hF
    · refine WP.cond_false _ rfl c1 ?_
      refine WP.exit ?_
      exact KE.mk () trivial hF
end Go.Proofs.YtomngllmnhdmlaaGreat
/- spate/spateref11.find, as a predicate over the heap, and that the code comes to it. Printed by gen.py. -/
namespace Go.Proofs.YtomngllmnhdmlaaGreat
open Go Go.Tr
set_option linter.unusedVariables false
set_option maxRecDepth 100000
set_option maxHeartbeats 400000
def spateref11_find.b1 (p0 : Sl) (p1 : Int) (s : Int) (h : H) (K : Int ⊕ (Unit ⊕ Int) → H → Prop) : Prop :=
  if (decide (s < (p0.len : Int))) = true then
    rd (ixA 2 p0 s) fun q1 =>
    rd (ld (kI .i64) (q1.add 0) h) fun x1 =>
    if (x1 == p1) = true then
      K (.inr (.inr s)) h
    else
      K (.inl (IntKind.i64.wrap (s + 1))) h
  else
    K (.inr (.inl ())) h
/-- spate/spateref11.find -/
def spateref11_find (a0 : Sl) (a1 : Int) (h : H) (Q : Int → H → Prop) : Prop :=
  jn (fun (k1 : Unit → H → Prop) =>
    loopE (spateref11_find.b1 a0 a1) 0 h (sumK (fun r1 hh => k1 r1 hh) (fun r2 hh => Q r2 hh))) fun s1 h1 =>
  Q (-1) h1
theorem spateref11_find.sound {a0 : Sl} {a1 : Int} {h : H} {Q : Int → H → Prop} (hF : spateref11_find a0 a1 h Q) :
    CallsH Tryz.prog 78 (List.toArray (α := Value) [Sl.val a0, .int .i64 a1]) h fun v h' => ∃ x : Int, v = .int .i64 x ∧ Q x h' := by
  refine CallsH.of_body Tryz.func78 rfl 20 rfl rfl ?_
  refine WP.seq ?_
  refine WP.region ?_
  refine EvK.pure (v := .int .i64 0) (w_none rfl) rfl rfl (f_assign rfl rfl) ?_
  refine EvK.nil ?_
  refine WP.joinF (fun (s1 : Unit) => []) hF ?_ ?_
  · intro s1 E0 h1 hF
    refine WP.seq ?_
    refine WP.region ?_
    refine EvK.pure (v := .int .i64 (-1)) (w_none rfl) rfl rfl (f_assign rfl rfl) ?_
    refine EvK.nil ?_
    refine WP.ret ?_
    exact Ret.mk (vs := [.int .i64 (-1)]) (-1) ⟨rfl, trivial⟩ rfl hF
  · intro k1 hF
    refine WP.seq ?_
    refine WP.region ?_
    refine EvK.pure (v := .int .i64 0) (w_none rfl) rfl rfl (f_assign rfl rfl) ?_
    refine EvK.nil ?_
    refine WP.block ?_
    refine WP.loopF (fun (s2 : Int) => [(5, .int .i64 s2), (0, Sl.val a0), (1, .int .i64 a1)]) hF ⟨rfl, rfl, rfl, trivial⟩ ?_
    intro k2 s2 E0 h2 hF
    refine WP.seq ?_
    refine WP.seq ?_
    refine WP.region ?_
    refine EvK.pure (v := .int .i64 s2) (w_none rfl) rfl rfl (f_move rfl rfl) ?_
    refine EvK.pure (v := Sl.val a0) (w_none rfl) rfl rfl (f_move rfl rfl) ?_
    refine EvK.pure (v := .int .i64 (a0.len : Int)) (w_none rfl) rfl rfl (f_lenL (s := a0) Tryz.underlying91 rfl rfl) ?_
    refine EvK.pure (v := .bool (decide (s2 < (a0.len : Int)))) (w_none rfl) rfl rfl (f_lss rfl rfl rfl) ?_
    refine EvK.nil ?_
    rcases ite_inv hF with ⟨c1, hF⟩ | ⟨c1, hF⟩
    · refine WP.cond_true _ rfl c1 ?_
      refine WP.skip ?_
      refine WP.seq ?_
      refine WP.block ?_
      refine WP.seq ?_
      refine WP.region ?_
      refine EvK.pure (v := Sl.val a0) (w_none rfl) rfl rfl (f_move rfl rfl) ?_
      refine EvK.pure (v := .int .i64 s2) (w_none rfl) rfl rfl (f_move rfl rfl) ?_
      obtain ⟨q1, hq1, hF⟩ := hF
      refine EvK.pure (v := .pointer (some q1)) (w_none rfl) rfl rfl (f_indexAddr (s := a0) Tryz.underlying91 ty150.size rfl rfl rfl hq1) ?_
      refine EvK.pure (v := .pointer (some (q1.add 0))) (w_none rfl) rfl rfl (f_fieldAddr fd150_0 rfl rfl) ?_
      obtain ⟨x1, hx1, hF⟩ := hF
      refine EvK.read (v := .int .i64 x1) (w_none rfl) rfl rfl (f_load (kI .i64) ty3 rfl rfl hx1 rfl) ?_
      refine EvK.pure (v := .int .i64 a1) (w_none rfl) rfl rfl (f_move rfl rfl) ?_
      refine EvK.pure (v := .bool (x1 == a1)) (w_none rfl) rfl rfl (f_eql rfl rfl rfl) ?_
      refine EvK.nil ?_
      rcases ite_inv hF with ⟨c2, hF⟩ | ⟨c2, hF⟩
      · refine WP.cond_true _ rfl c2 ?_
        refine WP.seq ?_
        refine WP.region ?_
        refine EvK.pure (v := .int .i64 s2) (w_none rfl) rfl rfl (f_move rfl rfl) ?_
        refine EvK.pure (v := .int .i64 s2) (w_none rfl) rfl rfl (f_assign rfl rfl) ?_
        refine EvK.nil ?_
        refine WP.ret ?_
        exact Ret.mk (vs := [.int .i64 s2]) s2 ⟨rfl, trivial⟩ rfl hF
      · refine WP.cond_false _ rfl c2 ?_
        refine WP.skip ?_
        refine WP.region ?_
        refine EvK.pure (v := .int .i64 s2) (w_none rfl) rfl rfl (f_move rfl rfl) ?_
        refine EvK.pure (v := .int .i64 (IntKind.i64.wrap (s2 + 1))) (w_none rfl) rfl rfl (f_add rfl rfl rfl) ?_
        refine EvK.pure (v := .int .i64 (IntKind.i64.wrap (s2 + 1))) (w_none rfl) rfl rfl (f_assign rfl rfl) ?_
        refine EvK.nil ?_
        exact KE.mk (IntKind.i64.wrap (s2 + 1)) ⟨rfl, rfl, rfl, trivial⟩ hF
    · refine WP.cond_false _ rfl c1 ?_
      refine WP.exit ?_
      exact KE.mk () trivial hF
end Go.Proofs.YtomngllmnhdmlaaGreat
/- (*spate/spateref11.Manager).ordered, as a predicate over the heap, and that the code comes to it. Printed by gen.py. -/
namespace Go.Proofs.YtomngllmnhdmlaaGreat
open Go Go.Tr
set_option linter.unusedVariables false
set_option maxRecDepth 100000
set_option maxHeartbeats 400000
def spateref11_Manager_ordered.b1 (p1 : Sl) (p6 : Sl) (s : Int) (h : H) (K : Int ⊕ (Unit ⊕ (Sl × Bool)) → H → Prop) : Prop :=
  if (decide (s < (p6.len : Int))) = true then
    rd (ixA 2 p6 s) fun q1 =>
    rd (ld (kI .i64) (q1.add 0) h) fun x1 =>
    rd (ixA 2 p6 (IntKind.i64.wrap (s - 1))) fun q2 =>
    rd (ld (kI .i64) (q2.add 0) h) fun x2 =>
    if (x1 == x2) = true then
      K (.inr (.inr (Sl.nil, false))) h
    else
      K (.inl (IntKind.i64.wrap (s + 1))) h
  else
    K (.inr (.inl ())) h
def spateref11_Manager_ordered.b3 (p0 : Option Addr) (p1 : Sl) (p7 : Int) (s : Sl × Int) (h : H) (K : (Sl × Int) ⊕ Sl → H → Prop) : Prop :=
  if (decide (s.2 < (p1.len : Int))) = true then
    jn (fun (k6 : Sl → H → Prop) =>
      rd (ixA 2 p1 s.2) fun q4 =>
      rd (ld (kI .i64) (q4.add 0) h) fun x4 =>
      if (x4 == p7) = true then
        rd (ixA 2 p1 s.2) fun q5 =>
        rd (ld k48 q5 h) fun x5 =>
        bs 49 1 (k48.enc x5) h fun x6 h7 =>
        ap k48.n 16 49 (k48.enc z48) s.1 x6 h7 fun x7 h8 =>
        k6 x7 h8
      else
        k6 s.1 h) fun s6 h6 =>
    K (.inl (s6, IntKind.i64.wrap (s.2 + 1))) h6
  else
    K (.inr s.1) h
def spateref11_Manager_ordered.b2 (p0 : Option Addr) (p1 : Sl) (s : Sl × Int) (h : H) (K : (Sl × Int) ⊕ Sl → H → Prop) : Prop :=
  rd p0 fun q3 =>
  rd (ld (kI .i64) (q3.add 0) h) fun x3 =>
  if (decide (s.2 < x3)) = true then
    jn (fun (k5 : Sl → H → Prop) =>
      loopE (spateref11_Manager_ordered.b3 p0 p1 s.2) (s.1, 0) h (fun r3 hh => k5 r3 hh)) fun s5 h5 =>
    K (.inl (s5, IntKind.i64.wrap (s.2 + 1))) h5
  else
    K (.inr s.1) h
/-- (*spate/spateref11.Manager).ordered -/
def spateref11_Manager_ordered (a0 : Option Addr) (a1 : Sl) (h : H) (Q : (Sl × Bool) → H → Prop) : Prop :=
  jn (fun (k1 : Sl → H → Prop) =>
    loopE (spateref11_Manager_ordered.b2 a0 a1) (Sl.nil, 0) h (fun r4 hh => k1 r4 hh)) fun s1 h1 =>
  jn (fun (k2 : Unit → H → Prop) =>
    loopE (spateref11_Manager_ordered.b1 a1 s1) 1 h1 (sumK (fun r1 hh => k2 r1 hh) (fun r2 hh => Q r2 hh))) fun s2 h2 =>
  jn (fun (k3 : (Sl × Bool) → H → Prop) =>
    if ((s1.len : Int) == (a1.len : Int)) = true then
      k3 (s1, decide ((a1.len : Int) > 0)) h2
    else
      k3 (s1, false) h2) fun s3 h3 =>
  Q (s3.1, s3.2) h3
theorem spateref11_Manager_ordered.sound {a0 : Option Addr} {a1 : Sl} {h : H} {Q : (Sl × Bool) → H → Prop} (hF : spateref11_Manager_ordered a0 a1 h Q) :
    CallsH Tryz.prog 77 (List.toArray (α := Value) [.pointer a0, Sl.val a1]) h fun v h' => ∃ x : Sl × Bool, v = .tuple #[Sl.val x.1, .bool x.2] ∧ Q x h' := by
  refine CallsH.of_body Tryz.func77 rfl 67 rfl rfl ?_
  refine WP.seq ?_
  refine WP.region ?_
  refine EvK.pure (v := Sl.val Sl.nil) (w_none rfl) rfl rfl (f_assign rfl rfl) ?_
  refine EvK.pure (v := .bool false) (w_none rfl) rfl rfl (f_assign rfl rfl) ?_
  refine EvK.nil ?_
  refine WP.seq ?_
  refine WP.region ?_
  refine EvK.pure (v := Sl.val Sl.nil) (w_none rfl) rfl rfl (f_assign rfl rfl) ?_
  refine EvK.nil ?_
  refine WP.joinF (fun (s1 : Sl) => [(6, Sl.val s1), (1, Sl.val a1)]) hF ?_ ?_
  · intro s1 E0 h1 hF
    refine WP.joinF (fun (s2 : Unit) => [(1, Sl.val a1), (6, Sl.val s1)]) hF ?_ ?_
    · intro s2 E0 h2 hF
      refine WP.joinF (fun (s3 : Sl × Bool) => [(4, Sl.val s3.1), (5, .bool s3.2)]) hF ?_ ?_
      · intro s3 E0 h3 hF
        refine WP.ret ?_
        exact Ret.mk (vs := [Sl.val s3.1, .bool s3.2]) (s3.1, s3.2) ⟨rfl, rfl, trivial⟩ rfl hF
      · intro k3 hF
        refine WP.region ?_
        refine EvK.pure (v := Sl.val s1) (w_none rfl) rfl rfl (f_move rfl rfl) ?_
        refine EvK.pure (v := Sl.val s1) (w_none rfl) rfl rfl (f_move rfl rfl) ?_
        refine EvK.pure (v := .int .i64 (s1.len : Int)) (w_none rfl) rfl rfl (f_lenL (s := s1) Tryz.underlying50 rfl rfl) ?_
        refine EvK.pure (v := Sl.val a1) (w_none rfl) rfl rfl (f_move rfl rfl) ?_
        refine EvK.pure (v := .int .i64 (a1.len : Int)) (w_none rfl) rfl rfl (f_lenL (s := a1) Tryz.underlying50 rfl rfl) ?_
        refine EvK.pure (v := .bool ((s1.len : Int) == (a1.len : Int))) (w_none rfl) rfl rfl (f_eql rfl rfl rfl) ?_
        refine EvK.pure (v := .bool ((s1.len : Int) == (a1.len : Int))) (w_none rfl) rfl rfl (f_move rfl rfl) ?_
        rcases ite_inv hF with ⟨c1, hF⟩ | ⟨c1, hF⟩
        · refine EvK.pure (v := Sl.val a1) (w_some rfl rfl c1) rfl rfl (f_move rfl rfl) ?_
          refine EvK.pure (v := .int .i64 (a1.len : Int)) (w_some rfl rfl c1) rfl rfl (f_lenL (s := a1) Tryz.underlying50 rfl rfl) ?_
          refine EvK.pure (v := .bool (decide ((a1.len : Int) > 0))) (w_some rfl rfl c1) rfl rfl (f_gtr rfl rfl rfl) ?_
          refine EvK.pure (v := .bool (decide ((a1.len : Int) > 0))) (w_none rfl) rfl rfl (f_pickT rfl rfl c1 rfl) ?_
          refine EvK.pure (v := Sl.val s1) (w_none rfl) rfl rfl (f_assign rfl rfl) ?_
          refine EvK.pure (v := .bool (decide ((a1.len : Int) > 0))) (w_none rfl) rfl rfl (f_assign rfl rfl) ?_
          refine EvK.nil ?_
          exact KE.mk (s1, decide ((a1.len : Int) > 0)) ⟨rfl, rfl, trivial⟩ hF
        · refine EvK.not (w_not rfl rfl c1) rfl rfl ?_
          refine EvK.not (w_not rfl rfl c1) rfl rfl ?_
          refine EvK.not (w_not rfl rfl c1) rfl rfl ?_
          refine EvK.pure (v := .bool false) (w_none rfl) rfl rfl (f_pickF rfl rfl c1 rfl) ?_
          refine EvK.pure (v := Sl.val s1) (w_none rfl) rfl rfl (f_assign rfl rfl) ?_
          refine EvK.pure (v := .bool false) (w_none rfl) rfl rfl (f_assign rfl rfl) ?_
          refine EvK.nil ?_
          exact KE.mk (s1, false) ⟨rfl, rfl, trivial⟩ hF
    · intro k2 hF
      refine WP.seq ?_
      refine WP.region ?_
      refine EvK.pure (v := .int .i64 1) (w_none rfl) rfl rfl (f_assign rfl rfl) ?_
      refine EvK.nil ?_
      refine WP.block ?_
      refine WP.loopF (fun (s4 : Int) => [(9, .int .i64 s4), (1, Sl.val a1), (6, Sl.val s1)]) hF ⟨rfl, rfl, rfl, trivial⟩ ?_
      intro k4 s4 E0 h4 hF
      refine WP.seq ?_
      refine WP.seq ?_
      refine WP.region ?_
      refine EvK.pure (v := .int .i64 s4) (w_none rfl) rfl rfl (f_move rfl rfl) ?_
      refine EvK.pure (v := Sl.val s1) (w_none rfl) rfl rfl (f_move rfl rfl) ?_
      refine EvK.pure (v := .int .i64 (s1.len : Int)) (w_none rfl) rfl rfl (f_lenL (s := s1) Tryz.underlying50 rfl rfl) ?_
      refine EvK.pure (v := .bool (decide (s4 < (s1.len : Int)))) (w_none rfl) rfl rfl (f_lss rfl rfl rfl) ?_
      refine EvK.nil ?_
      rcases ite_inv hF with ⟨c2, hF⟩ | ⟨c2, hF⟩
      · refine WP.cond_true _ rfl c2 ?_
        refine WP.skip ?_
        refine WP.seq ?_
        refine WP.block ?_
        refine WP.seq ?_
        refine WP.draw mixed [.pure, .pure, .pure, .pure, .read, .pure, .pure, .pure, .pure, .pure, .read, .pure] [[], [], [0, 1], [0, 1, 2], [0, 1, 2, 3], [], [], [6], [5, 6, 7], [5, 6, 7, 8], [5, 6, 7, 8, 9], [0, 1, 2, 3, 4, 5, 6, 7, 8, 9, 10]] [0, 1, 2, 3, 4, 5, 6, 7, 8, 9, 10, 11] (by kernel_rfl) (by kernel_rfl) ?_
        refine EvI.pure (v := Sl.val s1) rfl rfl (w_none rfl) rfl (f_move rfl rfl) ?_
        refine EvI.pure (v := .int .i64 s4) rfl rfl (w_none rfl) rfl (f_move rfl rfl) ?_
        obtain ⟨q1, hq1, hF⟩ := hF
        refine EvI.pure (v := .pointer (some q1)) rfl rfl (w_none rfl) rfl (f_indexAddr (s := s1) Tryz.underlying50 ty49.size rfl rfl rfl hq1) ?_
        refine EvI.pure (v := .pointer (some (q1.add 0))) rfl rfl (w_none rfl) rfl (f_fieldAddr fd49_0 rfl rfl) ?_
        obtain ⟨x1, hx1, hF⟩ := hF
        refine EvI.read (v := .int .i64 x1) rfl rfl (w_none rfl) rfl (f_load (kI .i64) ty3 rfl rfl hx1 rfl) ?_
        refine EvI.pure (v := Sl.val s1) rfl rfl (w_none rfl) rfl (f_move rfl rfl) ?_
        refine EvI.pure (v := .int .i64 s4) rfl rfl (w_none rfl) rfl (f_move rfl rfl) ?_
        refine EvI.pure (v := .int .i64 (IntKind.i64.wrap (s4 - 1))) rfl rfl (w_none rfl) rfl (f_sub rfl rfl rfl) ?_
        obtain ⟨q2, hq2, hF⟩ := hF
        refine EvI.pure (v := .pointer (some q2)) rfl rfl (w_none rfl) rfl (f_indexAddr (s := s1) Tryz.underlying50 ty49.size rfl rfl rfl hq2) ?_
        refine EvI.pure (v := .pointer (some (q2.add 0))) rfl rfl (w_none rfl) rfl (f_fieldAddr fd49_0 rfl rfl) ?_
        obtain ⟨x2, hx2, hF⟩ := hF
        refine EvI.read (v := .int .i64 x2) rfl rfl (w_none rfl) rfl (f_load (kI .i64) ty3 rfl rfl hx2 rfl) ?_
        refine EvI.pure (v := .bool (x1 == x2)) rfl rfl (w_none rfl) rfl (f_eql rfl rfl rfl) ?_
        refine EvI.nil ?_
        rcases ite_inv hF with ⟨c3, hF⟩ | ⟨c3, hF⟩
        · refine WP.cond_true _ rfl c3 ?_
          refine WP.seq ?_
          refine WP.region ?_
          refine EvK.pure (v := Sl.val Sl.nil) (w_none rfl) rfl rfl (f_assign rfl rfl) ?_
          refine EvK.pure (v := .bool false) (w_none rfl) rfl rfl (f_assign rfl rfl) ?_
          refine EvK.nil ?_
          refine WP.ret ?_
          exact Ret.mk (vs := [Sl.val Sl.nil, .bool false]) (Sl.nil, false) ⟨rfl, rfl, trivial⟩ rfl hF
        · refine WP.cond_false _ rfl c3 ?_
          refine WP.skip ?_
          refine WP.region ?_
          refine EvK.pure (v := .int .i64 s4) (w_none rfl) rfl rfl (f_move rfl rfl) ?_
          refine EvK.pure (v := .int .i64 (IntKind.i64.wrap (s4 + 1))) (w_none rfl) rfl rfl (f_add rfl rfl rfl) ?_
          refine EvK.pure (v := .int .i64 (IntKind.i64.wrap (s4 + 1))) (w_none rfl) rfl rfl (f_assign rfl rfl) ?_
          refine EvK.nil ?_
          exact KE.mk (IntKind.i64.wrap (s4 + 1)) ⟨rfl, rfl, rfl, trivial⟩ hF
      · refine WP.cond_false _ rfl c2 ?_
        refine WP.exit ?_
        exact KE.mk () ⟨rfl, rfl, trivial⟩ hF
  · intro k1 hF
    refine WP.seq ?_
    refine WP.region ?_
    refine EvK.pure (v := .int .i64 0) (w_none rfl) rfl rfl (f_assign rfl rfl) ?_
    refine EvK.nil ?_
    refine WP.block ?_
    refine WP.loopF (fun (s5 : Sl × Int) => [(6, Sl.val s5.1), (7, .int .i64 s5.2), (0, .pointer a0), (1, Sl.val a1)]) hF ⟨rfl, rfl, rfl, rfl, trivial⟩ ?_
    intro k5 s5 E0 h5 hF
    refine WP.seq ?_
    refine WP.seq ?_
    refine WP.region ?_
    refine EvK.pure (v := .int .i64 s5.2) (w_none rfl) rfl rfl (f_move rfl rfl) ?_
    refine EvK.pure (v := .pointer a0) (w_none rfl) rfl rfl (f_move rfl rfl) ?_
    obtain ⟨q3, hq3, hF⟩ := hF
    refine EvK.pure (v := .pointer (some q3)) (w_none rfl) rfl rfl (f_nilCheck rfl (congrArg Value.pointer hq3)) ?_
    refine EvK.pure (v := .pointer (some (q3.add 0))) (w_none rfl) rfl rfl (f_fieldAddr fd93_0 rfl rfl) ?_
    obtain ⟨x3, hx3, hF⟩ := hF
    refine EvK.read (v := .int .i64 x3) (w_none rfl) rfl rfl (f_load (kI .i64) ty3 rfl rfl hx3 rfl) ?_
    refine EvK.pure (v := .bool (decide (s5.2 < x3))) (w_none rfl) rfl rfl (f_lss rfl rfl rfl) ?_
    refine EvK.nil ?_
    rcases ite_inv hF with ⟨c4, hF⟩ | ⟨c4, hF⟩
    · refine WP.cond_true _ rfl c4 ?_
      refine WP.skip ?_
      refine WP.joinF (fun (s6 : Sl) => [(6, Sl.val s6), (0, .pointer a0), (1, Sl.val a1), (7, .int .i64 s5.2)]) hF ?_ ?_
      · intro s6 E0 h6 hF
        refine WP.region ?_
        refine EvK.pure (v := .int .i64 s5.2) (w_none rfl) rfl rfl (f_move rfl rfl) ?_
        refine EvK.pure (v := .int .i64 (IntKind.i64.wrap (s5.2 + 1))) (w_none rfl) rfl rfl (f_add rfl rfl rfl) ?_
        refine EvK.pure (v := .int .i64 (IntKind.i64.wrap (s5.2 + 1))) (w_none rfl) rfl rfl (f_assign rfl rfl) ?_
        refine EvK.nil ?_
        exact KE.mk (s6, IntKind.i64.wrap (s5.2 + 1)) ⟨rfl, rfl, rfl, rfl, trivial⟩ hF
      · intro k6 hF
        refine WP.block ?_
        refine WP.seq ?_
        refine WP.region ?_
        refine EvK.pure (v := .int .i64 0) (w_none rfl) rfl rfl (f_assign rfl rfl) ?_
        refine EvK.nil ?_
        refine WP.block ?_
        refine WP.loopF (fun (s7 : Sl × Int) => [(6, Sl.val s7.1), (8, .int .i64 s7.2), (0, .pointer a0), (1, Sl.val a1), (7, .int .i64 s5.2)]) hF ⟨rfl, rfl, rfl, rfl, rfl, trivial⟩ ?_
        intro k7 s7 E0 h7 hF
        refine WP.seq ?_
        refine WP.seq ?_
        refine WP.region ?_
        refine EvK.pure (v := .int .i64 s7.2) (w_none rfl) rfl rfl (f_move rfl rfl) ?_
        refine EvK.pure (v := Sl.val a1) (w_none rfl) rfl rfl (f_move rfl rfl) ?_
        refine EvK.pure (v := .int .i64 (a1.len : Int)) (w_none rfl) rfl rfl (f_lenL (s := a1) Tryz.underlying50 rfl rfl) ?_
        refine EvK.pure (v := .bool (decide (s7.2 < (a1.len : Int)))) (w_none rfl) rfl rfl (f_lss rfl rfl rfl) ?_
        refine EvK.nil ?_
        rcases ite_inv hF with ⟨c5, hF⟩ | ⟨c5, hF⟩
        · refine WP.cond_true _ rfl c5 ?_
          refine WP.skip ?_
          refine WP.joinF (fun (s8 : Sl) => [(6, Sl.val s8), (0, .pointer a0), (1, Sl.val a1), (7, .int .i64 s5.2), (8, .int .i64 s7.2)]) hF ?_ ?_
          · intro s8 E0 h8 hF
            refine WP.region ?_
            refine EvK.pure (v := .int .i64 s7.2) (w_none rfl) rfl rfl (f_move rfl rfl) ?_
            refine EvK.pure (v := .int .i64 (IntKind.i64.wrap (s7.2 + 1))) (w_none rfl) rfl rfl (f_add rfl rfl rfl) ?_
            refine EvK.pure (v := .int .i64 (IntKind.i64.wrap (s7.2 + 1))) (w_none rfl) rfl rfl (f_assign rfl rfl) ?_
            refine EvK.nil ?_
            exact KE.mk (s8, IntKind.i64.wrap (s7.2 + 1)) ⟨rfl, rfl, rfl, rfl, rfl, trivial⟩ hF
          · intro k8 hF
            refine WP.block ?_
            refine WP.seq ?_
            refine WP.region ?_
            refine EvK.pure (v := Sl.val a1) (w_none rfl) rfl rfl (f_move rfl rfl) ?_
            refine EvK.pure (v := .int .i64 s7.2) (w_none rfl) rfl rfl (f_move rfl rfl) ?_
            obtain ⟨q4, hq4, hF⟩ := hF
            refine EvK.pure (v := .pointer (some q4)) (w_none rfl) rfl rfl (f_indexAddr (s := a1) Tryz.underlying50 ty49.size rfl rfl rfl hq4) ?_
            refine EvK.pure (v := .pointer (some (q4.add 0))) (w_none rfl) rfl rfl (f_fieldAddr fd49_0 rfl rfl) ?_
            obtain ⟨x4, hx4, hF⟩ := hF
            refine EvK.read (v := .int .i64 x4) (w_none rfl) rfl rfl (f_load (kI .i64) ty3 rfl rfl hx4 rfl) ?_
            refine EvK.pure (v := .int .i64 s5.2) (w_none rfl) rfl rfl (f_move rfl rfl) ?_
            refine EvK.pure (v := .bool (x4 == s5.2)) (w_none rfl) rfl rfl (f_eql rfl rfl rfl) ?_
            refine EvK.nil ?_
            rcases ite_inv hF with ⟨c6, hF⟩ | ⟨c6, hF⟩
            · refine WP.cond_true _ rfl c6 ?_
              refine WP.region ?_
              refine EvK.pure (v := Sl.val s7.1) (w_none rfl) rfl rfl (f_move rfl rfl) ?_
              refine EvK.pure (v := Sl.val a1) (w_none rfl) rfl rfl (f_move rfl rfl) ?_
              refine EvK.pure (v := .int .i64 s7.2) (w_none rfl) rfl rfl (f_move rfl rfl) ?_
              obtain ⟨q5, hq5, hF⟩ := hF
              refine EvK.pure (v := .pointer (some q5)) (w_none rfl) rfl rfl (f_indexAddr (s := a1) Tryz.underlying50 ty49.size rfl rfl rfl hq5) ?_
              obtain ⟨x5, hx5, hF⟩ := hF
              refine EvK.read (v := k48.val x5) (w_none rfl) rfl rfl (f_load k48 ty49 rfl rfl hx5 rfl) ?_
              refine EvK.alloc (w_none rfl) rfl rfl (f_buildSliceF Tryz.underlying50 el49 (by decide) rfl rfl rfl hF) ?_
              rintro _ h9 ⟨x6, rfl, hF⟩
              refine EvK.run (w_none rfl) rfl rfl (f_appendE (s := s7.1) (x := x6) Tryz.underlying50 el49 rfl rfl rfl hF) ?_
              rintro _ h10 ⟨x7, rfl, hF⟩
              refine EvK.pure (v := Sl.val x7) (w_none rfl) rfl rfl (f_assign rfl rfl) ?_
              refine EvK.nil ?_
              exact KE.mk x7 ⟨rfl, rfl, rfl, rfl, rfl, trivial⟩ hF
            · refine WP.cond_false _ rfl c6 ?_
              refine WP.skip ?_
              exact KE.mk s7.1 ⟨rfl, rfl, rfl, rfl, rfl, trivial⟩ hF
        · refine WP.cond_false _ rfl c5 ?_
          refine WP.exit ?_
          exact KE.mk s7.1 ⟨rfl, rfl, rfl, rfl, trivial⟩ hF
    · refine WP.cond_false _ rfl c4 ?_
      refine WP.exit ?_
      exact KE.mk s5.1 ⟨rfl, rfl, trivial⟩ hF
end Go.Proofs.YtomngllmnhdmlaaGreat
/- The document's manager: its looks. They read, and make new cells. -/
namespace Go.Proofs.YtomngllmnhdmlaaGreat
open Go Go.Tr
set_option linter.unusedVariables false
abbrev RSet := S149
abbrev kRS : Kd RSet := k149
theorem fs_task : Fld kRS (kI .i64) 0 (·.f0) (fun x v => { x with f0 := v }) := (Fld.whole (kI .i64)).fst.iso
theorem fs_l : Fld kRS kL 1 (·.f1) (fun x v => { x with f1 := v }) := (Fld.whole kL).snd.iso
theorem any_take {α : Type _} (p : α → Bool) {l : List α} {j : Nat} (hj : j < l.length) : (l.take (j + 1)).any p = ((l.take j).any p || p l[j]) := by
  rw [List.take_add_one, List.getElem?_eq_getElem hj, Option.toList_some, List.any_append, List.any_cons, List.any_nil, Bool.or_false]
def tst (x y : Lk) : Bool := x.f0 == y.f0 && !(x.f1 && y.f1)
theorem conf_tst (a b : List Lk) : conf a b = a.any fun x => b.any (tst x) := rfl
section
variable {h : H}
theorem rconf_spec {a b : RSet} {la lb : List Lk} (Ra : Rds kLk h a.f1 la) (Rb : Rds kLk h b.f1 lb) (h1 : la.length < 4611686018427387904) (h2 : lb.length < 4611686018427387904) {Q : Bool → H → Prop} (k : ∀ h', Ext h h' → Q (conf la lb) h') : spateref11_conflict a b h Q := by
  unfold spateref11_conflict
  refine al_var fun b1 g1 eb1 V1 e1 z1 => al_var fun b2 g2 eb2 V2 e2 z2 => jn_i ?_
  have hx : ld kL ⟨b1, 1, none⟩ g2 = some a.f1 := ld_ext e2 (V1.ld fs_l)
  have hy : ld kL ⟨b2, 1, none⟩ g2 = some b.f1 := V2.ld fs_l
  have Ra := Ra.ext (e1.trans e2)
  have Rb := Rb.ext (e1.trans e2)
  refine for0 (mk := fun (_ : Unit) i => i) (s := ()) h1 (fun j _ g => g = g2 ∧ ((la.take j).any fun x => lb.any (tst x)) = false) ⟨rfl, by simp⟩ (fun j _ g K hj hI next done => ?_) (fun _ g K hI done => ?_)
  · obtain ⟨rfl, hI⟩ := hI
    unfold spateref11_conflict.b1
    refine rd_some (by rw [add_mk]; exact hx) (ite_t (by rw [Ra.len]; exact clt_t hj) (jn_i ?_))
    refine for0 (mk := fun (_ : Unit) i => i) (s := ()) h2 (fun i _ g' => g' = g ∧ ((lb.take i).any (tst la[j])) = false) ⟨rfl, by simp⟩ (fun i _ g' K2 hi hI2 next2 done2 => ?_) (fun _ g' K2 hI2 done2 => ?_)
    · obtain ⟨rfl, hI2⟩ := hI2
      unfold spateref11_conflict.b2
      refine rd_some (by rw [add_mk]; exact hy) (ite_t (by rw [Rb.len]; exact clt_t hi) ?_)
      refine jn_c (tst la[j] lb[i]) g' (fun K3 hK => ?_) ?_
      · unfold tst at hK
        refine rd_some (by rw [add_mk]; exact hx) (Ra.elt fk_n hj rfl (rd_some (by rw [add_mk]; exact hy) (Rb.elt fk_n hi rfl ?_)))
        refine ite_b (fun c => ?_) (fun c => ?_)
        · rw [c, Bool.true_and] at hK
          refine rd_some (by rw [add_mk]; exact hx) (Ra.elt fk_s hj rfl (ite_b (fun c2 => ?_) fun c2 => ?_))
          · rw [c2, Bool.true_and] at hK
            exact rd_some (by rw [add_mk]; exact hy) (Rb.elt fk_s hi rfl hK)
          · rw [c2, Bool.false_and] at hK
            exact hK
        · rw [c, Bool.false_and] at hK
          exact hK
      · refine ite_b (fun c => ?_) (fun c => ?_)
        · refine done2 _ _ (done _ _ ?_)
          have : conf la lb = true := List.any_eq_true.2 ⟨_, List.getElem_mem hj, List.any_eq_true.2 ⟨_, List.getElem_mem hi, c⟩⟩
          have k' := k _ (e1.trans e2)
          rw [this] at k'; exact k'
        · exact next2 () _ ⟨rfl, by rw [any_take _ hi, hI2, c]; rfl⟩
    · obtain ⟨rfl, hI2⟩ := hI2
      unfold spateref11_conflict.b2
      refine rd_some (by rw [add_mk]; exact hy) (ite_f (by rw [Rb.len]; exact clt_f (Nat.lt_irrefl _)) (done2 _ _ ?_))
      refine next () _ ⟨rfl, ?_⟩
      rw [List.take_length] at hI2
      rw [any_take _ hj, hI, hI2]; rfl
  · obtain ⟨rfl, hI⟩ := hI
    unfold spateref11_conflict.b1
    refine rd_some (by rw [add_mk]; exact hx) (ite_f (by rw [Ra.len]; exact clt_f (Nat.lt_irrefl _)) (done _ _ ?_))
    rw [List.take_length] at hI
    have k' := k _ (e1.trans e2)
    rw [conf_tst, hI] at k'; exact k'
theorem rconfs_spec {ι : Type} {g : ι → RSet} {f : ι → List Lk} {s : Sl} {xs : List ι} {x : RSet} {lx : List Lk} (R : Rds kRS h s (xs.map g)) (hl : xs.length < 4611686018427387904) (hx : Rds kLk h x.f1 lx) (hlx : lx.length < 4611686018427387904)
    (Rs : ∀ y ∈ xs, Rds kLk h (g y).f1 (f y) ∧ (f y).length < 4611686018427387904) {Q : Bool → H → Prop} (k : ∀ h', Ext h h' → Q (xs.any fun y => conf (f y) lx) h') : spateref11_conflicts s x h Q := by
  unfold spateref11_conflicts
  refine al_var fun b1 g1 eb1 V1 e1 z1 => jn_i ?_
  have hlen := R.len
  rw [List.length_map] at hlen
  refine for0 (mk := fun (_ : Unit) i => i) (s := ()) hl (fun j _ g' => Ext g1 g' ∧ ((xs.take j).any fun y => conf (f y) lx) = false) ⟨Ext.refl _, by simp⟩ (fun j _ g' K hj hI next done => ?_) (fun _ g' K hI done => ?_)
  · obtain ⟨ex, hI⟩ := hI
    have ex' := e1.trans ex
    have hw : ld kRS ⟨b1, 0, none⟩ g' = some x := ld_ext ex (V1.ld (Fld.whole kRS))
    unfold spateref11_conflicts.b1
    refine ite_t (by rw [hlen]; exact clt_t hj) ((R.ext ex').elt0 (i := j) (by rw [List.length_map]; exact hj) rfl (rd_some hw ?_))
    rw [List.getElem_map]
    have hy := Rs xs[j] (List.getElem_mem _)
    refine rconf_spec (hy.1.ext ex') (hx.ext ex') hy.2 hlx fun h2 e2 => ?_
    refine ite_b (fun c => ?_) (fun c => ?_)
    · refine done _ _ ?_
      have : (xs.any fun y => conf (f y) lx) = true := List.any_eq_true.2 ⟨_, List.getElem_mem hj, c⟩
      have k' := k _ (ex'.trans e2)
      rw [this] at k'; exact k'
    · exact next () _ ⟨ex.trans e2, by rw [any_take _ hj, hI, c]; rfl⟩
  · obtain ⟨ex, hI⟩ := hI
    unfold spateref11_conflicts.b1
    refine ite_f (by rw [hlen]; exact clt_f (Nat.lt_irrefl _)) (done _ _ ?_)
    rw [List.take_length] at hI
    have k' := k _ (e1.trans ex)
    rw [hI] at k'; exact k'
theorem rfind_spec {ι : Type} {g : ι → RSet} {s : Sl} {xs : List ι} (R : Rds kRS h s (xs.map g)) (hl : xs.length < 4611686018427387904) (t : Int) {Q : Int → H → Prop} (k : Q (pl (xs.findIdx? fun c => (g c).f0 == t)) h) : spateref11_find s t h Q := by
  unfold spateref11_find
  refine jn_i ?_
  have hlen := R.len
  rw [List.length_map] at hlen
  refine for0 (mk := fun (_ : Unit) i => i) (s := ()) hl (fun j _ g' => g' = h ∧ ∀ x ∈ xs.take j, ((g x).f0 == t) = false) ⟨rfl, by simp⟩ (fun j _ g' K hj hI next done => ?_) (fun _ g' K hI done => ?_)
  · obtain ⟨rfl, hI⟩ := hI
    unfold spateref11_find.b1
    refine ite_t (by rw [hlen]; exact clt_t hj) (R.elt fs_task (i := j) (by rw [List.length_map]; exact hj) rfl ?_)
    rw [List.getElem_map]
    refine ite_b (fun c => ?_) (fun c => ?_)
    · refine done _ _ ?_
      have : (xs.findIdx? fun c => (g c).f0 == t) = some j := by
        rw [List.findIdx?_eq_some_iff_getElem]
        refine ⟨hj, c, fun i hi => ?_⟩
        have := hI xs[i] (by rw [List.mem_take_iff_getElem]; exact ⟨i, by omega, rfl⟩)
        simp only [this]; simp
      rw [this] at k; exact k
    · refine next () _ ⟨rfl, fun x hx => ?_⟩
      rw [List.take_add_one, List.getElem?_eq_getElem hj] at hx
      simp only [Option.toList_some, List.mem_append, List.mem_singleton] at hx
      rcases hx with hx | rfl
      · exact hI x hx
      · exact c
  · obtain ⟨rfl, hI⟩ := hI
    unfold spateref11_find.b1
    refine ite_f (by rw [hlen]; exact clt_f (Nat.lt_irrefl _)) (done _ _ ?_)
    have : (xs.findIdx? fun c => (g c).f0 == t) = none := by
      rw [List.findIdx?_eq_none_iff]
      intro x hx
      exact hI x (by rw [List.take_length]; exact hx)
    rw [this] at k; exact k
/-- The set put in order, if it may be asked for. -/
theorem ordered_spec {mb m : Nat} {s : Sl} {l : List Lk} (hm : ld (kI .i64) ⟨mb, 0, none⟩ h = some (m : Int)) (hm2 : m ≤ 1024) (R : Rds kLk h s l) (hl : l.length ≤ 8796093022080) {Q : Sl × Bool → H → Prop}
    (k : ∀ s' h', SS h h' [ownP kLk s' (AM.sortL m l)] → ∀ s2, (okSet m l = true → s2 = s') → Q (s2, okSet m l) h') : spateref11_Manager_ordered (some ⟨mb, 0, none⟩) s h Q := by
  unfold spateref11_Manager_ordered
  have hlen := R.len
  refine jn_q (fun s' h' => SS h h' [ownP kLk s' (AM.sortL m l)]) (fun K hK => ?_) ?_
  · refine for0 (mk := fun (s : Sl) i => (s, i)) (s := Sl.nil) (n := m) (by omega) (fun j s' h' => SS h h' [ownP kLk s' (AM.sortL j l)]) ((SS.nil (Ext.refl h)).made (Ext.refl h) (Own.nil kLk h _)) (fun j s' h1 K2 hj S1 next done => ?_) (fun s' h1 K2 S1 done => ?_)
    · unfold spateref11_Manager_ordered.b2
      refine rd_some rfl (rd_some (by rw [add_mk]; exact ld_ext (SS.e S1) hm) (ite_t (clt_t hj) (jn_i ?_)))
      have hsl : (AM.sortL j l).length ≤ l.length := by rw [(sortL_perm l j).length_eq]; exact List.length_filter_le _ _
      refine for0 (mk := fun (s : Sl) i => (s, i)) (s := s') (n := l.length) (by omega) (fun i s2 h' => SS h h' [ownP kLk s2 (AM.sortL j l ++ (l.take i).filter fun x => x.f0 == (j : Int))]) (by simpa using S1) (fun i s2 h2 K3 hi S2 next2 done2 => ?_) (fun s2 h2 K3 S2 done2 => ?_)
      · unfold spateref11_Manager_ordered.b3
        refine ite_t (by rw [hlen]; exact clt_t hi) (jn_i ((R.ext (SS.e S2)).elt fk_n hi rfl ?_))
        have htk : l.take (i + 1) = l.take i ++ [l[i]] := by rw [List.take_add_one, List.getElem?_eq_getElem hi]; rfl
        have hle : (AM.sortL j l ++ (l.take i).filter fun x => x.f0 == (j : Int)).length ≤ l.length := by
          have h1 : (AM.sortL (j + 1) l).length ≤ l.length := by rw [(sortL_perm l (j + 1)).length_eq]; exact List.length_filter_le _ _
          rw [sortL_succ, List.length_append] at h1
          have h2 : ((l.take i).filter fun x => x.f0 == (j : Int)).length ≤ (l.filter fun x => x.f0 == (j : Int)).length := ((List.take_sublist i l).filter _).length_le
          rw [List.length_append]; omega
        refine ite_b (fun c => ?_) (fun c => ?_)
        · refine (R.ext (SS.e S2)).elt0 hi rfl (ownP.pushW (K := kLk) (by decide) S2 0 rfl l[i] (by omega) (by omega) fun s3 h3 S3 => next2 s3 h3 ?_)
          have c' : (l[i].f0 == (j : Int)) = true := c
          have e1 : (List.filter (fun x : Lk => x.f0 == (j : Int)) [l[i]]) = [l[i]] := by simp only [List.filter_cons, List.filter_nil, c', if_true]
          rw [htk, List.filter_append, e1, ← List.append_assoc]; exact S3
        · refine next2 s2 h2 ?_
          rw [htk, List.filter_append, List.filter_cons_of_neg (by rw [c]; simp), List.filter_nil, List.append_nil]; exact S2
      · unfold spateref11_Manager_ordered.b3
        refine ite_f (by rw [hlen]; exact clt_f (Nat.lt_irrefl _)) (done2 _ _ (next s2 h2 ?_))
        rw [List.take_length] at S2
        rw [sortL_succ]; exact S2
    · unfold spateref11_Manager_ordered.b2
      exact rd_some rfl (rd_some (by rw [add_mk]; exact ld_ext (SS.e S1) hm) (ite_f (clt_f (Nat.lt_irrefl _)) (done _ _ (hK _ _ S1))))
  · rintro s' h1 S1
    have R1 := ownP.rds (K := kLk) S1 0 rfl
    have hl1 := R1.len
    have hsl : (AM.sortL m l).length ≤ l.length := by rw [(sortL_perm l m).length_eq]; exact List.length_filter_le _ _
    refine jn_q (fun _ h' => h' = h1 ∧ adj (AM.sortL m l)) (fun K hK => ?_) ?_
    · by_cases h0 : 1 ≤ (AM.sortL m l).length
      · refine forG (mk := fun (_ : Unit) i => i) (s := ()) (i0 := 1) (n := (AM.sortL m l).length) h0 (by omega) (fun j _ h' => h' = h1 ∧ ∀ (i : Nat) (hi : i + 1 < (AM.sortL m l).length), i + 1 < j → (AM.sortL m l)[i + 1].f0 ≠ (AM.sortL m l)[i].f0) ⟨rfl, fun i hi h => by omega⟩ (fun j _ h2 K2 hj1 hj hI next done => ?_) (fun _ h2 K2 hI done => ?_)
        · obtain ⟨rfl, hI⟩ := hI
          unfold spateref11_Manager_ordered.b1
          refine ite_t (by rw [hl1]; exact clt_t hj) (R1.elt fk_n hj rfl ?_)
          have e : IntKind.i64.wrap ((j : Int) - 1) = ((j - 1 : Nat) : Int) := by rw [wrap64_id (by omega) (by omega)]; omega
          rw [e]
          refine R1.elt fk_n (i := j - 1) (by omega) rfl (ite_b (fun c => ?_) (fun c => ?_))
          · refine done _ _ ?_
            have hk : okSet m l = false := by
              cases hok : okSet m l with
              | false => rfl
              | true =>
                exfalso
                have h2 := (ok_sort hok).1 (j - 1) (by omega)
                have c : (AM.sortL m l)[j].f0 = (AM.sortL m l)[j - 1].f0 := by simpa using c
                simp only [show j - 1 + 1 = j by omega] at h2
                exact h2 c
            have k' := k s' h2 S1 Sl.nil (by rw [hk]; intro h; cases h)
            rw [hk] at k'; exact k'
          · refine next () _ ⟨rfl, fun i hi hij => ?_⟩
            rcases Nat.lt_or_ge (i + 1) j with hlt | hge
            · exact hI i hi hlt
            · have : i = j - 1 := by omega
              subst this
              simp only [show j - 1 + 1 = j by omega]
              simpa using c
        · obtain ⟨rfl, hI⟩ := hI
          unfold spateref11_Manager_ordered.b1
          exact ite_f (by rw [hl1]; exact clt_f (Nat.lt_irrefl _)) (done _ _ (hK _ _ ⟨rfl, fun i hi => hI i hi hi⟩))
      · refine loopE_rule (fun n s h' => s = 1 ∧ h' = h1) 0 ⟨rfl, rfl⟩ ?_
        rintro n s h2 K2 ⟨rfl, rfl⟩ next done
        unfold spateref11_Manager_ordered.b1
        exact ite_f (by rw [hl1]; rw [decide_eq_false_iff_not]; omega) (done _ _ (hK _ _ ⟨rfl, fun i hi => by omega⟩))
    · rintro _ h2 ⟨rfl, ha⟩
      have hk : okSet m l = (decide ((AM.sortL m l).length = l.length) && decide (0 < l.length)) := by
        apply Bool.eq_iff_iff.2
        rw [Bool.and_eq_true, decide_eq_true_eq, decide_eq_true_eq]
        exact ⟨fun h => (ok_sort h).2, fun h => sort_ok ha h.1 h.2⟩
      refine jn_c (s', okSet m l) h2 (fun K hK => ite_b (fun c => ?_) (fun c => ?_)) (k s' h2 S1 s' fun _ => rfl)
      · have c : (AM.sortL m l).length = l.length := by
          have c : ((s'.len : Int) == (s.len : Int)) = true := c
          rw [beq_iff_eq] at c; omega
        rw [hk] at hK
        rw [decide_eq_true c, Bool.true_and] at hK
        have e : decide ((s.len : Int) > 0) = decide (0 < l.length) := by rw [hlen]; apply Bool.eq_iff_iff.2; rw [decide_eq_true_eq, decide_eq_true_eq]; omega
        rw [e]; exact hK
      · have c : ¬ (AM.sortL m l).length = l.length := by
          have c : ((s'.len : Int) == (s.len : Int)) = false := c
          rw [beq_eq_false_iff_ne] at c; omega
        rw [hk] at hK
        rw [decide_eq_false c, Bool.false_and] at hK
        exact hK
end
end Go.Proofs.YtomngllmnhdmlaaGreat
/- spate/spateref11.without, as a predicate over the heap, and that the code comes to it. Printed by gen.py. -/
namespace Go.Proofs.YtomngllmnhdmlaaGreat
open Go Go.Tr
set_option linter.unusedVariables false
set_option maxRecDepth 100000
set_option maxHeartbeats 400000
/-- spate/spateref11.without -/
def spateref11_without (a0 : Sl) (a1 : Int) (h : H) (Q : Sl → H → Prop) : Prop :=
  rd (slx 2 a0 none (some a1) none) fun x1 =>
  ap k149.n 32 150 (k149.enc z149) Sl.nil x1 h fun x2 h1 =>
  rd (slx 2 a0 (some (IntKind.i64.wrap (a1 + 1))) none none) fun x3 =>
  ap k149.n 32 150 (k149.enc z149) x2 x3 h1 fun x4 h2 =>
  Q x4 h2
theorem spateref11_without.sound {a0 : Sl} {a1 : Int} {h : H} {Q : Sl → H → Prop} (hF : spateref11_without a0 a1 h Q) :
    CallsH Tryz.prog 80 (List.toArray (α := Value) [Sl.val a0, .int .i64 a1]) h fun v h' => ∃ x : Sl, v = Sl.val x ∧ Q x h' := by
  refine CallsH.of_body Tryz.func80 rfl 17 rfl rfl ?_
  refine WP.seq ?_
  refine WP.region ?_
  refine EvK.pure (v := Sl.val Sl.nil) (w_none rfl) rfl rfl (f_assign rfl rfl) ?_
  refine EvK.nil ?_
  refine WP.seq ?_
  refine WP.region ?_
  refine EvK.pure (v := Sl.val Sl.nil) (w_none rfl) rfl rfl (f_assign rfl rfl) ?_
  refine EvK.nil ?_
  refine WP.seq ?_
  refine WP.region ?_
  refine EvK.pure (v := Sl.val Sl.nil) (w_none rfl) rfl rfl (f_move rfl rfl) ?_
  refine EvK.pure (v := Sl.val a0) (w_none rfl) rfl rfl (f_move rfl rfl) ?_
  refine EvK.pure (v := .int .i64 a1) (w_none rfl) rfl rfl (f_move rfl rfl) ?_
  obtain ⟨x1, hx1, hF⟩ := hF
  refine EvK.pure (v := Sl.val x1) (w_none rfl) rfl rfl (f_slice Tryz.underlying91 ty150.size rfl rfl bndV_none (bndV_some rfl) bndV_none hx1) ?_
  refine EvK.run (w_none rfl) rfl rfl (f_appendE (s := Sl.nil) (x := x1) Tryz.underlying91 el150 rfl rfl rfl hF) ?_
  rintro _ h1 ⟨x2, rfl, hF⟩
  refine EvK.pure (v := Sl.val x2) (w_none rfl) rfl rfl (f_assign rfl rfl) ?_
  refine EvK.nil ?_
  refine WP.seq ?_
  refine WP.region ?_
  refine EvK.pure (v := Sl.val x2) (w_none rfl) rfl rfl (f_move rfl rfl) ?_
  refine EvK.pure (v := Sl.val a0) (w_none rfl) rfl rfl (f_move rfl rfl) ?_
  refine EvK.pure (v := .int .i64 a1) (w_none rfl) rfl rfl (f_move rfl rfl) ?_
  refine EvK.pure (v := .int .i64 (IntKind.i64.wrap (a1 + 1))) (w_none rfl) rfl rfl (f_add rfl rfl rfl) ?_
  obtain ⟨x3, hx2, hF⟩ := hF
  refine EvK.pure (v := Sl.val x3) (w_none rfl) rfl rfl (f_slice Tryz.underlying91 ty150.size rfl rfl (bndV_some rfl) bndV_none bndV_none hx2) ?_
  refine EvK.run (w_none rfl) rfl rfl (f_appendE (s := x2) (x := x3) Tryz.underlying91 el150 rfl rfl rfl hF) ?_
  rintro _ h2 ⟨x4, rfl, hF⟩
  refine EvK.pure (v := Sl.val x4) (w_none rfl) rfl rfl (f_assign rfl rfl) ?_
  refine EvK.nil ?_
  refine WP.ret ?_
  exact Ret.mk (vs := [Sl.val x4]) x4 ⟨rfl, trivial⟩ rfl hF
end Go.Proofs.YtomngllmnhdmlaaGreat
/- (*spate/spateref11.Manager).through, as a predicate over the heap, and that the code comes to it. Printed by gen.py. -/
namespace Go.Proofs.YtomngllmnhdmlaaGreat
open Go Go.Tr
set_option linter.unusedVariables false
set_option maxRecDepth 100000
set_option maxHeartbeats 400000
def spateref11_Manager_through.b1 (p0 : Option Addr) (s : Sl × Sl × Int) (h : H) (K : (Sl × Sl × Int) ⊕ (Sl × Sl) → H → Prop) : Prop :=
  rd p0 fun q2 =>
  rd (ld kL (q2.add 2) h) fun x1 =>
  if (decide (s.2.2 < (x1.len : Int))) = true then
    jn (fun (k2 : (Sl × Sl) → H → Prop) =>
      rd p0 fun q3 =>
      rd (ld kL (q3.add 2) h) fun x2 =>
      rd (ixA 2 x2 s.2.2) fun q4 =>
      rd (ld k149 q4 h) fun x3 =>
      al 150 (k149.enc z149) h fun q5 h4 =>
      rd (st k149 q5 x3 h4) fun h5 =>
      jn (fun (k3 : Bool → H → Prop) =>
        rd p0 fun q8 =>
        rd (ld kL (q8.add 1) h5) fun x14 =>
        rd (ld k149 q5 h5) fun x15 =>
        spateref11_conflicts x14 x15 h5 fun r1 h14 =>
        if r1 = true then
          k3 true h14
        else
          rd (ld k149 q5 h14) fun x16 =>
          spateref11_conflicts s.2.1 x16 h14 fun r2 h15 =>
          k3 r2 h15) fun s3 h6 =>
      if s3 = true then
        rd (ld k149 q5 h6) fun x4 =>
        bs 150 1 (k149.enc x4) h6 fun x5 h7 =>
        ap k149.n 32 150 (k149.enc z149) s.2.1 x5 h7 fun x6 h8 =>
        k2 (s.1, x6) h8
      else
        rd p0 fun q6 =>
        rd (ld kL (q6.add 1) h6) fun x7 =>
        rd (ld k149 q5 h6) fun x8 =>
        bs 150 1 (k149.enc x8) h6 fun x9 h9 =>
        ap k149.n 32 150 (k149.enc z149) x7 x9 h9 fun x10 h10 =>
        rd p0 fun q7 =>
        rd (st kL (q7.add 1) x10 h10) fun h11 =>
        rd (ld (kI .i64) (q5.add 0) h11) fun x11 =>
        bs 3 1 ((kI .i64).enc x11) h11 fun x12 h12 =>
        ap (kI .i64).n 8 3 ((kI .i64).enc 0) s.1 x12 h12 fun x13 h13 =>
        k2 (x13, s.2.1) h13) fun s2 h3 =>
    K (.inl (s2.1, s2.2, IntKind.i64.wrap (s.2.2 + 1))) h3
  else
    K (.inr (s.1, s.2.1)) h
/-- (*spate/spateref11.Manager).through -/
def spateref11_Manager_through (a0 : Option Addr) (h : H) (Q : Sl → H → Prop) : Prop :=
  jn (fun (k1 : (Sl × Sl) → H → Prop) =>
    loopE (spateref11_Manager_through.b1 a0) (Sl.nil, Sl.nil, 0) h (fun r3 hh => k1 r3 hh)) fun s1 h1 =>
  rd a0 fun q1 =>
  rd (st kL (q1.add 2) s1.2 h1) fun h2 =>
  Q s1.1 h2
theorem spateref11_Manager_through.sound {a0 : Option Addr} {h : H} {Q : Sl → H → Prop} (hF : spateref11_Manager_through a0 h Q) :
    CallsH Tryz.prog 81 (List.toArray (α := Value) [.pointer a0]) h fun v h' => ∃ x : Sl, v = Sl.val x ∧ Q x h' := by
  refine CallsH.of_body Tryz.func81 rfl 58 rfl rfl ?_
  refine WP.seq ?_
  refine WP.region ?_
  refine EvK.pure (v := Sl.val Sl.nil) (w_none rfl) rfl rfl (f_assign rfl rfl) ?_
  refine EvK.nil ?_
  refine WP.seq ?_
  refine WP.region ?_
  refine EvK.pure (v := Sl.val Sl.nil) (w_none rfl) rfl rfl (f_assign rfl rfl) ?_
  refine EvK.nil ?_
  refine WP.seq ?_
  refine WP.region ?_
  refine EvK.pure (v := Sl.val Sl.nil) (w_none rfl) rfl rfl (f_assign rfl rfl) ?_
  refine EvK.nil ?_
  refine WP.joinF (fun (s1 : Sl × Sl) => [(3, Sl.val s1.1), (4, Sl.val s1.2), (0, .pointer a0)]) hF ?_ ?_
  · intro s1 E0 h1 hF
    refine WP.seq ?_
    refine WP.region ?_
    refine EvK.pure (v := .pointer a0) (w_none rfl) rfl rfl (f_move rfl rfl) ?_
    refine EvK.pure (v := Sl.val s1.2) (w_none rfl) rfl rfl (f_move rfl rfl) ?_
    obtain ⟨q1, hq1, hF⟩ := hF
    refine EvK.pure (v := .pointer (some q1)) (w_none rfl) rfl rfl (f_nilCheck rfl (congrArg Value.pointer hq1)) ?_
    refine EvK.pure (v := .pointer (some (q1.add 2))) (w_none rfl) rfl rfl (f_fieldAddr fd93_2 rfl rfl) ?_
    obtain ⟨h2, hs1, hF⟩ := hF
    refine EvK.runN (w_none rfl) rfl (f_store kL ty91.size (z := s1.2) rfl rfl rfl hs1) ?_
    rintro _ _ ⟨rfl, rfl⟩
    refine EvK.nil ?_
    refine WP.seq ?_
    refine WP.region ?_
    refine EvK.pure (v := Sl.val s1.1) (w_none rfl) rfl rfl (f_move rfl rfl) ?_
    refine EvK.pure (v := Sl.val s1.1) (w_none rfl) rfl rfl (f_assign rfl rfl) ?_
    refine EvK.nil ?_
    refine WP.ret ?_
    exact Ret.mk (vs := [Sl.val s1.1]) s1.1 ⟨rfl, trivial⟩ rfl hF
  · intro k1 hF
    refine WP.seq ?_
    refine WP.region ?_
    refine EvK.pure (v := .int .i64 0) (w_none rfl) rfl rfl (f_assign rfl rfl) ?_
    refine EvK.nil ?_
    refine WP.block ?_
    refine WP.loopF (fun (s2 : Sl × Sl × Int) => [(3, Sl.val s2.1), (4, Sl.val s2.2.1), (5, .int .i64 s2.2.2), (0, .pointer a0)]) hF ⟨rfl, rfl, rfl, rfl, trivial⟩ ?_
    intro k2 s2 E0 h3 hF
    refine WP.seq ?_
    refine WP.seq ?_
    refine WP.region ?_
    refine EvK.pure (v := .int .i64 s2.2.2) (w_none rfl) rfl rfl (f_move rfl rfl) ?_
    refine EvK.pure (v := .pointer a0) (w_none rfl) rfl rfl (f_move rfl rfl) ?_
    obtain ⟨q2, hq2, hF⟩ := hF
    refine EvK.pure (v := .pointer (some q2)) (w_none rfl) rfl rfl (f_nilCheck rfl (congrArg Value.pointer hq2)) ?_
    refine EvK.pure (v := .pointer (some (q2.add 2))) (w_none rfl) rfl rfl (f_fieldAddr fd93_2 rfl rfl) ?_
    obtain ⟨x1, hx1, hF⟩ := hF
    refine EvK.read (v := Sl.val x1) (w_none rfl) rfl rfl (f_load kL ty91 rfl rfl hx1 rfl) ?_
    refine EvK.pure (v := .int .i64 (x1.len : Int)) (w_none rfl) rfl rfl (f_lenL (s := x1) Tryz.underlying91 rfl rfl) ?_
    refine EvK.pure (v := .bool (decide (s2.2.2 < (x1.len : Int)))) (w_none rfl) rfl rfl (f_lss rfl rfl rfl) ?_
    refine EvK.nil ?_
    rcases ite_inv hF with ⟨c1, hF⟩ | ⟨c1, hF⟩
    · refine WP.cond_true _ rfl c1 ?_
      refine WP.skip ?_
      refine WP.joinF (fun (s3 : Sl × Sl) => [(3, Sl.val s3.1), (4, Sl.val s3.2), (0, .pointer a0), (5, .int .i64 s2.2.2)]) hF ?_ ?_
      · intro s3 E0 h4 hF
        refine WP.region ?_
        refine EvK.pure (v := .int .i64 s2.2.2) (w_none rfl) rfl rfl (f_move rfl rfl) ?_
        refine EvK.pure (v := .int .i64 (IntKind.i64.wrap (s2.2.2 + 1))) (w_none rfl) rfl rfl (f_add rfl rfl rfl) ?_
        refine EvK.pure (v := .int .i64 (IntKind.i64.wrap (s2.2.2 + 1))) (w_none rfl) rfl rfl (f_assign rfl rfl) ?_
        refine EvK.nil ?_
        exact KE.mk (s3.1, s3.2, IntKind.i64.wrap (s2.2.2 + 1)) ⟨rfl, rfl, rfl, rfl, trivial⟩ hF
      · intro k3 hF
        refine WP.block ?_
        refine WP.seq ?_
        refine WP.region ?_
        refine EvK.pure (v := .pointer a0) (w_none rfl) rfl rfl (f_move rfl rfl) ?_
        obtain ⟨q3, hq3, hF⟩ := hF
        refine EvK.pure (v := .pointer (some q3)) (w_none rfl) rfl rfl (f_nilCheck rfl (congrArg Value.pointer hq3)) ?_
        refine EvK.pure (v := .pointer (some (q3.add 2))) (w_none rfl) rfl rfl (f_fieldAddr fd93_2 rfl rfl) ?_
        obtain ⟨x2, hx2, hF⟩ := hF
        refine EvK.read (v := Sl.val x2) (w_none rfl) rfl rfl (f_load kL ty91 rfl rfl hx2 rfl) ?_
        refine EvK.pure (v := .int .i64 s2.2.2) (w_none rfl) rfl rfl (f_move rfl rfl) ?_
        obtain ⟨q4, hq4, hF⟩ := hF
        refine EvK.pure (v := .pointer (some q4)) (w_none rfl) rfl rfl (f_indexAddr (s := x2) Tryz.underlying91 ty150.size rfl rfl rfl hq4) ?_
        obtain ⟨x3, hx3, hF⟩ := hF
        refine EvK.read (v := k149.val x3) (w_none rfl) rfl rfl (f_load k149 ty150 rfl rfl hx3 rfl) ?_
        refine EvK.alloc (w_none rfl) rfl rfl (f_allocF zero150 rfl rfl hF) ?_
        rintro _ h5 ⟨q5, rfl, hF⟩
        obtain ⟨h6, hs2, hF⟩ := hF
        refine EvK.runN (w_none rfl) rfl (f_store k149 ty150.size (z := x3) rfl rfl rfl hs2) ?_
        rintro _ _ ⟨rfl, rfl⟩
        refine EvK.nil ?_
        refine WP.seq ?_
        refine WP.joinF (fun (s4 : Bool) => [(33, .bool s4), (0, .pointer a0), (3, Sl.val s2.1), (4, Sl.val s2.2.1), (5, .int .i64 s2.2.2), (6, .pointer (some q5))]) hF ?_ ?_
        · intro s4 E0 h7 hF
          rcases ite_inv hF with ⟨c2, hF⟩ | ⟨c2, hF⟩
          · refine WP.cond_true _ rfl c2 ?_
            refine WP.seq ?_
            refine WP.region ?_
            refine EvK.pure (v := Sl.val s2.2.1) (w_none rfl) rfl rfl (f_move rfl rfl) ?_
            obtain ⟨x4, hx4, hF⟩ := hF
            refine EvK.read (v := k149.val x4) (w_none rfl) rfl rfl (f_load k149 ty150 rfl rfl hx4 rfl) ?_
            refine EvK.alloc (w_none rfl) rfl rfl (f_buildSliceF Tryz.underlying91 el150 (by decide) rfl rfl rfl hF) ?_
            rintro _ h8 ⟨x5, rfl, hF⟩
            refine EvK.run (w_none rfl) rfl rfl (f_appendE (s := s2.2.1) (x := x5) Tryz.underlying91 el150 rfl rfl rfl hF) ?_
            rintro _ h9 ⟨x6, rfl, hF⟩
            refine EvK.pure (v := Sl.val x6) (w_none rfl) rfl rfl (f_assign rfl rfl) ?_
            refine EvK.nil ?_
            refine WP.exit ?_
            exact KE.mk (s2.1, x6) ⟨rfl, rfl, rfl, rfl, trivial⟩ hF
          · refine WP.cond_false _ rfl c2 ?_
            refine WP.skip ?_
            refine WP.seq ?_
            refine WP.draw mixed [.pure, .pure, .pure, .pure, .read, .read, .alloc, .eff [], .pure, .pure, .eff []] [[], [], [1], [1, 2], [1, 2, 3], [], [5], [1, 2, 3, 4, 5, 6], [0, 1, 2, 3, 4, 5, 6, 7], [0, 1, 2, 3, 4, 5, 6, 7, 8], [0, 1, 2, 3, 4, 5, 6, 7, 8, 9]] [0, 1, 2, 3, 4, 5, 6, 7, 8, 9, 10] (by kernel_rfl) (by kernel_rfl) ?_
            refine EvI.pure (v := .pointer a0) rfl rfl (w_none rfl) rfl (f_move rfl rfl) ?_
            refine EvI.pure (v := .pointer a0) rfl rfl (w_none rfl) rfl (f_move rfl rfl) ?_
            obtain ⟨q6, hq5, hF⟩ := hF
            refine EvI.pure (v := .pointer (some q6)) rfl rfl (w_none rfl) rfl (f_nilCheck rfl (congrArg Value.pointer hq5)) ?_
            refine EvI.pure (v := .pointer (some (q6.add 1))) rfl rfl (w_none rfl) rfl (f_fieldAddr fd93_1 rfl rfl) ?_
            obtain ⟨x7, hx5, hF⟩ := hF
            refine EvI.read (v := Sl.val x7) rfl rfl (w_none rfl) rfl (f_load kL ty91 rfl rfl hx5 rfl) ?_
            obtain ⟨x8, hx6, hF⟩ := hF
            refine EvI.read (v := k149.val x8) rfl rfl (w_none rfl) rfl (f_load k149 ty150 rfl rfl hx6 rfl) ?_
            refine EvI.alloc rfl rfl (w_none rfl) rfl (f_buildSliceF Tryz.underlying91 el150 (by decide) rfl rfl rfl hF) ?_
            rintro _ h10 ⟨x9, rfl, hF⟩
            refine EvI.run rfl rfl (w_none rfl) rfl (f_appendE (s := x7) (x := x9) Tryz.underlying91 el150 rfl rfl rfl hF) ?_
            rintro _ h11 ⟨x10, rfl, hF⟩
            refine ⟨⟨chk_no rfl, chk_no rfl, trivial⟩, ?_⟩
            obtain ⟨q7, hq6, hF⟩ := hF
            refine EvI.pure (v := .pointer (some q7)) rfl rfl (w_none rfl) rfl (f_nilCheck rfl (congrArg Value.pointer hq6)) ?_
            refine EvI.pure (v := .pointer (some (q7.add 1))) rfl rfl (w_none rfl) rfl (f_fieldAddr fd93_1 rfl rfl) ?_
            obtain ⟨h12, hs3, hF⟩ := hF
            refine EvI.runN rfl rfl (w_none rfl) rfl (f_store kL ty91.size (z := x10) rfl rfl rfl hs3) ?_
            rintro _ _ ⟨rfl, rfl⟩
            refine ⟨⟨chk_no rfl, chk_no rfl, trivial⟩, ?_⟩
            refine EvI.nil ?_
            refine WP.region ?_
            refine EvK.pure (v := Sl.val s2.1) (w_none rfl) rfl rfl (f_move rfl rfl) ?_
            refine EvK.pure (v := .pointer (some (q5.add 0))) (w_none rfl) rfl rfl (f_fieldAddr fd150_0 rfl rfl) ?_
            obtain ⟨x11, hx7, hF⟩ := hF
            refine EvK.read (v := .int .i64 x11) (w_none rfl) rfl rfl (f_load (kI .i64) ty3 rfl rfl hx7 rfl) ?_
            refine EvK.alloc (w_none rfl) rfl rfl (f_buildSliceF Tryz.underlying51 el3 (by decide) rfl rfl rfl hF) ?_
            rintro _ h13 ⟨x12, rfl, hF⟩
            refine EvK.run (w_none rfl) rfl rfl (f_appendE (s := s2.1) (x := x12) Tryz.underlying51 el3 rfl rfl rfl hF) ?_
            rintro _ h14 ⟨x13, rfl, hF⟩
            refine EvK.pure (v := Sl.val x13) (w_none rfl) rfl rfl (f_assign rfl rfl) ?_
            refine EvK.nil ?_
            exact KE.mk (x13, s2.2.1) ⟨rfl, rfl, rfl, rfl, trivial⟩ hF
        · intro k4 hF
          refine WP.draw mixed [.pure, .pure, .pure, .read, .read, .eff [], .pure, .pure, .read, .eff [], .pure] [[], [0], [0, 1], [0, 1, 2], [], [0, 1, 2, 3, 4], [0, 1, 2, 3, 4, 5], [0, 1, 2, 3, 4, 5, 6], [0, 1, 2, 3, 4, 5, 6], [0, 1, 2, 3, 4, 5, 6, 7, 8], [0, 1, 2, 3, 4, 5, 6, 7, 8, 9]] [0, 1, 2, 3, 4, 5, 6, 7, 8, 9, 10] (by kernel_rfl) (by kernel_rfl) ?_
          refine EvI.pure (v := .pointer a0) rfl rfl (w_none rfl) rfl (f_move rfl rfl) ?_
          obtain ⟨q8, hq7, hF⟩ := hF
          refine EvI.pure (v := .pointer (some q8)) rfl rfl (w_none rfl) rfl (f_nilCheck rfl (congrArg Value.pointer hq7)) ?_
          refine EvI.pure (v := .pointer (some (q8.add 1))) rfl rfl (w_none rfl) rfl (f_fieldAddr fd93_1 rfl rfl) ?_
          obtain ⟨x14, hx8, hF⟩ := hF
          refine EvI.read (v := Sl.val x14) rfl rfl (w_none rfl) rfl (f_load kL ty91 rfl rfl hx8 rfl) ?_
          obtain ⟨x15, hx9, hF⟩ := hF
          refine EvI.read (v := k149.val x15) rfl rfl (w_none rfl) rfl (f_load k149 ty150 rfl rfl hx9 rfl) ?_
          refine EvI.call rfl rfl (w_none rfl) rfl (enterH Tryz.func79 rfl rfl rfl rfl (spateref11_conflicts.sound hF)) ?_
          rintro _ h15 ⟨r1, rfl, hF⟩
          refine ⟨⟨chk_no rfl, chk_no rfl, trivial⟩, ?_⟩
          refine EvI.pure (v := .bool r1) rfl rfl (w_none rfl) rfl (f_move rfl rfl) ?_
          rcases ite_inv hF with ⟨c3, hF⟩ | ⟨c3, hF⟩
          · refine EvI.not rfl (w_not rfl rfl c3) rfl ?_
            refine EvI.not rfl (w_not rfl rfl c3) rfl ?_
            refine EvI.not rfl (w_not rfl rfl c3) rfl ?_
            refine EvI.pure (v := .bool true) rfl rfl (w_none rfl) rfl (f_pickT rfl rfl c3 rfl) ?_
            refine EvI.nil ?_
            exact KE.mk true ⟨rfl, rfl, rfl, rfl, rfl, rfl, trivial⟩ hF
          · refine EvI.pure (v := Sl.val s2.2.1) rfl rfl (w_some rfl rfl c3) rfl (f_move rfl rfl) ?_
            obtain ⟨x16, hx10, hF⟩ := hF
            refine EvI.read (v := k149.val x16) rfl rfl (w_some rfl rfl c3) rfl (f_load k149 ty150 rfl rfl hx10 rfl) ?_
            refine EvI.call rfl rfl (w_some rfl rfl c3) rfl (enterH Tryz.func79 rfl rfl rfl rfl (spateref11_conflicts.sound hF)) ?_
            rintro _ h16 ⟨r2, rfl, hF⟩
            refine ⟨⟨chk_no rfl, chk_no rfl, chk_no rfl, trivial⟩, ?_⟩
            refine EvI.pure (v := .bool r2) rfl rfl (w_none rfl) rfl (f_pickF rfl rfl c3 rfl) ?_
            refine EvI.nil ?_
            exact KE.mk r2 ⟨rfl, rfl, rfl, rfl, rfl, rfl, trivial⟩ hF
    · refine WP.cond_false _ rfl c1 ?_
      refine WP.exit ?_
      exact KE.mk (s2.1, s2.2.1) ⟨rfl, rfl, rfl, trivial⟩ hF
end Go.Proofs.YtomngllmnhdmlaaGreat
/- spate/spateref11.New, as a predicate over the heap, and that the code comes to it. Printed by gen.py. -/
namespace Go.Proofs.YtomngllmnhdmlaaGreat
open Go Go.Tr
set_option linter.unusedVariables false
set_option maxRecDepth 100000
set_option maxHeartbeats 400000
/-- spate/spateref11.New -/
def spateref11_New (a0 : Int) (h : H) (Q : ((Option Addr) × Int) → H → Prop) : Prop :=
  jn (fun (k1 : Bool → H → Prop) =>
    if (decide (a0 < 1)) = true then
      k1 true h
    else
      k1 (decide (a0 > 1024)) h) fun s1 h1 =>
  if s1 = true then
    Q (none, 1) h1
  else
    al 93 (k92.enc (S92.mk a0 Sl.nil Sl.nil)) h1 fun q1 h2 =>
    Q ((some q1), 0) h2
theorem spateref11_New.sound {a0 : Int} {h : H} {Q : ((Option Addr) × Int) → H → Prop} (hF : spateref11_New a0 h Q) :
    CallsH Tryz.prog 20 (List.toArray (α := Value) [.int .i64 a0]) h fun v h' => ∃ x : (Option Addr) × Int, v = .tuple #[.pointer x.1, .int .i64 x.2] ∧ Q x h' := by
  refine CallsH.of_body Tryz.func20 rfl 13 rfl rfl ?_
  refine WP.seq ?_
  refine WP.region ?_
  refine EvK.pure (v := .pointer none) (w_none rfl) rfl rfl (f_assign rfl rfl) ?_
  refine EvK.pure (v := .int .i64 0) (w_none rfl) rfl rfl (f_assign rfl rfl) ?_
  refine EvK.nil ?_
  refine WP.seq ?_
  refine WP.joinF (fun (s1 : Bool) => [(9, .bool s1), (0, .int .i64 a0)]) hF ?_ ?_
  · intro s1 E0 h1 hF
    rcases ite_inv hF with ⟨c1, hF⟩ | ⟨c1, hF⟩
    · refine WP.cond_true _ rfl c1 ?_
      refine WP.seq ?_
      refine WP.region ?_
      refine EvK.pure (v := .pointer none) (w_none rfl) rfl rfl (f_assign rfl rfl) ?_
      refine EvK.pure (v := .int .i64 1) (w_none rfl) rfl rfl (f_assign rfl rfl) ?_
      refine EvK.nil ?_
      refine WP.ret ?_
      exact Ret.mk (vs := [.pointer none, .int .i64 1]) (none, 1) ⟨rfl, rfl, trivial⟩ rfl hF
    · refine WP.cond_false _ rfl c1 ?_
      refine WP.skip ?_
      refine WP.seq ?_
      refine WP.region ?_
      refine EvK.pure (v := .int .i64 a0) (w_none rfl) rfl rfl (f_move rfl rfl) ?_
      refine EvK.pure (v := k92.val (S92.mk a0 Sl.nil Sl.nil)) (w_none rfl) rfl rfl (f_build (cells := k92.enc (S92.mk a0 Sl.nil Sl.nil)) st93 rfl rfl rfl) ?_
      refine EvK.alloc (w_none rfl) rfl rfl (f_boxF (v := k92.val (S92.mk a0 Sl.nil Sl.nil)) rfl rfl rfl hF) ?_
      rintro _ h2 ⟨q1, rfl, hF⟩
      refine EvK.pure (v := .pointer (some q1)) (w_none rfl) rfl rfl (f_assign rfl rfl) ?_
      refine EvK.pure (v := .int .i64 0) (w_none rfl) rfl rfl (f_assign rfl rfl) ?_
      refine EvK.nil ?_
      refine WP.ret ?_
      exact Ret.mk (vs := [.pointer (some q1), .int .i64 0]) ((some q1), 0) ⟨rfl, rfl, trivial⟩ rfl hF
  · intro k1 hF
    refine WP.region ?_
    refine EvK.pure (v := .int .i64 a0) (w_none rfl) rfl rfl (f_move rfl rfl) ?_
    refine EvK.pure (v := .bool (decide (a0 < 1))) (w_none rfl) rfl rfl (f_lss rfl rfl rfl) ?_
    refine EvK.pure (v := .bool (decide (a0 < 1))) (w_none rfl) rfl rfl (f_move rfl rfl) ?_
    rcases ite_inv hF with ⟨c2, hF⟩ | ⟨c2, hF⟩
    · refine EvK.not (w_not rfl rfl c2) rfl rfl ?_
      refine EvK.not (w_not rfl rfl c2) rfl rfl ?_
      refine EvK.pure (v := .bool true) (w_none rfl) rfl rfl (f_pickT rfl rfl c2 rfl) ?_
      refine EvK.nil ?_
      exact KE.mk true ⟨rfl, rfl, trivial⟩ hF
    · refine EvK.pure (v := .int .i64 a0) (w_some rfl rfl c2) rfl rfl (f_move rfl rfl) ?_
      refine EvK.pure (v := .bool (decide (a0 > 1024))) (w_some rfl rfl c2) rfl rfl (f_gtr rfl rfl rfl) ?_
      refine EvK.pure (v := .bool (decide (a0 > 1024))) (w_none rfl) rfl rfl (f_pickF rfl rfl c2 rfl) ?_
      refine EvK.nil ?_
      exact KE.mk (decide (a0 > 1024)) ⟨rfl, rfl, trivial⟩ hF
end Go.Proofs.YtomngllmnhdmlaaGreat
/- (*spate/spateref11.Manager).Ask, as a predicate over the heap, and that the code comes to it. Printed by gen.py. -/
namespace Go.Proofs.YtomngllmnhdmlaaGreat
open Go Go.Tr
set_option linter.unusedVariables false
set_option maxRecDepth 100000
set_option maxHeartbeats 400000
/-- (*spate/spateref11.Manager).Ask -/
def spateref11_Manager_Ask (a0 : Option Addr) (a1 : Int) (a2 : Sl) (h : H) (Q : (Bool × Int) → H → Prop) : Prop :=
  spateref11_Manager_ordered a0 a2 h fun r1 h1 =>
  jn (fun (k1 : Bool → H → Prop) =>
    if (decide (a1 < 0)) = true then
      k1 true h1
    else
      k1 (!r1.2) h1) fun s1 h2 =>
  if s1 = true then
    Q (false, 1) h2
  else
    jn (fun (k2 : Bool → H → Prop) =>
      rd a0 fun q8 =>
      rd (ld kL (q8.add 1) h2) fun x13 =>
      spateref11_find x13 a1 h2 fun r4 h15 =>
      if (decide (r4 ≥ 0)) = true then
        k2 true h15
      else
        rd a0 fun q9 =>
        rd (ld kL (q9.add 2) h15) fun x14 =>
        spateref11_find x14 a1 h15 fun r5 h16 =>
        k2 (decide (r5 ≥ 0)) h16) fun s2 h3 =>
    if s2 = true then
      Q (false, 41) h3
    else
      al 150 (k149.enc z149) h3 fun q1 h4 =>
      rd (st k149 q1 (S149.mk a1 r1.1) h4) fun h5 =>
      jn (fun (k3 : Bool → H → Prop) =>
        rd a0 fun q6 =>
        rd (ld kL (q6.add 1) h5) fun x9 =>
        rd (ld k149 q1 h5) fun x10 =>
        spateref11_conflicts x9 x10 h5 fun r2 h13 =>
        if r2 = true then
          k3 true h13
        else
          rd a0 fun q7 =>
          rd (ld kL (q7.add 2) h13) fun x11 =>
          rd (ld k149 q1 h13) fun x12 =>
          spateref11_conflicts x11 x12 h13 fun r3 h14 =>
          k3 r3 h14) fun s3 h6 =>
      if s3 = true then
        rd a0 fun q2 =>
        rd (ld kL (q2.add 2) h6) fun x1 =>
        rd (ld k149 q1 h6) fun x2 =>
        bs 150 1 (k149.enc x2) h6 fun x3 h7 =>
        ap k149.n 32 150 (k149.enc z149) x1 x3 h7 fun x4 h8 =>
        rd a0 fun q3 =>
        rd (st kL (q3.add 2) x4 h8) fun h9 =>
        Q (false, 0) h9
      else
        rd a0 fun q4 =>
        rd (ld kL (q4.add 1) h6) fun x5 =>
        rd (ld k149 q1 h6) fun x6 =>
        bs 150 1 (k149.enc x6) h6 fun x7 h10 =>
        ap k149.n 32 150 (k149.enc z149) x5 x7 h10 fun x8 h11 =>
        rd a0 fun q5 =>
        rd (st kL (q5.add 1) x8 h11) fun h12 =>
        Q (true, 0) h12
theorem spateref11_Manager_Ask.sound {a0 : Option Addr} {a1 : Int} {a2 : Sl} {h : H} {Q : (Bool × Int) → H → Prop} (hF : spateref11_Manager_Ask a0 a1 a2 h Q) :
    CallsH Tryz.prog 59 (List.toArray (α := Value) [.pointer a0, .int .i64 a1, Sl.val a2]) h fun v h' => ∃ x : Bool × Int, v = .tuple #[.bool x.1, .int .i64 x.2] ∧ Q x h' := by
  refine CallsH.of_body Tryz.func59 rfl 76 rfl rfl ?_
  refine WP.seq ?_
  refine WP.region ?_
  refine EvK.pure (v := .bool false) (w_none rfl) rfl rfl (f_assign rfl rfl) ?_
  refine EvK.pure (v := .int .i64 0) (w_none rfl) rfl rfl (f_assign rfl rfl) ?_
  refine EvK.nil ?_
  refine WP.seq ?_
  refine WP.region ?_
  refine EvK.pure (v := .pointer a0) (w_none rfl) rfl rfl (f_move rfl rfl) ?_
  refine EvK.pure (v := Sl.val a2) (w_none rfl) rfl rfl (f_move rfl rfl) ?_
  refine EvK.call (w_none rfl) rfl rfl (enterH Tryz.func77 rfl rfl rfl rfl (spateref11_Manager_ordered.sound hF)) ?_
  rintro _ h1 ⟨r1, rfl, hF⟩
  refine EvK.pure (v := .tuple #[Sl.val r1.1, .bool r1.2]) (w_none rfl) rfl rfl (f_move rfl rfl) ?_
  refine EvK.pure (v := Sl.val r1.1) (w_none rfl) rfl rfl (f_extract (vs := #[Sl.val r1.1, .bool r1.2]) rfl rfl rfl) ?_
  refine EvK.pure (v := .bool r1.2) (w_none rfl) rfl rfl (f_extract (vs := #[Sl.val r1.1, .bool r1.2]) rfl rfl rfl) ?_
  refine EvK.pure (v := Sl.val r1.1) (w_none rfl) rfl rfl (f_assign rfl rfl) ?_
  refine EvK.pure (v := .bool r1.2) (w_none rfl) rfl rfl (f_assign rfl rfl) ?_
  refine EvK.nil ?_
  refine WP.seq ?_
  refine WP.joinF (fun (s1 : Bool) => [(22, .bool s1), (0, .pointer a0), (1, .int .i64 a1), (8, Sl.val r1.1)]) hF ?_ ?_
  · intro s1 E0 h2 hF
    rcases ite_inv hF with ⟨c1, hF⟩ | ⟨c1, hF⟩
    · refine WP.cond_true _ rfl c1 ?_
      refine WP.seq ?_
      refine WP.region ?_
      refine EvK.pure (v := .bool false) (w_none rfl) rfl rfl (f_assign rfl rfl) ?_
      refine EvK.pure (v := .int .i64 1) (w_none rfl) rfl rfl (f_assign rfl rfl) ?_
      refine EvK.nil ?_
      refine WP.ret ?_
      exact Ret.mk (vs := [.bool false, .int .i64 1]) (false, 1) ⟨rfl, rfl, trivial⟩ rfl hF
    · refine WP.cond_false _ rfl c1 ?_
      refine WP.skip ?_
      refine WP.seq ?_
      refine WP.joinF (fun (s2 : Bool) => [(38, .bool s2), (0, .pointer a0), (1, .int .i64 a1), (8, Sl.val r1.1)]) hF ?_ ?_
      · intro s2 E0 h3 hF
        rcases ite_inv hF with ⟨c2, hF⟩ | ⟨c2, hF⟩
        · refine WP.cond_true _ rfl c2 ?_
          refine WP.seq ?_
          refine WP.region ?_
          refine EvK.pure (v := .bool false) (w_none rfl) rfl rfl (f_assign rfl rfl) ?_
          refine EvK.pure (v := .int .i64 41) (w_none rfl) rfl rfl (f_assign rfl rfl) ?_
          refine EvK.nil ?_
          refine WP.ret ?_
          exact Ret.mk (vs := [.bool false, .int .i64 41]) (false, 41) ⟨rfl, rfl, trivial⟩ rfl hF
        · refine WP.cond_false _ rfl c2 ?_
          refine WP.skip ?_
          refine WP.seq ?_
          refine WP.region ?_
          refine EvK.pure (v := .int .i64 a1) (w_none rfl) rfl rfl (f_move rfl rfl) ?_
          refine EvK.pure (v := Sl.val r1.1) (w_none rfl) rfl rfl (f_move rfl rfl) ?_
          refine EvK.pure (v := k149.val (S149.mk a1 r1.1)) (w_none rfl) rfl rfl (f_build (cells := k149.enc (S149.mk a1 r1.1)) st150 rfl rfl rfl) ?_
          refine EvK.alloc (w_none rfl) rfl rfl (f_allocF zero150 rfl rfl hF) ?_
          rintro _ h4 ⟨q1, rfl, hF⟩
          obtain ⟨h5, hs1, hF⟩ := hF
          refine EvK.runN (w_none rfl) rfl (f_store k149 ty150.size (z := (S149.mk a1 r1.1)) rfl rfl rfl hs1) ?_
          rintro _ _ ⟨rfl, rfl⟩
          refine EvK.nil ?_
          refine WP.seq ?_
          refine WP.joinF (fun (s3 : Bool) => [(55, .bool s3), (0, .pointer a0), (10, .pointer (some q1))]) hF ?_ ?_
          · intro s3 E0 h6 hF
            rcases ite_inv hF with ⟨c3, hF⟩ | ⟨c3, hF⟩
            · refine WP.cond_true _ rfl c3 ?_
              refine WP.seq ?_
              refine WP.draw mixed [.pure, .pure, .pure, .pure, .read, .read, .alloc, .eff [], .pure, .pure, .eff []] [[], [], [1], [1, 2], [1, 2, 3], [], [5], [1, 2, 3, 4, 5, 6], [0, 1, 2, 3, 4, 5, 6, 7], [0, 1, 2, 3, 4, 5, 6, 7, 8], [0, 1, 2, 3, 4, 5, 6, 7, 8, 9]] [0, 1, 2, 3, 4, 5, 6, 7, 8, 9, 10] (by kernel_rfl) (by kernel_rfl) ?_
              refine EvI.pure (v := .pointer a0) rfl rfl (w_none rfl) rfl (f_move rfl rfl) ?_
              refine EvI.pure (v := .pointer a0) rfl rfl (w_none rfl) rfl (f_move rfl rfl) ?_
              obtain ⟨q2, hq1, hF⟩ := hF
              refine EvI.pure (v := .pointer (some q2)) rfl rfl (w_none rfl) rfl (f_nilCheck rfl (congrArg Value.pointer hq1)) ?_
              refine EvI.pure (v := .pointer (some (q2.add 2))) rfl rfl (w_none rfl) rfl (f_fieldAddr fd93_2 rfl rfl) ?_
              obtain ⟨x1, hx1, hF⟩ := hF
              refine EvI.read (v := Sl.val x1) rfl rfl (w_none rfl) rfl (f_load kL ty91 rfl rfl hx1 rfl) ?_
              obtain ⟨x2, hx2, hF⟩ := hF
              refine EvI.read (v := k149.val x2) rfl rfl (w_none rfl) rfl (f_load k149 ty150 rfl rfl hx2 rfl) ?_
              refine EvI.alloc rfl rfl (w_none rfl) rfl (f_buildSliceF Tryz.underlying91 el150 (by decide) rfl rfl rfl hF) ?_
              rintro _ h7 ⟨x3, rfl, hF⟩
              refine EvI.run rfl rfl (w_none rfl) rfl (f_appendE (s := x1) (x := x3) Tryz.underlying91 el150 rfl rfl rfl hF) ?_
              rintro _ h8 ⟨x4, rfl, hF⟩
              refine ⟨⟨chk_no rfl, chk_no rfl, trivial⟩, ?_⟩
              obtain ⟨q3, hq2, hF⟩ := hF
              refine EvI.pure (v := .pointer (some q3)) rfl rfl (w_none rfl) rfl (f_nilCheck rfl (congrArg Value.pointer hq2)) ?_
              refine EvI.pure (v := .pointer (some (q3.add 2))) rfl rfl (w_none rfl) rfl (f_fieldAddr fd93_2 rfl rfl) ?_
              obtain ⟨h9, hs2, hF⟩ := hF
              refine EvI.runN rfl rfl (w_none rfl) rfl (f_store kL ty91.size (z := x4) rfl rfl rfl hs2) ?_
              rintro _ _ ⟨rfl, rfl⟩
              refine ⟨⟨chk_no rfl, chk_no rfl, trivial⟩, ?_⟩
              refine EvI.nil ?_
              refine WP.seq ?_
              refine WP.region ?_
              refine EvK.pure (v := .bool false) (w_none rfl) rfl rfl (f_assign rfl rfl) ?_
              refine EvK.pure (v := .int .i64 0) (w_none rfl) rfl rfl (f_assign rfl rfl) ?_
              refine EvK.nil ?_
              refine WP.ret ?_
              exact Ret.mk (vs := [.bool false, .int .i64 0]) (false, 0) ⟨rfl, rfl, trivial⟩ rfl hF
            · refine WP.cond_false _ rfl c3 ?_
              refine WP.skip ?_
              refine WP.seq ?_
              refine WP.draw mixed [.pure, .pure, .pure, .pure, .read, .read, .alloc, .eff [], .pure, .pure, .eff []] [[], [], [1], [1, 2], [1, 2, 3], [], [5], [1, 2, 3, 4, 5, 6], [0, 1, 2, 3, 4, 5, 6, 7], [0, 1, 2, 3, 4, 5, 6, 7, 8], [0, 1, 2, 3, 4, 5, 6, 7, 8, 9]] [0, 1, 2, 3, 4, 5, 6, 7, 8, 9, 10] (by kernel_rfl) (by kernel_rfl) ?_
              refine EvI.pure (v := .pointer a0) rfl rfl (w_none rfl) rfl (f_move rfl rfl) ?_
              refine EvI.pure (v := .pointer a0) rfl rfl (w_none rfl) rfl (f_move rfl rfl) ?_
              obtain ⟨q4, hq3, hF⟩ := hF
              refine EvI.pure (v := .pointer (some q4)) rfl rfl (w_none rfl) rfl (f_nilCheck rfl (congrArg Value.pointer hq3)) ?_
              refine EvI.pure (v := .pointer (some (q4.add 1))) rfl rfl (w_none rfl) rfl (f_fieldAddr fd93_1 rfl rfl) ?_
              obtain ⟨x5, hx3, hF⟩ := hF
              refine EvI.read (v := Sl.val x5) rfl rfl (w_none rfl) rfl (f_load kL ty91 rfl rfl hx3 rfl) ?_
              obtain ⟨x6, hx4, hF⟩ := hF
              refine EvI.read (v := k149.val x6) rfl rfl (w_none rfl) rfl (f_load k149 ty150 rfl rfl hx4 rfl) ?_
              refine EvI.alloc rfl rfl (w_none rfl) rfl (f_buildSliceF Tryz.underlying91 el150 (by decide) rfl rfl rfl hF) ?_
              rintro _ h10 ⟨x7, rfl, hF⟩
              refine EvI.run rfl rfl (w_none rfl) rfl (f_appendE (s := x5) (x := x7) Tryz.underlying91 el150 rfl rfl rfl hF) ?_
              rintro _ h11 ⟨x8, rfl, hF⟩
              refine ⟨⟨chk_no rfl, chk_no rfl, trivial⟩, ?_⟩
              obtain ⟨q5, hq4, hF⟩ := hF
              refine EvI.pure (v := .pointer (some q5)) rfl rfl (w_none rfl) rfl (f_nilCheck rfl (congrArg Value.pointer hq4)) ?_
              refine EvI.pure (v := .pointer (some (q5.add 1))) rfl rfl (w_none rfl) rfl (f_fieldAddr fd93_1 rfl rfl) ?_
              obtain ⟨h12, hs3, hF⟩ := hF
              refine EvI.runN rfl rfl (w_none rfl) rfl (f_store kL ty91.size (z := x8) rfl rfl rfl hs3) ?_
              rintro _ _ ⟨rfl, rfl⟩
              refine ⟨⟨chk_no rfl, chk_no rfl, trivial⟩, ?_⟩
              refine EvI.nil ?_
              refine WP.seq ?_
              refine WP.region ?_
              refine EvK.pure (v := .bool true) (w_none rfl) rfl rfl (f_assign rfl rfl) ?_
              refine EvK.pure (v := .int .i64 0) (w_none rfl) rfl rfl (f_assign rfl rfl) ?_
              refine EvK.nil ?_
              refine WP.ret ?_
              exact Ret.mk (vs := [.bool true, .int .i64 0]) (true, 0) ⟨rfl, rfl, trivial⟩ rfl hF
          · intro k3 hF
            refine WP.draw mixed [.pure, .pure, .pure, .read, .read, .eff [], .pure, .pure, .pure, .pure, .read, .read, .eff [], .pure] [[], [0], [0, 1], [0, 1, 2], [], [0, 1, 2, 3, 4], [0, 1, 2, 3, 4, 5], [0, 1, 2, 3, 4, 5, 6], [0, 1, 2, 3, 4, 5, 6, 7], [0, 1, 2, 3, 4, 5, 6, 7, 8], [0, 1, 2, 3, 4, 5, 6, 7, 8, 9], [0, 1, 2, 3, 4, 5, 6], [0, 1, 2, 3, 4, 5, 6, 7, 8, 9, 10, 11], [0, 1, 2, 3, 4, 5, 6, 7, 8, 9, 10, 11, 12]] [0, 1, 2, 3, 4, 5, 6, 7, 8, 9, 10, 11, 12, 13] (by kernel_rfl) (by kernel_rfl) ?_
            refine EvI.pure (v := .pointer a0) rfl rfl (w_none rfl) rfl (f_move rfl rfl) ?_
            obtain ⟨q6, hq5, hF⟩ := hF
            refine EvI.pure (v := .pointer (some q6)) rfl rfl (w_none rfl) rfl (f_nilCheck rfl (congrArg Value.pointer hq5)) ?_
            refine EvI.pure (v := .pointer (some (q6.add 1))) rfl rfl (w_none rfl) rfl (f_fieldAddr fd93_1 rfl rfl) ?_
            obtain ⟨x9, hx5, hF⟩ := hF
            refine EvI.read (v := Sl.val x9) rfl rfl (w_none rfl) rfl (f_load kL ty91 rfl rfl hx5 rfl) ?_
            obtain ⟨x10, hx6, hF⟩ := hF
            refine EvI.read (v := k149.val x10) rfl rfl (w_none rfl) rfl (f_load k149 ty150 rfl rfl hx6 rfl) ?_
            refine EvI.call rfl rfl (w_none rfl) rfl (enterH Tryz.func79 rfl rfl rfl rfl (spateref11_conflicts.sound hF)) ?_
            rintro _ h13 ⟨r2, rfl, hF⟩
            refine ⟨⟨chk_no rfl, chk_no rfl, trivial⟩, ?_⟩
            refine EvI.pure (v := .bool r2) rfl rfl (w_none rfl) rfl (f_move rfl rfl) ?_
            rcases ite_inv hF with ⟨c4, hF⟩ | ⟨c4, hF⟩
            · refine EvI.not rfl (w_not rfl rfl c4) rfl ?_
              refine EvI.not rfl (w_not rfl rfl c4) rfl ?_
              refine EvI.not rfl (w_not rfl rfl c4) rfl ?_
              refine EvI.not rfl (w_not rfl rfl c4) rfl ?_
              refine EvI.not rfl (w_not rfl rfl c4) rfl ?_
              refine EvI.not rfl (w_not rfl rfl c4) rfl ?_
              refine EvI.pure (v := .bool true) rfl rfl (w_none rfl) rfl (f_pickT rfl rfl c4 rfl) ?_
              refine EvI.nil ?_
              exact KE.mk true ⟨rfl, rfl, rfl, trivial⟩ hF
            · refine EvI.pure (v := .pointer a0) rfl rfl (w_some rfl rfl c4) rfl (f_move rfl rfl) ?_
              obtain ⟨q7, hq6, hF⟩ := hF
              refine EvI.pure (v := .pointer (some q7)) rfl rfl (w_some rfl rfl c4) rfl (f_nilCheck rfl (congrArg Value.pointer hq6)) ?_
              refine EvI.pure (v := .pointer (some (q7.add 2))) rfl rfl (w_some rfl rfl c4) rfl (f_fieldAddr fd93_2 rfl rfl) ?_
              obtain ⟨x11, hx7, hF⟩ := hF
              refine EvI.read (v := Sl.val x11) rfl rfl (w_some rfl rfl c4) rfl (f_load kL ty91 rfl rfl hx7 rfl) ?_
              obtain ⟨x12, hx8, hF⟩ := hF
              refine EvI.read (v := k149.val x12) rfl rfl (w_some rfl rfl c4) rfl (f_load k149 ty150 rfl rfl hx8 rfl) ?_
              refine EvI.call rfl rfl (w_some rfl rfl c4) rfl (enterH Tryz.func79 rfl rfl rfl rfl (spateref11_conflicts.sound hF)) ?_
              rintro _ h14 ⟨r3, rfl, hF⟩
              refine ⟨⟨chk_no rfl, chk_no rfl, chk_no rfl, chk_no rfl, trivial⟩, ?_⟩
              refine EvI.pure (v := .bool r3) rfl rfl (w_none rfl) rfl (f_pickF rfl rfl c4 rfl) ?_
              refine EvI.nil ?_
              exact KE.mk r3 ⟨rfl, rfl, rfl, trivial⟩ hF
      · intro k2 hF
        refine WP.region ?_
        refine EvK.pure (v := .pointer a0) (w_none rfl) rfl rfl (f_move rfl rfl) ?_
        obtain ⟨q8, hq7, hF⟩ := hF
        refine EvK.pure (v := .pointer (some q8)) (w_none rfl) rfl rfl (f_nilCheck rfl (congrArg Value.pointer hq7)) ?_
        refine EvK.pure (v := .pointer (some (q8.add 1))) (w_none rfl) rfl rfl (f_fieldAddr fd93_1 rfl rfl) ?_
        obtain ⟨x13, hx9, hF⟩ := hF
        refine EvK.read (v := Sl.val x13) (w_none rfl) rfl rfl (f_load kL ty91 rfl rfl hx9 rfl) ?_
        refine EvK.pure (v := .int .i64 a1) (w_none rfl) rfl rfl (f_move rfl rfl) ?_
        refine EvK.call (w_none rfl) rfl rfl (enterH Tryz.func78 rfl rfl rfl rfl (spateref11_find.sound hF)) ?_
        rintro _ h15 ⟨r4, rfl, hF⟩
        refine EvK.pure (v := .bool (decide (r4 ≥ 0))) (w_none rfl) rfl rfl (f_geq rfl rfl rfl) ?_
        refine EvK.pure (v := .bool (decide (r4 ≥ 0))) (w_none rfl) rfl rfl (f_move rfl rfl) ?_
        rcases ite_inv hF with ⟨c5, hF⟩ | ⟨c5, hF⟩
        · refine EvK.not (w_not rfl rfl c5) rfl rfl ?_
          refine EvK.not (w_not rfl rfl c5) rfl rfl ?_
          refine EvK.not (w_not rfl rfl c5) rfl rfl ?_
          refine EvK.not (w_not rfl rfl c5) rfl rfl ?_
          refine EvK.not (w_not rfl rfl c5) rfl rfl ?_
          refine EvK.not (w_not rfl rfl c5) rfl rfl ?_
          refine EvK.not (w_not rfl rfl c5) rfl rfl ?_
          refine EvK.pure (v := .bool true) (w_none rfl) rfl rfl (f_pickT rfl rfl c5 rfl) ?_
          refine EvK.nil ?_
          exact KE.mk true ⟨rfl, rfl, rfl, rfl, trivial⟩ hF
        · refine EvK.pure (v := .pointer a0) (w_some rfl rfl c5) rfl rfl (f_move rfl rfl) ?_
          obtain ⟨q9, hq8, hF⟩ := hF
          refine EvK.pure (v := .pointer (some q9)) (w_some rfl rfl c5) rfl rfl (f_nilCheck rfl (congrArg Value.pointer hq8)) ?_
          refine EvK.pure (v := .pointer (some (q9.add 2))) (w_some rfl rfl c5) rfl rfl (f_fieldAddr fd93_2 rfl rfl) ?_
          obtain ⟨x14, hx10, hF⟩ := hF
          refine EvK.read (v := Sl.val x14) (w_some rfl rfl c5) rfl rfl (f_load kL ty91 rfl rfl hx10 rfl) ?_
          refine EvK.pure (v := .int .i64 a1) (w_some rfl rfl c5) rfl rfl (f_move rfl rfl) ?_
          refine EvK.call (w_some rfl rfl c5) rfl rfl (enterH Tryz.func78 rfl rfl rfl rfl (spateref11_find.sound hF)) ?_
          rintro _ h16 ⟨r5, rfl, hF⟩
          refine EvK.pure (v := .bool (decide (r5 ≥ 0))) (w_some rfl rfl c5) rfl rfl (f_geq rfl rfl rfl) ?_
          refine EvK.pure (v := .bool (decide (r5 ≥ 0))) (w_none rfl) rfl rfl (f_pickF rfl rfl c5 rfl) ?_
          refine EvK.nil ?_
          exact KE.mk (decide (r5 ≥ 0)) ⟨rfl, rfl, rfl, rfl, trivial⟩ hF
  · intro k1 hF
    refine WP.region ?_
    refine EvK.pure (v := .int .i64 a1) (w_none rfl) rfl rfl (f_move rfl rfl) ?_
    refine EvK.pure (v := .bool (decide (a1 < 0))) (w_none rfl) rfl rfl (f_lss rfl rfl rfl) ?_
    refine EvK.pure (v := .bool (decide (a1 < 0))) (w_none rfl) rfl rfl (f_move rfl rfl) ?_
    rcases ite_inv hF with ⟨c6, hF⟩ | ⟨c6, hF⟩
    · refine EvK.not (w_not rfl rfl c6) rfl rfl ?_
      refine EvK.not (w_not rfl rfl c6) rfl rfl ?_
      refine EvK.pure (v := .bool true) (w_none rfl) rfl rfl (f_pickT rfl rfl c6 rfl) ?_
      refine EvK.nil ?_
      exact KE.mk true ⟨rfl, rfl, rfl, rfl, trivial⟩ hF
    · refine EvK.pure (v := .bool r1.2) (w_some rfl rfl c6) rfl rfl (f_move rfl rfl) ?_
      refine EvK.pure (v := .bool (!r1.2)) (w_some rfl rfl c6) rfl rfl (f_not rfl rfl) ?_
      refine EvK.pure (v := .bool (!r1.2)) (w_none rfl) rfl rfl (f_pickF rfl rfl c6 rfl) ?_
      refine EvK.nil ?_
      exact KE.mk (!r1.2) ⟨rfl, rfl, rfl, rfl, trivial⟩ hF
end Go.Proofs.YtomngllmnhdmlaaGreat
