/- Functions as predicates over the heap, and that the code comes to them. Printed by gen.py, merged by group.py. -/
import Derived.Test.YtanpaamamfabkaaTy
namespace Go.Proofs.Ytanpaamamfabkaa
open Go Go.Tr
set_option linter.unusedVariables false
set_option maxRecDepth 100000
set_option maxHeartbeats 400000
def flow_New.b1 (p2 : Int) (p8 : Option Addr) (p42 : Int) (s : Int) (h : H) (K : Int ⊕ Unit → H → Prop) : Prop :=
  if (decide (s < p42)) = true then
    rd p8 fun q2 =>
    rd (ld kL (q2.add 1) h) fun x2 =>
    mk k82.n 48 83 (k82.enc z82) p2 p2 h fun x3 h4 =>
    rd (ixA 3 x2 s) fun q3 =>
    rd (st kL (q3.add 0) x3 h4) fun h5 =>
    K (.inl (IntKind.i64.wrap (s + 1))) h5
  else
    K (.inr ()) h
/-- spate/flow.New -/
def flow_New (a0 : Int) (a1 : Int) (a2 : Int) (h : H) (Q : ((Option Addr) × Int) → H → Prop) : Prop :=
  jn (fun (k1 : Bool → H → Prop) =>
    if (decide (a0 < 1)) = true then
      k1 true h
    else
      if (decide (a0 > 8)) = true then
        k1 true h
      else
        if (decide (a1 < 1)) = true then
          k1 true h
        else
          if (decide (a1 > 8)) = true then
            k1 true h
          else
            if (decide (a2 < 1)) = true then
              k1 true h
            else
              k1 (decide (a2 > 64)) h) fun s1 h1 =>
  if s1 = true then
    Q (none, 1) h1
  else
    jn (fun (k2 : (Option Addr) → H → Prop) =>
      (mk k78.n 32 79 (k78.enc z78) a0 a0 h1 fun x4 h7 =>
      mk k61.n 40 62 (k61.enc z61) a1 a1 h7 fun x5 h8 =>
      al 59 (k58.enc (S58.mk x4 x5)) h8 fun q4 h9 =>
      k2 (some q4) h9) ∧
      (mk k61.n 40 62 (k61.enc z61) a1 a1 h1 fun x6 h10 =>
      mk k78.n 32 79 (k78.enc z78) a0 a0 h10 fun x7 h11 =>
      al 59 (k58.enc (S58.mk x7 x6)) h11 fun q5 h12 =>
      k2 (some q5) h12)) fun s2 h2 =>
    jn (fun (k3 : Unit → H → Prop) =>
      rd s2 fun q1 =>
      rd (ld kL (q1.add 1) h2) fun x1 =>
      loopE (flow_New.b1 a2 s2 (x1.len : Int)) 0 h2 (fun r1 hh => k3 r1 hh)) fun s3 h3 =>
    Q (s2, 0) h3
theorem flow_New.sound {a0 : Int} {a1 : Int} {a2 : Int} {h : H} {Q : ((Option Addr) × Int) → H → Prop} (hF : flow_New a0 a1 a2 h Q) :
    CallsH Try.prog 9 (List.toArray (α := Value) [.int .i64 a0, .int .i64 a1, .int .i64 a2]) h fun v h' => ∃ x : (Option Addr) × Int, v = .tuple #[.pointer x.1, .int .i64 x.2] ∧ Q x h' := by
  refine CallsH.of_body Try.func9 rfl 57 rfl rfl ?_
  refine WP.seq ?_
  refine WP.region ?_
  refine EvK.pure (v := .pointer none) (w_none rfl) rfl rfl (f_assign rfl rfl) ?_
  refine EvK.pure (v := .int .i64 0) (w_none rfl) rfl rfl (f_assign rfl rfl) ?_
  refine EvK.nil ?_
  refine WP.seq ?_
  refine WP.joinF (fun (s1 : Bool) => [(31, .bool s1), (0, .int .i64 a0), (1, .int .i64 a1), (2, .int .i64 a2)]) hF ?_ ?_
  · intro s1 E0 h1 hF
    rcases ite_inv hF with ⟨c1, hF⟩ | ⟨c1, hF⟩
    · refine WP.cond_true _ rfl c1 ?_
      refine WP.seq ?_
      refine WP.region ?_
      refine EvK.pure (v := .pointer none) (w_none rfl) rfl rfl (f_assign rfl rfl) ?_
      refine EvK.pure (v := .int .i64 1) (w_none rfl) rfl rfl (f_assign rfl rfl) ?_
      refine EvK.nil ?_
      refine WP.ret ?_
      exact Ret.mk (vs := [.pointer none, .int .i64 1]) (none, 1) ⟨rfl, rfl, trivial⟩ rfl hF
    · refine WP.cond_false _ rfl c1 ?_
      refine WP.skip ?_
      refine WP.joinF (fun (s2 : Option Addr) => [(8, .pointer s2), (2, .int .i64 a2)]) hF ?_ ?_
      · intro s2 E0 h2 hF
        refine WP.joinF (fun (s3 : Unit) => [(8, .pointer s2)]) hF ?_ ?_
        · intro s3 E0 h3 hF
          refine WP.seq ?_
          refine WP.region ?_
          refine EvK.pure (v := .pointer s2) (w_none rfl) rfl rfl (f_move rfl rfl) ?_
          refine EvK.pure (v := .pointer s2) (w_none rfl) rfl rfl (f_assign rfl rfl) ?_
          refine EvK.pure (v := .int .i64 0) (w_none rfl) rfl rfl (f_assign rfl rfl) ?_
          refine EvK.nil ?_
          refine WP.ret ?_
          exact Ret.mk (vs := [.pointer s2, .int .i64 0]) (s2, 0) ⟨rfl, rfl, trivial⟩ rfl hF
        · intro k3 hF
          refine WP.seq ?_
          refine WP.region ?_
          refine EvK.pure (v := .pointer s2) (w_none rfl) rfl rfl (f_move rfl rfl) ?_
          obtain ⟨q1, hq1, hF⟩ := hF
          refine EvK.pure (v := .pointer (some q1)) (w_none rfl) rfl rfl (f_nilCheck rfl (congrArg Value.pointer hq1)) ?_
          refine EvK.pure (v := .pointer (some (q1.add 1))) (w_none rfl) rfl rfl (f_fieldAddr fd59_1 rfl rfl) ?_
          obtain ⟨x1, hx1, hF⟩ := hF
          refine EvK.read (v := Sl.val x1) (w_none rfl) rfl rfl (f_load kL ty57 rfl rfl hx1 rfl) ?_
          refine EvK.pure (v := .int .i64 (x1.len : Int)) (w_none rfl) rfl rfl (f_lenL (s := x1) Try.underlying57 rfl rfl) ?_
          refine EvK.pure (v := .int .i64 0) (w_none rfl) rfl rfl (f_move rfl rfl) ?_
          refine EvK.nil ?_
          refine WP.block ?_
          refine WP.loopF (fun (s4 : Int) => [(43, .int .i64 s4), (2, .int .i64 a2), (8, .pointer s2), (42, .int .i64 (x1.len : Int))]) hF ⟨rfl, rfl, rfl, rfl, trivial⟩ ?_
          intro k4 s4 E0 h4 hF
          refine WP.seq ?_
          refine WP.region ?_
          refine EvK.pure (v := .bool (decide (s4 < (x1.len : Int)))) (w_none rfl) rfl rfl (f_lss rfl rfl rfl) ?_
          refine EvK.nil ?_
          refine WP.seq ?_
          rcases ite_inv hF with ⟨c2, hF⟩ | ⟨c2, hF⟩
          · refine WP.cond_true _ rfl c2 ?_
            refine WP.skip ?_
            refine WP.seq ?_
            refine WP.block ?_
            refine WP.seq ?_
            refine WP.region ?_
            refine EvK.pure (v := .int .i64 s4) (w_none rfl) rfl rfl (f_move rfl rfl) ?_
            refine EvK.pure (v := .int .i64 s4) (w_none rfl) rfl rfl (f_assign rfl rfl) ?_
            refine EvK.nil ?_
            refine WP.draw mixed [.pure, .pure, .pure, .read, .pure, .pure, .alloc, .pure, .pure, .eff []] [[], [0], [0, 1], [0, 1, 2], [], [], [5], [0, 1, 2, 3, 4, 5, 6], [0, 1, 2, 3, 4, 5, 6, 7], [0, 1, 2, 3, 4, 5, 6, 7, 8]] [0, 1, 2, 3, 4, 5, 6, 7, 8, 9] (by kernel_rfl) (by kernel_rfl) ?_
            refine EvI.pure (v := .pointer s2) rfl rfl (w_none rfl) rfl (f_move rfl rfl) ?_
            obtain ⟨q2, hq2, hF⟩ := hF
            refine EvI.pure (v := .pointer (some q2)) rfl rfl (w_none rfl) rfl (f_nilCheck rfl (congrArg Value.pointer hq2)) ?_
            refine EvI.pure (v := .pointer (some (q2.add 1))) rfl rfl (w_none rfl) rfl (f_fieldAddr fd59_1 rfl rfl) ?_
            obtain ⟨x2, hx2, hF⟩ := hF
            refine EvI.read (v := Sl.val x2) rfl rfl (w_none rfl) rfl (f_load kL ty57 rfl rfl hx2 rfl) ?_
            refine EvI.pure (v := .int .i64 s4) rfl rfl (w_none rfl) rfl (f_move rfl rfl) ?_
            refine EvI.pure (v := .int .i64 a2) rfl rfl (w_none rfl) rfl (f_move rfl rfl) ?_
            refine EvI.alloc rfl rfl (w_none rfl) rfl (f_makeSlice Try.underlying60 el83 rfl rfl rfl hF) ?_
            rintro _ h5 ⟨x3, rfl, hF⟩
            obtain ⟨q3, hq3, hF⟩ := hF
            refine EvI.pure (v := .pointer (some q3)) rfl rfl (w_none rfl) rfl (f_indexAddr (s := x2) Try.underlying57 ty62.size rfl rfl rfl hq3) ?_
            refine EvI.pure (v := .pointer (some (q3.add 0))) rfl rfl (w_none rfl) rfl (f_fieldAddr fd62_0 rfl rfl) ?_
            obtain ⟨h6, hs1, hF⟩ := hF
            refine EvI.runN rfl rfl (w_none rfl) rfl (f_store kL ty60.size (z := x3) rfl rfl rfl hs1) ?_
            rintro _ _ ⟨rfl, rfl⟩
            refine ⟨⟨chk_no rfl, trivial⟩, ?_⟩
            refine EvI.nil ?_
            refine WP.region ?_
            refine EvK.pure (v := .int .i64 (IntKind.i64.wrap (s4 + 1))) (w_none rfl) rfl rfl (f_add rfl rfl rfl) ?_
            refine EvK.pure (v := .int .i64 (IntKind.i64.wrap (s4 + 1))) (w_none rfl) rfl rfl (f_move rfl rfl) ?_
            refine EvK.nil ?_
            exact KE.mk (IntKind.i64.wrap (s4 + 1)) ⟨rfl, rfl, rfl, rfl, trivial⟩ hF
          · refine WP.cond_false _ rfl c2 ?_
            refine WP.exit ?_
            exact KE.mk () ⟨rfl, trivial⟩ hF
      · intro k2 hF
        refine WP.drawA mixed 7 rfl (by kernel_rfl) ?_
        refine EvA.pure (v := .int .i64 a0) 0 (by kernel_rfl) rfl (by kernel_rfl) (by kernel_rfl) (w_none rfl) rfl (f_move rfl rfl) ?_
        refine EvA.pure (v := .int .i64 a1) 2 (by kernel_rfl) rfl (by kernel_rfl) (by kernel_rfl) (w_none rfl) rfl (f_move rfl rfl) ?_
        obtain ⟨hA1, hA2⟩ := hF
        refine EvA.alts [1, 3] (by kernel_rfl) rfl (forall_two ?_ (forall_two ?_ forall_nil))
        · have hF := hA1
          refine StepA.alloc rfl (w_none rfl) rfl (f_makeSlice Try.underlying56 el79 rfl rfl rfl hF) ?_
          rintro _ h7 ⟨x4, rfl, hF⟩
          refine EvA.alts [3] (by kernel_rfl) rfl (forall_two ?_ forall_nil)
          refine StepA.alloc rfl (w_none rfl) rfl (f_makeSlice Try.underlying57 el62 rfl rfl rfl hF) ?_
          rintro _ h8 ⟨x5, rfl, hF⟩
          refine EvA.pure (v := k58.val (S58.mk x4 x5)) 4 (by kernel_rfl) rfl (by kernel_rfl) (by kernel_rfl) (w_none rfl) rfl (f_build (cells := k58.enc (S58.mk x4 x5)) st59 rfl rfl rfl) ?_
          refine EvA.alts [5] (by kernel_rfl) rfl (forall_two ?_ forall_nil)
          refine StepA.alloc rfl (w_none rfl) rfl (f_boxF (v := k58.val (S58.mk x4 x5)) rfl rfl rfl hF) ?_
          rintro _ h9 ⟨q4, rfl, hF⟩
          refine EvA.pure (v := .pointer (some q4)) 6 (by kernel_rfl) rfl (by kernel_rfl) (by kernel_rfl) (w_none rfl) rfl (f_assign rfl rfl) ?_
          refine EvA.nil (by kernel_rfl) ?_
          exact KE.mk (some q4) ⟨rfl, rfl, trivial⟩ hF
        · have hF := hA2
          refine StepA.alloc rfl (w_none rfl) rfl (f_makeSlice Try.underlying57 el62 rfl rfl rfl hF) ?_
          rintro _ h10 ⟨x6, rfl, hF⟩
          refine EvA.alts [1] (by kernel_rfl) rfl (forall_two ?_ forall_nil)
          refine StepA.alloc rfl (w_none rfl) rfl (f_makeSlice Try.underlying56 el79 rfl rfl rfl hF) ?_
          rintro _ h11 ⟨x7, rfl, hF⟩
          refine EvA.pure (v := k58.val (S58.mk x7 x6)) 4 (by kernel_rfl) rfl (by kernel_rfl) (by kernel_rfl) (w_none rfl) rfl (f_build (cells := k58.enc (S58.mk x7 x6)) st59 rfl rfl rfl) ?_
          refine EvA.alts [5] (by kernel_rfl) rfl (forall_two ?_ forall_nil)
          refine StepA.alloc rfl (w_none rfl) rfl (f_boxF (v := k58.val (S58.mk x7 x6)) rfl rfl rfl hF) ?_
          rintro _ h12 ⟨q5, rfl, hF⟩
          refine EvA.pure (v := .pointer (some q5)) 6 (by kernel_rfl) rfl (by kernel_rfl) (by kernel_rfl) (w_none rfl) rfl (f_assign rfl rfl) ?_
          refine EvA.nil (by kernel_rfl) ?_
          exact KE.mk (some q5) ⟨rfl, rfl, trivial⟩ hF
  · intro k1 hF
    refine WP.region ?_
    refine EvK.pure (v := .int .i64 a0) (w_none rfl) rfl rfl (f_move rfl rfl) ?_
    refine EvK.pure (v := .bool (decide (a0 < 1))) (w_none rfl) rfl rfl (f_lss rfl rfl rfl) ?_
    refine EvK.pure (v := .bool (decide (a0 < 1))) (w_none rfl) rfl rfl (f_move rfl rfl) ?_
    rcases ite_inv hF with ⟨c3, hF⟩ | ⟨c3, hF⟩
    · refine EvK.not (w_not rfl rfl c3) rfl rfl ?_
      refine EvK.not (w_not rfl rfl c3) rfl rfl ?_
      refine EvK.pure (v := .bool true) (w_none rfl) rfl rfl (f_pickT rfl rfl c3 rfl) ?_
      refine EvK.pure (v := .bool true) (w_none rfl) rfl rfl (f_move rfl rfl) ?_
      refine EvK.not (w_not rfl rfl rfl) rfl rfl ?_
      refine EvK.not (w_not rfl rfl rfl) rfl rfl ?_
      refine EvK.pure (v := .bool true) (w_none rfl) rfl rfl (f_pickT rfl rfl rfl rfl) ?_
      refine EvK.pure (v := .bool true) (w_none rfl) rfl rfl (f_move rfl rfl) ?_
      refine EvK.not (w_not rfl rfl rfl) rfl rfl ?_
      refine EvK.not (w_not rfl rfl rfl) rfl rfl ?_
      refine EvK.pure (v := .bool true) (w_none rfl) rfl rfl (f_pickT rfl rfl rfl rfl) ?_
      refine EvK.pure (v := .bool true) (w_none rfl) rfl rfl (f_move rfl rfl) ?_
      refine EvK.not (w_not rfl rfl rfl) rfl rfl ?_
      refine EvK.not (w_not rfl rfl rfl) rfl rfl ?_
      refine EvK.pure (v := .bool true) (w_none rfl) rfl rfl (f_pickT rfl rfl rfl rfl) ?_
      refine EvK.pure (v := .bool true) (w_none rfl) rfl rfl (f_move rfl rfl) ?_
      refine EvK.not (w_not rfl rfl rfl) rfl rfl ?_
      refine EvK.not (w_not rfl rfl rfl) rfl rfl ?_
      refine EvK.pure (v := .bool true) (w_none rfl) rfl rfl (f_pickT rfl rfl rfl rfl) ?_
      refine EvK.nil ?_
      exact KE.mk true ⟨rfl, rfl, rfl, rfl, trivial⟩ hF
    · refine EvK.pure (v := .int .i64 a0) (w_some rfl rfl c3) rfl rfl (f_move rfl rfl) ?_
      refine EvK.pure (v := .bool (decide (a0 > 8))) (w_some rfl rfl c3) rfl rfl (f_gtr rfl rfl rfl) ?_
      refine EvK.pure (v := .bool (decide (a0 > 8))) (w_none rfl) rfl rfl (f_pickF rfl rfl c3 rfl) ?_
      refine EvK.pure (v := .bool (decide (a0 > 8))) (w_none rfl) rfl rfl (f_move rfl rfl) ?_
      rcases ite_inv hF with ⟨c4, hF⟩ | ⟨c4, hF⟩
      · refine EvK.not (w_not rfl rfl c4) rfl rfl ?_
        refine EvK.not (w_not rfl rfl c4) rfl rfl ?_
        refine EvK.pure (v := .bool true) (w_none rfl) rfl rfl (f_pickT rfl rfl c4 rfl) ?_
        refine EvK.pure (v := .bool true) (w_none rfl) rfl rfl (f_move rfl rfl) ?_
        refine EvK.not (w_not rfl rfl rfl) rfl rfl ?_
        refine EvK.not (w_not rfl rfl rfl) rfl rfl ?_
        refine EvK.pure (v := .bool true) (w_none rfl) rfl rfl (f_pickT rfl rfl rfl rfl) ?_
        refine EvK.pure (v := .bool true) (w_none rfl) rfl rfl (f_move rfl rfl) ?_
        refine EvK.not (w_not rfl rfl rfl) rfl rfl ?_
        refine EvK.not (w_not rfl rfl rfl) rfl rfl ?_
        refine EvK.pure (v := .bool true) (w_none rfl) rfl rfl (f_pickT rfl rfl rfl rfl) ?_
        refine EvK.pure (v := .bool true) (w_none rfl) rfl rfl (f_move rfl rfl) ?_
        refine EvK.not (w_not rfl rfl rfl) rfl rfl ?_
        refine EvK.not (w_not rfl rfl rfl) rfl rfl ?_
        refine EvK.pure (v := .bool true) (w_none rfl) rfl rfl (f_pickT rfl rfl rfl rfl) ?_
        refine EvK.nil ?_
        exact KE.mk true ⟨rfl, rfl, rfl, rfl, trivial⟩ hF
      · refine EvK.pure (v := .int .i64 a1) (w_some rfl rfl c4) rfl rfl (f_move rfl rfl) ?_
        refine EvK.pure (v := .bool (decide (a1 < 1))) (w_some rfl rfl c4) rfl rfl (f_lss rfl rfl rfl) ?_
        refine EvK.pure (v := .bool (decide (a1 < 1))) (w_none rfl) rfl rfl (f_pickF rfl rfl c4 rfl) ?_
        refine EvK.pure (v := .bool (decide (a1 < 1))) (w_none rfl) rfl rfl (f_move rfl rfl) ?_
        rcases ite_inv hF with ⟨c5, hF⟩ | ⟨c5, hF⟩
        · refine EvK.not (w_not rfl rfl c5) rfl rfl ?_
          refine EvK.not (w_not rfl rfl c5) rfl rfl ?_
          refine EvK.pure (v := .bool true) (w_none rfl) rfl rfl (f_pickT rfl rfl c5 rfl) ?_
          refine EvK.pure (v := .bool true) (w_none rfl) rfl rfl (f_move rfl rfl) ?_
          refine EvK.not (w_not rfl rfl rfl) rfl rfl ?_
          refine EvK.not (w_not rfl rfl rfl) rfl rfl ?_
          refine EvK.pure (v := .bool true) (w_none rfl) rfl rfl (f_pickT rfl rfl rfl rfl) ?_
          refine EvK.pure (v := .bool true) (w_none rfl) rfl rfl (f_move rfl rfl) ?_
          refine EvK.not (w_not rfl rfl rfl) rfl rfl ?_
          refine EvK.not (w_not rfl rfl rfl) rfl rfl ?_
          refine EvK.pure (v := .bool true) (w_none rfl) rfl rfl (f_pickT rfl rfl rfl rfl) ?_
          refine EvK.nil ?_
          exact KE.mk true ⟨rfl, rfl, rfl, rfl, trivial⟩ hF
        · refine EvK.pure (v := .int .i64 a1) (w_some rfl rfl c5) rfl rfl (f_move rfl rfl) ?_
          refine EvK.pure (v := .bool (decide (a1 > 8))) (w_some rfl rfl c5) rfl rfl (f_gtr rfl rfl rfl) ?_
          refine EvK.pure (v := .bool (decide (a1 > 8))) (w_none rfl) rfl rfl (f_pickF rfl rfl c5 rfl) ?_
          refine EvK.pure (v := .bool (decide (a1 > 8))) (w_none rfl) rfl rfl (f_move rfl rfl) ?_
          rcases ite_inv hF with ⟨c6, hF⟩ | ⟨c6, hF⟩
          · refine EvK.not (w_not rfl rfl c6) rfl rfl ?_
            refine EvK.not (w_not rfl rfl c6) rfl rfl ?_
            refine EvK.pure (v := .bool true) (w_none rfl) rfl rfl (f_pickT rfl rfl c6 rfl) ?_
            refine EvK.pure (v := .bool true) (w_none rfl) rfl rfl (f_move rfl rfl) ?_
            refine EvK.not (w_not rfl rfl rfl) rfl rfl ?_
            refine EvK.not (w_not rfl rfl rfl) rfl rfl ?_
            refine EvK.pure (v := .bool true) (w_none rfl) rfl rfl (f_pickT rfl rfl rfl rfl) ?_
            refine EvK.nil ?_
            exact KE.mk true ⟨rfl, rfl, rfl, rfl, trivial⟩ hF
          · refine EvK.pure (v := .int .i64 a2) (w_some rfl rfl c6) rfl rfl (f_move rfl rfl) ?_
            refine EvK.pure (v := .bool (decide (a2 < 1))) (w_some rfl rfl c6) rfl rfl (f_lss rfl rfl rfl) ?_
            refine EvK.pure (v := .bool (decide (a2 < 1))) (w_none rfl) rfl rfl (f_pickF rfl rfl c6 rfl) ?_
            refine EvK.pure (v := .bool (decide (a2 < 1))) (w_none rfl) rfl rfl (f_move rfl rfl) ?_
            rcases ite_inv hF with ⟨c7, hF⟩ | ⟨c7, hF⟩
            · refine EvK.not (w_not rfl rfl c7) rfl rfl ?_
              refine EvK.not (w_not rfl rfl c7) rfl rfl ?_
              refine EvK.pure (v := .bool true) (w_none rfl) rfl rfl (f_pickT rfl rfl c7 rfl) ?_
              refine EvK.nil ?_
              exact KE.mk true ⟨rfl, rfl, rfl, rfl, trivial⟩ hF
            · refine EvK.pure (v := .int .i64 a2) (w_some rfl rfl c7) rfl rfl (f_move rfl rfl) ?_
              refine EvK.pure (v := .bool (decide (a2 > 64))) (w_some rfl rfl c7) rfl rfl (f_gtr rfl rfl rfl) ?_
              refine EvK.pure (v := .bool (decide (a2 > 64))) (w_none rfl) rfl rfl (f_pickF rfl rfl c7 rfl) ?_
              refine EvK.nil ?_
              exact KE.mk (decide (a2 > 64)) ⟨rfl, rfl, rfl, rfl, trivial⟩ hF
end Go.Proofs.Ytanpaamamfabkaa

namespace Go.Proofs.Ytanpaamamfabkaa
open Go Go.Tr
set_option linter.unusedVariables false
set_option maxRecDepth 100000
set_option maxHeartbeats 400000
def table_Hash.b1 (p7 : Sl) (p8 : Int) (s : Int × Int) (h : H) (K : (Int × Int) ⊕ Int → H → Prop) : Prop :=
  if (decide (s.2 < p8)) = true then
    rd (ixA 1 p7 s.2) fun q1 =>
    rd (ld (kI .u8) q1 h) fun x2 =>
    K (.inl (IntKind.u64.wrap ((bitI .xor .u64 s.1 (IntKind.u64.wrap x2)) * 1099511628211), IntKind.i64.wrap (s.2 + 1))) h
  else
    K (.inr s.1) h
/-- spate/table.Hash -/
def table_Hash (a0 : ByteArray) (h : H) (Q : Int → H → Prop) : Prop :=
  jn (fun (k1 : Int → H → Prop) =>
    s2b 5 a0 h fun x1 h2 =>
    loopE (table_Hash.b1 x1 (x1.len : Int)) (14695981039346656037, 0) h2 (fun r1 hh => k1 r1 hh)) fun s1 h1 =>
  Q s1 h1
theorem table_Hash.sound {a0 : ByteArray} {h : H} {Q : Int → H → Prop} (hF : table_Hash a0 h Q) :
    CallsH Try.prog 31 (List.toArray (α := Value) [.string a0]) h fun v h' => ∃ x : Int, v = .int .u64 x ∧ Q x h' := by
  refine CallsH.of_body Try.func31 rfl 20 rfl rfl ?_
  refine WP.seq ?_
  refine WP.region ?_
  refine EvK.pure (v := .int .u64 0) (w_none rfl) rfl rfl (f_assign rfl rfl) ?_
  refine EvK.nil ?_
  refine WP.seq ?_
  refine WP.region ?_
  refine EvK.pure (v := .int .u64 14695981039346656037) (w_none rfl) rfl rfl (f_assign rfl rfl) ?_
  refine EvK.nil ?_
  refine WP.joinF (fun (s1 : Int) => [(3, .int .u64 s1)]) hF ?_ ?_
  · intro s1 E0 h1 hF
    refine WP.seq ?_
    refine WP.region ?_
    refine EvK.pure (v := .int .u64 s1) (w_none rfl) rfl rfl (f_move rfl rfl) ?_
    refine EvK.pure (v := .int .u64 s1) (w_none rfl) rfl rfl (f_assign rfl rfl) ?_
    refine EvK.nil ?_
    refine WP.ret ?_
    exact Ret.mk (vs := [.int .u64 s1]) s1 ⟨rfl, trivial⟩ rfl hF
  · intro k1 hF
    refine WP.seq ?_
    refine WP.region ?_
    refine EvK.pure (v := .string a0) (w_none rfl) rfl rfl (f_move rfl rfl) ?_
    refine EvK.alloc (w_none rfl) rfl rfl (f_s2b Try.underlying9 Try.underlying88 Try.underlying5 rfl rfl hF) ?_
    rintro _ h2 ⟨x1, rfl, hF⟩
    refine EvK.pure (v := .int .i64 (x1.len : Int)) (w_none rfl) rfl rfl (f_lenL (s := x1) Try.underlying88 rfl rfl) ?_
    refine EvK.pure (v := .int .i64 0) (w_none rfl) rfl rfl (f_move rfl rfl) ?_
    refine EvK.nil ?_
    refine WP.block ?_
    refine WP.loopF (fun (s2 : Int × Int) => [(3, .int .u64 s2.1), (9, .int .i64 s2.2), (7, Sl.val x1), (8, .int .i64 (x1.len : Int))]) hF ⟨rfl, rfl, rfl, rfl, trivial⟩ ?_
    intro k2 s2 E0 h3 hF
    refine WP.seq ?_
    refine WP.region ?_
    refine EvK.pure (v := .bool (decide (s2.2 < (x1.len : Int)))) (w_none rfl) rfl rfl (f_lss rfl rfl rfl) ?_
    refine EvK.nil ?_
    refine WP.seq ?_
    rcases ite_inv hF with ⟨c1, hF⟩ | ⟨c1, hF⟩
    · refine WP.cond_true _ rfl c1 ?_
      refine WP.skip ?_
      refine WP.seq ?_
      refine WP.block ?_
      refine WP.seq ?_
      refine WP.region ?_
      obtain ⟨q1, hq1, hF⟩ := hF
      refine EvK.pure (v := .pointer (some q1)) (w_none rfl) rfl rfl (f_indexAddr (s := x1) Try.underlying88 ty5.size rfl rfl rfl hq1) ?_
      obtain ⟨x2, hx1, hF⟩ := hF
      refine EvK.read (v := .int .u8 x2) (w_none rfl) rfl rfl (f_load (kI .u8) ty5 rfl rfl hx1 rfl) ?_
      refine EvK.pure (v := .int .u8 x2) (w_none rfl) rfl rfl (f_assign rfl rfl) ?_
      refine EvK.nil ?_
      refine WP.region ?_
      refine EvK.pure (v := .int .u64 s2.1) (w_none rfl) rfl rfl (f_move rfl rfl) ?_
      refine EvK.pure (v := .int .u8 x2) (w_none rfl) rfl rfl (f_move rfl rfl) ?_
      refine EvK.pure (v := .int .u64 (IntKind.u64.wrap x2)) (w_none rfl) rfl rfl (f_convI Try.underlying5 Try.underlying72 rfl rfl) ?_
      refine EvK.pure (v := .int .u64 (bitI .xor .u64 s2.1 (IntKind.u64.wrap x2))) (w_none rfl) rfl rfl (f_xor rfl rfl rfl) ?_
      refine EvK.pure (v := .int .u64 (IntKind.u64.wrap ((bitI .xor .u64 s2.1 (IntKind.u64.wrap x2)) * 1099511628211))) (w_none rfl) rfl rfl (f_mul rfl rfl rfl) ?_
      refine EvK.pure (v := .int .u64 (IntKind.u64.wrap ((bitI .xor .u64 s2.1 (IntKind.u64.wrap x2)) * 1099511628211))) (w_none rfl) rfl rfl (f_assign rfl rfl) ?_
      refine EvK.nil ?_
      refine WP.region ?_
      refine EvK.pure (v := .int .i64 (IntKind.i64.wrap (s2.2 + 1))) (w_none rfl) rfl rfl (f_add rfl rfl rfl) ?_
      refine EvK.pure (v := .int .i64 (IntKind.i64.wrap (s2.2 + 1))) (w_none rfl) rfl rfl (f_move rfl rfl) ?_
      refine EvK.nil ?_
      exact KE.mk (IntKind.u64.wrap ((bitI .xor .u64 s2.1 (IntKind.u64.wrap x2)) * 1099511628211), IntKind.i64.wrap (s2.2 + 1)) ⟨rfl, rfl, rfl, rfl, trivial⟩ hF
    · refine WP.cond_false _ rfl c1 ?_
      refine WP.exit ?_
      exact KE.mk s2.1 ⟨rfl, trivial⟩ hF
end Go.Proofs.Ytanpaamamfabkaa

namespace Go.Proofs.Ytanpaamamfabkaa
open Go Go.Tr
set_option linter.unusedVariables false
set_option maxRecDepth 100000
set_option maxHeartbeats 400000
/-- (*spate/flow.Flow).Route -/
def flow_Flow_Route (a0 : Option Addr) (a1 : ByteArray) (h : H) (Q : Int → H → Prop) : Prop :=
  rd a0 fun q1 =>
  rd (ld kL (q1.add 1) h) fun x1 =>
  table_Hash a1 h fun r1 h1 =>
  ld kL (q1.add 1) h1 = some x1 ∧
  rd (shrI .u64 (IntKind.u64.wrap (r1 * 11400714819323198485)) 32) fun x2 =>
  rd (remI x2 (IntKind.u64.wrap (x1.len : Int))) fun x3 =>
  Q (IntKind.i64.wrap x3) h1
theorem flow_Flow_Route.sound {a0 : Option Addr} {a1 : ByteArray} {h : H} {Q : Int → H → Prop} (hF : flow_Flow_Route a0 a1 h Q) :
    CallsH Try.prog 13 (List.toArray (α := Value) [.pointer a0, .string a1]) h fun v h' => ∃ x : Int, v = .int .i64 x ∧ Q x h' := by
  refine CallsH.of_body Try.func13 rfl 17 rfl rfl ?_
  refine WP.seq ?_
  refine WP.region ?_
  refine EvK.pure (v := .int .i64 0) (w_none rfl) rfl rfl (f_assign rfl rfl) ?_
  refine EvK.nil ?_
  refine WP.seq ?_
  refine WP.draw mixed [.pure, .eff [7], .pure, .pure, .pure, .pure, .pure, .read, .pure, .pure, .pure, .pure, .pure] [[], [0], [0, 1], [0, 1, 2], [], [4], [4, 5], [4, 5, 6], [4, 5, 6, 7], [4, 5, 6, 7, 8], [0, 1, 2, 3, 4, 5, 6, 7, 8, 9], [0, 1, 2, 3, 4, 5, 6, 7, 8, 9, 10], [0, 1, 2, 3, 4, 5, 6, 7, 8, 9, 10, 11]] [0, 4, 5, 6, 7, 8, 9, 1, 2, 3, 10, 11, 12] (by kernel_rfl) (by kernel_rfl) ?_
  refine EvI.pure (v := .string a1) rfl rfl (w_none rfl) rfl (f_move rfl rfl) ?_
  refine EvI.pure (v := .pointer a0) rfl rfl (w_none rfl) rfl (f_move rfl rfl) ?_
  obtain ⟨q1, hq1, hF⟩ := hF
  refine EvI.pure (v := .pointer (some q1)) rfl rfl (w_none rfl) rfl (f_nilCheck rfl (congrArg Value.pointer hq1)) ?_
  refine EvI.pure (v := .pointer (some (q1.add 1))) rfl rfl (w_none rfl) rfl (f_fieldAddr fd59_1 rfl rfl) ?_
  obtain ⟨x1, hx1, hF⟩ := hF
  refine EvI.read (v := Sl.val x1) rfl rfl (w_none rfl) rfl (f_load kL ty57 rfl rfl hx1 rfl) ?_
  refine EvI.pure (v := .int .i64 (x1.len : Int)) rfl rfl (w_none rfl) rfl (f_lenL (s := x1) Try.underlying57 rfl rfl) ?_
  refine EvI.pure (v := .int .u64 (IntKind.u64.wrap (x1.len : Int))) rfl rfl (w_none rfl) rfl (f_convI Try.underlying3 Try.underlying72 rfl rfl) ?_
  refine EvI.call rfl rfl (w_none rfl) rfl (enterH Try.func31 rfl rfl rfl rfl (table_Hash.sound hF)) ?_
  rintro _ h1 ⟨r1, rfl, hF⟩
  obtain ⟨hy1, hF⟩ := hF
  refine ⟨⟨chk_yes rfl (f_load kL ty57 rfl rfl hy1 rfl), trivial⟩, ?_⟩
  refine EvI.pure (v := .int .u64 (IntKind.u64.wrap (r1 * 11400714819323198485))) rfl rfl (w_none rfl) rfl (f_mul rfl rfl rfl) ?_
  obtain ⟨x2, hx2, hF⟩ := hF
  refine EvI.pure (v := .int .u64 x2) rfl rfl (w_none rfl) rfl (f_shr rfl rfl rfl hx2) ?_
  obtain ⟨x3, hx3, hF⟩ := hF
  refine EvI.pure (v := .int .u64 x3) rfl rfl (w_none rfl) rfl (f_rem rfl rfl rfl hx3) ?_
  refine EvI.pure (v := .int .i64 (IntKind.i64.wrap x3)) rfl rfl (w_none rfl) rfl (f_convI Try.underlying72 Try.underlying3 rfl rfl) ?_
  refine EvI.pure (v := .int .i64 (IntKind.i64.wrap x3)) rfl rfl (w_none rfl) rfl (f_assign rfl rfl) ?_
  refine EvI.nil ?_
  refine WP.ret ?_
  exact Ret.mk (vs := [.int .i64 (IntKind.i64.wrap x3)]) (IntKind.i64.wrap x3) ⟨rfl, trivial⟩ rfl hF
end Go.Proofs.Ytanpaamamfabkaa

namespace Go.Proofs.Ytanpaamamfabkaa
open Go Go.Tr
set_option linter.unusedVariables false
set_option maxRecDepth 100000
set_option maxHeartbeats 400000
/-- (*spate/flow.Flow).of -/
def flow_Flow_of (a0 : Option Addr) (a1 : Int) (h : H) (Q : ((Option Addr) × Int) → H → Prop) : Prop :=
  jn (fun (k1 : Bool → H → Prop) =>
    if (decide (a1 < 0)) = true then
      k1 true h
    else
      rd a0 fun q3 =>
      rd (ld kL (q3.add 0) h) fun x2 =>
      k1 (decide (a1 ≥ (x2.len : Int))) h) fun s1 h1 =>
  if s1 = true then
    Q (none, 1) h1
  else
    rd a0 fun q1 =>
    rd (ld kL (q1.add 0) h1) fun x1 =>
    rd (ixA 2 x1 a1) fun q2 =>
    Q ((some q2), 0) h1
theorem flow_Flow_of.sound {a0 : Option Addr} {a1 : Int} {h : H} {Q : ((Option Addr) × Int) → H → Prop} (hF : flow_Flow_of a0 a1 h Q) :
    CallsH Try.prog 33 (List.toArray (α := Value) [.pointer a0, .int .i64 a1]) h fun v h' => ∃ x : (Option Addr) × Int, v = .tuple #[.pointer x.1, .int .i64 x.2] ∧ Q x h' := by
  refine CallsH.of_body Try.func33 rfl 23 rfl rfl ?_
  refine WP.seq ?_
  refine WP.region ?_
  refine EvK.pure (v := .pointer none) (w_none rfl) rfl rfl (f_assign rfl rfl) ?_
  refine EvK.pure (v := .int .i64 0) (w_none rfl) rfl rfl (f_assign rfl rfl) ?_
  refine EvK.nil ?_
  refine WP.seq ?_
  refine WP.joinF (fun (s1 : Bool) => [(16, .bool s1), (0, .pointer a0), (1, .int .i64 a1)]) hF ?_ ?_
  · intro s1 E0 h1 hF
    rcases ite_inv hF with ⟨c1, hF⟩ | ⟨c1, hF⟩
    · refine WP.cond_true _ rfl c1 ?_
      refine WP.seq ?_
      refine WP.region ?_
      refine EvK.pure (v := .pointer none) (w_none rfl) rfl rfl (f_assign rfl rfl) ?_
      refine EvK.pure (v := .int .i64 1) (w_none rfl) rfl rfl (f_assign rfl rfl) ?_
      refine EvK.nil ?_
      refine WP.ret ?_
      exact Ret.mk (vs := [.pointer none, .int .i64 1]) (none, 1) ⟨rfl, rfl, trivial⟩ rfl hF
    · refine WP.cond_false _ rfl c1 ?_
      refine WP.skip ?_
      refine WP.seq ?_
      refine WP.region ?_
      refine EvK.pure (v := .pointer a0) (w_none rfl) rfl rfl (f_move rfl rfl) ?_
      obtain ⟨q1, hq1, hF⟩ := hF
      refine EvK.pure (v := .pointer (some q1)) (w_none rfl) rfl rfl (f_nilCheck rfl (congrArg Value.pointer hq1)) ?_
      refine EvK.pure (v := .pointer (some (q1.add 0))) (w_none rfl) rfl rfl (f_fieldAddr fd59_0 rfl rfl) ?_
      obtain ⟨x1, hx1, hF⟩ := hF
      refine EvK.read (v := Sl.val x1) (w_none rfl) rfl rfl (f_load kL ty56 rfl rfl hx1 rfl) ?_
      refine EvK.pure (v := .int .i64 a1) (w_none rfl) rfl rfl (f_move rfl rfl) ?_
      obtain ⟨q2, hq2, hF⟩ := hF
      refine EvK.pure (v := .pointer (some q2)) (w_none rfl) rfl rfl (f_indexAddr (s := x1) Try.underlying56 ty79.size rfl rfl rfl hq2) ?_
      refine EvK.pure (v := .pointer (some q2)) (w_none rfl) rfl rfl (f_assign rfl rfl) ?_
      refine EvK.pure (v := .int .i64 0) (w_none rfl) rfl rfl (f_assign rfl rfl) ?_
      refine EvK.nil ?_
      refine WP.ret ?_
      exact Ret.mk (vs := [.pointer (some q2), .int .i64 0]) ((some q2), 0) ⟨rfl, rfl, trivial⟩ rfl hF
  · intro k1 hF
    refine WP.region ?_
    refine EvK.pure (v := .int .i64 a1) (w_none rfl) rfl rfl (f_move rfl rfl) ?_
    refine EvK.pure (v := .bool (decide (a1 < 0))) (w_none rfl) rfl rfl (f_lss rfl rfl rfl) ?_
    refine EvK.pure (v := .bool (decide (a1 < 0))) (w_none rfl) rfl rfl (f_move rfl rfl) ?_
    rcases ite_inv hF with ⟨c2, hF⟩ | ⟨c2, hF⟩
    · refine EvK.not (w_not rfl rfl c2) rfl rfl ?_
      refine EvK.not (w_not rfl rfl c2) rfl rfl ?_
      refine EvK.not (w_not rfl rfl c2) rfl rfl ?_
      refine EvK.not (w_not rfl rfl c2) rfl rfl ?_
      refine EvK.not (w_not rfl rfl c2) rfl rfl ?_
      refine EvK.not (w_not rfl rfl c2) rfl rfl ?_
      refine EvK.not (w_not rfl rfl c2) rfl rfl ?_
      refine EvK.pure (v := .bool true) (w_none rfl) rfl rfl (f_pickT rfl rfl c2 rfl) ?_
      refine EvK.nil ?_
      exact KE.mk true ⟨rfl, rfl, rfl, trivial⟩ hF
    · refine EvK.pure (v := .int .i64 a1) (w_some rfl rfl c2) rfl rfl (f_move rfl rfl) ?_
      refine EvK.pure (v := .pointer a0) (w_some rfl rfl c2) rfl rfl (f_move rfl rfl) ?_
      obtain ⟨q3, hq3, hF⟩ := hF
      refine EvK.pure (v := .pointer (some q3)) (w_some rfl rfl c2) rfl rfl (f_nilCheck rfl (congrArg Value.pointer hq3)) ?_
      refine EvK.pure (v := .pointer (some (q3.add 0))) (w_some rfl rfl c2) rfl rfl (f_fieldAddr fd59_0 rfl rfl) ?_
      obtain ⟨x2, hx2, hF⟩ := hF
      refine EvK.read (v := Sl.val x2) (w_some rfl rfl c2) rfl rfl (f_load kL ty56 rfl rfl hx2 rfl) ?_
      refine EvK.pure (v := .int .i64 (x2.len : Int)) (w_some rfl rfl c2) rfl rfl (f_lenL (s := x2) Try.underlying56 rfl rfl) ?_
      refine EvK.pure (v := .bool (decide (a1 ≥ (x2.len : Int)))) (w_some rfl rfl c2) rfl rfl (f_geq rfl rfl rfl) ?_
      refine EvK.pure (v := .bool (decide (a1 ≥ (x2.len : Int)))) (w_none rfl) rfl rfl (f_pickF rfl rfl c2 rfl) ?_
      refine EvK.nil ?_
      exact KE.mk (decide (a1 ≥ (x2.len : Int))) ⟨rfl, rfl, rfl, trivial⟩ hF
end Go.Proofs.Ytanpaamamfabkaa

namespace Go.Proofs.Ytanpaamamfabkaa
open Go Go.Tr
set_option linter.unusedVariables false
set_option maxRecDepth 100000
set_option maxHeartbeats 400000
/-- (*spate/flow.Flow).Put -/
def flow_Flow_Put (a0 : Option Addr) (a1 : Int) (a2 : S32) (h : H) (Q : Int → H → Prop) : Prop :=
  al 33 (k32.enc a2) h fun q1 h1 =>
  flow_Flow_of a0 a1 h1 fun r1 h2 =>
  if (r1.2 != 0) = true then
    Q r1.2 h2
  else
    jn (fun (k1 : Bool → H → Prop) =>
      rd (ld kB (q1.add 0) h2) fun x11 =>
      if (!x11) = true then
        rd (ld kS (q1.add 1) h2) fun x12 =>
        if (x12.toList == (⟨#[]⟩ : ByteArray).toList) = true then
          k1 true h2
        else
          rd (ld kS (q1.add 1) h2) fun x13 =>
          k1 (decide ((x13.size : Int) > 32)) h2
      else
        k1 false h2) fun s1 h3 =>
    if s1 = true then
      Q 21 h3
    else
      jn (fun (k2 : Bool → H → Prop) =>
        rd (ld (kI .i64) (q1.add 2) h3) fun x9 =>
        if (decide (x9 < (-1152921504606846976))) = true then
          k2 true h3
        else
          rd (ld (kI .i64) (q1.add 2) h3) fun x10 =>
          k2 (decide (x10 > 1152921504606846976)) h3) fun s2 h4 =>
      if s2 = true then
        Q 22 h4
      else
        jn (fun (k3 : Bool → H → Prop) =>
          rd (ld kB (q1.add 0) h4) fun x6 =>
          if x6 = true then
            rd (ld kS (q1.add 1) h4) fun x7 =>
            if (!(x7.toList == (⟨#[]⟩ : ByteArray).toList)) = true then
              k3 true h4
            else
              rd (ld (kI .i64) (q1.add 3) h4) fun x8 =>
              k3 (x8 != 0) h4
          else
            k3 false h4) fun s3 h5 =>
        if s3 = true then
          Q 16 h5
        else
          rd r1.1 fun q2 =>
          rd (ld kL (q2.add 0) h5) fun x1 =>
          if ((x1.len : Int) == 65536) = true then
            Q 2 h5
          else
            rd r1.1 fun q3 =>
            rd (ld kL (q3.add 0) h5) fun x2 =>
            rd (ld k32 q1 h5) fun x3 =>
            bs 33 1 (k32.enc x3) h5 fun x4 h6 =>
            ap k32.n 40 33 (k32.enc z32) x2 x4 h6 fun x5 h7 =>
            rd r1.1 fun q4 =>
            rd (st kL (q4.add 0) x5 h7) fun h8 =>
            Q 0 h8
theorem flow_Flow_Put.sound {a0 : Option Addr} {a1 : Int} {a2 : S32} {h : H} {Q : Int → H → Prop} (hF : flow_Flow_Put a0 a1 a2 h Q) :
    CallsH Try.prog 16 (List.toArray (α := Value) [.pointer a0, .int .i64 a1, k32.val a2]) h fun v h' => ∃ x : Int, v = .int .i64 x ∧ Q x h' := by
  refine CallsH.of_body Try.func16 rfl 73 rfl rfl ?_
  refine WP.seq ?_
  refine WP.region ?_
  refine EvK.alloc (w_none rfl) rfl rfl (f_boxF (v := k32.val a2) rfl rfl rfl hF) ?_
  rintro _ h1 ⟨q1, rfl, hF⟩
  refine EvK.pure (v := .int .i64 0) (w_none rfl) rfl rfl (f_assign rfl rfl) ?_
  refine EvK.nil ?_
  refine WP.seq ?_
  refine WP.region ?_
  refine EvK.pure (v := .pointer a0) (w_none rfl) rfl rfl (f_move rfl rfl) ?_
  refine EvK.pure (v := .int .i64 a1) (w_none rfl) rfl rfl (f_move rfl rfl) ?_
  refine EvK.call (w_none rfl) rfl rfl (enterH Try.func33 rfl rfl rfl rfl (flow_Flow_of.sound hF)) ?_
  rintro _ h2 ⟨r1, rfl, hF⟩
  refine EvK.pure (v := .tuple #[.pointer r1.1, .int .i64 r1.2]) (w_none rfl) rfl rfl (f_move rfl rfl) ?_
  refine EvK.pure (v := .pointer r1.1) (w_none rfl) rfl rfl (f_extract (vs := #[.pointer r1.1, .int .i64 r1.2]) rfl rfl rfl) ?_
  refine EvK.pure (v := .int .i64 r1.2) (w_none rfl) rfl rfl (f_extract (vs := #[.pointer r1.1, .int .i64 r1.2]) rfl rfl rfl) ?_
  refine EvK.pure (v := .pointer r1.1) (w_none rfl) rfl rfl (f_assign rfl rfl) ?_
  refine EvK.pure (v := .int .i64 r1.2) (w_none rfl) rfl rfl (f_assign rfl rfl) ?_
  refine EvK.nil ?_
  refine WP.seq ?_
  refine WP.block ?_
  refine WP.seq ?_
  refine WP.region ?_
  refine EvK.pure (v := .int .i64 r1.2) (w_none rfl) rfl rfl (f_move rfl rfl) ?_
  refine EvK.pure (v := .bool (r1.2 != 0)) (w_none rfl) rfl rfl (f_neq rfl rfl rfl) ?_
  refine EvK.pure (v := .bool (r1.2 != 0)) (w_none rfl) rfl rfl (f_assign rfl rfl) ?_
  refine EvK.nil ?_
  rcases ite_inv hF with ⟨c1, hF⟩ | ⟨c1, hF⟩
  · refine WP.cond_true _ rfl c1 ?_
    refine WP.seq ?_
    refine WP.region ?_
    refine EvK.pure (v := .int .i64 r1.2) (w_none rfl) rfl rfl (f_move rfl rfl) ?_
    refine EvK.pure (v := .int .i64 r1.2) (w_none rfl) rfl rfl (f_assign rfl rfl) ?_
    refine EvK.nil ?_
    refine WP.ret ?_
    exact Ret.mk (vs := [.int .i64 r1.2]) r1.2 ⟨rfl, trivial⟩ rfl hF
  · refine WP.cond_false _ rfl c1 ?_
    refine WP.joinF (fun (s1 : Bool) => [(19, .bool s1), (5, .pointer (some q1)), (7, .pointer r1.1)]) hF ?_ ?_
    · intro s1 E0 h3 hF
      rcases ite_inv hF with ⟨c2, hF⟩ | ⟨c2, hF⟩
      · refine WP.cond_true _ rfl c2 ?_
        refine WP.seq ?_
        refine WP.region ?_
        refine EvK.pure (v := .int .i64 21) (w_none rfl) rfl rfl (f_assign rfl rfl) ?_
        refine EvK.nil ?_
        refine WP.ret ?_
        exact Ret.mk (vs := [.int .i64 21]) 21 ⟨rfl, trivial⟩ rfl hF
      · refine WP.cond_false _ rfl c2 ?_
        refine WP.joinF (fun (s2 : Bool) => [(34, .bool s2), (5, .pointer (some q1)), (7, .pointer r1.1)]) hF ?_ ?_
        · intro s2 E0 h4 hF
          rcases ite_inv hF with ⟨c3, hF⟩ | ⟨c3, hF⟩
          · refine WP.cond_true _ rfl c3 ?_
            refine WP.seq ?_
            refine WP.region ?_
            refine EvK.pure (v := .int .i64 22) (w_none rfl) rfl rfl (f_assign rfl rfl) ?_
            refine EvK.nil ?_
            refine WP.ret ?_
            exact Ret.mk (vs := [.int .i64 22]) 22 ⟨rfl, trivial⟩ rfl hF
          · refine WP.cond_false _ rfl c3 ?_
            refine WP.joinF (fun (s3 : Bool) => [(43, .bool s3), (5, .pointer (some q1)), (7, .pointer r1.1)]) hF ?_ ?_
            · intro s3 E0 h5 hF
              rcases ite_inv hF with ⟨c4, hF⟩ | ⟨c4, hF⟩
              · refine WP.cond_true _ rfl c4 ?_
                refine WP.seq ?_
                refine WP.region ?_
                refine EvK.pure (v := .int .i64 16) (w_none rfl) rfl rfl (f_assign rfl rfl) ?_
                refine EvK.nil ?_
                refine WP.ret ?_
                exact Ret.mk (vs := [.int .i64 16]) 16 ⟨rfl, trivial⟩ rfl hF
              · refine WP.cond_false _ rfl c4 ?_
                refine WP.seq ?_
                refine WP.region ?_
                refine EvK.pure (v := .pointer r1.1) (w_none rfl) rfl rfl (f_move rfl rfl) ?_
                obtain ⟨q2, hq1, hF⟩ := hF
                refine EvK.pure (v := .pointer (some q2)) (w_none rfl) rfl rfl (f_nilCheck rfl (congrArg Value.pointer hq1)) ?_
                refine EvK.pure (v := .pointer (some (q2.add 0))) (w_none rfl) rfl rfl (f_fieldAddr fd79_0 rfl rfl) ?_
                obtain ⟨x1, hx1, hF⟩ := hF
                refine EvK.read (v := Sl.val x1) (w_none rfl) rfl rfl (f_load kL ty45 rfl rfl hx1 rfl) ?_
                refine EvK.pure (v := .int .i64 (x1.len : Int)) (w_none rfl) rfl rfl (f_lenL (s := x1) Try.underlying45 rfl rfl) ?_
                refine EvK.pure (v := .bool ((x1.len : Int) == 65536)) (w_none rfl) rfl rfl (f_eql rfl rfl rfl) ?_
                refine EvK.pure (v := .bool ((x1.len : Int) == 65536)) (w_none rfl) rfl rfl (f_assign rfl rfl) ?_
                refine EvK.nil ?_
                rcases ite_inv hF with ⟨c5, hF⟩ | ⟨c5, hF⟩
                · refine WP.cond_true _ rfl c5 ?_
                  refine WP.seq ?_
                  refine WP.region ?_
                  refine EvK.pure (v := .int .i64 2) (w_none rfl) rfl rfl (f_assign rfl rfl) ?_
                  refine EvK.nil ?_
                  refine WP.ret ?_
                  exact Ret.mk (vs := [.int .i64 2]) 2 ⟨rfl, trivial⟩ rfl hF
                · refine WP.cond_false _ rfl c5 ?_
                  refine WP.skip ?_
                  refine WP.seq ?_
                  refine WP.draw mixed [.pure, .pure, .pure, .pure, .read, .read, .alloc, .eff [], .pure, .pure, .eff []] [[], [], [1], [1, 2], [1, 2, 3], [], [5], [1, 2, 3, 4, 5, 6], [0, 1, 2, 3, 4, 5, 6, 7], [0, 1, 2, 3, 4, 5, 6, 7, 8], [0, 1, 2, 3, 4, 5, 6, 7, 8, 9]] [0, 1, 2, 3, 4, 5, 6, 7, 8, 9, 10] (by kernel_rfl) (by kernel_rfl) ?_
                  refine EvI.pure (v := .pointer r1.1) rfl rfl (w_none rfl) rfl (f_move rfl rfl) ?_
                  refine EvI.pure (v := .pointer r1.1) rfl rfl (w_none rfl) rfl (f_move rfl rfl) ?_
                  obtain ⟨q3, hq2, hF⟩ := hF
                  refine EvI.pure (v := .pointer (some q3)) rfl rfl (w_none rfl) rfl (f_nilCheck rfl (congrArg Value.pointer hq2)) ?_
                  refine EvI.pure (v := .pointer (some (q3.add 0))) rfl rfl (w_none rfl) rfl (f_fieldAddr fd79_0 rfl rfl) ?_
                  obtain ⟨x2, hx2, hF⟩ := hF
                  refine EvI.read (v := Sl.val x2) rfl rfl (w_none rfl) rfl (f_load kL ty45 rfl rfl hx2 rfl) ?_
                  obtain ⟨x3, hx3, hF⟩ := hF
                  refine EvI.read (v := k32.val x3) rfl rfl (w_none rfl) rfl (f_load k32 ty33 rfl rfl hx3 rfl) ?_
                  refine EvI.alloc rfl rfl (w_none rfl) rfl (f_buildSliceF Try.underlying45 el33 (by decide) rfl rfl rfl hF) ?_
                  rintro _ h6 ⟨x4, rfl, hF⟩
                  refine EvI.run rfl rfl (w_none rfl) rfl (f_appendE (s := x2) (x := x4) Try.underlying45 el33 rfl rfl rfl hF) ?_
                  rintro _ h7 ⟨x5, rfl, hF⟩
                  refine ⟨⟨chk_no rfl, chk_no rfl, trivial⟩, ?_⟩
                  obtain ⟨q4, hq3, hF⟩ := hF
                  refine EvI.pure (v := .pointer (some q4)) rfl rfl (w_none rfl) rfl (f_nilCheck rfl (congrArg Value.pointer hq3)) ?_
                  refine EvI.pure (v := .pointer (some (q4.add 0))) rfl rfl (w_none rfl) rfl (f_fieldAddr fd79_0 rfl rfl) ?_
                  obtain ⟨h8, hs1, hF⟩ := hF
                  refine EvI.runN rfl rfl (w_none rfl) rfl (f_store kL ty45.size (z := x5) rfl rfl rfl hs1) ?_
                  rintro _ _ ⟨rfl, rfl⟩
                  refine ⟨⟨chk_no rfl, chk_no rfl, trivial⟩, ?_⟩
                  refine EvI.nil ?_
                  refine WP.seq ?_
                  refine WP.region ?_
                  refine EvK.pure (v := .int .i64 0) (w_none rfl) rfl rfl (f_assign rfl rfl) ?_
                  refine EvK.nil ?_
                  refine WP.ret ?_
                  exact Ret.mk (vs := [.int .i64 0]) 0 ⟨rfl, trivial⟩ rfl hF
            · intro k3 hF
              refine WP.region ?_
              refine EvK.pure (v := .pointer (some (q1.add 0))) (w_none rfl) rfl rfl (f_fieldAddr fd33_0 rfl rfl) ?_
              obtain ⟨x6, hx4, hF⟩ := hF
              refine EvK.read (v := .bool x6) (w_none rfl) rfl rfl (f_load kB ty4 rfl rfl hx4 rfl) ?_
              refine EvK.pure (v := .bool x6) (w_none rfl) rfl rfl (f_move rfl rfl) ?_
              rcases ite_inv hF with ⟨c6, hF⟩ | ⟨c6, hF⟩
              · refine EvK.pure (v := .pointer (some (q1.add 1))) (w_some rfl rfl c6) rfl rfl (f_fieldAddr fd33_1 rfl rfl) ?_
                obtain ⟨x7, hx5, hF⟩ := hF
                refine EvK.read (v := .string x7) (w_some rfl rfl c6) rfl rfl (f_load kS ty9 rfl rfl hx5 rfl) ?_
                refine EvK.pure (v := .bool (!(x7.toList == (⟨#[]⟩ : ByteArray).toList))) (w_some rfl rfl c6) rfl rfl (f_sneq rfl rfl rfl) ?_
                refine EvK.pure (v := .bool (!(x7.toList == (⟨#[]⟩ : ByteArray).toList))) (w_some rfl rfl c6) rfl rfl (f_move rfl rfl) ?_
                rcases ite_inv hF with ⟨c7, hF⟩ | ⟨c7, hF⟩
                · refine EvK.not (w_not rfl rfl c7) rfl rfl ?_
                  refine EvK.not (w_not rfl rfl c7) rfl rfl ?_
                  refine EvK.not (w_not rfl rfl c7) rfl rfl ?_
                  refine EvK.pure (v := .bool true) (w_some rfl rfl c6) rfl rfl (f_pickT rfl rfl c7 rfl) ?_
                  refine EvK.pure (v := .bool true) (w_none rfl) rfl rfl (f_pickT rfl rfl c6 rfl) ?_
                  refine EvK.pure (v := .bool true) (w_none rfl) rfl rfl (f_assign rfl rfl) ?_
                  refine EvK.nil ?_
                  exact KE.mk true ⟨rfl, rfl, rfl, trivial⟩ hF
                · refine EvK.pure (v := .pointer (some (q1.add 3))) (w_some rfl rfl c7) rfl rfl (f_fieldAddr fd33_3 rfl rfl) ?_
                  obtain ⟨x8, hx6, hF⟩ := hF
                  refine EvK.read (v := .int .i64 x8) (w_some rfl rfl c7) rfl rfl (f_load (kI .i64) ty2 rfl rfl hx6 rfl) ?_
                  refine EvK.pure (v := .bool (x8 != 0)) (w_some rfl rfl c7) rfl rfl (f_neq rfl rfl rfl) ?_
                  refine EvK.pure (v := .bool (x8 != 0)) (w_some rfl rfl c6) rfl rfl (f_pickF rfl rfl c7 rfl) ?_
                  refine EvK.pure (v := .bool (x8 != 0)) (w_none rfl) rfl rfl (f_pickT rfl rfl c6 rfl) ?_
                  refine EvK.pure (v := .bool (x8 != 0)) (w_none rfl) rfl rfl (f_assign rfl rfl) ?_
                  refine EvK.nil ?_
                  exact KE.mk (x8 != 0) ⟨rfl, rfl, rfl, trivial⟩ hF
              · refine EvK.not (w_not rfl rfl c6) rfl rfl ?_
                refine EvK.not (w_not rfl rfl c6) rfl rfl ?_
                refine EvK.not (w_not rfl rfl c6) rfl rfl ?_
                refine EvK.not (w_not rfl rfl c6) rfl rfl ?_
                refine EvK.not (w_undef rfl rfl) rfl rfl ?_
                refine EvK.not (w_undef rfl rfl) rfl rfl ?_
                refine EvK.not (w_undef rfl rfl) rfl rfl ?_
                refine EvK.not (w_not rfl rfl c6) rfl rfl ?_
                refine EvK.pure (v := .bool false) (w_none rfl) rfl rfl (f_pickF rfl rfl c6 rfl) ?_
                refine EvK.pure (v := .bool false) (w_none rfl) rfl rfl (f_assign rfl rfl) ?_
                refine EvK.nil ?_
                exact KE.mk false ⟨rfl, rfl, rfl, trivial⟩ hF
        · intro k2 hF
          refine WP.region ?_
          refine EvK.pure (v := .pointer (some (q1.add 2))) (w_none rfl) rfl rfl (f_fieldAddr fd33_2 rfl rfl) ?_
          obtain ⟨x9, hx7, hF⟩ := hF
          refine EvK.read (v := .int .i64 x9) (w_none rfl) rfl rfl (f_load (kI .i64) ty2 rfl rfl hx7 rfl) ?_
          refine EvK.pure (v := .bool (decide (x9 < (-1152921504606846976)))) (w_none rfl) rfl rfl (f_lss rfl rfl rfl) ?_
          refine EvK.pure (v := .bool (decide (x9 < (-1152921504606846976)))) (w_none rfl) rfl rfl (f_move rfl rfl) ?_
          rcases ite_inv hF with ⟨c8, hF⟩ | ⟨c8, hF⟩
          · refine EvK.not (w_not rfl rfl c8) rfl rfl ?_
            refine EvK.not (w_not rfl rfl c8) rfl rfl ?_
            refine EvK.not (w_not rfl rfl c8) rfl rfl ?_
            refine EvK.pure (v := .bool true) (w_none rfl) rfl rfl (f_pickT rfl rfl c8 rfl) ?_
            refine EvK.pure (v := .bool true) (w_none rfl) rfl rfl (f_assign rfl rfl) ?_
            refine EvK.nil ?_
            exact KE.mk true ⟨rfl, rfl, rfl, trivial⟩ hF
          · refine EvK.pure (v := .pointer (some (q1.add 2))) (w_some rfl rfl c8) rfl rfl (f_fieldAddr fd33_2 rfl rfl) ?_
            obtain ⟨x10, hx8, hF⟩ := hF
            refine EvK.read (v := .int .i64 x10) (w_some rfl rfl c8) rfl rfl (f_load (kI .i64) ty2 rfl rfl hx8 rfl) ?_
            refine EvK.pure (v := .bool (decide (x10 > 1152921504606846976))) (w_some rfl rfl c8) rfl rfl (f_gtr rfl rfl rfl) ?_
            refine EvK.pure (v := .bool (decide (x10 > 1152921504606846976))) (w_none rfl) rfl rfl (f_pickF rfl rfl c8 rfl) ?_
            refine EvK.pure (v := .bool (decide (x10 > 1152921504606846976))) (w_none rfl) rfl rfl (f_assign rfl rfl) ?_
            refine EvK.nil ?_
            exact KE.mk (decide (x10 > 1152921504606846976)) ⟨rfl, rfl, rfl, trivial⟩ hF
    · intro k1 hF
      refine WP.region ?_
      refine EvK.pure (v := .pointer (some (q1.add 0))) (w_none rfl) rfl rfl (f_fieldAddr fd33_0 rfl rfl) ?_
      obtain ⟨x11, hx9, hF⟩ := hF
      refine EvK.read (v := .bool x11) (w_none rfl) rfl rfl (f_load kB ty4 rfl rfl hx9 rfl) ?_
      refine EvK.pure (v := .bool (!x11)) (w_none rfl) rfl rfl (f_not rfl rfl) ?_
      refine EvK.pure (v := .bool (!x11)) (w_none rfl) rfl rfl (f_move rfl rfl) ?_
      rcases ite_inv hF with ⟨c9, hF⟩ | ⟨c9, hF⟩
      · refine EvK.pure (v := .pointer (some (q1.add 1))) (w_some rfl rfl c9) rfl rfl (f_fieldAddr fd33_1 rfl rfl) ?_
        obtain ⟨x12, hx10, hF⟩ := hF
        refine EvK.read (v := .string x12) (w_some rfl rfl c9) rfl rfl (f_load kS ty9 rfl rfl hx10 rfl) ?_
        refine EvK.pure (v := .bool (x12.toList == (⟨#[]⟩ : ByteArray).toList)) (w_some rfl rfl c9) rfl rfl (f_seql rfl rfl rfl) ?_
        refine EvK.pure (v := .bool (x12.toList == (⟨#[]⟩ : ByteArray).toList)) (w_some rfl rfl c9) rfl rfl (f_move rfl rfl) ?_
        rcases ite_inv hF with ⟨c10, hF⟩ | ⟨c10, hF⟩
        · refine EvK.not (w_not rfl rfl c10) rfl rfl ?_
          refine EvK.not (w_not rfl rfl c10) rfl rfl ?_
          refine EvK.not (w_not rfl rfl c10) rfl rfl ?_
          refine EvK.not (w_not rfl rfl c10) rfl rfl ?_
          refine EvK.pure (v := .bool true) (w_some rfl rfl c9) rfl rfl (f_pickT rfl rfl c10 rfl) ?_
          refine EvK.pure (v := .bool true) (w_none rfl) rfl rfl (f_pickT rfl rfl c9 rfl) ?_
          refine EvK.pure (v := .bool true) (w_none rfl) rfl rfl (f_assign rfl rfl) ?_
          refine EvK.nil ?_
          exact KE.mk true ⟨rfl, rfl, rfl, trivial⟩ hF
        · refine EvK.pure (v := .pointer (some (q1.add 1))) (w_some rfl rfl c10) rfl rfl (f_fieldAddr fd33_1 rfl rfl) ?_
          obtain ⟨x13, hx11, hF⟩ := hF
          refine EvK.read (v := .string x13) (w_some rfl rfl c10) rfl rfl (f_load kS ty9 rfl rfl hx11 rfl) ?_
          refine EvK.pure (v := .int .i64 (x13.size : Int)) (w_some rfl rfl c10) rfl rfl (f_lenS Try.underlying9 rfl rfl) ?_
          refine EvK.pure (v := .bool (decide ((x13.size : Int) > 32))) (w_some rfl rfl c10) rfl rfl (f_gtr rfl rfl rfl) ?_
          refine EvK.pure (v := .bool (decide ((x13.size : Int) > 32))) (w_some rfl rfl c9) rfl rfl (f_pickF rfl rfl c10 rfl) ?_
          refine EvK.pure (v := .bool (decide ((x13.size : Int) > 32))) (w_none rfl) rfl rfl (f_pickT rfl rfl c9 rfl) ?_
          refine EvK.pure (v := .bool (decide ((x13.size : Int) > 32))) (w_none rfl) rfl rfl (f_assign rfl rfl) ?_
          refine EvK.nil ?_
          exact KE.mk (decide ((x13.size : Int) > 32)) ⟨rfl, rfl, rfl, trivial⟩ hF
      · refine EvK.not (w_not rfl rfl c9) rfl rfl ?_
        refine EvK.not (w_not rfl rfl c9) rfl rfl ?_
        refine EvK.not (w_not rfl rfl c9) rfl rfl ?_
        refine EvK.not (w_not rfl rfl c9) rfl rfl ?_
        refine EvK.not (w_undef rfl rfl) rfl rfl ?_
        refine EvK.not (w_undef rfl rfl) rfl rfl ?_
        refine EvK.not (w_undef rfl rfl) rfl rfl ?_
        refine EvK.not (w_undef rfl rfl) rfl rfl ?_
        refine EvK.not (w_not rfl rfl c9) rfl rfl ?_
        refine EvK.pure (v := .bool false) (w_none rfl) rfl rfl (f_pickF rfl rfl c9 rfl) ?_
        refine EvK.pure (v := .bool false) (w_none rfl) rfl rfl (f_assign rfl rfl) ?_
        refine EvK.nil ?_
        exact KE.mk false ⟨rfl, rfl, rfl, trivial⟩ hF
end Go.Proofs.Ytanpaamamfabkaa

namespace Go.Proofs.Ytanpaamamfabkaa
open Go Go.Tr
set_option linter.unusedVariables false
set_option maxRecDepth 100000
set_option maxHeartbeats 400000
/-- (*spate/flow.Flow).Toward -/
def flow_Flow_Toward (a0 : Option Addr) (a1 : Int) (h : H) (Q : (Int × Int) → H → Prop) : Prop :=
  flow_Flow_of a0 a1 h fun r1 h1 =>
  if (r1.2 != 0) = true then
    Q (0, r1.2) h1
  else
    rd r1.1 fun q1 =>
    rd (ld kL (q1.add 0) h1) fun x1 =>
    if ((x1.len : Int) == 0) = true then
      Q (0, 44) h1
    else
      rd r1.1 fun q2 =>
      rd (ld kL (q2.add 0) h1) fun x2 =>
      rd (ixA 4 x2 0) fun q3 =>
      rd (ld kB (q3.add 0) h1) fun x3 =>
      if x3 = true then
        rd r1.1 fun q4 =>
        rd (ld (kI .i64) (q4.add 1) h1) fun x4 =>
        Q (x4, 0) h1
      else
        rd r1.1 fun q5 =>
        rd (ld kL (q5.add 0) h1) fun x5 =>
        rd (ixA 4 x5 0) fun q6 =>
        rd (ld kS (q6.add 1) h1) fun x6 =>
        flow_Flow_Route a0 x6 h1 fun r2 h2 =>
        Q (r2, 0) h2
theorem flow_Flow_Toward.sound {a0 : Option Addr} {a1 : Int} {h : H} {Q : (Int × Int) → H → Prop} (hF : flow_Flow_Toward a0 a1 h Q) :
    CallsH Try.prog 22 (List.toArray (α := Value) [.pointer a0, .int .i64 a1]) h fun v h' => ∃ x : Int × Int, v = .tuple #[.int .i64 x.1, .int .i64 x.2] ∧ Q x h' := by
  refine CallsH.of_body Try.func22 rfl 46 rfl rfl ?_
  refine WP.seq ?_
  refine WP.region ?_
  refine EvK.pure (v := .int .i64 0) (w_none rfl) rfl rfl (f_assign rfl rfl) ?_
  refine EvK.pure (v := .int .i64 0) (w_none rfl) rfl rfl (f_assign rfl rfl) ?_
  refine EvK.nil ?_
  refine WP.seq ?_
  refine WP.region ?_
  refine EvK.pure (v := .pointer a0) (w_none rfl) rfl rfl (f_move rfl rfl) ?_
  refine EvK.pure (v := .int .i64 a1) (w_none rfl) rfl rfl (f_move rfl rfl) ?_
  refine EvK.call (w_none rfl) rfl rfl (enterH Try.func33 rfl rfl rfl rfl (flow_Flow_of.sound hF)) ?_
  rintro _ h1 ⟨r1, rfl, hF⟩
  refine EvK.pure (v := .tuple #[.pointer r1.1, .int .i64 r1.2]) (w_none rfl) rfl rfl (f_move rfl rfl) ?_
  refine EvK.pure (v := .pointer r1.1) (w_none rfl) rfl rfl (f_extract (vs := #[.pointer r1.1, .int .i64 r1.2]) rfl rfl rfl) ?_
  refine EvK.pure (v := .int .i64 r1.2) (w_none rfl) rfl rfl (f_extract (vs := #[.pointer r1.1, .int .i64 r1.2]) rfl rfl rfl) ?_
  refine EvK.pure (v := .pointer r1.1) (w_none rfl) rfl rfl (f_assign rfl rfl) ?_
  refine EvK.pure (v := .int .i64 r1.2) (w_none rfl) rfl rfl (f_assign rfl rfl) ?_
  refine EvK.nil ?_
  refine WP.seq ?_
  refine WP.block ?_
  refine WP.seq ?_
  refine WP.region ?_
  refine EvK.pure (v := .int .i64 r1.2) (w_none rfl) rfl rfl (f_move rfl rfl) ?_
  refine EvK.pure (v := .bool (r1.2 != 0)) (w_none rfl) rfl rfl (f_neq rfl rfl rfl) ?_
  refine EvK.pure (v := .bool (r1.2 != 0)) (w_none rfl) rfl rfl (f_assign rfl rfl) ?_
  refine EvK.nil ?_
  rcases ite_inv hF with ⟨c1, hF⟩ | ⟨c1, hF⟩
  · refine WP.cond_true _ rfl c1 ?_
    refine WP.seq ?_
    refine WP.region ?_
    refine EvK.pure (v := .int .i64 r1.2) (w_none rfl) rfl rfl (f_move rfl rfl) ?_
    refine EvK.pure (v := .int .i64 0) (w_none rfl) rfl rfl (f_assign rfl rfl) ?_
    refine EvK.pure (v := .int .i64 r1.2) (w_none rfl) rfl rfl (f_assign rfl rfl) ?_
    refine EvK.nil ?_
    refine WP.ret ?_
    exact Ret.mk (vs := [.int .i64 0, .int .i64 r1.2]) (0, r1.2) ⟨rfl, rfl, trivial⟩ rfl hF
  · refine WP.cond_false _ rfl c1 ?_
    refine WP.seq ?_
    refine WP.region ?_
    refine EvK.pure (v := .pointer r1.1) (w_none rfl) rfl rfl (f_move rfl rfl) ?_
    obtain ⟨q1, hq1, hF⟩ := hF
    refine EvK.pure (v := .pointer (some q1)) (w_none rfl) rfl rfl (f_nilCheck rfl (congrArg Value.pointer hq1)) ?_
    refine EvK.pure (v := .pointer (some (q1.add 0))) (w_none rfl) rfl rfl (f_fieldAddr fd79_0 rfl rfl) ?_
    obtain ⟨x1, hx1, hF⟩ := hF
    refine EvK.read (v := Sl.val x1) (w_none rfl) rfl rfl (f_load kL ty45 rfl rfl hx1 rfl) ?_
    refine EvK.pure (v := .int .i64 (x1.len : Int)) (w_none rfl) rfl rfl (f_lenL (s := x1) Try.underlying45 rfl rfl) ?_
    refine EvK.pure (v := .bool ((x1.len : Int) == 0)) (w_none rfl) rfl rfl (f_eql rfl rfl rfl) ?_
    refine EvK.pure (v := .bool ((x1.len : Int) == 0)) (w_none rfl) rfl rfl (f_assign rfl rfl) ?_
    refine EvK.nil ?_
    rcases ite_inv hF with ⟨c2, hF⟩ | ⟨c2, hF⟩
    · refine WP.cond_true _ rfl c2 ?_
      refine WP.seq ?_
      refine WP.region ?_
      refine EvK.pure (v := .int .i64 0) (w_none rfl) rfl rfl (f_assign rfl rfl) ?_
      refine EvK.pure (v := .int .i64 44) (w_none rfl) rfl rfl (f_assign rfl rfl) ?_
      refine EvK.nil ?_
      refine WP.ret ?_
      exact Ret.mk (vs := [.int .i64 0, .int .i64 44]) (0, 44) ⟨rfl, rfl, trivial⟩ rfl hF
    · refine WP.cond_false _ rfl c2 ?_
      refine WP.seq ?_
      refine WP.region ?_
      refine EvK.pure (v := .pointer r1.1) (w_none rfl) rfl rfl (f_move rfl rfl) ?_
      obtain ⟨q2, hq2, hF⟩ := hF
      refine EvK.pure (v := .pointer (some q2)) (w_none rfl) rfl rfl (f_nilCheck rfl (congrArg Value.pointer hq2)) ?_
      refine EvK.pure (v := .pointer (some (q2.add 0))) (w_none rfl) rfl rfl (f_fieldAddr fd79_0 rfl rfl) ?_
      obtain ⟨x2, hx2, hF⟩ := hF
      refine EvK.read (v := Sl.val x2) (w_none rfl) rfl rfl (f_load kL ty45 rfl rfl hx2 rfl) ?_
      obtain ⟨q3, hq3, hF⟩ := hF
      refine EvK.pure (v := .pointer (some q3)) (w_none rfl) rfl rfl (f_indexAddr (s := x2) Try.underlying45 ty33.size rfl rfl rfl hq3) ?_
      refine EvK.pure (v := .pointer (some (q3.add 0))) (w_none rfl) rfl rfl (f_fieldAddr fd33_0 rfl rfl) ?_
      obtain ⟨x3, hx3, hF⟩ := hF
      refine EvK.read (v := .bool x3) (w_none rfl) rfl rfl (f_load kB ty4 rfl rfl hx3 rfl) ?_
      refine EvK.pure (v := .bool x3) (w_none rfl) rfl rfl (f_assign rfl rfl) ?_
      refine EvK.nil ?_
      rcases ite_inv hF with ⟨c3, hF⟩ | ⟨c3, hF⟩
      · refine WP.cond_true _ rfl c3 ?_
        refine WP.seq ?_
        refine WP.region ?_
        refine EvK.pure (v := .pointer r1.1) (w_none rfl) rfl rfl (f_move rfl rfl) ?_
        obtain ⟨q4, hq4, hF⟩ := hF
        refine EvK.pure (v := .pointer (some q4)) (w_none rfl) rfl rfl (f_nilCheck rfl (congrArg Value.pointer hq4)) ?_
        refine EvK.pure (v := .pointer (some (q4.add 1))) (w_none rfl) rfl rfl (f_fieldAddr fd79_1 rfl rfl) ?_
        obtain ⟨x4, hx4, hF⟩ := hF
        refine EvK.read (v := .int .i64 x4) (w_none rfl) rfl rfl (f_load (kI .i64) ty3 rfl rfl hx4 rfl) ?_
        refine EvK.pure (v := .int .i64 x4) (w_none rfl) rfl rfl (f_assign rfl rfl) ?_
        refine EvK.pure (v := .int .i64 0) (w_none rfl) rfl rfl (f_assign rfl rfl) ?_
        refine EvK.nil ?_
        refine WP.ret ?_
        exact Ret.mk (vs := [.int .i64 x4, .int .i64 0]) (x4, 0) ⟨rfl, rfl, trivial⟩ rfl hF
      · refine WP.cond_false _ rfl c3 ?_
        refine WP.skip ?_
        refine WP.seq ?_
        refine WP.region ?_
        refine EvK.pure (v := .pointer a0) (w_none rfl) rfl rfl (f_move rfl rfl) ?_
        refine EvK.pure (v := .pointer r1.1) (w_none rfl) rfl rfl (f_move rfl rfl) ?_
        obtain ⟨q5, hq5, hF⟩ := hF
        refine EvK.pure (v := .pointer (some q5)) (w_none rfl) rfl rfl (f_nilCheck rfl (congrArg Value.pointer hq5)) ?_
        refine EvK.pure (v := .pointer (some (q5.add 0))) (w_none rfl) rfl rfl (f_fieldAddr fd79_0 rfl rfl) ?_
        obtain ⟨x5, hx5, hF⟩ := hF
        refine EvK.read (v := Sl.val x5) (w_none rfl) rfl rfl (f_load kL ty45 rfl rfl hx5 rfl) ?_
        obtain ⟨q6, hq6, hF⟩ := hF
        refine EvK.pure (v := .pointer (some q6)) (w_none rfl) rfl rfl (f_indexAddr (s := x5) Try.underlying45 ty33.size rfl rfl rfl hq6) ?_
        refine EvK.pure (v := .pointer (some (q6.add 1))) (w_none rfl) rfl rfl (f_fieldAddr fd33_1 rfl rfl) ?_
        obtain ⟨x6, hx6, hF⟩ := hF
        refine EvK.read (v := .string x6) (w_none rfl) rfl rfl (f_load kS ty9 rfl rfl hx6 rfl) ?_
        refine EvK.call (w_none rfl) rfl rfl (enterH Try.func13 rfl rfl rfl rfl (flow_Flow_Route.sound hF)) ?_
        rintro _ h2 ⟨r2, rfl, hF⟩
        refine EvK.pure (v := .int .i64 r2) (w_none rfl) rfl rfl (f_assign rfl rfl) ?_
        refine EvK.pure (v := .int .i64 0) (w_none rfl) rfl rfl (f_assign rfl rfl) ?_
        refine EvK.nil ?_
        refine WP.ret ?_
        exact Ret.mk (vs := [.int .i64 r2, .int .i64 0]) (r2, 0) ⟨rfl, rfl, trivial⟩ rfl hF
end Go.Proofs.Ytanpaamamfabkaa
