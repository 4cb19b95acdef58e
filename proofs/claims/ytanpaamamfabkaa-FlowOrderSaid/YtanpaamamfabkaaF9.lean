/- spate/flow.New, as a predicate over the heap, and that the code comes to it. Printed by gen.py. -/
import Derived.Test.YtanpaamamfabkaaTy
namespace Go.Proofs.Ytanpaamamfabkaa
open Go Go.Tr
set_option linter.unusedVariables false
set_option maxRecDepth 100000
set_option maxHeartbeats 400000
def flow_New.b1 (p2 : Int) (p8 : Option Addr) (p42 : Int) (s : Int) (h : H) (K : Int ⊕ Unit → H → Prop) : Prop :=
  if (decide (s < p42)) = true then
    rd p8 fun q2 =>
    rd (ld kL (q2.add 1) h) fun x2 =>
    mk k82.n 48 83 (k82.enc z82) p2 p2 h fun x3 h4 =>
    rd (ixA 3 x2 s) fun q3 =>
    rd (st kL (q3.add 0) x3 h4) fun h5 =>
    K (.inl (IntKind.i64.wrap (s + 1))) h5
  else
    K (.inr ()) h
/-- spate/flow.New -/
def flow_New (a0 : Int) (a1 : Int) (a2 : Int) (h : H) (Q : ((Option Addr) × Int) → H → Prop) : Prop :=
  jn (fun (k1 : Bool → H → Prop) =>
    if (decide (a0 < 1)) = true then
      k1 true h
    else
      if (decide (a0 > 8)) = true then
        k1 true h
      else
        if (decide (a1 < 1)) = true then
          k1 true h
        else
          if (decide (a1 > 8)) = true then
            k1 true h
          else
            if (decide (a2 < 1)) = true then
              k1 true h
            else
              k1 (decide (a2 > 64)) h) fun s1 h1 =>
  if s1 = true then
    Q (none, 1) h1
  else
    jn (fun (k2 : (Option Addr) → H → Prop) =>
      (mk k78.n 32 79 (k78.enc z78) a0 a0 h1 fun x4 h7 =>
      mk k61.n 40 62 (k61.enc z61) a1 a1 h7 fun x5 h8 =>
      al 59 (k58.enc (S58.mk x4 x5)) h8 fun q4 h9 =>
      k2 (some q4) h9) ∧
      (mk k61.n 40 62 (k61.enc z61) a1 a1 h1 fun x6 h10 =>
      mk k78.n 32 79 (k78.enc z78) a0 a0 h10 fun x7 h11 =>
      al 59 (k58.enc (S58.mk x7 x6)) h11 fun q5 h12 =>
      k2 (some q5) h12)) fun s2 h2 =>
    jn (fun (k3 : Unit → H → Prop) =>
      rd s2 fun q1 =>
      rd (ld kL (q1.add 1) h2) fun x1 =>
      loopE (flow_New.b1 a2 s2 (x1.len : Int)) 0 h2 (fun r1 hh => k3 r1 hh)) fun s3 h3 =>
    Q (s2, 0) h3
theorem flow_New.sound {a0 : Int} {a1 : Int} {a2 : Int} {h : H} {Q : ((Option Addr) × Int) → H → Prop} (hF : flow_New a0 a1 a2 h Q) :
    CallsH Try.prog 9 (List.toArray (α := Value) [.int .i64 a0, .int .i64 a1, .int .i64 a2]) h fun v h' => ∃ x : (Option Addr) × Int, v = .tuple #[.pointer x.1, .int .i64 x.2] ∧ Q x h' := by
  refine CallsH.of_body Try.func9 rfl 57 rfl rfl ?_
  refine WP.seq ?_
  refine WP.region ?_
  refine EvK.pure (v := .pointer none) (w_none rfl) rfl rfl (f_assign rfl rfl) ?_
  refine EvK.pure (v := .int .i64 0) (w_none rfl) rfl rfl (f_assign rfl rfl) ?_
  refine EvK.nil ?_
  refine WP.seq ?_
  refine WP.joinF (fun (s1 : Bool) => [(31, .bool s1), (0, .int .i64 a0), (1, .int .i64 a1), (2, .int .i64 a2)]) hF ?_ ?_
  · intro s1 E0 h1 hF
    rcases ite_inv hF with ⟨c1, hF⟩ | ⟨c1, hF⟩
    · refine WP.cond_true _ rfl c1 ?_
      refine WP.seq ?_
      refine WP.region ?_
      refine EvK.pure (v := .pointer none) (w_none rfl) rfl rfl (f_assign rfl rfl) ?_
      refine EvK.pure (v := .int .i64 1) (w_none rfl) rfl rfl (f_assign rfl rfl) ?_
      refine EvK.nil ?_
      refine WP.ret ?_
      exact Ret.mk (vs := [.pointer none, .int .i64 1]) (none, 1) ⟨rfl, rfl, trivial⟩ rfl hF
    · refine WP.cond_false _ rfl c1 ?_
      refine WP.skip ?_
      refine WP.joinF (fun (s2 : Option Addr) => [(8, .pointer s2), (2, .int .i64 a2)]) hF ?_ ?_
      · intro s2 E0 h2 hF
        refine WP.joinF (fun (s3 : Unit) => [(8, .pointer s2)]) hF ?_ ?_
        · intro s3 E0 h3 hF
          refine WP.seq ?_
          refine WP.region ?_
          refine EvK.pure (v := .pointer s2) (w_none rfl) rfl rfl (f_move rfl rfl) ?_
          refine EvK.pure (v := .pointer s2) (w_none rfl) rfl rfl (f_assign rfl rfl) ?_
          refine EvK.pure (v := .int .i64 0) (w_none rfl) rfl rfl (f_assign rfl rfl) ?_
          refine EvK.nil ?_
          refine WP.ret ?_
          exact Ret.mk (vs := [.pointer s2, .int .i64 0]) (s2, 0) ⟨rfl, rfl, trivial⟩ rfl hF
        · intro k3 hF
          refine WP.seq ?_
          refine WP.region ?_
          refine EvK.pure (v := .pointer s2) (w_none rfl) rfl rfl (f_move rfl rfl) ?_
          obtain ⟨q1, hq1, hF⟩ := hF
          refine EvK.pure (v := .pointer (some q1)) (w_none rfl) rfl rfl (f_nilCheck rfl (congrArg Value.pointer hq1)) ?_
          refine EvK.pure (v := .pointer (some (q1.add 1))) (w_none rfl) rfl rfl (f_fieldAddr fd59_1 rfl rfl) ?_
          obtain ⟨x1, hx1, hF⟩ := hF
          refine EvK.read (v := Sl.val x1) (w_none rfl) rfl rfl (f_load kL ty57 rfl rfl hx1 rfl) ?_
          refine EvK.pure (v := .int .i64 (x1.len : Int)) (w_none rfl) rfl rfl (f_lenL (s := x1) Try.underlying57 rfl rfl) ?_
          refine EvK.pure (v := .int .i64 0) (w_none rfl) rfl rfl (f_move rfl rfl) ?_
          refine EvK.nil ?_
          refine WP.block ?_
          refine WP.loopF (fun (s4 : Int) => [(43, .int .i64 s4), (2, .int .i64 a2), (8, .pointer s2), (42, .int .i64 (x1.len : Int))]) hF ⟨rfl, rfl, rfl, rfl, trivial⟩ ?_
          intro k4 s4 E0 h4 hF
          refine WP.seq ?_
          refine WP.region ?_
          refine EvK.pure (v := .bool (decide (s4 < (x1.len : Int)))) (w_none rfl) rfl rfl (f_lss rfl rfl rfl) ?_
          refine EvK.nil ?_
          refine WP.seq ?_
          rcases ite_inv hF with ⟨c2, hF⟩ | ⟨c2, hF⟩
          · refine WP.cond_true _ rfl c2 ?_
            refine WP.skip ?_
            refine WP.seq ?_
            refine WP.block ?_
            refine WP.seq ?_
            refine WP.region ?_
            refine EvK.pure (v := .int .i64 s4) (w_none rfl) rfl rfl (f_move rfl rfl) ?_
            refine EvK.pure (v := .int .i64 s4) (w_none rfl) rfl rfl (f_assign rfl rfl) ?_
            refine EvK.nil ?_
            refine WP.draw mixed [.pure, .pure, .pure, .read, .pure, .pure, .alloc, .pure, .pure, .eff []] [[], [0], [0, 1], [0, 1, 2], [], [], [5], [0, 1, 2, 3, 4, 5, 6], [0, 1, 2, 3, 4, 5, 6, 7], [0, 1, 2, 3, 4, 5, 6, 7, 8]] [0, 1, 2, 3, 4, 5, 6, 7, 8, 9] (by kernel_rfl) (by kernel_rfl) ?_
            refine EvI.pure (v := .pointer s2) rfl rfl (w_none rfl) rfl (f_move rfl rfl) ?_
            obtain ⟨q2, hq2, hF⟩ := hF
            refine EvI.pure (v := .pointer (some q2)) rfl rfl (w_none rfl) rfl (f_nilCheck rfl (congrArg Value.pointer hq2)) ?_
            refine EvI.pure (v := .pointer (some (q2.add 1))) rfl rfl (w_none rfl) rfl (f_fieldAddr fd59_1 rfl rfl) ?_
            obtain ⟨x2, hx2, hF⟩ := hF
            refine EvI.read (v := Sl.val x2) rfl rfl (w_none rfl) rfl (f_load kL ty57 rfl rfl hx2 rfl) ?_
            refine EvI.pure (v := .int .i64 s4) rfl rfl (w_none rfl) rfl (f_move rfl rfl) ?_
            refine EvI.pure (v := .int .i64 a2) rfl rfl (w_none rfl) rfl (f_move rfl rfl) ?_
            refine EvI.alloc rfl rfl (w_none rfl) rfl (f_makeSlice Try.underlying60 el83 rfl rfl rfl hF) ?_
            rintro _ h5 ⟨x3, rfl, hF⟩
            obtain ⟨q3, hq3, hF⟩ := hF
            refine EvI.pure (v := .pointer (some q3)) rfl rfl (w_none rfl) rfl (f_indexAddr (s := x2) Try.underlying57 ty62.size rfl rfl rfl hq3) ?_
            refine EvI.pure (v := .pointer (some (q3.add 0))) rfl rfl (w_none rfl) rfl (f_fieldAddr fd62_0 rfl rfl) ?_
            obtain ⟨h6, hs1, hF⟩ := hF
            refine EvI.runN rfl rfl (w_none rfl) rfl (f_store kL ty60.size (z := x3) rfl rfl rfl hs1) ?_
            rintro _ _ ⟨rfl, rfl⟩
            refine ⟨⟨chk_no rfl, trivial⟩, ?_⟩
            refine EvI.nil ?_
            refine WP.region ?_
            refine EvK.pure (v := .int .i64 (IntKind.i64.wrap (s4 + 1))) (w_none rfl) rfl rfl (f_add rfl rfl rfl) ?_
            refine EvK.pure (v := .int .i64 (IntKind.i64.wrap (s4 + 1))) (w_none rfl) rfl rfl (f_move rfl rfl) ?_
            refine EvK.nil ?_
            exact KE.mk (IntKind.i64.wrap (s4 + 1)) ⟨rfl, rfl, rfl, rfl, trivial⟩ hF
          · refine WP.cond_false _ rfl c2 ?_
            refine WP.exit ?_
            exact KE.mk () ⟨rfl, trivial⟩ hF
      · intro k2 hF
        refine WP.drawA mixed 7 rfl (by kernel_rfl) ?_
        refine EvA.pure (v := .int .i64 a0) 0 (by kernel_rfl) rfl (by kernel_rfl) (by kernel_rfl) (w_none rfl) rfl (f_move rfl rfl) ?_
        refine EvA.pure (v := .int .i64 a1) 2 (by kernel_rfl) rfl (by kernel_rfl) (by kernel_rfl) (w_none rfl) rfl (f_move rfl rfl) ?_
        obtain ⟨hA1, hA2⟩ := hF
        refine EvA.alts [1, 3] (by kernel_rfl) rfl (forall_two ?_ (forall_two ?_ forall_nil))
        · have hF := hA1
          refine StepA.alloc rfl (w_none rfl) rfl (f_makeSlice Try.underlying56 el79 rfl rfl rfl hF) ?_
          rintro _ h7 ⟨x4, rfl, hF⟩
          refine EvA.alts [3] (by kernel_rfl) rfl (forall_two ?_ forall_nil)
          refine StepA.alloc rfl (w_none rfl) rfl (f_makeSlice Try.underlying57 el62 rfl rfl rfl hF) ?_
          rintro _ h8 ⟨x5, rfl, hF⟩
          refine EvA.pure (v := k58.val (S58.mk x4 x5)) 4 (by kernel_rfl) rfl (by kernel_rfl) (by kernel_rfl) (w_none rfl) rfl (f_build (cells := k58.enc (S58.mk x4 x5)) st59 rfl rfl rfl) ?_
          refine EvA.alts [5] (by kernel_rfl) rfl (forall_two ?_ forall_nil)
          refine StepA.alloc rfl (w_none rfl) rfl (f_boxF (v := k58.val (S58.mk x4 x5)) rfl rfl rfl hF) ?_
          rintro _ h9 ⟨q4, rfl, hF⟩
          refine EvA.pure (v := .pointer (some q4)) 6 (by kernel_rfl) rfl (by kernel_rfl) (by kernel_rfl) (w_none rfl) rfl (f_assign rfl rfl) ?_
          refine EvA.nil (by kernel_rfl) ?_
          exact KE.mk (some q4) ⟨rfl, rfl, trivial⟩ hF
        · have hF := hA2
          refine StepA.alloc rfl (w_none rfl) rfl (f_makeSlice Try.underlying57 el62 rfl rfl rfl hF) ?_
          rintro _ h10 ⟨x6, rfl, hF⟩
          refine EvA.alts [1] (by kernel_rfl) rfl (forall_two ?_ forall_nil)
          refine StepA.alloc rfl (w_none rfl) rfl (f_makeSlice Try.underlying56 el79 rfl rfl rfl hF) ?_
          rintro _ h11 ⟨x7, rfl, hF⟩
          refine EvA.pure (v := k58.val (S58.mk x7 x6)) 4 (by kernel_rfl) rfl (by kernel_rfl) (by kernel_rfl) (w_none rfl) rfl (f_build (cells := k58.enc (S58.mk x7 x6)) st59 rfl rfl rfl) ?_
          refine EvA.alts [5] (by kernel_rfl) rfl (forall_two ?_ forall_nil)
          refine StepA.alloc rfl (w_none rfl) rfl (f_boxF (v := k58.val (S58.mk x7 x6)) rfl rfl rfl hF) ?_
          rintro _ h12 ⟨q5, rfl, hF⟩
          refine EvA.pure (v := .pointer (some q5)) 6 (by kernel_rfl) rfl (by kernel_rfl) (by kernel_rfl) (w_none rfl) rfl (f_assign rfl rfl) ?_
          refine EvA.nil (by kernel_rfl) ?_
          exact KE.mk (some q5) ⟨rfl, rfl, trivial⟩ hF
  · intro k1 hF
    refine WP.region ?_
    refine EvK.pure (v := .int .i64 a0) (w_none rfl) rfl rfl (f_move rfl rfl) ?_
    refine EvK.pure (v := .bool (decide (a0 < 1))) (w_none rfl) rfl rfl (f_lss rfl rfl rfl) ?_
    refine EvK.pure (v := .bool (decide (a0 < 1))) (w_none rfl) rfl rfl (f_move rfl rfl) ?_
    rcases ite_inv hF with ⟨c3, hF⟩ | ⟨c3, hF⟩
    · refine EvK.not (w_not rfl rfl c3) rfl rfl ?_
      refine EvK.not (w_not rfl rfl c3) rfl rfl ?_
      refine EvK.pure (v := .bool true) (w_none rfl) rfl rfl (f_pickT rfl rfl c3 rfl) ?_
      refine EvK.pure (v := .bool true) (w_none rfl) rfl rfl (f_move rfl rfl) ?_
      refine EvK.not (w_not rfl rfl rfl) rfl rfl ?_
      refine EvK.not (w_not rfl rfl rfl) rfl rfl ?_
      refine EvK.pure (v := .bool true) (w_none rfl) rfl rfl (f_pickT rfl rfl rfl rfl) ?_
      refine EvK.pure (v := .bool true) (w_none rfl) rfl rfl (f_move rfl rfl) ?_
      refine EvK.not (w_not rfl rfl rfl) rfl rfl ?_
      refine EvK.not (w_not rfl rfl rfl) rfl rfl ?_
      refine EvK.pure (v := .bool true) (w_none rfl) rfl rfl (f_pickT rfl rfl rfl rfl) ?_
      refine EvK.pure (v := .bool true) (w_none rfl) rfl rfl (f_move rfl rfl) ?_
      refine EvK.not (w_not rfl rfl rfl) rfl rfl ?_
      refine EvK.not (w_not rfl rfl rfl) rfl rfl ?_
      refine EvK.pure (v := .bool true) (w_none rfl) rfl rfl (f_pickT rfl rfl rfl rfl) ?_
      refine EvK.pure (v := .bool true) (w_none rfl) rfl rfl (f_move rfl rfl) ?_
      refine EvK.not (w_not rfl rfl rfl) rfl rfl ?_
      refine EvK.not (w_not rfl rfl rfl) rfl rfl ?_
      refine EvK.pure (v := .bool true) (w_none rfl) rfl rfl (f_pickT rfl rfl rfl rfl) ?_
      refine EvK.nil ?_
      exact KE.mk true ⟨rfl, rfl, rfl, rfl, trivial⟩ hF
    · refine EvK.pure (v := .int .i64 a0) (w_some rfl rfl c3) rfl rfl (f_move rfl rfl) ?_
      refine EvK.pure (v := .bool (decide (a0 > 8))) (w_some rfl rfl c3) rfl rfl (f_gtr rfl rfl rfl) ?_
      refine EvK.pure (v := .bool (decide (a0 > 8))) (w_none rfl) rfl rfl (f_pickF rfl rfl c3 rfl) ?_
      refine EvK.pure (v := .bool (decide (a0 > 8))) (w_none rfl) rfl rfl (f_move rfl rfl) ?_
      rcases ite_inv hF with ⟨c4, hF⟩ | ⟨c4, hF⟩
      · refine EvK.not (w_not rfl rfl c4) rfl rfl ?_
        refine EvK.not (w_not rfl rfl c4) rfl rfl ?_
        refine EvK.pure (v := .bool true) (w_none rfl) rfl rfl (f_pickT rfl rfl c4 rfl) ?_
        refine EvK.pure (v := .bool true) (w_none rfl) rfl rfl (f_move rfl rfl) ?_
        refine EvK.not (w_not rfl rfl rfl) rfl rfl ?_
        refine EvK.not (w_not rfl rfl rfl) rfl rfl ?_
        refine EvK.pure (v := .bool true) (w_none rfl) rfl rfl (f_pickT rfl rfl rfl rfl) ?_
        refine EvK.pure (v := .bool true) (w_none rfl) rfl rfl (f_move rfl rfl) ?_
        refine EvK.not (w_not rfl rfl rfl) rfl rfl ?_
        refine EvK.not (w_not rfl rfl rfl) rfl rfl ?_
        refine EvK.pure (v := .bool true) (w_none rfl) rfl rfl (f_pickT rfl rfl rfl rfl) ?_
        refine EvK.pure (v := .bool true) (w_none rfl) rfl rfl (f_move rfl rfl) ?_
        refine EvK.not (w_not rfl rfl rfl) rfl rfl ?_
        refine EvK.not (w_not rfl rfl rfl) rfl rfl ?_
        refine EvK.pure (v := .bool true) (w_none rfl) rfl rfl (f_pickT rfl rfl rfl rfl) ?_
        refine EvK.nil ?_
        exact KE.mk true ⟨rfl, rfl, rfl, rfl, trivial⟩ hF
      · refine EvK.pure (v := .int .i64 a1) (w_some rfl rfl c4) rfl rfl (f_move rfl rfl) ?_
        refine EvK.pure (v := .bool (decide (a1 < 1))) (w_some rfl rfl c4) rfl rfl (f_lss rfl rfl rfl) ?_
        refine EvK.pure (v := .bool (decide (a1 < 1))) (w_none rfl) rfl rfl (f_pickF rfl rfl c4 rfl) ?_
        refine EvK.pure (v := .bool (decide (a1 < 1))) (w_none rfl) rfl rfl (f_move rfl rfl) ?_
        rcases ite_inv hF with ⟨c5, hF⟩ | ⟨c5, hF⟩
        · refine EvK.not (w_not rfl rfl c5) rfl rfl ?_
          refine EvK.not (w_not rfl rfl c5) rfl rfl ?_
          refine EvK.pure (v := .bool true) (w_none rfl) rfl rfl (f_pickT rfl rfl c5 rfl) ?_
          refine EvK.pure (v := .bool true) (w_none rfl) rfl rfl (f_move rfl rfl) ?_
          refine EvK.not (w_not rfl rfl rfl) rfl rfl ?_
          refine EvK.not (w_not rfl rfl rfl) rfl rfl ?_
          refine EvK.pure (v := .bool true) (w_none rfl) rfl rfl (f_pickT rfl rfl rfl rfl) ?_
          refine EvK.pure (v := .bool true) (w_none rfl) rfl rfl (f_move rfl rfl) ?_
          refine EvK.not (w_not rfl rfl rfl) rfl rfl ?_
          refine EvK.not (w_not rfl rfl rfl) rfl rfl ?_
          refine EvK.pure (v := .bool true) (w_none rfl) rfl rfl (f_pickT rfl rfl rfl rfl) ?_
          refine EvK.nil ?_
          exact KE.mk true ⟨rfl, rfl, rfl, rfl, trivial⟩ hF
        · refine EvK.pure (v := .int .i64 a1) (w_some rfl rfl c5) rfl rfl (f_move rfl rfl) ?_
          refine EvK.pure (v := .bool (decide (a1 > 8))) (w_some rfl rfl c5) rfl rfl (f_gtr rfl rfl rfl) ?_
          refine EvK.pure (v := .bool (decide (a1 > 8))) (w_none rfl) rfl rfl (f_pickF rfl rfl c5 rfl) ?_
          refine EvK.pure (v := .bool (decide (a1 > 8))) (w_none rfl) rfl rfl (f_move rfl rfl) ?_
          rcases ite_inv hF with ⟨c6, hF⟩ | ⟨c6, hF⟩
          · refine EvK.not (w_not rfl rfl c6) rfl rfl ?_
            refine EvK.not (w_not rfl rfl c6) rfl rfl ?_
            refine EvK.pure (v := .bool true) (w_none rfl) rfl rfl (f_pickT rfl rfl c6 rfl) ?_
            refine EvK.pure (v := .bool true) (w_none rfl) rfl rfl (f_move rfl rfl) ?_
            refine EvK.not (w_not rfl rfl rfl) rfl rfl ?_
            refine EvK.not (w_not rfl rfl rfl) rfl rfl ?_
            refine EvK.pure (v := .bool true) (w_none rfl) rfl rfl (f_pickT rfl rfl rfl rfl) ?_
            refine EvK.nil ?_
            exact KE.mk true ⟨rfl, rfl, rfl, rfl, trivial⟩ hF
          · refine EvK.pure (v := .int .i64 a2) (w_some rfl rfl c6) rfl rfl (f_move rfl rfl) ?_
            refine EvK.pure (v := .bool (decide (a2 < 1))) (w_some rfl rfl c6) rfl rfl (f_lss rfl rfl rfl) ?_
            refine EvK.pure (v := .bool (decide (a2 < 1))) (w_none rfl) rfl rfl (f_pickF rfl rfl c6 rfl) ?_
            refine EvK.pure (v := .bool (decide (a2 < 1))) (w_none rfl) rfl rfl (f_move rfl rfl) ?_
            rcases ite_inv hF with ⟨c7, hF⟩ | ⟨c7, hF⟩
            · refine EvK.not (w_not rfl rfl c7) rfl rfl ?_
              refine EvK.not (w_not rfl rfl c7) rfl rfl ?_
              refine EvK.pure (v := .bool true) (w_none rfl) rfl rfl (f_pickT rfl rfl c7 rfl) ?_
              refine EvK.nil ?_
              exact KE.mk true ⟨rfl, rfl, rfl, rfl, trivial⟩ hF
            · refine EvK.pure (v := .int .i64 a2) (w_some rfl rfl c7) rfl rfl (f_move rfl rfl) ?_
              refine EvK.pure (v := .bool (decide (a2 > 64))) (w_some rfl rfl c7) rfl rfl (f_gtr rfl rfl rfl) ?_
              refine EvK.pure (v := .bool (decide (a2 > 64))) (w_none rfl) rfl rfl (f_pickF rfl rfl c7 rfl) ?_
              refine EvK.nil ?_
              exact KE.mk (decide (a2 > 64)) ⟨rfl, rfl, rfl, rfl, trivial⟩ hF
end Go.Proofs.Ytanpaamamfabkaa
