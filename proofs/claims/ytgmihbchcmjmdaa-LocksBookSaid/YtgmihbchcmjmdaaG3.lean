/- Functions as predicates over the heap, and that the code comes to them. Printed by gen.py, merged by group.py. -/
import Derived.Test.YtgmihbchcmjmdaaG0
import Derived.Test.YtgmihbchcmjmdaaG1
import Derived.Test.YtgmihbchcmjmdaaTy
namespace Go.Proofs.Ytgmihbchcmjmdaa
open Go Go.Tr
set_option linter.unusedVariables false
set_option maxRecDepth 100000
set_option maxHeartbeats 400000
def spatelaw11_LocksPlays.b1 (p1 : Sl) (p5 : Option Addr) (p7 : Option Addr) (s : Int) (h : H) (K : Int ⊕ (Unit ⊕ Bool) → H → Prop) : Prop :=
  jn (fun (k4 : Bool → H → Prop) =>
    if (decide (s < (p1.len : Int))) = true then
      k4 (decide (s < 60)) h
    else
      k4 false h) fun s4 h7 =>
  if s4 = true then
    rd (ixA 3 p1 s) fun q1 =>
    rd (ld (kI .i64) (q1.add 1) h7) fun x1 =>
    spatelaw11_looks p5 p7 x1 h7 fun r4 h8 =>
    if (!r4) = true then
      K (.inr (.inr false)) h8
    else
      K (.inl (IntKind.i64.wrap (s + 1))) h8
  else
    K (.inr (.inl ())) h7
def spatelaw11_LocksPlays.b2 (p1 : Sl) (p5 : Option Addr) (p7 : Option Addr) (s : Int) (h : H) (K : Int ⊕ (Unit ⊕ Bool) → H → Prop) : Prop :=
  jn (fun (k6 : Bool → H → Prop) =>
    if (decide (s < (p1.len : Int))) = true then
      k6 (decide (s < 1500)) h
    else
      k6 false h) fun s6 h10 =>
  if s6 = true then
    rd (ixA 3 p1 s) fun q2 =>
    rd (ld k52 q2 h10) fun x2 =>
    spatelaw11_step p5 p7 x2 h10 fun r7 h11 =>
    if (!r7) = true then
      K (.inr (.inr false)) h11
    else
      K (.inl (IntKind.i64.wrap (s + 1))) h11
  else
    K (.inr (.inl ())) h10
/-- spate/spatelaw11.LocksPlays -/
def spatelaw11_LocksPlays (a0 : Int) (a1 : Sl) (h : H) (Q : Bool → H → Prop) : Prop :=
  spatelaw11_known  h fun r1 h1 =>
  if (!r1) = true then
    Q false h1
  else
    locks_New a0 h1 fun r2 h2 =>
    spateref11_New a0 h2 fun r3 h3 =>
    jn (fun (k1 : Bool → H → Prop) =>
      if (r2.2 != r3.2) = true then
        k1 true h3
      else
        k1 (!(r2.1.isNone == r3.1.isNone)) h3) fun s1 h4 =>
    if s1 = true then
      Q false h4
    else
      if r2.1.isNone = true then
        Q true h4
      else
        jn (fun (k2 : Unit → H → Prop) =>
          loopE (spatelaw11_LocksPlays.b2 a1 r2.1 r3.1) 0 h4 (sumK (fun r8 hh => k2 r8 hh) (fun r9 hh => Q r9 hh))) fun s2 h5 =>
        jn (fun (k3 : Unit → H → Prop) =>
          loopE (spatelaw11_LocksPlays.b1 a1 r2.1 r3.1) 0 h5 (sumK (fun r5 hh => k3 r5 hh) (fun r6 hh => Q r6 hh))) fun s3 h6 =>
        Q true h6
theorem spatelaw11_LocksPlays.sound {a0 : Int} {a1 : Sl} {h : H} {Q : Bool → H → Prop} (hF : spatelaw11_LocksPlays a0 a1 h Q) :
    CallsH Try.prog 4 (List.toArray (α := Value) [.int .i64 a0, Sl.val a1]) h fun v h' => ∃ x : Bool, v = .bool x ∧ Q x h' := by
  refine CallsH.of_body Try.func4 rfl 72 rfl rfl ?_
  refine WP.seq ?_
  refine WP.region ?_
  refine EvK.pure (v := .bool false) (w_none rfl) rfl rfl (f_assign rfl rfl) ?_
  refine EvK.nil ?_
  refine WP.seq ?_
  refine WP.seq ?_
  refine WP.region ?_
  refine EvK.call (w_none rfl) rfl rfl (enterH Try.func10 rfl rfl rfl rfl (spatelaw11_known.sound hF)) ?_
  rintro _ h1 ⟨r1, rfl, hF⟩
  refine EvK.pure (v := .bool (!r1)) (w_none rfl) rfl rfl (f_not rfl rfl) ?_
  refine EvK.nil ?_
  rcases ite_inv hF with ⟨c1, hF⟩ | ⟨c1, hF⟩
  · refine WP.cond_true _ rfl c1 ?_
    refine WP.seq ?_
    refine WP.region ?_
    refine EvK.pure (v := .bool false) (w_none rfl) rfl rfl (f_assign rfl rfl) ?_
    refine EvK.nil ?_
    refine WP.ret ?_
    exact Ret.mk (vs := [.bool false]) false ⟨rfl, trivial⟩ rfl hF
  · refine WP.cond_false _ rfl c1 ?_
    refine WP.skip ?_
    refine WP.seq ?_
    refine WP.region ?_
    refine EvK.pure (v := .int .i64 a0) (w_none rfl) rfl rfl (f_move rfl rfl) ?_
    refine EvK.call (w_none rfl) rfl rfl (enterH Try.func12 rfl rfl rfl rfl (locks_New.sound hF)) ?_
    rintro _ h2 ⟨r2, rfl, hF⟩
    refine EvK.pure (v := .tuple #[.pointer r2.1, .int .i64 r2.2]) (w_none rfl) rfl rfl (f_move rfl rfl) ?_
    refine EvK.pure (v := .pointer r2.1) (w_none rfl) rfl rfl (f_extract (vs := #[.pointer r2.1, .int .i64 r2.2]) rfl rfl rfl) ?_
    refine EvK.pure (v := .int .i64 r2.2) (w_none rfl) rfl rfl (f_extract (vs := #[.pointer r2.1, .int .i64 r2.2]) rfl rfl rfl) ?_
    refine EvK.pure (v := .pointer r2.1) (w_none rfl) rfl rfl (f_assign rfl rfl) ?_
    refine EvK.pure (v := .int .i64 r2.2) (w_none rfl) rfl rfl (f_assign rfl rfl) ?_
    refine EvK.nil ?_
    refine WP.seq ?_
    refine WP.region ?_
    refine EvK.pure (v := .int .i64 a0) (w_none rfl) rfl rfl (f_move rfl rfl) ?_
    refine EvK.call (w_none rfl) rfl rfl (enterH Try.func21 rfl rfl rfl rfl (spateref11_New.sound hF)) ?_
    rintro _ h3 ⟨r3, rfl, hF⟩
    refine EvK.pure (v := .tuple #[.pointer r3.1, .int .i64 r3.2]) (w_none rfl) rfl rfl (f_move rfl rfl) ?_
    refine EvK.pure (v := .pointer r3.1) (w_none rfl) rfl rfl (f_extract (vs := #[.pointer r3.1, .int .i64 r3.2]) rfl rfl rfl) ?_
    refine EvK.pure (v := .int .i64 r3.2) (w_none rfl) rfl rfl (f_extract (vs := #[.pointer r3.1, .int .i64 r3.2]) rfl rfl rfl) ?_
    refine EvK.pure (v := .pointer r3.1) (w_none rfl) rfl rfl (f_assign rfl rfl) ?_
    refine EvK.pure (v := .int .i64 r3.2) (w_none rfl) rfl rfl (f_assign rfl rfl) ?_
    refine EvK.nil ?_
    refine WP.seq ?_
    refine WP.joinF (fun (s1 : Bool) => [(32, .bool s1), (1, Sl.val a1), (5, .pointer r2.1), (7, .pointer r3.1)]) hF ?_ ?_
    · intro s1 E0 h4 hF
      rcases ite_inv hF with ⟨c2, hF⟩ | ⟨c2, hF⟩
      · refine WP.cond_true _ rfl c2 ?_
        refine WP.seq ?_
        refine WP.region ?_
        refine EvK.pure (v := .bool false) (w_none rfl) rfl rfl (f_assign rfl rfl) ?_
        refine EvK.nil ?_
        refine WP.ret ?_
        exact Ret.mk (vs := [.bool false]) false ⟨rfl, trivial⟩ rfl hF
      · refine WP.cond_false _ rfl c2 ?_
        refine WP.skip ?_
        refine WP.seq ?_
        refine WP.seq ?_
        refine WP.region ?_
        refine EvK.pure (v := .pointer r2.1) (w_none rfl) rfl rfl (f_move rfl rfl) ?_
        refine EvK.pure (v := .bool r2.1.isNone) (w_none rfl) rfl rfl (f_peqln Try.underlying25 rfl rfl rfl) ?_
        refine EvK.nil ?_
        rcases ite_inv hF with ⟨c3, hF⟩ | ⟨c3, hF⟩
        · refine WP.cond_true _ rfl c3 ?_
          refine WP.seq ?_
          refine WP.region ?_
          refine EvK.pure (v := .bool true) (w_none rfl) rfl rfl (f_assign rfl rfl) ?_
          refine EvK.nil ?_
          refine WP.ret ?_
          exact Ret.mk (vs := [.bool true]) true ⟨rfl, trivial⟩ rfl hF
        · refine WP.cond_false _ rfl c3 ?_
          refine WP.skip ?_
          refine WP.joinF (fun (s2 : Unit) => [(1, Sl.val a1), (5, .pointer r2.1), (7, .pointer r3.1)]) hF ?_ ?_
          · intro s2 E0 h5 hF
            refine WP.joinF (fun (s3 : Unit) => []) hF ?_ ?_
            · intro s3 E0 h6 hF
              refine WP.seq ?_
              refine WP.region ?_
              refine EvK.pure (v := .bool true) (w_none rfl) rfl rfl (f_assign rfl rfl) ?_
              refine EvK.nil ?_
              refine WP.ret ?_
              exact Ret.mk (vs := [.bool true]) true ⟨rfl, trivial⟩ rfl hF
            · intro k3 hF
              refine WP.seq ?_
              refine WP.region ?_
              refine EvK.pure (v := .int .i64 0) (w_none rfl) rfl rfl (f_assign rfl rfl) ?_
              refine EvK.nil ?_
              refine WP.block ?_
              refine WP.loopF (fun (s4 : Int) => [(10, .int .i64 s4), (1, Sl.val a1), (5, .pointer r2.1), (7, .pointer r3.1)]) hF ⟨rfl, rfl, rfl, rfl, trivial⟩ ?_
              intro k4 s4 E0 h7 hF
              refine WP.seq ?_
              refine WP.joinF (fun (s5 : Bool) => [(60, .bool s5), (1, Sl.val a1), (5, .pointer r2.1), (7, .pointer r3.1), (10, .int .i64 s4)]) hF ?_ ?_
              · intro s5 E0 h8 hF
                rcases ite_inv hF with ⟨c4, hF⟩ | ⟨c4, hF⟩
                · refine WP.cond_true _ rfl c4 ?_
                  refine WP.skip ?_
                  refine WP.seq ?_
                  refine WP.block ?_
                  refine WP.seq ?_
                  refine WP.region ?_
                  refine EvK.pure (v := .pointer r2.1) (w_none rfl) rfl rfl (f_move rfl rfl) ?_
                  refine EvK.pure (v := .pointer r3.1) (w_none rfl) rfl rfl (f_move rfl rfl) ?_
                  refine EvK.pure (v := Sl.val a1) (w_none rfl) rfl rfl (f_move rfl rfl) ?_
                  refine EvK.pure (v := .int .i64 s4) (w_none rfl) rfl rfl (f_move rfl rfl) ?_
                  obtain ⟨q1, hq1, hF⟩ := hF
                  refine EvK.pure (v := .pointer (some q1)) (w_none rfl) rfl rfl (f_indexAddr (s := a1) Try.underlying47 ty53.size rfl rfl rfl hq1) ?_
                  refine EvK.pure (v := .pointer (some (q1.add 1))) (w_none rfl) rfl rfl (f_fieldAddr fd53_1 rfl rfl) ?_
                  obtain ⟨x1, hx1, hF⟩ := hF
                  refine EvK.read (v := .int .i64 x1) (w_none rfl) rfl rfl (f_load (kI .i64) ty3 rfl rfl hx1 rfl) ?_
                  refine EvK.call (w_none rfl) rfl rfl (enterH Try.func23 rfl rfl rfl rfl (spatelaw11_looks.sound hF)) ?_
                  rintro _ h9 ⟨r4, rfl, hF⟩
                  refine EvK.pure (v := .bool (!r4)) (w_none rfl) rfl rfl (f_not rfl rfl) ?_
                  refine EvK.nil ?_
                  rcases ite_inv hF with ⟨c5, hF⟩ | ⟨c5, hF⟩
                  · refine WP.cond_true _ rfl c5 ?_
                    refine WP.seq ?_
                    refine WP.region ?_
                    refine EvK.pure (v := .bool false) (w_none rfl) rfl rfl (f_assign rfl rfl) ?_
                    refine EvK.nil ?_
                    refine WP.ret ?_
                    exact Ret.mk (vs := [.bool false]) false ⟨rfl, trivial⟩ rfl hF
                  · refine WP.cond_false _ rfl c5 ?_
                    refine WP.skip ?_
                    refine WP.region ?_
                    refine EvK.pure (v := .int .i64 s4) (w_none rfl) rfl rfl (f_move rfl rfl) ?_
                    refine EvK.pure (v := .int .i64 (IntKind.i64.wrap (s4 + 1))) (w_none rfl) rfl rfl (f_add rfl rfl rfl) ?_
                    refine EvK.pure (v := .int .i64 (IntKind.i64.wrap (s4 + 1))) (w_none rfl) rfl rfl (f_assign rfl rfl) ?_
                    refine EvK.nil ?_
                    exact KE.mk (IntKind.i64.wrap (s4 + 1)) ⟨rfl, rfl, rfl, rfl, trivial⟩ hF
                · refine WP.cond_false _ rfl c4 ?_
                  refine WP.exit ?_
                  exact KE.mk () trivial hF
              · intro k5 hF
                refine WP.region ?_
                refine EvK.pure (v := .int .i64 s4) (w_none rfl) rfl rfl (f_move rfl rfl) ?_
                refine EvK.pure (v := Sl.val a1) (w_none rfl) rfl rfl (f_move rfl rfl) ?_
                refine EvK.pure (v := .int .i64 (a1.len : Int)) (w_none rfl) rfl rfl (f_lenL (s := a1) Try.underlying47 rfl rfl) ?_
                refine EvK.pure (v := .bool (decide (s4 < (a1.len : Int)))) (w_none rfl) rfl rfl (f_lss rfl rfl rfl) ?_
                refine EvK.pure (v := .bool (decide (s4 < (a1.len : Int)))) (w_none rfl) rfl rfl (f_move rfl rfl) ?_
                rcases ite_inv hF with ⟨c6, hF⟩ | ⟨c6, hF⟩
                · refine EvK.pure (v := .int .i64 s4) (w_some rfl rfl c6) rfl rfl (f_move rfl rfl) ?_
                  refine EvK.pure (v := .bool (decide (s4 < 60))) (w_some rfl rfl c6) rfl rfl (f_lss rfl rfl rfl) ?_
                  refine EvK.pure (v := .bool (decide (s4 < 60))) (w_none rfl) rfl rfl (f_pickT rfl rfl c6 rfl) ?_
                  refine EvK.nil ?_
                  exact KE.mk (decide (s4 < 60)) ⟨rfl, rfl, rfl, rfl, rfl, trivial⟩ hF
                · refine EvK.not (w_not rfl rfl c6) rfl rfl ?_
                  refine EvK.not (w_not rfl rfl c6) rfl rfl ?_
                  refine EvK.pure (v := .bool false) (w_none rfl) rfl rfl (f_pickF rfl rfl c6 rfl) ?_
                  refine EvK.nil ?_
                  exact KE.mk false ⟨rfl, rfl, rfl, rfl, rfl, trivial⟩ hF
          · intro k2 hF
            refine WP.seq ?_
            refine WP.region ?_
            refine EvK.pure (v := .int .i64 0) (w_none rfl) rfl rfl (f_assign rfl rfl) ?_
            refine EvK.nil ?_
            refine WP.block ?_
            refine WP.loopF (fun (s6 : Int) => [(9, .int .i64 s6), (1, Sl.val a1), (5, .pointer r2.1), (7, .pointer r3.1)]) hF ⟨rfl, rfl, rfl, rfl, trivial⟩ ?_
            intro k6 s6 E0 h10 hF
            refine WP.seq ?_
            refine WP.joinF (fun (s7 : Bool) => [(42, .bool s7), (1, Sl.val a1), (5, .pointer r2.1), (7, .pointer r3.1), (9, .int .i64 s6)]) hF ?_ ?_
            · intro s7 E0 h11 hF
              rcases ite_inv hF with ⟨c7, hF⟩ | ⟨c7, hF⟩
              · refine WP.cond_true _ rfl c7 ?_
                refine WP.skip ?_
                refine WP.seq ?_
                refine WP.block ?_
                refine WP.seq ?_
                refine WP.region ?_
                refine EvK.pure (v := .pointer r2.1) (w_none rfl) rfl rfl (f_move rfl rfl) ?_
                refine EvK.pure (v := .pointer r3.1) (w_none rfl) rfl rfl (f_move rfl rfl) ?_
                refine EvK.pure (v := Sl.val a1) (w_none rfl) rfl rfl (f_move rfl rfl) ?_
                refine EvK.pure (v := .int .i64 s6) (w_none rfl) rfl rfl (f_move rfl rfl) ?_
                obtain ⟨q2, hq2, hF⟩ := hF
                refine EvK.pure (v := .pointer (some q2)) (w_none rfl) rfl rfl (f_indexAddr (s := a1) Try.underlying47 ty53.size rfl rfl rfl hq2) ?_
                obtain ⟨x2, hx2, hF⟩ := hF
                refine EvK.read (v := k52.val x2) (w_none rfl) rfl rfl (f_load k52 ty53 rfl rfl hx2 rfl) ?_
                refine EvK.call (w_none rfl) rfl rfl (enterH Try.func22 rfl rfl rfl rfl (spatelaw11_step.sound hF)) ?_
                rintro _ h12 ⟨r7, rfl, hF⟩
                refine EvK.pure (v := .bool (!r7)) (w_none rfl) rfl rfl (f_not rfl rfl) ?_
                refine EvK.nil ?_
                rcases ite_inv hF with ⟨c8, hF⟩ | ⟨c8, hF⟩
                · refine WP.cond_true _ rfl c8 ?_
                  refine WP.seq ?_
                  refine WP.region ?_
                  refine EvK.pure (v := .bool false) (w_none rfl) rfl rfl (f_assign rfl rfl) ?_
                  refine EvK.nil ?_
                  refine WP.ret ?_
                  exact Ret.mk (vs := [.bool false]) false ⟨rfl, trivial⟩ rfl hF
                · refine WP.cond_false _ rfl c8 ?_
                  refine WP.skip ?_
                  refine WP.region ?_
                  refine EvK.pure (v := .int .i64 s6) (w_none rfl) rfl rfl (f_move rfl rfl) ?_
                  refine EvK.pure (v := .int .i64 (IntKind.i64.wrap (s6 + 1))) (w_none rfl) rfl rfl (f_add rfl rfl rfl) ?_
                  refine EvK.pure (v := .int .i64 (IntKind.i64.wrap (s6 + 1))) (w_none rfl) rfl rfl (f_assign rfl rfl) ?_
                  refine EvK.nil ?_
                  exact KE.mk (IntKind.i64.wrap (s6 + 1)) ⟨rfl, rfl, rfl, rfl, trivial⟩ hF
              · refine WP.cond_false _ rfl c7 ?_
                refine WP.exit ?_
                exact KE.mk () ⟨rfl, rfl, rfl, trivial⟩ hF
            · intro k7 hF
              refine WP.region ?_
              refine EvK.pure (v := .int .i64 s6) (w_none rfl) rfl rfl (f_move rfl rfl) ?_
              refine EvK.pure (v := Sl.val a1) (w_none rfl) rfl rfl (f_move rfl rfl) ?_
              refine EvK.pure (v := .int .i64 (a1.len : Int)) (w_none rfl) rfl rfl (f_lenL (s := a1) Try.underlying47 rfl rfl) ?_
              refine EvK.pure (v := .bool (decide (s6 < (a1.len : Int)))) (w_none rfl) rfl rfl (f_lss rfl rfl rfl) ?_
              refine EvK.pure (v := .bool (decide (s6 < (a1.len : Int)))) (w_none rfl) rfl rfl (f_move rfl rfl) ?_
              rcases ite_inv hF with ⟨c9, hF⟩ | ⟨c9, hF⟩
              · refine EvK.pure (v := .int .i64 s6) (w_some rfl rfl c9) rfl rfl (f_move rfl rfl) ?_
                refine EvK.pure (v := .bool (decide (s6 < 1500))) (w_some rfl rfl c9) rfl rfl (f_lss rfl rfl rfl) ?_
                refine EvK.pure (v := .bool (decide (s6 < 1500))) (w_none rfl) rfl rfl (f_pickT rfl rfl c9 rfl) ?_
                refine EvK.nil ?_
                exact KE.mk (decide (s6 < 1500)) ⟨rfl, rfl, rfl, rfl, rfl, trivial⟩ hF
              · refine EvK.not (w_not rfl rfl c9) rfl rfl ?_
                refine EvK.not (w_not rfl rfl c9) rfl rfl ?_
                refine EvK.pure (v := .bool false) (w_none rfl) rfl rfl (f_pickF rfl rfl c9 rfl) ?_
                refine EvK.nil ?_
                exact KE.mk false ⟨rfl, rfl, rfl, rfl, rfl, trivial⟩ hF
    · intro k1 hF
      refine WP.region ?_
      refine EvK.pure (v := .int .i64 r2.2) (w_none rfl) rfl rfl (f_move rfl rfl) ?_
      refine EvK.pure (v := .int .i64 r3.2) (w_none rfl) rfl rfl (f_move rfl rfl) ?_
      refine EvK.pure (v := .bool (r2.2 != r3.2)) (w_none rfl) rfl rfl (f_neq rfl rfl rfl) ?_
      refine EvK.pure (v := .bool (r2.2 != r3.2)) (w_none rfl) rfl rfl (f_move rfl rfl) ?_
      rcases ite_inv hF with ⟨c10, hF⟩ | ⟨c10, hF⟩
      · refine EvK.not (w_not rfl rfl c10) rfl rfl ?_
        refine EvK.not (w_not rfl rfl c10) rfl rfl ?_
        refine EvK.not (w_not rfl rfl c10) rfl rfl ?_
        refine EvK.not (w_not rfl rfl c10) rfl rfl ?_
        refine EvK.not (w_not rfl rfl c10) rfl rfl ?_
        refine EvK.pure (v := .bool true) (w_none rfl) rfl rfl (f_pickT rfl rfl c10 rfl) ?_
        refine EvK.nil ?_
        exact KE.mk true ⟨rfl, rfl, rfl, rfl, trivial⟩ hF
      · refine EvK.pure (v := .pointer r2.1) (w_some rfl rfl c10) rfl rfl (f_move rfl rfl) ?_
        refine EvK.pure (v := .bool r2.1.isNone) (w_some rfl rfl c10) rfl rfl (f_peqln Try.underlying25 rfl rfl rfl) ?_
        refine EvK.pure (v := .pointer r3.1) (w_some rfl rfl c10) rfl rfl (f_move rfl rfl) ?_
        refine EvK.pure (v := .bool r3.1.isNone) (w_some rfl rfl c10) rfl rfl (f_peqln Try.underlying48 rfl rfl rfl) ?_
        refine EvK.pure (v := .bool (!(r2.1.isNone == r3.1.isNone))) (w_some rfl rfl c10) rfl rfl (f_bneq Try.underlying4 rfl rfl rfl) ?_
        refine EvK.pure (v := .bool (!(r2.1.isNone == r3.1.isNone))) (w_none rfl) rfl rfl (f_pickF rfl rfl c10 rfl) ?_
        refine EvK.nil ?_
        exact KE.mk (!(r2.1.isNone == r3.1.isNone)) ⟨rfl, rfl, rfl, rfl, trivial⟩ hF
end Go.Proofs.Ytgmihbchcmjmdaa
