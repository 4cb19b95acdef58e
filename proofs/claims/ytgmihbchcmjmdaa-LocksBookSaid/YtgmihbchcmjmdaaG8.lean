/- Functions as predicates over the heap, and that the code comes to them. Printed by gen.py, merged by group.py. -/
import Derived.Test.YtgmihbchcmjmdaaTy
namespace Go.Proofs.Ytgmihbchcmjmdaa
open Go Go.Tr
set_option linter.unusedVariables false
set_option maxRecDepth 100000
set_option maxHeartbeats 400000
def spatelaw2_GrownInts.b2 (p0 : Sl) (p5 : Sl) (p8 : Int) (p9 : Int) (s : Int) (h : H) (K : Int ⊕ (Unit ⊕ Bool) → H → Prop) : Prop :=
  if (decide (s < (IntKind.i64.wrap (p9 + 40)))) = true then
    jn (fun (k5 : Bool → H → Prop) =>
      if (decide (s < p9)) = true then
        rd (ixA 1 p0 p8) fun q2 =>
        rd (ld kL q2 h) fun x3 =>
        rd (ixA 1 x3 s) fun q3 =>
        rd (ld (kI .i64) q3 h) fun x4 =>
        if (x4 != (IntKind.i64.wrap ((IntKind.i64.wrap (1000 * p8)) + s))) = true then
          k5 true h
        else
          rd (ixA 1 p5 p8) fun q4 =>
          rd (ld kL q4 h) fun x5 =>
          rd (ixA 1 x5 s) fun q5 =>
          rd (ld (kI .i64) q5 h) fun x6 =>
          if (x6 != (IntKind.i64.wrap ((IntKind.i64.wrap (1000 * p8)) + s))) = true then
            k5 true h
          else
            if (decide (s ≥ p9)) = true then
              rd (ixA 1 p5 p8) fun q6 =>
              rd (ld kL q6 h) fun x7 =>
              rd (ixA 1 x7 s) fun q7 =>
              rd (ld (kI .i64) q7 h) fun x8 =>
              k5 (x8 != (IntKind.i64.wrap ((IntKind.i64.wrap ((IntKind.i64.wrap (0 - (IntKind.i64.wrap (1000 * p8)))) - (IntKind.i64.wrap (s - p9)))) - 1))) h
            else
              k5 false h
      else
        if (decide (s ≥ p9)) = true then
          rd (ixA 1 p5 p8) fun q8 =>
          rd (ld kL q8 h) fun x9 =>
          rd (ixA 1 x9 s) fun q9 =>
          rd (ld (kI .i64) q9 h) fun x10 =>
          k5 (x10 != (IntKind.i64.wrap ((IntKind.i64.wrap ((IntKind.i64.wrap (0 - (IntKind.i64.wrap (1000 * p8)))) - (IntKind.i64.wrap (s - p9)))) - 1))) h
        else
          k5 false h) fun s5 h6 =>
    if s5 = true then
      K (.inr (.inr false)) h6
    else
      K (.inl (IntKind.i64.wrap (s + 1))) h6
  else
    K (.inr (.inl ())) h
def spatelaw2_GrownInts.b1 (p0 : Sl) (p5 : Sl) (s : Int) (h : H) (K : Int ⊕ (Unit ⊕ Bool) → H → Prop) : Prop :=
  if (decide (s < (p0.len : Int))) = true then
    jn (fun (k4 : Unit → H → Prop) =>
      rd (ixA 1 p0 s) fun q1 =>
      rd (ld kL q1 h) fun x2 =>
      loopE (spatelaw2_GrownInts.b2 p0 p5 s (x2.len : Int)) 0 h (sumK (fun r1 hh => k4 r1 hh) (fun r2 hh => K (.inr (.inr r2)) hh))) fun s4 h5 =>
    K (.inl (IntKind.i64.wrap (s + 1))) h5
  else
    K (.inr (.inl ())) h
def spatelaw2_GrownInts.b4 (p0 : Sl) (p5 : Sl) (p6 : Int) (s : Int) (h : H) (K : Int ⊕ Unit → H → Prop) : Prop :=
  if (decide (s < (p0.len : Int))) = true then
    rd (ixA 1 p5 s) fun q10 =>
    rd (ld kL q10 h) fun x11 =>
    bs 3 1 ((kI .i64).enc (IntKind.i64.wrap ((IntKind.i64.wrap ((IntKind.i64.wrap (0 - (IntKind.i64.wrap (1000 * s)))) - p6)) - 1))) h fun x12 h10 =>
    ap (kI .i64).n 8 3 ((kI .i64).enc 0) x11 x12 h10 fun x13 h11 =>
    rd (ixA 1 p5 s) fun q11 =>
    rd (st kL q11 x13 h11) fun h12 =>
    K (.inl (IntKind.i64.wrap (s + 1))) h12
  else
    K (.inr ()) h
def spatelaw2_GrownInts.b3 (p0 : Sl) (p5 : Sl) (s : Int) (h : H) (K : Int ⊕ Unit → H → Prop) : Prop :=
  if (decide (s < 40)) = true then
    jn (fun (k8 : Unit → H → Prop) =>
      loopE (spatelaw2_GrownInts.b4 p0 p5 s) 0 h (fun r5 hh => k8 r5 hh)) fun s8 h9 =>
    K (.inl (IntKind.i64.wrap (s + 1))) h9
  else
    K (.inr ()) h
def spatelaw2_GrownInts.b6 (p0 : Sl) (p3 : Int) (s : Int) (h : H) (K : Int ⊕ Unit → H → Prop) : Prop :=
  rd (ixA 1 p0 p3) fun q12 =>
  rd (ld kL q12 h) fun x14 =>
  if (decide (s < (x14.len : Int))) = true then
    rd (ixA 1 p0 p3) fun q13 =>
    rd (ld kL q13 h) fun x15 =>
    rd (ixA 1 x15 s) fun q14 =>
    rd (st (kI .i64) q14 (IntKind.i64.wrap ((IntKind.i64.wrap (1000 * p3)) + s)) h) fun h16 =>
    K (.inl (IntKind.i64.wrap (s + 1))) h16
  else
    K (.inr ()) h
def spatelaw2_GrownInts.b5 (p0 : Sl) (s : Int) (h : H) (K : Int ⊕ Unit → H → Prop) : Prop :=
  if (decide (s < (p0.len : Int))) = true then
    jn (fun (k11 : Unit → H → Prop) =>
      loopE (spatelaw2_GrownInts.b6 p0 s) 0 h (fun r7 hh => k11 r7 hh)) fun s11 h15 =>
    K (.inl (IntKind.i64.wrap (s + 1))) h15
  else
    K (.inr ()) h
/-- spate/spatelaw2.GrownInts -/
def spatelaw2_GrownInts (a0 : Sl) (h : H) (Q : Bool → H → Prop) : Prop :=
  jn (fun (k1 : Unit → H → Prop) =>
    loopE (spatelaw2_GrownInts.b5 a0) 0 h (fun r8 hh => k1 r8 hh)) fun s1 h1 =>
  ap kL.n 24 22 (kL.enc Sl.nil) Sl.nil a0 h1 fun x1 h2 =>
  jn (fun (k2 : Unit → H → Prop) =>
    loopE (spatelaw2_GrownInts.b3 a0 x1) 0 h2 (fun r6 hh => k2 r6 hh)) fun s2 h3 =>
  jn (fun (k3 : Unit → H → Prop) =>
    loopE (spatelaw2_GrownInts.b1 a0 x1) 0 h3 (sumK (fun r3 hh => k3 r3 hh) (fun r4 hh => Q r4 hh))) fun s3 h4 =>
  Q true h4
theorem spatelaw2_GrownInts.sound {a0 : Sl} {h : H} {Q : Bool → H → Prop} (hF : spatelaw2_GrownInts a0 h Q) :
    CallsH Try.prog 40 (List.toArray (α := Value) [Sl.val a0]) h fun v h' => ∃ x : Bool, v = .bool x ∧ Q x h' := by
  refine CallsH.of_body Try.func40 rfl 135 rfl rfl ?_
  refine WP.seq ?_
  refine WP.region ?_
  refine EvK.pure (v := .bool false) (w_none rfl) rfl rfl (f_assign rfl rfl) ?_
  refine EvK.nil ?_
  refine WP.joinF (fun (s1 : Unit) => [(0, Sl.val a0)]) hF ?_ ?_
  · intro s1 E0 h1 hF
    refine WP.seq ?_
    refine WP.region ?_
    refine EvK.pure (v := Sl.val Sl.nil) (w_none rfl) rfl rfl (f_assign rfl rfl) ?_
    refine EvK.nil ?_
    refine WP.seq ?_
    refine WP.region ?_
    refine EvK.pure (v := Sl.val Sl.nil) (w_none rfl) rfl rfl (f_move rfl rfl) ?_
    refine EvK.pure (v := Sl.val a0) (w_none rfl) rfl rfl (f_move rfl rfl) ?_
    refine EvK.run (w_none rfl) rfl rfl (f_appendE (s := Sl.nil) (x := a0) Try.underlying68 el22 rfl rfl rfl hF) ?_
    rintro _ h2 ⟨x1, rfl, hF⟩
    refine EvK.pure (v := Sl.val x1) (w_none rfl) rfl rfl (f_assign rfl rfl) ?_
    refine EvK.nil ?_
    refine WP.joinF (fun (s2 : Unit) => [(0, Sl.val a0), (5, Sl.val x1)]) hF ?_ ?_
    · intro s2 E0 h3 hF
      refine WP.joinF (fun (s3 : Unit) => []) hF ?_ ?_
      · intro s3 E0 h4 hF
        refine WP.seq ?_
        refine WP.region ?_
        refine EvK.pure (v := .bool true) (w_none rfl) rfl rfl (f_assign rfl rfl) ?_
        refine EvK.nil ?_
        refine WP.ret ?_
        exact Ret.mk (vs := [.bool true]) true ⟨rfl, trivial⟩ rfl hF
      · intro k3 hF
        refine WP.seq ?_
        refine WP.region ?_
        refine EvK.pure (v := .int .i64 0) (w_none rfl) rfl rfl (f_assign rfl rfl) ?_
        refine EvK.nil ?_
        refine WP.block ?_
        refine WP.loopF (fun (s4 : Int) => [(8, .int .i64 s4), (0, Sl.val a0), (5, Sl.val x1)]) hF ⟨rfl, rfl, rfl, trivial⟩ ?_
        intro k4 s4 E0 h5 hF
        refine WP.seq ?_
        refine WP.seq ?_
        refine WP.region ?_
        refine EvK.pure (v := .int .i64 s4) (w_none rfl) rfl rfl (f_move rfl rfl) ?_
        refine EvK.pure (v := Sl.val a0) (w_none rfl) rfl rfl (f_move rfl rfl) ?_
        refine EvK.pure (v := .int .i64 (a0.len : Int)) (w_none rfl) rfl rfl (f_lenL (s := a0) Try.underlying68 rfl rfl) ?_
        refine EvK.pure (v := .bool (decide (s4 < (a0.len : Int)))) (w_none rfl) rfl rfl (f_lss rfl rfl rfl) ?_
        refine EvK.nil ?_
        rcases ite_inv hF with ⟨c1, hF⟩ | ⟨c1, hF⟩
        · refine WP.cond_true _ rfl c1 ?_
          refine WP.skip ?_
          refine WP.joinF (fun (s5 : Unit) => [(0, Sl.val a0), (5, Sl.val x1), (8, .int .i64 s4)]) hF ?_ ?_
          · intro s5 E0 h6 hF
            refine WP.region ?_
            refine EvK.pure (v := .int .i64 s4) (w_none rfl) rfl rfl (f_move rfl rfl) ?_
            refine EvK.pure (v := .int .i64 (IntKind.i64.wrap (s4 + 1))) (w_none rfl) rfl rfl (f_add rfl rfl rfl) ?_
            refine EvK.pure (v := .int .i64 (IntKind.i64.wrap (s4 + 1))) (w_none rfl) rfl rfl (f_assign rfl rfl) ?_
            refine EvK.nil ?_
            exact KE.mk (IntKind.i64.wrap (s4 + 1)) ⟨rfl, rfl, rfl, trivial⟩ hF
          · intro k5 hF
            refine WP.block ?_
            refine WP.seq ?_
            refine WP.region ?_
            refine EvK.pure (v := Sl.val a0) (w_none rfl) rfl rfl (f_move rfl rfl) ?_
            refine EvK.pure (v := .int .i64 s4) (w_none rfl) rfl rfl (f_move rfl rfl) ?_
            obtain ⟨q1, hq1, hF⟩ := hF
            refine EvK.pure (v := .pointer (some q1)) (w_none rfl) rfl rfl (f_indexAddr (s := a0) Try.underlying68 ty22.size rfl rfl rfl hq1) ?_
            obtain ⟨x2, hx1, hF⟩ := hF
            refine EvK.read (v := Sl.val x2) (w_none rfl) rfl rfl (f_load kL ty22 rfl rfl hx1 rfl) ?_
            refine EvK.pure (v := .int .i64 (x2.len : Int)) (w_none rfl) rfl rfl (f_lenL (s := x2) Try.underlying22 rfl rfl) ?_
            refine EvK.pure (v := .int .i64 (x2.len : Int)) (w_none rfl) rfl rfl (f_assign rfl rfl) ?_
            refine EvK.nil ?_
            refine WP.seq ?_
            refine WP.region ?_
            refine EvK.pure (v := .int .i64 0) (w_none rfl) rfl rfl (f_assign rfl rfl) ?_
            refine EvK.nil ?_
            refine WP.block ?_
            refine WP.loopF (fun (s6 : Int) => [(10, .int .i64 s6), (0, Sl.val a0), (5, Sl.val x1), (8, .int .i64 s4), (9, .int .i64 (x2.len : Int))]) hF ⟨rfl, rfl, rfl, rfl, rfl, trivial⟩ ?_
            intro k6 s6 E0 h7 hF
            refine WP.seq ?_
            refine WP.seq ?_
            refine WP.region ?_
            refine EvK.pure (v := .int .i64 s6) (w_none rfl) rfl rfl (f_move rfl rfl) ?_
            refine EvK.pure (v := .int .i64 (x2.len : Int)) (w_none rfl) rfl rfl (f_move rfl rfl) ?_
            refine EvK.pure (v := .int .i64 (IntKind.i64.wrap ((x2.len : Int) + 40))) (w_none rfl) rfl rfl (f_add rfl rfl rfl) ?_
            refine EvK.pure (v := .bool (decide (s6 < (IntKind.i64.wrap ((x2.len : Int) + 40))))) (w_none rfl) rfl rfl (f_lss rfl rfl rfl) ?_
            refine EvK.nil ?_
            rcases ite_inv hF with ⟨c2, hF⟩ | ⟨c2, hF⟩
            · refine WP.cond_true _ rfl c2 ?_
              refine WP.skip ?_
              refine WP.seq ?_
              refine WP.block ?_
              refine WP.joinF (fun (s7 : Bool) => [(134, .bool s7), (0, Sl.val a0), (5, Sl.val x1), (8, .int .i64 s4), (9, .int .i64 (x2.len : Int)), (10, .int .i64 s6)]) hF ?_ ?_
              · intro s7 E0 h8 hF
                rcases ite_inv hF with ⟨c3, hF⟩ | ⟨c3, hF⟩
                · refine WP.cond_true _ rfl c3 ?_
                  refine WP.seq ?_
                  refine WP.region ?_
                  refine EvK.pure (v := .bool false) (w_none rfl) rfl rfl (f_assign rfl rfl) ?_
                  refine EvK.nil ?_
                  refine WP.ret ?_
                  exact Ret.mk (vs := [.bool false]) false ⟨rfl, trivial⟩ rfl hF
                · refine WP.cond_false _ rfl c3 ?_
                  refine WP.skip ?_
                  refine WP.region ?_
                  refine EvK.pure (v := .int .i64 s6) (w_none rfl) rfl rfl (f_move rfl rfl) ?_
                  refine EvK.pure (v := .int .i64 (IntKind.i64.wrap (s6 + 1))) (w_none rfl) rfl rfl (f_add rfl rfl rfl) ?_
                  refine EvK.pure (v := .int .i64 (IntKind.i64.wrap (s6 + 1))) (w_none rfl) rfl rfl (f_assign rfl rfl) ?_
                  refine EvK.nil ?_
                  exact KE.mk (IntKind.i64.wrap (s6 + 1)) ⟨rfl, rfl, rfl, rfl, rfl, trivial⟩ hF
              · intro k7 hF
                refine WP.region ?_
                refine EvK.pure (v := .int .i64 s6) (w_none rfl) rfl rfl (f_move rfl rfl) ?_
                refine EvK.pure (v := .int .i64 (x2.len : Int)) (w_none rfl) rfl rfl (f_move rfl rfl) ?_
                refine EvK.pure (v := .bool (decide (s6 < (x2.len : Int)))) (w_none rfl) rfl rfl (f_lss rfl rfl rfl) ?_
                refine EvK.pure (v := .bool (decide (s6 < (x2.len : Int)))) (w_none rfl) rfl rfl (f_move rfl rfl) ?_
                rcases ite_inv hF with ⟨c4, hF⟩ | ⟨c4, hF⟩
                · refine EvK.pure (v := Sl.val a0) (w_some rfl rfl c4) rfl rfl (f_move rfl rfl) ?_
                  refine EvK.pure (v := .int .i64 s4) (w_some rfl rfl c4) rfl rfl (f_move rfl rfl) ?_
                  obtain ⟨q2, hq2, hF⟩ := hF
                  refine EvK.pure (v := .pointer (some q2)) (w_some rfl rfl c4) rfl rfl (f_indexAddr (s := a0) Try.underlying68 ty22.size rfl rfl rfl hq2) ?_
                  obtain ⟨x3, hx2, hF⟩ := hF
                  refine EvK.read (v := Sl.val x3) (w_some rfl rfl c4) rfl rfl (f_load kL ty22 rfl rfl hx2 rfl) ?_
                  refine EvK.pure (v := .int .i64 s6) (w_some rfl rfl c4) rfl rfl (f_move rfl rfl) ?_
                  obtain ⟨q3, hq3, hF⟩ := hF
                  refine EvK.pure (v := .pointer (some q3)) (w_some rfl rfl c4) rfl rfl (f_indexAddr (s := x3) Try.underlying22 ty3.size rfl rfl rfl hq3) ?_
                  obtain ⟨x4, hx3, hF⟩ := hF
                  refine EvK.read (v := .int .i64 x4) (w_some rfl rfl c4) rfl rfl (f_load (kI .i64) ty3 rfl rfl hx3 rfl) ?_
                  refine EvK.pure (v := .int .i64 s4) (w_some rfl rfl c4) rfl rfl (f_move rfl rfl) ?_
                  refine EvK.pure (v := .int .i64 (IntKind.i64.wrap (1000 * s4))) (w_some rfl rfl c4) rfl rfl (f_mul rfl rfl rfl) ?_
                  refine EvK.pure (v := .int .i64 s6) (w_some rfl rfl c4) rfl rfl (f_move rfl rfl) ?_
                  refine EvK.pure (v := .int .i64 (IntKind.i64.wrap ((IntKind.i64.wrap (1000 * s4)) + s6))) (w_some rfl rfl c4) rfl rfl (f_add rfl rfl rfl) ?_
                  refine EvK.pure (v := .bool (x4 != (IntKind.i64.wrap ((IntKind.i64.wrap (1000 * s4)) + s6)))) (w_some rfl rfl c4) rfl rfl (f_neq rfl rfl rfl) ?_
                  refine EvK.pure (v := .bool (x4 != (IntKind.i64.wrap ((IntKind.i64.wrap (1000 * s4)) + s6)))) (w_some rfl rfl c4) rfl rfl (f_move rfl rfl) ?_
                  rcases ite_inv hF with ⟨c5, hF⟩ | ⟨c5, hF⟩
                  · refine EvK.not (w_not rfl rfl c5) rfl rfl ?_
                    refine EvK.not (w_not rfl rfl c5) rfl rfl ?_
                    refine EvK.not (w_not rfl rfl c5) rfl rfl ?_
                    refine EvK.not (w_not rfl rfl c5) rfl rfl ?_
                    refine EvK.not (w_not rfl rfl c5) rfl rfl ?_
                    refine EvK.not (w_not rfl rfl c5) rfl rfl ?_
                    refine EvK.not (w_not rfl rfl c5) rfl rfl ?_
                    refine EvK.not (w_not rfl rfl c5) rfl rfl ?_
                    refine EvK.not (w_not rfl rfl c5) rfl rfl ?_
                    refine EvK.not (w_not rfl rfl c5) rfl rfl ?_
                    refine EvK.not (w_not rfl rfl c5) rfl rfl ?_
                    refine EvK.not (w_not rfl rfl c5) rfl rfl ?_
                    refine EvK.pure (v := .bool true) (w_some rfl rfl c4) rfl rfl (f_pickT rfl rfl c5 rfl) ?_
                    refine EvK.pure (v := .bool true) (w_none rfl) rfl rfl (f_pickT rfl rfl c4 rfl) ?_
                    refine EvK.pure (v := .bool true) (w_none rfl) rfl rfl (f_move rfl rfl) ?_
                    refine EvK.not (w_not rfl rfl rfl) rfl rfl ?_
                    refine EvK.not (w_not rfl rfl rfl) rfl rfl ?_
                    refine EvK.not (w_not rfl rfl rfl) rfl rfl ?_
                    refine EvK.not (w_not rfl rfl rfl) rfl rfl ?_
                    refine EvK.not (w_undef rfl rfl) rfl rfl ?_
                    refine EvK.not (w_undef rfl rfl) rfl rfl ?_
                    refine EvK.not (w_undef rfl rfl) rfl rfl ?_
                    refine EvK.not (w_undef rfl rfl) rfl rfl ?_
                    refine EvK.not (w_undef rfl rfl) rfl rfl ?_
                    refine EvK.not (w_undef rfl rfl) rfl rfl ?_
                    refine EvK.not (w_undef rfl rfl) rfl rfl ?_
                    refine EvK.not (w_undef rfl rfl) rfl rfl ?_
                    refine EvK.not (w_undef rfl rfl) rfl rfl ?_
                    refine EvK.not (w_undef rfl rfl) rfl rfl ?_
                    refine EvK.not (w_undef rfl rfl) rfl rfl ?_
                    refine EvK.not (w_undef rfl rfl) rfl rfl ?_
                    refine EvK.not (w_undef rfl rfl) rfl rfl ?_
                    refine EvK.not (w_undef rfl rfl) rfl rfl ?_
                    refine EvK.not (w_undef rfl rfl) rfl rfl ?_
                    refine EvK.not (w_undef rfl rfl) rfl rfl ?_
                    refine EvK.not (w_not rfl rfl rfl) rfl rfl ?_
                    refine EvK.pure (v := .bool true) (w_none rfl) rfl rfl (f_pickT rfl rfl rfl rfl) ?_
                    refine EvK.nil ?_
                    exact KE.mk true ⟨rfl, rfl, rfl, rfl, rfl, rfl, trivial⟩ hF
                  · refine EvK.pure (v := Sl.val x1) (w_some rfl rfl c5) rfl rfl (f_move rfl rfl) ?_
                    refine EvK.pure (v := .int .i64 s4) (w_some rfl rfl c5) rfl rfl (f_move rfl rfl) ?_
                    obtain ⟨q4, hq4, hF⟩ := hF
                    refine EvK.pure (v := .pointer (some q4)) (w_some rfl rfl c5) rfl rfl (f_indexAddr (s := x1) Try.underlying68 ty22.size rfl rfl rfl hq4) ?_
                    obtain ⟨x5, hx4, hF⟩ := hF
                    refine EvK.read (v := Sl.val x5) (w_some rfl rfl c5) rfl rfl (f_load kL ty22 rfl rfl hx4 rfl) ?_
                    refine EvK.pure (v := .int .i64 s6) (w_some rfl rfl c5) rfl rfl (f_move rfl rfl) ?_
                    obtain ⟨q5, hq5, hF⟩ := hF
                    refine EvK.pure (v := .pointer (some q5)) (w_some rfl rfl c5) rfl rfl (f_indexAddr (s := x5) Try.underlying22 ty3.size rfl rfl rfl hq5) ?_
                    obtain ⟨x6, hx5, hF⟩ := hF
                    refine EvK.read (v := .int .i64 x6) (w_some rfl rfl c5) rfl rfl (f_load (kI .i64) ty3 rfl rfl hx5 rfl) ?_
                    refine EvK.pure (v := .int .i64 s4) (w_some rfl rfl c5) rfl rfl (f_move rfl rfl) ?_
                    refine EvK.pure (v := .int .i64 (IntKind.i64.wrap (1000 * s4))) (w_some rfl rfl c5) rfl rfl (f_mul rfl rfl rfl) ?_
                    refine EvK.pure (v := .int .i64 s6) (w_some rfl rfl c5) rfl rfl (f_move rfl rfl) ?_
                    refine EvK.pure (v := .int .i64 (IntKind.i64.wrap ((IntKind.i64.wrap (1000 * s4)) + s6))) (w_some rfl rfl c5) rfl rfl (f_add rfl rfl rfl) ?_
                    refine EvK.pure (v := .bool (x6 != (IntKind.i64.wrap ((IntKind.i64.wrap (1000 * s4)) + s6)))) (w_some rfl rfl c5) rfl rfl (f_neq rfl rfl rfl) ?_
                    refine EvK.pure (v := .bool (x6 != (IntKind.i64.wrap ((IntKind.i64.wrap (1000 * s4)) + s6)))) (w_some rfl rfl c4) rfl rfl (f_pickF rfl rfl c5 rfl) ?_
                    refine EvK.pure (v := .bool (x6 != (IntKind.i64.wrap ((IntKind.i64.wrap (1000 * s4)) + s6)))) (w_none rfl) rfl rfl (f_pickT rfl rfl c4 rfl) ?_
                    refine EvK.pure (v := .bool (x6 != (IntKind.i64.wrap ((IntKind.i64.wrap (1000 * s4)) + s6)))) (w_none rfl) rfl rfl (f_move rfl rfl) ?_
                    rcases ite_inv hF with ⟨c6, hF⟩ | ⟨c6, hF⟩
                    · refine EvK.not (w_not rfl rfl c6) rfl rfl ?_
                      refine EvK.not (w_not rfl rfl c6) rfl rfl ?_
                      refine EvK.not (w_not rfl rfl c6) rfl rfl ?_
                      refine EvK.not (w_not rfl rfl c6) rfl rfl ?_
                      refine EvK.not (w_undef rfl rfl) rfl rfl ?_
                      refine EvK.not (w_undef rfl rfl) rfl rfl ?_
                      refine EvK.not (w_undef rfl rfl) rfl rfl ?_
                      refine EvK.not (w_undef rfl rfl) rfl rfl ?_
                      refine EvK.not (w_undef rfl rfl) rfl rfl ?_
                      refine EvK.not (w_undef rfl rfl) rfl rfl ?_
                      refine EvK.not (w_undef rfl rfl) rfl rfl ?_
                      refine EvK.not (w_undef rfl rfl) rfl rfl ?_
                      refine EvK.not (w_undef rfl rfl) rfl rfl ?_
                      refine EvK.not (w_undef rfl rfl) rfl rfl ?_
                      refine EvK.not (w_undef rfl rfl) rfl rfl ?_
                      refine EvK.not (w_undef rfl rfl) rfl rfl ?_
                      refine EvK.not (w_undef rfl rfl) rfl rfl ?_
                      refine EvK.not (w_undef rfl rfl) rfl rfl ?_
                      refine EvK.not (w_undef rfl rfl) rfl rfl ?_
                      refine EvK.not (w_undef rfl rfl) rfl rfl ?_
                      refine EvK.not (w_not rfl rfl c6) rfl rfl ?_
                      refine EvK.pure (v := .bool true) (w_none rfl) rfl rfl (f_pickT rfl rfl c6 rfl) ?_
                      refine EvK.nil ?_
                      exact KE.mk true ⟨rfl, rfl, rfl, rfl, rfl, rfl, trivial⟩ hF
                    · refine EvK.pure (v := .int .i64 s6) (w_some rfl rfl c6) rfl rfl (f_move rfl rfl) ?_
                      refine EvK.pure (v := .int .i64 (x2.len : Int)) (w_some rfl rfl c6) rfl rfl (f_move rfl rfl) ?_
                      refine EvK.pure (v := .bool (decide (s6 ≥ (x2.len : Int)))) (w_some rfl rfl c6) rfl rfl (f_geq rfl rfl rfl) ?_
                      refine EvK.pure (v := .bool (decide (s6 ≥ (x2.len : Int)))) (w_some rfl rfl c6) rfl rfl (f_move rfl rfl) ?_
                      rcases ite_inv hF with ⟨c7, hF⟩ | ⟨c7, hF⟩
                      · refine EvK.pure (v := Sl.val x1) (w_some rfl rfl c7) rfl rfl (f_move rfl rfl) ?_
                        refine EvK.pure (v := .int .i64 s4) (w_some rfl rfl c7) rfl rfl (f_move rfl rfl) ?_
                        obtain ⟨q6, hq6, hF⟩ := hF
                        refine EvK.pure (v := .pointer (some q6)) (w_some rfl rfl c7) rfl rfl (f_indexAddr (s := x1) Try.underlying68 ty22.size rfl rfl rfl hq6) ?_
                        obtain ⟨x7, hx6, hF⟩ := hF
                        refine EvK.read (v := Sl.val x7) (w_some rfl rfl c7) rfl rfl (f_load kL ty22 rfl rfl hx6 rfl) ?_
                        refine EvK.pure (v := .int .i64 s6) (w_some rfl rfl c7) rfl rfl (f_move rfl rfl) ?_
                        obtain ⟨q7, hq7, hF⟩ := hF
                        refine EvK.pure (v := .pointer (some q7)) (w_some rfl rfl c7) rfl rfl (f_indexAddr (s := x7) Try.underlying22 ty3.size rfl rfl rfl hq7) ?_
                        obtain ⟨x8, hx7, hF⟩ := hF
                        refine EvK.read (v := .int .i64 x8) (w_some rfl rfl c7) rfl rfl (f_load (kI .i64) ty3 rfl rfl hx7 rfl) ?_
                        refine EvK.pure (v := .int .i64 s4) (w_some rfl rfl c7) rfl rfl (f_move rfl rfl) ?_
                        refine EvK.pure (v := .int .i64 (IntKind.i64.wrap (1000 * s4))) (w_some rfl rfl c7) rfl rfl (f_mul rfl rfl rfl) ?_
                        refine EvK.pure (v := .int .i64 (IntKind.i64.wrap (0 - (IntKind.i64.wrap (1000 * s4))))) (w_some rfl rfl c7) rfl rfl (f_sub rfl rfl rfl) ?_
                        refine EvK.pure (v := .int .i64 s6) (w_some rfl rfl c7) rfl rfl (f_move rfl rfl) ?_
                        refine EvK.pure (v := .int .i64 (x2.len : Int)) (w_some rfl rfl c7) rfl rfl (f_move rfl rfl) ?_
                        refine EvK.pure (v := .int .i64 (IntKind.i64.wrap (s6 - (x2.len : Int)))) (w_some rfl rfl c7) rfl rfl (f_sub rfl rfl rfl) ?_
                        refine EvK.pure (v := .int .i64 (IntKind.i64.wrap ((IntKind.i64.wrap (0 - (IntKind.i64.wrap (1000 * s4)))) - (IntKind.i64.wrap (s6 - (x2.len : Int)))))) (w_some rfl rfl c7) rfl rfl (f_sub rfl rfl rfl) ?_
                        refine EvK.pure (v := .int .i64 (IntKind.i64.wrap ((IntKind.i64.wrap ((IntKind.i64.wrap (0 - (IntKind.i64.wrap (1000 * s4)))) - (IntKind.i64.wrap (s6 - (x2.len : Int))))) - 1))) (w_some rfl rfl c7) rfl rfl (f_sub rfl rfl rfl) ?_
                        refine EvK.pure (v := .bool (x8 != (IntKind.i64.wrap ((IntKind.i64.wrap ((IntKind.i64.wrap (0 - (IntKind.i64.wrap (1000 * s4)))) - (IntKind.i64.wrap (s6 - (x2.len : Int))))) - 1)))) (w_some rfl rfl c7) rfl rfl (f_neq rfl rfl rfl) ?_
                        refine EvK.pure (v := .bool (x8 != (IntKind.i64.wrap ((IntKind.i64.wrap ((IntKind.i64.wrap (0 - (IntKind.i64.wrap (1000 * s4)))) - (IntKind.i64.wrap (s6 - (x2.len : Int))))) - 1)))) (w_some rfl rfl c6) rfl rfl (f_pickT rfl rfl c7 rfl) ?_
                        refine EvK.pure (v := .bool (x8 != (IntKind.i64.wrap ((IntKind.i64.wrap ((IntKind.i64.wrap (0 - (IntKind.i64.wrap (1000 * s4)))) - (IntKind.i64.wrap (s6 - (x2.len : Int))))) - 1)))) (w_none rfl) rfl rfl (f_pickF rfl rfl c6 rfl) ?_
                        refine EvK.nil ?_
                        exact KE.mk (x8 != (IntKind.i64.wrap ((IntKind.i64.wrap ((IntKind.i64.wrap (0 - (IntKind.i64.wrap (1000 * s4)))) - (IntKind.i64.wrap (s6 - (x2.len : Int))))) - 1))) ⟨rfl, rfl, rfl, rfl, rfl, rfl, trivial⟩ hF
                      · refine EvK.not (w_not rfl rfl c7) rfl rfl ?_
                        refine EvK.not (w_not rfl rfl c7) rfl rfl ?_
                        refine EvK.not (w_not rfl rfl c7) rfl rfl ?_
                        refine EvK.not (w_not rfl rfl c7) rfl rfl ?_
                        refine EvK.not (w_not rfl rfl c7) rfl rfl ?_
                        refine EvK.not (w_not rfl rfl c7) rfl rfl ?_
                        refine EvK.not (w_not rfl rfl c7) rfl rfl ?_
                        refine EvK.not (w_not rfl rfl c7) rfl rfl ?_
                        refine EvK.not (w_not rfl rfl c7) rfl rfl ?_
                        refine EvK.not (w_not rfl rfl c7) rfl rfl ?_
                        refine EvK.not (w_not rfl rfl c7) rfl rfl ?_
                        refine EvK.not (w_not rfl rfl c7) rfl rfl ?_
                        refine EvK.not (w_not rfl rfl c7) rfl rfl ?_
                        refine EvK.not (w_not rfl rfl c7) rfl rfl ?_
                        refine EvK.not (w_not rfl rfl c7) rfl rfl ?_
                        refine EvK.not (w_not rfl rfl c7) rfl rfl ?_
                        refine EvK.pure (v := .bool false) (w_some rfl rfl c6) rfl rfl (f_pickF rfl rfl c7 rfl) ?_
                        refine EvK.pure (v := .bool false) (w_none rfl) rfl rfl (f_pickF rfl rfl c6 rfl) ?_
                        refine EvK.nil ?_
                        exact KE.mk false ⟨rfl, rfl, rfl, rfl, rfl, rfl, trivial⟩ hF
                · refine EvK.not (w_not rfl rfl c4) rfl rfl ?_
                  refine EvK.not (w_not rfl rfl c4) rfl rfl ?_
                  refine EvK.not (w_not rfl rfl c4) rfl rfl ?_
                  refine EvK.not (w_not rfl rfl c4) rfl rfl ?_
                  refine EvK.not (w_not rfl rfl c4) rfl rfl ?_
                  refine EvK.not (w_not rfl rfl c4) rfl rfl ?_
                  refine EvK.not (w_not rfl rfl c4) rfl rfl ?_
                  refine EvK.not (w_not rfl rfl c4) rfl rfl ?_
                  refine EvK.not (w_not rfl rfl c4) rfl rfl ?_
                  refine EvK.not (w_not rfl rfl c4) rfl rfl ?_
                  refine EvK.not (w_not rfl rfl c4) rfl rfl ?_
                  refine EvK.not (w_not rfl rfl c4) rfl rfl ?_
                  refine EvK.not (w_not rfl rfl c4) rfl rfl ?_
                  refine EvK.not (w_undef rfl rfl) rfl rfl ?_
                  refine EvK.not (w_undef rfl rfl) rfl rfl ?_
                  refine EvK.not (w_undef rfl rfl) rfl rfl ?_
                  refine EvK.not (w_undef rfl rfl) rfl rfl ?_
                  refine EvK.not (w_undef rfl rfl) rfl rfl ?_
                  refine EvK.not (w_undef rfl rfl) rfl rfl ?_
                  refine EvK.not (w_undef rfl rfl) rfl rfl ?_
                  refine EvK.not (w_undef rfl rfl) rfl rfl ?_
                  refine EvK.not (w_undef rfl rfl) rfl rfl ?_
                  refine EvK.not (w_undef rfl rfl) rfl rfl ?_
                  refine EvK.not (w_undef rfl rfl) rfl rfl ?_
                  refine EvK.not (w_undef rfl rfl) rfl rfl ?_
                  refine EvK.not (w_not rfl rfl c4) rfl rfl ?_
                  refine EvK.pure (v := .bool false) (w_none rfl) rfl rfl (f_pickF rfl rfl c4 rfl) ?_
                  refine EvK.pure (v := .bool false) (w_none rfl) rfl rfl (f_move rfl rfl) ?_
                  refine EvK.pure (v := .int .i64 s6) (w_some rfl rfl rfl) rfl rfl (f_move rfl rfl) ?_
                  refine EvK.pure (v := .int .i64 (x2.len : Int)) (w_some rfl rfl rfl) rfl rfl (f_move rfl rfl) ?_
                  refine EvK.pure (v := .bool (decide (s6 ≥ (x2.len : Int)))) (w_some rfl rfl rfl) rfl rfl (f_geq rfl rfl rfl) ?_
                  refine EvK.pure (v := .bool (decide (s6 ≥ (x2.len : Int)))) (w_some rfl rfl rfl) rfl rfl (f_move rfl rfl) ?_
                  rcases ite_inv hF with ⟨c8, hF⟩ | ⟨c8, hF⟩
                  · refine EvK.pure (v := Sl.val x1) (w_some rfl rfl c8) rfl rfl (f_move rfl rfl) ?_
                    refine EvK.pure (v := .int .i64 s4) (w_some rfl rfl c8) rfl rfl (f_move rfl rfl) ?_
                    obtain ⟨q8, hq8, hF⟩ := hF
                    refine EvK.pure (v := .pointer (some q8)) (w_some rfl rfl c8) rfl rfl (f_indexAddr (s := x1) Try.underlying68 ty22.size rfl rfl rfl hq8) ?_
                    obtain ⟨x9, hx8, hF⟩ := hF
                    refine EvK.read (v := Sl.val x9) (w_some rfl rfl c8) rfl rfl (f_load kL ty22 rfl rfl hx8 rfl) ?_
                    refine EvK.pure (v := .int .i64 s6) (w_some rfl rfl c8) rfl rfl (f_move rfl rfl) ?_
                    obtain ⟨q9, hq9, hF⟩ := hF
                    refine EvK.pure (v := .pointer (some q9)) (w_some rfl rfl c8) rfl rfl (f_indexAddr (s := x9) Try.underlying22 ty3.size rfl rfl rfl hq9) ?_
                    obtain ⟨x10, hx9, hF⟩ := hF
                    refine EvK.read (v := .int .i64 x10) (w_some rfl rfl c8) rfl rfl (f_load (kI .i64) ty3 rfl rfl hx9 rfl) ?_
                    refine EvK.pure (v := .int .i64 s4) (w_some rfl rfl c8) rfl rfl (f_move rfl rfl) ?_
                    refine EvK.pure (v := .int .i64 (IntKind.i64.wrap (1000 * s4))) (w_some rfl rfl c8) rfl rfl (f_mul rfl rfl rfl) ?_
                    refine EvK.pure (v := .int .i64 (IntKind.i64.wrap (0 - (IntKind.i64.wrap (1000 * s4))))) (w_some rfl rfl c8) rfl rfl (f_sub rfl rfl rfl) ?_
                    refine EvK.pure (v := .int .i64 s6) (w_some rfl rfl c8) rfl rfl (f_move rfl rfl) ?_
                    refine EvK.pure (v := .int .i64 (x2.len : Int)) (w_some rfl rfl c8) rfl rfl (f_move rfl rfl) ?_
                    refine EvK.pure (v := .int .i64 (IntKind.i64.wrap (s6 - (x2.len : Int)))) (w_some rfl rfl c8) rfl rfl (f_sub rfl rfl rfl) ?_
                    refine EvK.pure (v := .int .i64 (IntKind.i64.wrap ((IntKind.i64.wrap (0 - (IntKind.i64.wrap (1000 * s4)))) - (IntKind.i64.wrap (s6 - (x2.len : Int)))))) (w_some rfl rfl c8) rfl rfl (f_sub rfl rfl rfl) ?_
                    refine EvK.pure (v := .int .i64 (IntKind.i64.wrap ((IntKind.i64.wrap ((IntKind.i64.wrap (0 - (IntKind.i64.wrap (1000 * s4)))) - (IntKind.i64.wrap (s6 - (x2.len : Int))))) - 1))) (w_some rfl rfl c8) rfl rfl (f_sub rfl rfl rfl) ?_
                    refine EvK.pure (v := .bool (x10 != (IntKind.i64.wrap ((IntKind.i64.wrap ((IntKind.i64.wrap (0 - (IntKind.i64.wrap (1000 * s4)))) - (IntKind.i64.wrap (s6 - (x2.len : Int))))) - 1)))) (w_some rfl rfl c8) rfl rfl (f_neq rfl rfl rfl) ?_
                    refine EvK.pure (v := .bool (x10 != (IntKind.i64.wrap ((IntKind.i64.wrap ((IntKind.i64.wrap (0 - (IntKind.i64.wrap (1000 * s4)))) - (IntKind.i64.wrap (s6 - (x2.len : Int))))) - 1)))) (w_some rfl rfl rfl) rfl rfl (f_pickT rfl rfl c8 rfl) ?_
                    refine EvK.pure (v := .bool (x10 != (IntKind.i64.wrap ((IntKind.i64.wrap ((IntKind.i64.wrap (0 - (IntKind.i64.wrap (1000 * s4)))) - (IntKind.i64.wrap (s6 - (x2.len : Int))))) - 1)))) (w_none rfl) rfl rfl (f_pickF rfl rfl rfl rfl) ?_
                    refine EvK.nil ?_
                    exact KE.mk (x10 != (IntKind.i64.wrap ((IntKind.i64.wrap ((IntKind.i64.wrap (0 - (IntKind.i64.wrap (1000 * s4)))) - (IntKind.i64.wrap (s6 - (x2.len : Int))))) - 1))) ⟨rfl, rfl, rfl, rfl, rfl, rfl, trivial⟩ hF
                  · refine EvK.not (w_not rfl rfl c8) rfl rfl ?_
                    refine EvK.not (w_not rfl rfl c8) rfl rfl ?_
                    refine EvK.not (w_not rfl rfl c8) rfl rfl ?_
                    refine EvK.not (w_not rfl rfl c8) rfl rfl ?_
                    refine EvK.not (w_not rfl rfl c8) rfl rfl ?_
                    refine EvK.not (w_not rfl rfl c8) rfl rfl ?_
                    refine EvK.not (w_not rfl rfl c8) rfl rfl ?_
                    refine EvK.not (w_not rfl rfl c8) rfl rfl ?_
                    refine EvK.not (w_not rfl rfl c8) rfl rfl ?_
                    refine EvK.not (w_not rfl rfl c8) rfl rfl ?_
                    refine EvK.not (w_not rfl rfl c8) rfl rfl ?_
                    refine EvK.not (w_not rfl rfl c8) rfl rfl ?_
                    refine EvK.not (w_not rfl rfl c8) rfl rfl ?_
                    refine EvK.not (w_not rfl rfl c8) rfl rfl ?_
                    refine EvK.not (w_not rfl rfl c8) rfl rfl ?_
                    refine EvK.not (w_not rfl rfl c8) rfl rfl ?_
                    refine EvK.pure (v := .bool false) (w_some rfl rfl rfl) rfl rfl (f_pickF rfl rfl c8 rfl) ?_
                    refine EvK.pure (v := .bool false) (w_none rfl) rfl rfl (f_pickF rfl rfl rfl rfl) ?_
                    refine EvK.nil ?_
                    exact KE.mk false ⟨rfl, rfl, rfl, rfl, rfl, rfl, trivial⟩ hF
            · refine WP.cond_false _ rfl c2 ?_
              refine WP.exit ?_
              exact KE.mk () ⟨rfl, rfl, rfl, trivial⟩ hF
        · refine WP.cond_false _ rfl c1 ?_
          refine WP.exit ?_
          exact KE.mk () trivial hF
    · intro k2 hF
      refine WP.seq ?_
      refine WP.region ?_
      refine EvK.pure (v := .int .i64 0) (w_none rfl) rfl rfl (f_assign rfl rfl) ?_
      refine EvK.nil ?_
      refine WP.block ?_
      refine WP.loopF (fun (s8 : Int) => [(6, .int .i64 s8), (0, Sl.val a0), (5, Sl.val x1)]) hF ⟨rfl, rfl, rfl, trivial⟩ ?_
      intro k8 s8 E0 h9 hF
      refine WP.seq ?_
      refine WP.seq ?_
      refine WP.region ?_
      refine EvK.pure (v := .int .i64 s8) (w_none rfl) rfl rfl (f_move rfl rfl) ?_
      refine EvK.pure (v := .bool (decide (s8 < 40))) (w_none rfl) rfl rfl (f_lss rfl rfl rfl) ?_
      refine EvK.nil ?_
      rcases ite_inv hF with ⟨c9, hF⟩ | ⟨c9, hF⟩
      · refine WP.cond_true _ rfl c9 ?_
        refine WP.skip ?_
        refine WP.joinF (fun (s9 : Unit) => [(0, Sl.val a0), (5, Sl.val x1), (6, .int .i64 s8)]) hF ?_ ?_
        · intro s9 E0 h10 hF
          refine WP.region ?_
          refine EvK.pure (v := .int .i64 s8) (w_none rfl) rfl rfl (f_move rfl rfl) ?_
          refine EvK.pure (v := .int .i64 (IntKind.i64.wrap (s8 + 1))) (w_none rfl) rfl rfl (f_add rfl rfl rfl) ?_
          refine EvK.pure (v := .int .i64 (IntKind.i64.wrap (s8 + 1))) (w_none rfl) rfl rfl (f_assign rfl rfl) ?_
          refine EvK.nil ?_
          exact KE.mk (IntKind.i64.wrap (s8 + 1)) ⟨rfl, rfl, rfl, trivial⟩ hF
        · intro k9 hF
          refine WP.block ?_
          refine WP.seq ?_
          refine WP.region ?_
          refine EvK.pure (v := .int .i64 0) (w_none rfl) rfl rfl (f_assign rfl rfl) ?_
          refine EvK.nil ?_
          refine WP.block ?_
          refine WP.loopF (fun (s10 : Int) => [(7, .int .i64 s10), (0, Sl.val a0), (5, Sl.val x1), (6, .int .i64 s8)]) hF ⟨rfl, rfl, rfl, rfl, trivial⟩ ?_
          intro k10 s10 E0 h11 hF
          refine WP.seq ?_
          refine WP.seq ?_
          refine WP.region ?_
          refine EvK.pure (v := .int .i64 s10) (w_none rfl) rfl rfl (f_move rfl rfl) ?_
          refine EvK.pure (v := Sl.val a0) (w_none rfl) rfl rfl (f_move rfl rfl) ?_
          refine EvK.pure (v := .int .i64 (a0.len : Int)) (w_none rfl) rfl rfl (f_lenL (s := a0) Try.underlying68 rfl rfl) ?_
          refine EvK.pure (v := .bool (decide (s10 < (a0.len : Int)))) (w_none rfl) rfl rfl (f_lss rfl rfl rfl) ?_
          refine EvK.nil ?_
          rcases ite_inv hF with ⟨c10, hF⟩ | ⟨c10, hF⟩
          · refine WP.cond_true _ rfl c10 ?_
            refine WP.skip ?_
            refine WP.seq ?_
            refine WP.block ?_
            refine WP.region ?_
            refine EvK.pure (v := Sl.val x1) (w_none rfl) rfl rfl (f_move rfl rfl) ?_
            refine EvK.pure (v := .int .i64 s10) (w_none rfl) rfl rfl (f_move rfl rfl) ?_
            refine EvK.pure (v := Sl.val x1) (w_none rfl) rfl rfl (f_move rfl rfl) ?_
            refine EvK.pure (v := .int .i64 s10) (w_none rfl) rfl rfl (f_move rfl rfl) ?_
            obtain ⟨q10, hq10, hF⟩ := hF
            refine EvK.pure (v := .pointer (some q10)) (w_none rfl) rfl rfl (f_indexAddr (s := x1) Try.underlying68 ty22.size rfl rfl rfl hq10) ?_
            obtain ⟨x11, hx10, hF⟩ := hF
            refine EvK.read (v := Sl.val x11) (w_none rfl) rfl rfl (f_load kL ty22 rfl rfl hx10 rfl) ?_
            refine EvK.pure (v := .int .i64 s10) (w_none rfl) rfl rfl (f_move rfl rfl) ?_
            refine EvK.pure (v := .int .i64 (IntKind.i64.wrap (1000 * s10))) (w_none rfl) rfl rfl (f_mul rfl rfl rfl) ?_
            refine EvK.pure (v := .int .i64 (IntKind.i64.wrap (0 - (IntKind.i64.wrap (1000 * s10))))) (w_none rfl) rfl rfl (f_sub rfl rfl rfl) ?_
            refine EvK.pure (v := .int .i64 s8) (w_none rfl) rfl rfl (f_move rfl rfl) ?_
            refine EvK.pure (v := .int .i64 (IntKind.i64.wrap ((IntKind.i64.wrap (0 - (IntKind.i64.wrap (1000 * s10)))) - s8))) (w_none rfl) rfl rfl (f_sub rfl rfl rfl) ?_
            refine EvK.pure (v := .int .i64 (IntKind.i64.wrap ((IntKind.i64.wrap ((IntKind.i64.wrap (0 - (IntKind.i64.wrap (1000 * s10)))) - s8)) - 1))) (w_none rfl) rfl rfl (f_sub rfl rfl rfl) ?_
            refine EvK.alloc (w_none rfl) rfl rfl (f_buildSliceF Try.underlying22 el3 (by decide) rfl rfl rfl hF) ?_
            rintro _ h12 ⟨x12, rfl, hF⟩
            refine EvK.run (w_none rfl) rfl rfl (f_appendE (s := x11) (x := x12) Try.underlying22 el3 rfl rfl rfl hF) ?_
            rintro _ h13 ⟨x13, rfl, hF⟩
            obtain ⟨q11, hq11, hF⟩ := hF
            refine EvK.pure (v := .pointer (some q11)) (w_none rfl) rfl rfl (f_indexAddr (s := x1) Try.underlying68 ty22.size rfl rfl rfl hq11) ?_
            obtain ⟨h14, hs1, hF⟩ := hF
            refine EvK.runN (w_none rfl) rfl (f_store kL ty22.size (z := x13) rfl rfl rfl hs1) ?_
            rintro _ _ ⟨rfl, rfl⟩
            refine EvK.nil ?_
            refine WP.region ?_
            refine EvK.pure (v := .int .i64 s10) (w_none rfl) rfl rfl (f_move rfl rfl) ?_
            refine EvK.pure (v := .int .i64 (IntKind.i64.wrap (s10 + 1))) (w_none rfl) rfl rfl (f_add rfl rfl rfl) ?_
            refine EvK.pure (v := .int .i64 (IntKind.i64.wrap (s10 + 1))) (w_none rfl) rfl rfl (f_assign rfl rfl) ?_
            refine EvK.nil ?_
            exact KE.mk (IntKind.i64.wrap (s10 + 1)) ⟨rfl, rfl, rfl, rfl, trivial⟩ hF
          · refine WP.cond_false _ rfl c10 ?_
            refine WP.exit ?_
            exact KE.mk () ⟨rfl, rfl, rfl, trivial⟩ hF
      · refine WP.cond_false _ rfl c9 ?_
        refine WP.exit ?_
        exact KE.mk () ⟨rfl, rfl, trivial⟩ hF
  · intro k1 hF
    refine WP.seq ?_
    refine WP.region ?_
    refine EvK.pure (v := .int .i64 0) (w_none rfl) rfl rfl (f_assign rfl rfl) ?_
    refine EvK.nil ?_
    refine WP.block ?_
    refine WP.loopF (fun (s11 : Int) => [(3, .int .i64 s11), (0, Sl.val a0)]) hF ⟨rfl, rfl, trivial⟩ ?_
    intro k11 s11 E0 h15 hF
    refine WP.seq ?_
    refine WP.seq ?_
    refine WP.region ?_
    refine EvK.pure (v := .int .i64 s11) (w_none rfl) rfl rfl (f_move rfl rfl) ?_
    refine EvK.pure (v := Sl.val a0) (w_none rfl) rfl rfl (f_move rfl rfl) ?_
    refine EvK.pure (v := .int .i64 (a0.len : Int)) (w_none rfl) rfl rfl (f_lenL (s := a0) Try.underlying68 rfl rfl) ?_
    refine EvK.pure (v := .bool (decide (s11 < (a0.len : Int)))) (w_none rfl) rfl rfl (f_lss rfl rfl rfl) ?_
    refine EvK.nil ?_
    rcases ite_inv hF with ⟨c11, hF⟩ | ⟨c11, hF⟩
    · refine WP.cond_true _ rfl c11 ?_
      refine WP.skip ?_
      refine WP.joinF (fun (s12 : Unit) => [(0, Sl.val a0), (3, .int .i64 s11)]) hF ?_ ?_
      · intro s12 E0 h16 hF
        refine WP.region ?_
        refine EvK.pure (v := .int .i64 s11) (w_none rfl) rfl rfl (f_move rfl rfl) ?_
        refine EvK.pure (v := .int .i64 (IntKind.i64.wrap (s11 + 1))) (w_none rfl) rfl rfl (f_add rfl rfl rfl) ?_
        refine EvK.pure (v := .int .i64 (IntKind.i64.wrap (s11 + 1))) (w_none rfl) rfl rfl (f_assign rfl rfl) ?_
        refine EvK.nil ?_
        exact KE.mk (IntKind.i64.wrap (s11 + 1)) ⟨rfl, rfl, trivial⟩ hF
      · intro k12 hF
        refine WP.block ?_
        refine WP.seq ?_
        refine WP.region ?_
        refine EvK.pure (v := .int .i64 0) (w_none rfl) rfl rfl (f_assign rfl rfl) ?_
        refine EvK.nil ?_
        refine WP.block ?_
        refine WP.loopF (fun (s13 : Int) => [(4, .int .i64 s13), (0, Sl.val a0), (3, .int .i64 s11)]) hF ⟨rfl, rfl, rfl, trivial⟩ ?_
        intro k13 s13 E0 h17 hF
        refine WP.seq ?_
        refine WP.seq ?_
        refine WP.region ?_
        refine EvK.pure (v := .int .i64 s13) (w_none rfl) rfl rfl (f_move rfl rfl) ?_
        refine EvK.pure (v := Sl.val a0) (w_none rfl) rfl rfl (f_move rfl rfl) ?_
        refine EvK.pure (v := .int .i64 s11) (w_none rfl) rfl rfl (f_move rfl rfl) ?_
        obtain ⟨q12, hq12, hF⟩ := hF
        refine EvK.pure (v := .pointer (some q12)) (w_none rfl) rfl rfl (f_indexAddr (s := a0) Try.underlying68 ty22.size rfl rfl rfl hq12) ?_
        obtain ⟨x14, hx11, hF⟩ := hF
        refine EvK.read (v := Sl.val x14) (w_none rfl) rfl rfl (f_load kL ty22 rfl rfl hx11 rfl) ?_
        refine EvK.pure (v := .int .i64 (x14.len : Int)) (w_none rfl) rfl rfl (f_lenL (s := x14) Try.underlying22 rfl rfl) ?_
        refine EvK.pure (v := .bool (decide (s13 < (x14.len : Int)))) (w_none rfl) rfl rfl (f_lss rfl rfl rfl) ?_
        refine EvK.nil ?_
        rcases ite_inv hF with ⟨c12, hF⟩ | ⟨c12, hF⟩
        · refine WP.cond_true _ rfl c12 ?_
          refine WP.skip ?_
          refine WP.seq ?_
          refine WP.block ?_
          refine WP.region ?_
          refine EvK.pure (v := Sl.val a0) (w_none rfl) rfl rfl (f_move rfl rfl) ?_
          refine EvK.pure (v := .int .i64 s11) (w_none rfl) rfl rfl (f_move rfl rfl) ?_
          obtain ⟨q13, hq13, hF⟩ := hF
          refine EvK.pure (v := .pointer (some q13)) (w_none rfl) rfl rfl (f_indexAddr (s := a0) Try.underlying68 ty22.size rfl rfl rfl hq13) ?_
          obtain ⟨x15, hx12, hF⟩ := hF
          refine EvK.read (v := Sl.val x15) (w_none rfl) rfl rfl (f_load kL ty22 rfl rfl hx12 rfl) ?_
          refine EvK.pure (v := .int .i64 s13) (w_none rfl) rfl rfl (f_move rfl rfl) ?_
          refine EvK.pure (v := .int .i64 s11) (w_none rfl) rfl rfl (f_move rfl rfl) ?_
          refine EvK.pure (v := .int .i64 (IntKind.i64.wrap (1000 * s11))) (w_none rfl) rfl rfl (f_mul rfl rfl rfl) ?_
          refine EvK.pure (v := .int .i64 s13) (w_none rfl) rfl rfl (f_move rfl rfl) ?_
          refine EvK.pure (v := .int .i64 (IntKind.i64.wrap ((IntKind.i64.wrap (1000 * s11)) + s13))) (w_none rfl) rfl rfl (f_add rfl rfl rfl) ?_
          obtain ⟨q14, hq14, hF⟩ := hF
          refine EvK.pure (v := .pointer (some q14)) (w_none rfl) rfl rfl (f_indexAddr (s := x15) Try.underlying22 ty3.size rfl rfl rfl hq14) ?_
          obtain ⟨h18, hs2, hF⟩ := hF
          refine EvK.runN (w_none rfl) rfl (f_store (kI .i64) ty3.size (z := IntKind.i64.wrap ((IntKind.i64.wrap (1000 * s11)) + s13)) rfl rfl rfl hs2) ?_
          rintro _ _ ⟨rfl, rfl⟩
          refine EvK.nil ?_
          refine WP.region ?_
          refine EvK.pure (v := .int .i64 s13) (w_none rfl) rfl rfl (f_move rfl rfl) ?_
          refine EvK.pure (v := .int .i64 (IntKind.i64.wrap (s13 + 1))) (w_none rfl) rfl rfl (f_add rfl rfl rfl) ?_
          refine EvK.pure (v := .int .i64 (IntKind.i64.wrap (s13 + 1))) (w_none rfl) rfl rfl (f_assign rfl rfl) ?_
          refine EvK.nil ?_
          exact KE.mk (IntKind.i64.wrap (s13 + 1)) ⟨rfl, rfl, rfl, trivial⟩ hF
        · refine WP.cond_false _ rfl c12 ?_
          refine WP.exit ?_
          exact KE.mk () ⟨rfl, rfl, trivial⟩ hF
    · refine WP.cond_false _ rfl c11 ?_
      refine WP.exit ?_
      exact KE.mk () ⟨rfl, trivial⟩ hF
end Go.Proofs.Ytgmihbchcmjmdaa
