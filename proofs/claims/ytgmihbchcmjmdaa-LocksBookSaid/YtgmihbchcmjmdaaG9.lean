/- Functions as predicates over the heap, and that the code comes to them. Printed by gen.py, merged by group.py. -/
import Derived.Test.YtgmihbchcmjmdaaTy
namespace Go.Proofs.Ytgmihbchcmjmdaa
open Go Go.Tr
set_option linter.unusedVariables false
set_option maxRecDepth 100000
set_option maxHeartbeats 400000
def spatelaw2_GrownLocks.b2 (p0 : Sl) (p5 : Sl) (p8 : Int) (p9 : Int) (s : Int) (h : H) (K : Int ⊕ (Unit ⊕ Bool) → H → Prop) : Prop :=
  if (decide (s < (IntKind.i64.wrap (p9 + 40)))) = true then
    rd (remI p8 2) fun x3 =>
    al 32 (k31.enc z31) h fun q2 h6 =>
    rd (st k31 q2 (S31.mk (IntKind.i64.wrap ((IntKind.i64.wrap (1000 * p8)) + s)) (x3 == 0)) h6) fun h7 =>
    jn (fun (k5 : Unit → H → Prop) =>
      if (decide (s ≥ p9)) = true then
        rd (st k31 q2 (S31.mk (IntKind.i64.wrap ((IntKind.i64.wrap ((IntKind.i64.wrap (0 - (IntKind.i64.wrap (1000 * p8)))) - (IntKind.i64.wrap (s - p9)))) - 1)) false) h7) fun h10 =>
        k5 () h10
      else
        k5 () h7) fun s5 h8 =>
    jn (fun (k6 : Bool → H → Prop) =>
      rd (ixA 1 p5 p8) fun q3 =>
      rd (ld kL q3 h8) fun x4 =>
      rd (ixA 2 x4 s) fun q4 =>
      rd (ld k31 q4 h8) fun x5 =>
      rd (ld k31 q2 h8) fun x6 =>
      if (!(eq32 x5 x6)) = true then
        k6 true h8
      else
        if (decide (s < p9)) = true then
          rd (ixA 1 p0 p8) fun q5 =>
          rd (ld kL q5 h8) fun x7 =>
          rd (ixA 2 x7 s) fun q6 =>
          rd (ld k31 q6 h8) fun x8 =>
          rd (ld k31 q2 h8) fun x9 =>
          k6 (!(eq32 x8 x9)) h8
        else
          k6 false h8) fun s6 h9 =>
    if s6 = true then
      K (.inr (.inr false)) h9
    else
      K (.inl (IntKind.i64.wrap (s + 1))) h9
  else
    K (.inr (.inl ())) h
def spatelaw2_GrownLocks.b1 (p0 : Sl) (p5 : Sl) (s : Int) (h : H) (K : Int ⊕ (Unit ⊕ Bool) → H → Prop) : Prop :=
  if (decide (s < (p0.len : Int))) = true then
    jn (fun (k4 : Unit → H → Prop) =>
      rd (ixA 1 p0 s) fun q1 =>
      rd (ld kL q1 h) fun x2 =>
      loopE (spatelaw2_GrownLocks.b2 p0 p5 s (x2.len : Int)) 0 h (sumK (fun r1 hh => k4 r1 hh) (fun r2 hh => K (.inr (.inr r2)) hh))) fun s4 h5 =>
    K (.inl (IntKind.i64.wrap (s + 1))) h5
  else
    K (.inr (.inl ())) h
def spatelaw2_GrownLocks.b4 (p0 : Sl) (p5 : Sl) (p6 : Int) (s : Int) (h : H) (K : Int ⊕ Unit → H → Prop) : Prop :=
  if (decide (s < (p0.len : Int))) = true then
    rd (ixA 1 p5 s) fun q7 =>
    rd (ld kL q7 h) fun x10 =>
    bs 32 1 (k31.enc (S31.mk (IntKind.i64.wrap ((IntKind.i64.wrap ((IntKind.i64.wrap (0 - (IntKind.i64.wrap (1000 * s)))) - p6)) - 1)) false)) h fun x11 h14 =>
    ap k31.n 16 32 (k31.enc z31) x10 x11 h14 fun x12 h15 =>
    rd (ixA 1 p5 s) fun q8 =>
    rd (st kL q8 x12 h15) fun h16 =>
    K (.inl (IntKind.i64.wrap (s + 1))) h16
  else
    K (.inr ()) h
def spatelaw2_GrownLocks.b3 (p0 : Sl) (p5 : Sl) (s : Int) (h : H) (K : Int ⊕ Unit → H → Prop) : Prop :=
  if (decide (s < 40)) = true then
    jn (fun (k9 : Unit → H → Prop) =>
      loopE (spatelaw2_GrownLocks.b4 p0 p5 s) 0 h (fun r5 hh => k9 r5 hh)) fun s9 h13 =>
    K (.inl (IntKind.i64.wrap (s + 1))) h13
  else
    K (.inr ()) h
def spatelaw2_GrownLocks.b6 (p0 : Sl) (p3 : Int) (s : Int) (h : H) (K : Int ⊕ Unit → H → Prop) : Prop :=
  rd (ixA 1 p0 p3) fun q9 =>
  rd (ld kL q9 h) fun x13 =>
  if (decide (s < (x13.len : Int))) = true then
    rd (ixA 1 p0 p3) fun q10 =>
    rd (ld kL q10 h) fun x14 =>
    rd (remI p3 2) fun x15 =>
    rd (ixA 2 x14 s) fun q11 =>
    rd (st k31 q11 (S31.mk (IntKind.i64.wrap ((IntKind.i64.wrap (1000 * p3)) + s)) (x15 == 0)) h) fun h20 =>
    K (.inl (IntKind.i64.wrap (s + 1))) h20
  else
    K (.inr ()) h
def spatelaw2_GrownLocks.b5 (p0 : Sl) (s : Int) (h : H) (K : Int ⊕ Unit → H → Prop) : Prop :=
  if (decide (s < (p0.len : Int))) = true then
    jn (fun (k12 : Unit → H → Prop) =>
      loopE (spatelaw2_GrownLocks.b6 p0 s) 0 h (fun r7 hh => k12 r7 hh)) fun s12 h19 =>
    K (.inl (IntKind.i64.wrap (s + 1))) h19
  else
    K (.inr ()) h
/-- spate/spatelaw2.GrownLocks -/
def spatelaw2_GrownLocks (a0 : Sl) (h : H) (Q : Bool → H → Prop) : Prop :=
  jn (fun (k1 : Unit → H → Prop) =>
    loopE (spatelaw2_GrownLocks.b5 a0) 0 h (fun r8 hh => k1 r8 hh)) fun s1 h1 =>
  ap kL.n 24 30 (kL.enc Sl.nil) Sl.nil a0 h1 fun x1 h2 =>
  jn (fun (k2 : Unit → H → Prop) =>
    loopE (spatelaw2_GrownLocks.b3 a0 x1) 0 h2 (fun r6 hh => k2 r6 hh)) fun s2 h3 =>
  jn (fun (k3 : Unit → H → Prop) =>
    loopE (spatelaw2_GrownLocks.b1 a0 x1) 0 h3 (sumK (fun r3 hh => k3 r3 hh) (fun r4 hh => Q r4 hh))) fun s3 h4 =>
  Q true h4
theorem spatelaw2_GrownLocks.sound {a0 : Sl} {h : H} {Q : Bool → H → Prop} (hF : spatelaw2_GrownLocks a0 h Q) :
    CallsH Try.prog 41 (List.toArray (α := Value) [Sl.val a0]) h fun v h' => ∃ x : Bool, v = .bool x ∧ Q x h' := by
  refine CallsH.of_body Try.func41 rfl 132 rfl rfl ?_
  refine WP.seq ?_
  refine WP.region ?_
  refine EvK.pure (v := .bool false) (w_none rfl) rfl rfl (f_assign rfl rfl) ?_
  refine EvK.nil ?_
  refine WP.joinF (fun (s1 : Unit) => [(0, Sl.val a0)]) hF ?_ ?_
  · intro s1 E0 h1 hF
    refine WP.seq ?_
    refine WP.region ?_
    refine EvK.pure (v := Sl.val Sl.nil) (w_none rfl) rfl rfl (f_assign rfl rfl) ?_
    refine EvK.nil ?_
    refine WP.seq ?_
    refine WP.region ?_
    refine EvK.pure (v := Sl.val Sl.nil) (w_none rfl) rfl rfl (f_move rfl rfl) ?_
    refine EvK.pure (v := Sl.val a0) (w_none rfl) rfl rfl (f_move rfl rfl) ?_
    refine EvK.run (w_none rfl) rfl rfl (f_appendE (s := Sl.nil) (x := a0) Try.underlying69 el30 rfl rfl rfl hF) ?_
    rintro _ h2 ⟨x1, rfl, hF⟩
    refine EvK.pure (v := Sl.val x1) (w_none rfl) rfl rfl (f_assign rfl rfl) ?_
    refine EvK.nil ?_
    refine WP.joinF (fun (s2 : Unit) => [(0, Sl.val a0), (5, Sl.val x1)]) hF ?_ ?_
    · intro s2 E0 h3 hF
      refine WP.joinF (fun (s3 : Unit) => []) hF ?_ ?_
      · intro s3 E0 h4 hF
        refine WP.seq ?_
        refine WP.region ?_
        refine EvK.pure (v := .bool true) (w_none rfl) rfl rfl (f_assign rfl rfl) ?_
        refine EvK.nil ?_
        refine WP.ret ?_
        exact Ret.mk (vs := [.bool true]) true ⟨rfl, trivial⟩ rfl hF
      · intro k3 hF
        refine WP.seq ?_
        refine WP.region ?_
        refine EvK.pure (v := .int .i64 0) (w_none rfl) rfl rfl (f_assign rfl rfl) ?_
        refine EvK.nil ?_
        refine WP.block ?_
        refine WP.loopF (fun (s4 : Int) => [(8, .int .i64 s4), (0, Sl.val a0), (5, Sl.val x1)]) hF ⟨rfl, rfl, rfl, trivial⟩ ?_
        intro k4 s4 E0 h5 hF
        refine WP.seq ?_
        refine WP.seq ?_
        refine WP.region ?_
        refine EvK.pure (v := .int .i64 s4) (w_none rfl) rfl rfl (f_move rfl rfl) ?_
        refine EvK.pure (v := Sl.val a0) (w_none rfl) rfl rfl (f_move rfl rfl) ?_
        refine EvK.pure (v := .int .i64 (a0.len : Int)) (w_none rfl) rfl rfl (f_lenL (s := a0) Try.underlying69 rfl rfl) ?_
        refine EvK.pure (v := .bool (decide (s4 < (a0.len : Int)))) (w_none rfl) rfl rfl (f_lss rfl rfl rfl) ?_
        refine EvK.nil ?_
        rcases ite_inv hF with ⟨c1, hF⟩ | ⟨c1, hF⟩
        · refine WP.cond_true _ rfl c1 ?_
          refine WP.skip ?_
          refine WP.joinF (fun (s5 : Unit) => [(0, Sl.val a0), (5, Sl.val x1), (8, .int .i64 s4)]) hF ?_ ?_
          · intro s5 E0 h6 hF
            refine WP.region ?_
            refine EvK.pure (v := .int .i64 s4) (w_none rfl) rfl rfl (f_move rfl rfl) ?_
            refine EvK.pure (v := .int .i64 (IntKind.i64.wrap (s4 + 1))) (w_none rfl) rfl rfl (f_add rfl rfl rfl) ?_
            refine EvK.pure (v := .int .i64 (IntKind.i64.wrap (s4 + 1))) (w_none rfl) rfl rfl (f_assign rfl rfl) ?_
            refine EvK.nil ?_
            exact KE.mk (IntKind.i64.wrap (s4 + 1)) ⟨rfl, rfl, rfl, trivial⟩ hF
          · intro k5 hF
            refine WP.block ?_
            refine WP.seq ?_
            refine WP.region ?_
            refine EvK.pure (v := Sl.val a0) (w_none rfl) rfl rfl (f_move rfl rfl) ?_
            refine EvK.pure (v := .int .i64 s4) (w_none rfl) rfl rfl (f_move rfl rfl) ?_
            obtain ⟨q1, hq1, hF⟩ := hF
            refine EvK.pure (v := .pointer (some q1)) (w_none rfl) rfl rfl (f_indexAddr (s := a0) Try.underlying69 ty30.size rfl rfl rfl hq1) ?_
            obtain ⟨x2, hx1, hF⟩ := hF
            refine EvK.read (v := Sl.val x2) (w_none rfl) rfl rfl (f_load kL ty30 rfl rfl hx1 rfl) ?_
            refine EvK.pure (v := .int .i64 (x2.len : Int)) (w_none rfl) rfl rfl (f_lenL (s := x2) Try.underlying30 rfl rfl) ?_
            refine EvK.pure (v := .int .i64 (x2.len : Int)) (w_none rfl) rfl rfl (f_assign rfl rfl) ?_
            refine EvK.nil ?_
            refine WP.seq ?_
            refine WP.region ?_
            refine EvK.pure (v := .int .i64 0) (w_none rfl) rfl rfl (f_assign rfl rfl) ?_
            refine EvK.nil ?_
            refine WP.block ?_
            refine WP.loopF (fun (s6 : Int) => [(10, .int .i64 s6), (0, Sl.val a0), (5, Sl.val x1), (8, .int .i64 s4), (9, .int .i64 (x2.len : Int))]) hF ⟨rfl, rfl, rfl, rfl, rfl, trivial⟩ ?_
            intro k6 s6 E0 h7 hF
            refine WP.seq ?_
            refine WP.seq ?_
            refine WP.region ?_
            refine EvK.pure (v := .int .i64 s6) (w_none rfl) rfl rfl (f_move rfl rfl) ?_
            refine EvK.pure (v := .int .i64 (x2.len : Int)) (w_none rfl) rfl rfl (f_move rfl rfl) ?_
            refine EvK.pure (v := .int .i64 (IntKind.i64.wrap ((x2.len : Int) + 40))) (w_none rfl) rfl rfl (f_add rfl rfl rfl) ?_
            refine EvK.pure (v := .bool (decide (s6 < (IntKind.i64.wrap ((x2.len : Int) + 40))))) (w_none rfl) rfl rfl (f_lss rfl rfl rfl) ?_
            refine EvK.nil ?_
            rcases ite_inv hF with ⟨c2, hF⟩ | ⟨c2, hF⟩
            · refine WP.cond_true _ rfl c2 ?_
              refine WP.skip ?_
              refine WP.seq ?_
              refine WP.block ?_
              refine WP.seq ?_
              refine WP.region ?_
              refine EvK.pure (v := .int .i64 s4) (w_none rfl) rfl rfl (f_move rfl rfl) ?_
              refine EvK.pure (v := .int .i64 (IntKind.i64.wrap (1000 * s4))) (w_none rfl) rfl rfl (f_mul rfl rfl rfl) ?_
              refine EvK.pure (v := .int .i64 s6) (w_none rfl) rfl rfl (f_move rfl rfl) ?_
              refine EvK.pure (v := .int .i64 (IntKind.i64.wrap ((IntKind.i64.wrap (1000 * s4)) + s6))) (w_none rfl) rfl rfl (f_add rfl rfl rfl) ?_
              refine EvK.pure (v := .int .i64 s4) (w_none rfl) rfl rfl (f_move rfl rfl) ?_
              obtain ⟨x3, hx2, hF⟩ := hF
              refine EvK.pure (v := .int .i64 x3) (w_none rfl) rfl rfl (f_rem rfl rfl rfl hx2) ?_
              refine EvK.pure (v := .bool (x3 == 0)) (w_none rfl) rfl rfl (f_eql rfl rfl rfl) ?_
              refine EvK.pure (v := k31.val (S31.mk (IntKind.i64.wrap ((IntKind.i64.wrap (1000 * s4)) + s6)) (x3 == 0))) (w_none rfl) rfl rfl (f_build (cells := k31.enc (S31.mk (IntKind.i64.wrap ((IntKind.i64.wrap (1000 * s4)) + s6)) (x3 == 0))) st32 rfl rfl rfl) ?_
              refine EvK.alloc (w_none rfl) rfl rfl (f_allocF zero32 rfl rfl hF) ?_
              rintro _ h8 ⟨q2, rfl, hF⟩
              obtain ⟨h9, hs1, hF⟩ := hF
              refine EvK.runN (w_none rfl) rfl (f_store k31 ty32.size (z := (S31.mk (IntKind.i64.wrap ((IntKind.i64.wrap (1000 * s4)) + s6)) (x3 == 0))) rfl rfl rfl hs1) ?_
              rintro _ _ ⟨rfl, rfl⟩
              refine EvK.nil ?_
              refine WP.joinF (fun (s7 : Unit) => [(0, Sl.val a0), (5, Sl.val x1), (8, .int .i64 s4), (9, .int .i64 (x2.len : Int)), (10, .int .i64 s6), (11, .pointer (some q2))]) hF ?_ ?_
              · intro s7 E0 h10 hF
                refine WP.joinF (fun (s8 : Bool) => [(131, .bool s8), (0, Sl.val a0), (5, Sl.val x1), (8, .int .i64 s4), (9, .int .i64 (x2.len : Int)), (10, .int .i64 s6)]) hF ?_ ?_
                · intro s8 E0 h11 hF
                  rcases ite_inv hF with ⟨c3, hF⟩ | ⟨c3, hF⟩
                  · refine WP.cond_true _ rfl c3 ?_
                    refine WP.seq ?_
                    refine WP.region ?_
                    refine EvK.pure (v := .bool false) (w_none rfl) rfl rfl (f_assign rfl rfl) ?_
                    refine EvK.nil ?_
                    refine WP.ret ?_
                    exact Ret.mk (vs := [.bool false]) false ⟨rfl, trivial⟩ rfl hF
                  · refine WP.cond_false _ rfl c3 ?_
                    refine WP.skip ?_
                    refine WP.region ?_
                    refine EvK.pure (v := .int .i64 s6) (w_none rfl) rfl rfl (f_move rfl rfl) ?_
                    refine EvK.pure (v := .int .i64 (IntKind.i64.wrap (s6 + 1))) (w_none rfl) rfl rfl (f_add rfl rfl rfl) ?_
                    refine EvK.pure (v := .int .i64 (IntKind.i64.wrap (s6 + 1))) (w_none rfl) rfl rfl (f_assign rfl rfl) ?_
                    refine EvK.nil ?_
                    exact KE.mk (IntKind.i64.wrap (s6 + 1)) ⟨rfl, rfl, rfl, rfl, rfl, trivial⟩ hF
                · intro k8 hF
                  refine WP.draw mixed [.pure, .pure, .pure, .read, .pure, .pure, .read, .read, .pure, .pure, .pure, .pure, .pure, .pure, .pure, .pure, .pure, .read, .pure, .pure, .read, .read, .pure, .pure, .pure] [[], [], [0, 1], [0, 1, 2], [], [0, 1, 2, 3, 4], [0, 1, 2, 3, 4, 5], [], [0, 1, 2, 3, 4, 5, 6, 7], [0, 1, 2, 3, 4, 5, 6, 7, 8], [0, 1, 2, 3, 4, 5, 6, 7, 8, 9], [0, 1, 2, 3, 4, 5, 6, 7, 8, 9], [0, 1, 2, 3, 4, 5, 6, 7, 8, 9, 10, 11], [0, 1, 2, 3, 4, 5, 6, 7, 8, 9, 10, 11, 12], [0, 1, 2, 3, 4, 5, 6, 7, 8, 9, 10, 11, 12, 13], [0, 1, 2, 3, 4, 5, 6, 7, 8, 9, 10, 11, 12, 13], [0, 1, 2, 3, 4, 5, 6, 7, 8, 9, 10, 11, 12, 13, 14, 15], [0, 1, 2, 3, 4, 5, 6, 7, 8, 9, 10, 11, 12, 13, 14, 15, 16], [0, 1, 2, 3, 4, 5, 6, 7, 8, 9, 10, 11, 12, 13], [0, 1, 2, 3, 4, 5, 6, 7, 8, 9, 10, 11, 12, 13, 14, 15, 16, 17, 18], [0, 1, 2, 3, 4, 5, 6, 7, 8, 9, 10, 11, 12, 13, 14, 15, 16, 17, 18, 19], [0, 1, 2, 3, 4, 5, 6, 7, 8, 9, 10, 11, 12, 13], [0, 1, 2, 3, 4, 5, 6, 7, 8, 9, 10, 11, 12, 13, 14, 15, 16, 17, 18, 19, 20, 21], [0, 1, 2, 3, 4, 5, 6, 7, 8, 9, 10, 11, 12, 13, 14, 15, 16, 17, 18, 19, 20, 21, 22], [0, 1, 2, 3, 4, 5, 6, 7, 8, 9, 10, 11, 12, 13, 14, 15, 16, 17, 18, 19, 20, 21, 22, 23]] [0, 1, 2, 3, 4, 5, 6, 7, 8, 9, 10, 11, 12, 13, 14, 15, 16, 17, 18, 19, 20, 21, 22, 23, 24] (by kernel_rfl) (by kernel_rfl) ?_
                  refine EvI.pure (v := Sl.val x1) rfl rfl (w_none rfl) rfl (f_move rfl rfl) ?_
                  refine EvI.pure (v := .int .i64 s4) rfl rfl (w_none rfl) rfl (f_move rfl rfl) ?_
                  obtain ⟨q3, hq2, hF⟩ := hF
                  refine EvI.pure (v := .pointer (some q3)) rfl rfl (w_none rfl) rfl (f_indexAddr (s := x1) Try.underlying69 ty30.size rfl rfl rfl hq2) ?_
                  obtain ⟨x4, hx3, hF⟩ := hF
                  refine EvI.read (v := Sl.val x4) rfl rfl (w_none rfl) rfl (f_load kL ty30 rfl rfl hx3 rfl) ?_
                  refine EvI.pure (v := .int .i64 s6) rfl rfl (w_none rfl) rfl (f_move rfl rfl) ?_
                  obtain ⟨q4, hq3, hF⟩ := hF
                  refine EvI.pure (v := .pointer (some q4)) rfl rfl (w_none rfl) rfl (f_indexAddr (s := x4) Try.underlying30 ty32.size rfl rfl rfl hq3) ?_
                  obtain ⟨x5, hx4, hF⟩ := hF
                  refine EvI.read (v := k31.val x5) rfl rfl (w_none rfl) rfl (f_load k31 ty32 rfl rfl hx4 rfl) ?_
                  obtain ⟨x6, hx5, hF⟩ := hF
                  refine EvI.read (v := k31.val x6) rfl rfl (w_none rfl) rfl (f_load k31 ty32 rfl rfl hx5 rfl) ?_
                  refine EvI.pure (v := .bool (!(eq32 x5 x6))) rfl rfl (w_none rfl) rfl (f_neqOf rfl rfl rfl (guard32 _ _) rfl (eqIn32 _ _)) ?_
                  refine EvI.pure (v := .bool (!(eq32 x5 x6))) rfl rfl (w_none rfl) rfl (f_move rfl rfl) ?_
                  rcases ite_inv hF with ⟨c4, hF⟩ | ⟨c4, hF⟩
                  · refine EvI.not rfl (w_not rfl rfl c4) rfl ?_
                    refine EvI.not rfl (w_not rfl rfl c4) rfl ?_
                    refine EvI.not rfl (w_not rfl rfl c4) rfl ?_
                    refine EvI.not rfl (w_not rfl rfl c4) rfl ?_
                    refine EvI.not rfl (w_undef rfl rfl) rfl ?_
                    refine EvI.not rfl (w_undef rfl rfl) rfl ?_
                    refine EvI.not rfl (w_undef rfl rfl) rfl ?_
                    refine EvI.not rfl (w_undef rfl rfl) rfl ?_
                    refine EvI.not rfl (w_undef rfl rfl) rfl ?_
                    refine EvI.not rfl (w_undef rfl rfl) rfl ?_
                    refine EvI.not rfl (w_undef rfl rfl) rfl ?_
                    refine EvI.not rfl (w_undef rfl rfl) rfl ?_
                    refine EvI.not rfl (w_undef rfl rfl) rfl ?_
                    refine EvI.not rfl (w_not rfl rfl c4) rfl ?_
                    refine EvI.pure (v := .bool true) rfl rfl (w_none rfl) rfl (f_pickT rfl rfl c4 rfl) ?_
                    refine EvI.nil ?_
                    exact KE.mk true ⟨rfl, rfl, rfl, rfl, rfl, rfl, trivial⟩ hF
                  · refine EvI.pure (v := .int .i64 s6) rfl rfl (w_some rfl rfl c4) rfl (f_move rfl rfl) ?_
                    refine EvI.pure (v := .int .i64 (x2.len : Int)) rfl rfl (w_some rfl rfl c4) rfl (f_move rfl rfl) ?_
                    refine EvI.pure (v := .bool (decide (s6 < (x2.len : Int)))) rfl rfl (w_some rfl rfl c4) rfl (f_lss rfl rfl rfl) ?_
                    refine EvI.pure (v := .bool (decide (s6 < (x2.len : Int)))) rfl rfl (w_some rfl rfl c4) rfl (f_move rfl rfl) ?_
                    rcases ite_inv hF with ⟨c5, hF⟩ | ⟨c5, hF⟩
                    · refine EvI.pure (v := Sl.val a0) rfl rfl (w_some rfl rfl c5) rfl (f_move rfl rfl) ?_
                      refine EvI.pure (v := .int .i64 s4) rfl rfl (w_some rfl rfl c5) rfl (f_move rfl rfl) ?_
                      obtain ⟨q5, hq4, hF⟩ := hF
                      refine EvI.pure (v := .pointer (some q5)) rfl rfl (w_some rfl rfl c5) rfl (f_indexAddr (s := a0) Try.underlying69 ty30.size rfl rfl rfl hq4) ?_
                      obtain ⟨x7, hx6, hF⟩ := hF
                      refine EvI.read (v := Sl.val x7) rfl rfl (w_some rfl rfl c5) rfl (f_load kL ty30 rfl rfl hx6 rfl) ?_
                      refine EvI.pure (v := .int .i64 s6) rfl rfl (w_some rfl rfl c5) rfl (f_move rfl rfl) ?_
                      obtain ⟨q6, hq5, hF⟩ := hF
                      refine EvI.pure (v := .pointer (some q6)) rfl rfl (w_some rfl rfl c5) rfl (f_indexAddr (s := x7) Try.underlying30 ty32.size rfl rfl rfl hq5) ?_
                      obtain ⟨x8, hx7, hF⟩ := hF
                      refine EvI.read (v := k31.val x8) rfl rfl (w_some rfl rfl c5) rfl (f_load k31 ty32 rfl rfl hx7 rfl) ?_
                      obtain ⟨x9, hx8, hF⟩ := hF
                      refine EvI.read (v := k31.val x9) rfl rfl (w_some rfl rfl c5) rfl (f_load k31 ty32 rfl rfl hx8 rfl) ?_
                      refine EvI.pure (v := .bool (!(eq32 x8 x9))) rfl rfl (w_some rfl rfl c5) rfl (f_neqOf rfl rfl rfl (guard32 _ _) rfl (eqIn32 _ _)) ?_
                      refine EvI.pure (v := .bool (!(eq32 x8 x9))) rfl rfl (w_some rfl rfl c4) rfl (f_pickT rfl rfl c5 rfl) ?_
                      refine EvI.pure (v := .bool (!(eq32 x8 x9))) rfl rfl (w_none rfl) rfl (f_pickF rfl rfl c4 rfl) ?_
                      refine EvI.nil ?_
                      exact KE.mk (!(eq32 x8 x9)) ⟨rfl, rfl, rfl, rfl, rfl, rfl, trivial⟩ hF
                    · refine EvI.not rfl (w_not rfl rfl c5) rfl ?_
                      refine EvI.not rfl (w_not rfl rfl c5) rfl ?_
                      refine EvI.not rfl (w_not rfl rfl c5) rfl ?_
                      refine EvI.not rfl (w_not rfl rfl c5) rfl ?_
                      refine EvI.not rfl (w_not rfl rfl c5) rfl ?_
                      refine EvI.not rfl (w_not rfl rfl c5) rfl ?_
                      refine EvI.not rfl (w_not rfl rfl c5) rfl ?_
                      refine EvI.not rfl (w_not rfl rfl c5) rfl ?_
                      refine EvI.not rfl (w_not rfl rfl c5) rfl ?_
                      refine EvI.pure (v := .bool false) rfl rfl (w_some rfl rfl c4) rfl (f_pickF rfl rfl c5 rfl) ?_
                      refine EvI.pure (v := .bool false) rfl rfl (w_none rfl) rfl (f_pickF rfl rfl c4 rfl) ?_
                      refine EvI.nil ?_
                      exact KE.mk false ⟨rfl, rfl, rfl, rfl, rfl, rfl, trivial⟩ hF
              · intro k7 hF
                refine WP.seq ?_
                refine WP.region ?_
                refine EvK.pure (v := .int .i64 s6) (w_none rfl) rfl rfl (f_move rfl rfl) ?_
                refine EvK.pure (v := .int .i64 (x2.len : Int)) (w_none rfl) rfl rfl (f_move rfl rfl) ?_
                refine EvK.pure (v := .bool (decide (s6 ≥ (x2.len : Int)))) (w_none rfl) rfl rfl (f_geq rfl rfl rfl) ?_
                refine EvK.nil ?_
                rcases ite_inv hF with ⟨c6, hF⟩ | ⟨c6, hF⟩
                · refine WP.cond_true _ rfl c6 ?_
                  refine WP.region ?_
                  refine EvK.pure (v := .int .i64 s4) (w_none rfl) rfl rfl (f_move rfl rfl) ?_
                  refine EvK.pure (v := .int .i64 (IntKind.i64.wrap (1000 * s4))) (w_none rfl) rfl rfl (f_mul rfl rfl rfl) ?_
                  refine EvK.pure (v := .int .i64 (IntKind.i64.wrap (0 - (IntKind.i64.wrap (1000 * s4))))) (w_none rfl) rfl rfl (f_sub rfl rfl rfl) ?_
                  refine EvK.pure (v := .int .i64 s6) (w_none rfl) rfl rfl (f_move rfl rfl) ?_
                  refine EvK.pure (v := .int .i64 (x2.len : Int)) (w_none rfl) rfl rfl (f_move rfl rfl) ?_
                  refine EvK.pure (v := .int .i64 (IntKind.i64.wrap (s6 - (x2.len : Int)))) (w_none rfl) rfl rfl (f_sub rfl rfl rfl) ?_
                  refine EvK.pure (v := .int .i64 (IntKind.i64.wrap ((IntKind.i64.wrap (0 - (IntKind.i64.wrap (1000 * s4)))) - (IntKind.i64.wrap (s6 - (x2.len : Int)))))) (w_none rfl) rfl rfl (f_sub rfl rfl rfl) ?_
                  refine EvK.pure (v := .int .i64 (IntKind.i64.wrap ((IntKind.i64.wrap ((IntKind.i64.wrap (0 - (IntKind.i64.wrap (1000 * s4)))) - (IntKind.i64.wrap (s6 - (x2.len : Int))))) - 1))) (w_none rfl) rfl rfl (f_sub rfl rfl rfl) ?_
                  refine EvK.pure (v := k31.val (S31.mk (IntKind.i64.wrap ((IntKind.i64.wrap ((IntKind.i64.wrap (0 - (IntKind.i64.wrap (1000 * s4)))) - (IntKind.i64.wrap (s6 - (x2.len : Int))))) - 1)) false)) (w_none rfl) rfl rfl (f_build (cells := k31.enc (S31.mk (IntKind.i64.wrap ((IntKind.i64.wrap ((IntKind.i64.wrap (0 - (IntKind.i64.wrap (1000 * s4)))) - (IntKind.i64.wrap (s6 - (x2.len : Int))))) - 1)) false)) st32 rfl rfl rfl) ?_
                  obtain ⟨h12, hs2, hF⟩ := hF
                  refine EvK.runN (w_none rfl) rfl (f_store k31 ty32.size (z := (S31.mk (IntKind.i64.wrap ((IntKind.i64.wrap ((IntKind.i64.wrap (0 - (IntKind.i64.wrap (1000 * s4)))) - (IntKind.i64.wrap (s6 - (x2.len : Int))))) - 1)) false)) rfl rfl rfl hs2) ?_
                  rintro _ _ ⟨rfl, rfl⟩
                  refine EvK.nil ?_
                  exact KE.mk () ⟨rfl, rfl, rfl, rfl, rfl, rfl, trivial⟩ hF
                · refine WP.cond_false _ rfl c6 ?_
                  refine WP.skip ?_
                  exact KE.mk () ⟨rfl, rfl, rfl, rfl, rfl, rfl, trivial⟩ hF
            · refine WP.cond_false _ rfl c2 ?_
              refine WP.exit ?_
              exact KE.mk () ⟨rfl, rfl, rfl, trivial⟩ hF
        · refine WP.cond_false _ rfl c1 ?_
          refine WP.exit ?_
          exact KE.mk () trivial hF
    · intro k2 hF
      refine WP.seq ?_
      refine WP.region ?_
      refine EvK.pure (v := .int .i64 0) (w_none rfl) rfl rfl (f_assign rfl rfl) ?_
      refine EvK.nil ?_
      refine WP.block ?_
      refine WP.loopF (fun (s9 : Int) => [(6, .int .i64 s9), (0, Sl.val a0), (5, Sl.val x1)]) hF ⟨rfl, rfl, rfl, trivial⟩ ?_
      intro k9 s9 E0 h13 hF
      refine WP.seq ?_
      refine WP.seq ?_
      refine WP.region ?_
      refine EvK.pure (v := .int .i64 s9) (w_none rfl) rfl rfl (f_move rfl rfl) ?_
      refine EvK.pure (v := .bool (decide (s9 < 40))) (w_none rfl) rfl rfl (f_lss rfl rfl rfl) ?_
      refine EvK.nil ?_
      rcases ite_inv hF with ⟨c7, hF⟩ | ⟨c7, hF⟩
      · refine WP.cond_true _ rfl c7 ?_
        refine WP.skip ?_
        refine WP.joinF (fun (s10 : Unit) => [(0, Sl.val a0), (5, Sl.val x1), (6, .int .i64 s9)]) hF ?_ ?_
        · intro s10 E0 h14 hF
          refine WP.region ?_
          refine EvK.pure (v := .int .i64 s9) (w_none rfl) rfl rfl (f_move rfl rfl) ?_
          refine EvK.pure (v := .int .i64 (IntKind.i64.wrap (s9 + 1))) (w_none rfl) rfl rfl (f_add rfl rfl rfl) ?_
          refine EvK.pure (v := .int .i64 (IntKind.i64.wrap (s9 + 1))) (w_none rfl) rfl rfl (f_assign rfl rfl) ?_
          refine EvK.nil ?_
          exact KE.mk (IntKind.i64.wrap (s9 + 1)) ⟨rfl, rfl, rfl, trivial⟩ hF
        · intro k10 hF
          refine WP.block ?_
          refine WP.seq ?_
          refine WP.region ?_
          refine EvK.pure (v := .int .i64 0) (w_none rfl) rfl rfl (f_assign rfl rfl) ?_
          refine EvK.nil ?_
          refine WP.block ?_
          refine WP.loopF (fun (s11 : Int) => [(7, .int .i64 s11), (0, Sl.val a0), (5, Sl.val x1), (6, .int .i64 s9)]) hF ⟨rfl, rfl, rfl, rfl, trivial⟩ ?_
          intro k11 s11 E0 h15 hF
          refine WP.seq ?_
          refine WP.seq ?_
          refine WP.region ?_
          refine EvK.pure (v := .int .i64 s11) (w_none rfl) rfl rfl (f_move rfl rfl) ?_
          refine EvK.pure (v := Sl.val a0) (w_none rfl) rfl rfl (f_move rfl rfl) ?_
          refine EvK.pure (v := .int .i64 (a0.len : Int)) (w_none rfl) rfl rfl (f_lenL (s := a0) Try.underlying69 rfl rfl) ?_
          refine EvK.pure (v := .bool (decide (s11 < (a0.len : Int)))) (w_none rfl) rfl rfl (f_lss rfl rfl rfl) ?_
          refine EvK.nil ?_
          rcases ite_inv hF with ⟨c8, hF⟩ | ⟨c8, hF⟩
          · refine WP.cond_true _ rfl c8 ?_
            refine WP.skip ?_
            refine WP.seq ?_
            refine WP.block ?_
            refine WP.region ?_
            refine EvK.pure (v := Sl.val x1) (w_none rfl) rfl rfl (f_move rfl rfl) ?_
            refine EvK.pure (v := .int .i64 s11) (w_none rfl) rfl rfl (f_move rfl rfl) ?_
            refine EvK.pure (v := Sl.val x1) (w_none rfl) rfl rfl (f_move rfl rfl) ?_
            refine EvK.pure (v := .int .i64 s11) (w_none rfl) rfl rfl (f_move rfl rfl) ?_
            obtain ⟨q7, hq6, hF⟩ := hF
            refine EvK.pure (v := .pointer (some q7)) (w_none rfl) rfl rfl (f_indexAddr (s := x1) Try.underlying69 ty30.size rfl rfl rfl hq6) ?_
            obtain ⟨x10, hx9, hF⟩ := hF
            refine EvK.read (v := Sl.val x10) (w_none rfl) rfl rfl (f_load kL ty30 rfl rfl hx9 rfl) ?_
            refine EvK.pure (v := .int .i64 s11) (w_none rfl) rfl rfl (f_move rfl rfl) ?_
            refine EvK.pure (v := .int .i64 (IntKind.i64.wrap (1000 * s11))) (w_none rfl) rfl rfl (f_mul rfl rfl rfl) ?_
            refine EvK.pure (v := .int .i64 (IntKind.i64.wrap (0 - (IntKind.i64.wrap (1000 * s11))))) (w_none rfl) rfl rfl (f_sub rfl rfl rfl) ?_
            refine EvK.pure (v := .int .i64 s9) (w_none rfl) rfl rfl (f_move rfl rfl) ?_
            refine EvK.pure (v := .int .i64 (IntKind.i64.wrap ((IntKind.i64.wrap (0 - (IntKind.i64.wrap (1000 * s11)))) - s9))) (w_none rfl) rfl rfl (f_sub rfl rfl rfl) ?_
            refine EvK.pure (v := .int .i64 (IntKind.i64.wrap ((IntKind.i64.wrap ((IntKind.i64.wrap (0 - (IntKind.i64.wrap (1000 * s11)))) - s9)) - 1))) (w_none rfl) rfl rfl (f_sub rfl rfl rfl) ?_
            refine EvK.pure (v := k31.val (S31.mk (IntKind.i64.wrap ((IntKind.i64.wrap ((IntKind.i64.wrap (0 - (IntKind.i64.wrap (1000 * s11)))) - s9)) - 1)) false)) (w_none rfl) rfl rfl (f_build (cells := k31.enc (S31.mk (IntKind.i64.wrap ((IntKind.i64.wrap ((IntKind.i64.wrap (0 - (IntKind.i64.wrap (1000 * s11)))) - s9)) - 1)) false)) st32 rfl rfl rfl) ?_
            refine EvK.alloc (w_none rfl) rfl rfl (f_buildSliceF Try.underlying30 el32 (by decide) rfl rfl rfl hF) ?_
            rintro _ h16 ⟨x11, rfl, hF⟩
            refine EvK.run (w_none rfl) rfl rfl (f_appendE (s := x10) (x := x11) Try.underlying30 el32 rfl rfl rfl hF) ?_
            rintro _ h17 ⟨x12, rfl, hF⟩
            obtain ⟨q8, hq7, hF⟩ := hF
            refine EvK.pure (v := .pointer (some q8)) (w_none rfl) rfl rfl (f_indexAddr (s := x1) Try.underlying69 ty30.size rfl rfl rfl hq7) ?_
            obtain ⟨h18, hs3, hF⟩ := hF
            refine EvK.runN (w_none rfl) rfl (f_store kL ty30.size (z := x12) rfl rfl rfl hs3) ?_
            rintro _ _ ⟨rfl, rfl⟩
            refine EvK.nil ?_
            refine WP.region ?_
            refine EvK.pure (v := .int .i64 s11) (w_none rfl) rfl rfl (f_move rfl rfl) ?_
            refine EvK.pure (v := .int .i64 (IntKind.i64.wrap (s11 + 1))) (w_none rfl) rfl rfl (f_add rfl rfl rfl) ?_
            refine EvK.pure (v := .int .i64 (IntKind.i64.wrap (s11 + 1))) (w_none rfl) rfl rfl (f_assign rfl rfl) ?_
            refine EvK.nil ?_
            exact KE.mk (IntKind.i64.wrap (s11 + 1)) ⟨rfl, rfl, rfl, rfl, trivial⟩ hF
          · refine WP.cond_false _ rfl c8 ?_
            refine WP.exit ?_
            exact KE.mk () ⟨rfl, rfl, rfl, trivial⟩ hF
      · refine WP.cond_false _ rfl c7 ?_
        refine WP.exit ?_
        exact KE.mk () ⟨rfl, rfl, trivial⟩ hF
  · intro k1 hF
    refine WP.seq ?_
    refine WP.region ?_
    refine EvK.pure (v := .int .i64 0) (w_none rfl) rfl rfl (f_assign rfl rfl) ?_
    refine EvK.nil ?_
    refine WP.block ?_
    refine WP.loopF (fun (s12 : Int) => [(3, .int .i64 s12), (0, Sl.val a0)]) hF ⟨rfl, rfl, trivial⟩ ?_
    intro k12 s12 E0 h19 hF
    refine WP.seq ?_
    refine WP.seq ?_
    refine WP.region ?_
    refine EvK.pure (v := .int .i64 s12) (w_none rfl) rfl rfl (f_move rfl rfl) ?_
    refine EvK.pure (v := Sl.val a0) (w_none rfl) rfl rfl (f_move rfl rfl) ?_
    refine EvK.pure (v := .int .i64 (a0.len : Int)) (w_none rfl) rfl rfl (f_lenL (s := a0) Try.underlying69 rfl rfl) ?_
    refine EvK.pure (v := .bool (decide (s12 < (a0.len : Int)))) (w_none rfl) rfl rfl (f_lss rfl rfl rfl) ?_
    refine EvK.nil ?_
    rcases ite_inv hF with ⟨c9, hF⟩ | ⟨c9, hF⟩
    · refine WP.cond_true _ rfl c9 ?_
      refine WP.skip ?_
      refine WP.joinF (fun (s13 : Unit) => [(0, Sl.val a0), (3, .int .i64 s12)]) hF ?_ ?_
      · intro s13 E0 h20 hF
        refine WP.region ?_
        refine EvK.pure (v := .int .i64 s12) (w_none rfl) rfl rfl (f_move rfl rfl) ?_
        refine EvK.pure (v := .int .i64 (IntKind.i64.wrap (s12 + 1))) (w_none rfl) rfl rfl (f_add rfl rfl rfl) ?_
        refine EvK.pure (v := .int .i64 (IntKind.i64.wrap (s12 + 1))) (w_none rfl) rfl rfl (f_assign rfl rfl) ?_
        refine EvK.nil ?_
        exact KE.mk (IntKind.i64.wrap (s12 + 1)) ⟨rfl, rfl, trivial⟩ hF
      · intro k13 hF
        refine WP.block ?_
        refine WP.seq ?_
        refine WP.region ?_
        refine EvK.pure (v := .int .i64 0) (w_none rfl) rfl rfl (f_assign rfl rfl) ?_
        refine EvK.nil ?_
        refine WP.block ?_
        refine WP.loopF (fun (s14 : Int) => [(4, .int .i64 s14), (0, Sl.val a0), (3, .int .i64 s12)]) hF ⟨rfl, rfl, rfl, trivial⟩ ?_
        intro k14 s14 E0 h21 hF
        refine WP.seq ?_
        refine WP.seq ?_
        refine WP.region ?_
        refine EvK.pure (v := .int .i64 s14) (w_none rfl) rfl rfl (f_move rfl rfl) ?_
        refine EvK.pure (v := Sl.val a0) (w_none rfl) rfl rfl (f_move rfl rfl) ?_
        refine EvK.pure (v := .int .i64 s12) (w_none rfl) rfl rfl (f_move rfl rfl) ?_
        obtain ⟨q9, hq8, hF⟩ := hF
        refine EvK.pure (v := .pointer (some q9)) (w_none rfl) rfl rfl (f_indexAddr (s := a0) Try.underlying69 ty30.size rfl rfl rfl hq8) ?_
        obtain ⟨x13, hx10, hF⟩ := hF
        refine EvK.read (v := Sl.val x13) (w_none rfl) rfl rfl (f_load kL ty30 rfl rfl hx10 rfl) ?_
        refine EvK.pure (v := .int .i64 (x13.len : Int)) (w_none rfl) rfl rfl (f_lenL (s := x13) Try.underlying30 rfl rfl) ?_
        refine EvK.pure (v := .bool (decide (s14 < (x13.len : Int)))) (w_none rfl) rfl rfl (f_lss rfl rfl rfl) ?_
        refine EvK.nil ?_
        rcases ite_inv hF with ⟨c10, hF⟩ | ⟨c10, hF⟩
        · refine WP.cond_true _ rfl c10 ?_
          refine WP.skip ?_
          refine WP.seq ?_
          refine WP.block ?_
          refine WP.region ?_
          refine EvK.pure (v := Sl.val a0) (w_none rfl) rfl rfl (f_move rfl rfl) ?_
          refine EvK.pure (v := .int .i64 s12) (w_none rfl) rfl rfl (f_move rfl rfl) ?_
          obtain ⟨q10, hq9, hF⟩ := hF
          refine EvK.pure (v := .pointer (some q10)) (w_none rfl) rfl rfl (f_indexAddr (s := a0) Try.underlying69 ty30.size rfl rfl rfl hq9) ?_
          obtain ⟨x14, hx11, hF⟩ := hF
          refine EvK.read (v := Sl.val x14) (w_none rfl) rfl rfl (f_load kL ty30 rfl rfl hx11 rfl) ?_
          refine EvK.pure (v := .int .i64 s14) (w_none rfl) rfl rfl (f_move rfl rfl) ?_
          refine EvK.pure (v := .int .i64 s12) (w_none rfl) rfl rfl (f_move rfl rfl) ?_
          refine EvK.pure (v := .int .i64 (IntKind.i64.wrap (1000 * s12))) (w_none rfl) rfl rfl (f_mul rfl rfl rfl) ?_
          refine EvK.pure (v := .int .i64 s14) (w_none rfl) rfl rfl (f_move rfl rfl) ?_
          refine EvK.pure (v := .int .i64 (IntKind.i64.wrap ((IntKind.i64.wrap (1000 * s12)) + s14))) (w_none rfl) rfl rfl (f_add rfl rfl rfl) ?_
          refine EvK.pure (v := .int .i64 s12) (w_none rfl) rfl rfl (f_move rfl rfl) ?_
          obtain ⟨x15, hx12, hF⟩ := hF
          refine EvK.pure (v := .int .i64 x15) (w_none rfl) rfl rfl (f_rem rfl rfl rfl hx12) ?_
          refine EvK.pure (v := .bool (x15 == 0)) (w_none rfl) rfl rfl (f_eql rfl rfl rfl) ?_
          refine EvK.pure (v := k31.val (S31.mk (IntKind.i64.wrap ((IntKind.i64.wrap (1000 * s12)) + s14)) (x15 == 0))) (w_none rfl) rfl rfl (f_build (cells := k31.enc (S31.mk (IntKind.i64.wrap ((IntKind.i64.wrap (1000 * s12)) + s14)) (x15 == 0))) st32 rfl rfl rfl) ?_
          obtain ⟨q11, hq10, hF⟩ := hF
          refine EvK.pure (v := .pointer (some q11)) (w_none rfl) rfl rfl (f_indexAddr (s := x14) Try.underlying30 ty32.size rfl rfl rfl hq10) ?_
          obtain ⟨h22, hs4, hF⟩ := hF
          refine EvK.runN (w_none rfl) rfl (f_store k31 ty32.size (z := (S31.mk (IntKind.i64.wrap ((IntKind.i64.wrap (1000 * s12)) + s14)) (x15 == 0))) rfl rfl rfl hs4) ?_
          rintro _ _ ⟨rfl, rfl⟩
          refine EvK.nil ?_
          refine WP.region ?_
          refine EvK.pure (v := .int .i64 s14) (w_none rfl) rfl rfl (f_move rfl rfl) ?_
          refine EvK.pure (v := .int .i64 (IntKind.i64.wrap (s14 + 1))) (w_none rfl) rfl rfl (f_add rfl rfl rfl) ?_
          refine EvK.pure (v := .int .i64 (IntKind.i64.wrap (s14 + 1))) (w_none rfl) rfl rfl (f_assign rfl rfl) ?_
          refine EvK.nil ?_
          exact KE.mk (IntKind.i64.wrap (s14 + 1)) ⟨rfl, rfl, rfl, trivial⟩ hF
        · refine WP.cond_false _ rfl c10 ?_
          refine WP.exit ?_
          exact KE.mk () ⟨rfl, rfl, trivial⟩ hF
    · refine WP.cond_false _ rfl c9 ?_
      refine WP.exit ?_
      exact KE.mk () ⟨rfl, trivial⟩ hF
end Go.Proofs.Ytgmihbchcmjmdaa
