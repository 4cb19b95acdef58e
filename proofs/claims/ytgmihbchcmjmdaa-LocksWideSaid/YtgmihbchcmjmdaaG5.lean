/- Functions as predicates over the heap, and that the code comes to them. Printed by gen.py, merged by group.py. -/
import Derived.Test.YtgmihbchcmjmdaaG0
import Derived.Test.YtgmihbchcmjmdaaG1
import Derived.Test.YtgmihbchcmjmdaaTy
namespace Go.Proofs.Ytgmihbchcmjmdaa
open Go Go.Tr
set_option linter.unusedVariables false
set_option maxRecDepth 100000
set_option maxHeartbeats 400000
def spatelaw11_LocksEnds.b1 (p5 : Option Addr) (p7 : Sl) (s : Int) (h : H) (K : Int ⊕ (Unit ⊕ Bool) → H → Prop) : Prop :=
  if (decide (s < (p7.len : Int))) = true then
    jn (fun (k4 : Bool → H → Prop) =>
      rd (ixA 1 p7 s) fun q1 =>
      rd (ld (kI .i64) q1 h) fun x1 =>
      locks_Manager_Waits p5 x1 h fun r4 h8 =>
      if r4 = true then
        k4 true h8
      else
        rd (ixA 1 p7 s) fun q2 =>
        rd (ld (kI .i64) q2 h8) fun x2 =>
        locks_Manager_Has p5 x2 h8 fun r5 h9 =>
        k4 (decide ((r5.len : Int) > 0)) h9) fun s4 h7 =>
    if s4 = true then
      K (.inr (.inr false)) h7
    else
      K (.inl (IntKind.i64.wrap (s + 1))) h7
  else
    K (.inr (.inl ())) h
def spatelaw11_LocksEnds.b3 (p5 : Option Addr) (p7 : Sl) (p12 : Int) (p13 : Int) (s : Int) (h : H) (K : Int ⊕ (Unit ⊕ Bool) → H → Prop) : Prop :=
  if (decide (s < (p7.len : Int))) = true then
    jn (fun (k7 : Unit → H → Prop) =>
      rd (ixA 1 p7 s) fun q3 =>
      rd (ld (kI .i64) q3 h) fun x3 =>
      locks_Manager_Has p5 x3 h fun r8 h13 =>
      if (decide ((r8.len : Int) > 0)) = true then
        rd (ixA 1 p7 s) fun q4 =>
        rd (ld (kI .i64) q4 h13) fun x4 =>
        locks_Manager_Free p5 x4 h13 fun r9 h14 =>
        if (!r9.2.isNone) = true then
          K (.inr (.inr false)) h14
        else
          k7 () h14
      else
        k7 () h13) fun s7 h12 =>
    K (.inl (IntKind.i64.wrap (s + 1))) h12
  else
    K (.inr (.inl ())) h
def spatelaw11_LocksEnds.b2 (p5 : Option Addr) (p7 : Sl) (p12 : Int) (s : Int) (h : H) (K : Int ⊕ (Unit ⊕ Bool) → H → Prop) : Prop :=
  if (decide (s < p12)) = true then
    jn (fun (k6 : Unit → H → Prop) =>
      loopE (spatelaw11_LocksEnds.b3 p5 p7 p12 s) 0 h (sumK (fun r10 hh => k6 r10 hh) (fun r11 hh => K (.inr (.inr r11)) hh))) fun s6 h11 =>
    K (.inl (IntKind.i64.wrap (s + 1))) h11
  else
    K (.inr (.inl ())) h
def spatelaw11_LocksEnds.b4 (p1 : Sl) (p5 : Option Addr) (s : Sl × Int) (h : H) (K : (Sl × Int) ⊕ Sl → H → Prop) : Prop :=
  jn (fun (k10 : Bool → H → Prop) =>
    if (decide (s.2 < (p1.len : Int))) = true then
      k10 (decide (s.2 < 1500)) h
    else
      k10 false h) fun s10 h17 =>
  if s10 = true then
    jn (fun (k11 : Sl → H → Prop) =>
      rd (ixA 3 p1 s.2) fun q5 =>
      rd (ld k52 q5 h17) fun x5 =>
      al 53 (k52.enc z52) h17 fun q6 h19 =>
      rd (st k52 q6 x5 h19) fun h20 =>
      rd (ld (kI .i64) (q6.add 0) h20) fun x6 =>
      if (x6 == 1) = true then
        rd (ld (kI .i64) (q6.add 1) h20) fun x7 =>
        rd (ld kL (q6.add 2) h20) fun x8 =>
        spatelaw11_set x8 h20 fun r14 h21 =>
        ld (kI .i64) (q6.add 1) h21 = some x7 ∧
        locks_Manager_Ask p5 x7 r14 h21 fun r15 h22 =>
        if r15.2.isNone = true then
          rd (ld (kI .i64) (q6.add 1) h22) fun x9 =>
          bs 3 1 ((kI .i64).enc x9) h22 fun x10 h23 =>
          ap (kI .i64).n 8 3 ((kI .i64).enc 0) s.1 x10 h23 fun x11 h24 =>
          k11 x11 h24
        else
          k11 s.1 h22
      else
        if (x6 == 2) = true then
          rd (ld (kI .i64) (q6.add 1) h20) fun x12 =>
          locks_Manager_Free p5 x12 h20 fun r16 h25 =>
          k11 s.1 h25
        else
          if (x6 == 3) = true then
            rd (ld (kI .i64) (q6.add 1) h20) fun x13 =>
            locks_Manager_Quit p5 x13 h20 fun r17 h26 =>
            k11 s.1 h26
          else
            k11 s.1 h20) fun s11 h18 =>
    K (.inl (s11, IntKind.i64.wrap (s.2 + 1))) h18
  else
    K (.inr s.1) h17
/-- spate/spatelaw11.LocksEnds -/
def spatelaw11_LocksEnds (a0 : Int) (a1 : Sl) (h : H) (Q : Bool → H → Prop) : Prop :=
  spatelaw11_known  h fun r1 h1 =>
  if (!r1) = true then
    Q false h1
  else
    locks_New a0 h1 fun r2 h2 =>
    if (r2.2 != 0) = true then
      Q true h2
    else
      jn (fun (k1 : Sl → H → Prop) =>
        loopE (spatelaw11_LocksEnds.b4 a1 r2.1) (Sl.nil, 0) h2 (fun r18 hh => k1 r18 hh)) fun s1 h3 =>
      jn (fun (k2 : Unit → H → Prop) =>
        loopE (spatelaw11_LocksEnds.b2 r2.1 s1 (IntKind.i64.wrap ((s1.len : Int) + 1))) 0 h3 (sumK (fun r12 hh => k2 r12 hh) (fun r13 hh => Q r13 hh))) fun s2 h4 =>
      jn (fun (k3 : Unit → H → Prop) =>
        loopE (spatelaw11_LocksEnds.b1 r2.1 s1) 0 h4 (sumK (fun r6 hh => k3 r6 hh) (fun r7 hh => Q r7 hh))) fun s3 h5 =>
      locks_Manager_Queue r2.1 h5 fun r3 h6 =>
      Q ((r3.len : Int) == 0) h6
theorem spatelaw11_LocksEnds.sound {a0 : Int} {a1 : Sl} {h : H} {Q : Bool → H → Prop} (hF : spatelaw11_LocksEnds a0 a1 h Q) :
    CallsH Try.prog 6 (List.toArray (α := Value) [.int .i64 a0, Sl.val a1]) h fun v h' => ∃ x : Bool, v = .bool x ∧ Q x h' := by
  refine CallsH.of_body Try.func6 rfl 133 rfl rfl ?_
  refine WP.seq ?_
  refine WP.region ?_
  refine EvK.pure (v := .bool false) (w_none rfl) rfl rfl (f_assign rfl rfl) ?_
  refine EvK.nil ?_
  refine WP.seq ?_
  refine WP.seq ?_
  refine WP.region ?_
  refine EvK.call (w_none rfl) rfl rfl (enterH Try.func10 rfl rfl rfl rfl (spatelaw11_known.sound hF)) ?_
  rintro _ h1 ⟨r1, rfl, hF⟩
  refine EvK.pure (v := .bool (!r1)) (w_none rfl) rfl rfl (f_not rfl rfl) ?_
  refine EvK.nil ?_
  rcases ite_inv hF with ⟨c1, hF⟩ | ⟨c1, hF⟩
  · refine WP.cond_true _ rfl c1 ?_
    refine WP.seq ?_
    refine WP.region ?_
    refine EvK.pure (v := .bool false) (w_none rfl) rfl rfl (f_assign rfl rfl) ?_
    refine EvK.nil ?_
    refine WP.ret ?_
    exact Ret.mk (vs := [.bool false]) false ⟨rfl, trivial⟩ rfl hF
  · refine WP.cond_false _ rfl c1 ?_
    refine WP.skip ?_
    refine WP.seq ?_
    refine WP.region ?_
    refine EvK.pure (v := .int .i64 a0) (w_none rfl) rfl rfl (f_move rfl rfl) ?_
    refine EvK.call (w_none rfl) rfl rfl (enterH Try.func12 rfl rfl rfl rfl (locks_New.sound hF)) ?_
    rintro _ h2 ⟨r2, rfl, hF⟩
    refine EvK.pure (v := .tuple #[.pointer r2.1, .int .i64 r2.2]) (w_none rfl) rfl rfl (f_move rfl rfl) ?_
    refine EvK.pure (v := .pointer r2.1) (w_none rfl) rfl rfl (f_extract (vs := #[.pointer r2.1, .int .i64 r2.2]) rfl rfl rfl) ?_
    refine EvK.pure (v := .int .i64 r2.2) (w_none rfl) rfl rfl (f_extract (vs := #[.pointer r2.1, .int .i64 r2.2]) rfl rfl rfl) ?_
    refine EvK.pure (v := .pointer r2.1) (w_none rfl) rfl rfl (f_assign rfl rfl) ?_
    refine EvK.pure (v := .int .i64 r2.2) (w_none rfl) rfl rfl (f_assign rfl rfl) ?_
    refine EvK.nil ?_
    refine WP.seq ?_
    refine WP.seq ?_
    refine WP.region ?_
    refine EvK.pure (v := .int .i64 r2.2) (w_none rfl) rfl rfl (f_move rfl rfl) ?_
    refine EvK.pure (v := .bool (r2.2 != 0)) (w_none rfl) rfl rfl (f_neq rfl rfl rfl) ?_
    refine EvK.nil ?_
    rcases ite_inv hF with ⟨c2, hF⟩ | ⟨c2, hF⟩
    · refine WP.cond_true _ rfl c2 ?_
      refine WP.seq ?_
      refine WP.region ?_
      refine EvK.pure (v := .bool true) (w_none rfl) rfl rfl (f_assign rfl rfl) ?_
      refine EvK.nil ?_
      refine WP.ret ?_
      exact Ret.mk (vs := [.bool true]) true ⟨rfl, trivial⟩ rfl hF
    · refine WP.cond_false _ rfl c2 ?_
      refine WP.skip ?_
      refine WP.seq ?_
      refine WP.region ?_
      refine EvK.pure (v := Sl.val Sl.nil) (w_none rfl) rfl rfl (f_assign rfl rfl) ?_
      refine EvK.nil ?_
      refine WP.joinF (fun (s1 : Sl) => [(7, Sl.val s1), (5, .pointer r2.1)]) hF ?_ ?_
      · intro s1 E0 h3 hF
        refine WP.seq ?_
        refine WP.region ?_
        refine EvK.pure (v := Sl.val s1) (w_none rfl) rfl rfl (f_move rfl rfl) ?_
        refine EvK.pure (v := .int .i64 (s1.len : Int)) (w_none rfl) rfl rfl (f_lenL (s := s1) Try.underlying22 rfl rfl) ?_
        refine EvK.pure (v := .int .i64 (IntKind.i64.wrap ((s1.len : Int) + 1))) (w_none rfl) rfl rfl (f_add rfl rfl rfl) ?_
        refine EvK.pure (v := .int .i64 (IntKind.i64.wrap ((s1.len : Int) + 1))) (w_none rfl) rfl rfl (f_assign rfl rfl) ?_
        refine EvK.nil ?_
        refine WP.joinF (fun (s2 : Unit) => [(5, .pointer r2.1), (7, Sl.val s1)]) hF ?_ ?_
        · intro s2 E0 h4 hF
          refine WP.joinF (fun (s3 : Unit) => [(5, .pointer r2.1)]) hF ?_ ?_
          · intro s3 E0 h5 hF
            refine WP.seq ?_
            refine WP.region ?_
            refine EvK.pure (v := .pointer r2.1) (w_none rfl) rfl rfl (f_move rfl rfl) ?_
            refine EvK.call (w_none rfl) rfl rfl (enterH Try.func20 rfl rfl rfl rfl (locks_Manager_Queue.sound hF)) ?_
            rintro _ h6 ⟨r3, rfl, hF⟩
            refine EvK.pure (v := .int .i64 (r3.len : Int)) (w_none rfl) rfl rfl (f_lenL (s := r3) Try.underlying22 rfl rfl) ?_
            refine EvK.pure (v := .bool ((r3.len : Int) == 0)) (w_none rfl) rfl rfl (f_eql rfl rfl rfl) ?_
            refine EvK.pure (v := .bool ((r3.len : Int) == 0)) (w_none rfl) rfl rfl (f_assign rfl rfl) ?_
            refine EvK.nil ?_
            refine WP.ret ?_
            exact Ret.mk (vs := [.bool ((r3.len : Int) == 0)]) ((r3.len : Int) == 0) ⟨rfl, trivial⟩ rfl hF
          · intro k3 hF
            refine WP.seq ?_
            refine WP.region ?_
            refine EvK.pure (v := .int .i64 0) (w_none rfl) rfl rfl (f_assign rfl rfl) ?_
            refine EvK.nil ?_
            refine WP.block ?_
            refine WP.loopF (fun (s4 : Int) => [(17, .int .i64 s4), (5, .pointer r2.1), (7, Sl.val s1)]) hF ⟨rfl, rfl, rfl, trivial⟩ ?_
            intro k4 s4 E0 h7 hF
            refine WP.seq ?_
            refine WP.seq ?_
            refine WP.region ?_
            refine EvK.pure (v := .int .i64 s4) (w_none rfl) rfl rfl (f_move rfl rfl) ?_
            refine EvK.pure (v := Sl.val s1) (w_none rfl) rfl rfl (f_move rfl rfl) ?_
            refine EvK.pure (v := .int .i64 (s1.len : Int)) (w_none rfl) rfl rfl (f_lenL (s := s1) Try.underlying22 rfl rfl) ?_
            refine EvK.pure (v := .bool (decide (s4 < (s1.len : Int)))) (w_none rfl) rfl rfl (f_lss rfl rfl rfl) ?_
            refine EvK.nil ?_
            rcases ite_inv hF with ⟨c3, hF⟩ | ⟨c3, hF⟩
            · refine WP.cond_true _ rfl c3 ?_
              refine WP.skip ?_
              refine WP.seq ?_
              refine WP.block ?_
              refine WP.joinF (fun (s5 : Bool) => [(128, .bool s5), (5, .pointer r2.1), (7, Sl.val s1), (17, .int .i64 s4)]) hF ?_ ?_
              · intro s5 E0 h8 hF
                rcases ite_inv hF with ⟨c4, hF⟩ | ⟨c4, hF⟩
                · refine WP.cond_true _ rfl c4 ?_
                  refine WP.seq ?_
                  refine WP.region ?_
                  refine EvK.pure (v := .bool false) (w_none rfl) rfl rfl (f_assign rfl rfl) ?_
                  refine EvK.nil ?_
                  refine WP.ret ?_
                  exact Ret.mk (vs := [.bool false]) false ⟨rfl, trivial⟩ rfl hF
                · refine WP.cond_false _ rfl c4 ?_
                  refine WP.skip ?_
                  refine WP.region ?_
                  refine EvK.pure (v := .int .i64 s4) (w_none rfl) rfl rfl (f_move rfl rfl) ?_
                  refine EvK.pure (v := .int .i64 (IntKind.i64.wrap (s4 + 1))) (w_none rfl) rfl rfl (f_add rfl rfl rfl) ?_
                  refine EvK.pure (v := .int .i64 (IntKind.i64.wrap (s4 + 1))) (w_none rfl) rfl rfl (f_assign rfl rfl) ?_
                  refine EvK.nil ?_
                  exact KE.mk (IntKind.i64.wrap (s4 + 1)) ⟨rfl, rfl, rfl, trivial⟩ hF
              · intro k5 hF
                refine WP.region ?_
                refine EvK.pure (v := .pointer r2.1) (w_none rfl) rfl rfl (f_move rfl rfl) ?_
                refine EvK.pure (v := Sl.val s1) (w_none rfl) rfl rfl (f_move rfl rfl) ?_
                refine EvK.pure (v := .int .i64 s4) (w_none rfl) rfl rfl (f_move rfl rfl) ?_
                obtain ⟨q1, hq1, hF⟩ := hF
                refine EvK.pure (v := .pointer (some q1)) (w_none rfl) rfl rfl (f_indexAddr (s := s1) Try.underlying22 ty3.size rfl rfl rfl hq1) ?_
                obtain ⟨x1, hx1, hF⟩ := hF
                refine EvK.read (v := .int .i64 x1) (w_none rfl) rfl rfl (f_load (kI .i64) ty3 rfl rfl hx1 rfl) ?_
                refine EvK.call (w_none rfl) rfl rfl (enterH Try.func32 rfl rfl rfl rfl (locks_Manager_Waits.sound hF)) ?_
                rintro _ h9 ⟨r4, rfl, hF⟩
                refine EvK.pure (v := .bool r4) (w_none rfl) rfl rfl (f_move rfl rfl) ?_
                rcases ite_inv hF with ⟨c5, hF⟩ | ⟨c5, hF⟩
                · refine EvK.not (w_not rfl rfl c5) rfl rfl ?_
                  refine EvK.not (w_not rfl rfl c5) rfl rfl ?_
                  refine EvK.not (w_not rfl rfl c5) rfl rfl ?_
                  refine EvK.not (w_not rfl rfl c5) rfl rfl ?_
                  refine EvK.not (w_not rfl rfl c5) rfl rfl ?_
                  refine EvK.not (w_not rfl rfl c5) rfl rfl ?_
                  refine EvK.not (w_not rfl rfl c5) rfl rfl ?_
                  refine EvK.not (w_not rfl rfl c5) rfl rfl ?_
                  refine EvK.pure (v := .bool true) (w_none rfl) rfl rfl (f_pickT rfl rfl c5 rfl) ?_
                  refine EvK.nil ?_
                  exact KE.mk true ⟨rfl, rfl, rfl, rfl, trivial⟩ hF
                · refine EvK.pure (v := .pointer r2.1) (w_some rfl rfl c5) rfl rfl (f_move rfl rfl) ?_
                  refine EvK.pure (v := Sl.val s1) (w_some rfl rfl c5) rfl rfl (f_move rfl rfl) ?_
                  refine EvK.pure (v := .int .i64 s4) (w_some rfl rfl c5) rfl rfl (f_move rfl rfl) ?_
                  obtain ⟨q2, hq2, hF⟩ := hF
                  refine EvK.pure (v := .pointer (some q2)) (w_some rfl rfl c5) rfl rfl (f_indexAddr (s := s1) Try.underlying22 ty3.size rfl rfl rfl hq2) ?_
                  obtain ⟨x2, hx2, hF⟩ := hF
                  refine EvK.read (v := .int .i64 x2) (w_some rfl rfl c5) rfl rfl (f_load (kI .i64) ty3 rfl rfl hx2 rfl) ?_
                  refine EvK.call (w_some rfl rfl c5) rfl rfl (enterH Try.func16 rfl rfl rfl rfl (locks_Manager_Has.sound hF)) ?_
                  rintro _ h10 ⟨r5, rfl, hF⟩
                  refine EvK.pure (v := .int .i64 (r5.len : Int)) (w_some rfl rfl c5) rfl rfl (f_lenL (s := r5) Try.underlying30 rfl rfl) ?_
                  refine EvK.pure (v := .bool (decide ((r5.len : Int) > 0))) (w_some rfl rfl c5) rfl rfl (f_gtr rfl rfl rfl) ?_
                  refine EvK.pure (v := .bool (decide ((r5.len : Int) > 0))) (w_none rfl) rfl rfl (f_pickF rfl rfl c5 rfl) ?_
                  refine EvK.nil ?_
                  exact KE.mk (decide ((r5.len : Int) > 0)) ⟨rfl, rfl, rfl, rfl, trivial⟩ hF
            · refine WP.cond_false _ rfl c3 ?_
              refine WP.exit ?_
              exact KE.mk () ⟨rfl, trivial⟩ hF
        · intro k2 hF
          refine WP.seq ?_
          refine WP.region ?_
          refine EvK.pure (v := .int .i64 0) (w_none rfl) rfl rfl (f_assign rfl rfl) ?_
          refine EvK.nil ?_
          refine WP.block ?_
          refine WP.loopF (fun (s6 : Int) => [(13, .int .i64 s6), (5, .pointer r2.1), (7, Sl.val s1), (12, .int .i64 (IntKind.i64.wrap ((s1.len : Int) + 1)))]) hF ⟨rfl, rfl, rfl, rfl, trivial⟩ ?_
          intro k6 s6 E0 h11 hF
          refine WP.seq ?_
          refine WP.seq ?_
          refine WP.region ?_
          refine EvK.pure (v := .int .i64 s6) (w_none rfl) rfl rfl (f_move rfl rfl) ?_
          refine EvK.pure (v := .int .i64 (IntKind.i64.wrap ((s1.len : Int) + 1))) (w_none rfl) rfl rfl (f_move rfl rfl) ?_
          refine EvK.pure (v := .bool (decide (s6 < (IntKind.i64.wrap ((s1.len : Int) + 1))))) (w_none rfl) rfl rfl (f_lss rfl rfl rfl) ?_
          refine EvK.nil ?_
          rcases ite_inv hF with ⟨c6, hF⟩ | ⟨c6, hF⟩
          · refine WP.cond_true _ rfl c6 ?_
            refine WP.skip ?_
            refine WP.joinF (fun (s7 : Unit) => [(5, .pointer r2.1), (7, Sl.val s1), (12, .int .i64 (IntKind.i64.wrap ((s1.len : Int) + 1))), (13, .int .i64 s6)]) hF ?_ ?_
            · intro s7 E0 h12 hF
              refine WP.region ?_
              refine EvK.pure (v := .int .i64 s6) (w_none rfl) rfl rfl (f_move rfl rfl) ?_
              refine EvK.pure (v := .int .i64 (IntKind.i64.wrap (s6 + 1))) (w_none rfl) rfl rfl (f_add rfl rfl rfl) ?_
              refine EvK.pure (v := .int .i64 (IntKind.i64.wrap (s6 + 1))) (w_none rfl) rfl rfl (f_assign rfl rfl) ?_
              refine EvK.nil ?_
              exact KE.mk (IntKind.i64.wrap (s6 + 1)) ⟨rfl, rfl, rfl, rfl, trivial⟩ hF
            · intro k7 hF
              refine WP.block ?_
              refine WP.seq ?_
              refine WP.region ?_
              refine EvK.pure (v := .int .i64 0) (w_none rfl) rfl rfl (f_assign rfl rfl) ?_
              refine EvK.nil ?_
              refine WP.block ?_
              refine WP.loopF (fun (s8 : Int) => [(14, .int .i64 s8), (5, .pointer r2.1), (7, Sl.val s1), (12, .int .i64 (IntKind.i64.wrap ((s1.len : Int) + 1))), (13, .int .i64 s6)]) hF ⟨rfl, rfl, rfl, rfl, rfl, trivial⟩ ?_
              intro k8 s8 E0 h13 hF
              refine WP.seq ?_
              refine WP.seq ?_
              refine WP.region ?_
              refine EvK.pure (v := .int .i64 s8) (w_none rfl) rfl rfl (f_move rfl rfl) ?_
              refine EvK.pure (v := Sl.val s1) (w_none rfl) rfl rfl (f_move rfl rfl) ?_
              refine EvK.pure (v := .int .i64 (s1.len : Int)) (w_none rfl) rfl rfl (f_lenL (s := s1) Try.underlying22 rfl rfl) ?_
              refine EvK.pure (v := .bool (decide (s8 < (s1.len : Int)))) (w_none rfl) rfl rfl (f_lss rfl rfl rfl) ?_
              refine EvK.nil ?_
              rcases ite_inv hF with ⟨c7, hF⟩ | ⟨c7, hF⟩
              · refine WP.cond_true _ rfl c7 ?_
                refine WP.skip ?_
                refine WP.joinF (fun (s9 : Unit) => [(5, .pointer r2.1), (7, Sl.val s1), (12, .int .i64 (IntKind.i64.wrap ((s1.len : Int) + 1))), (13, .int .i64 s6), (14, .int .i64 s8)]) hF ?_ ?_
                · intro s9 E0 h14 hF
                  refine WP.region ?_
                  refine EvK.pure (v := .int .i64 s8) (w_none rfl) rfl rfl (f_move rfl rfl) ?_
                  refine EvK.pure (v := .int .i64 (IntKind.i64.wrap (s8 + 1))) (w_none rfl) rfl rfl (f_add rfl rfl rfl) ?_
                  refine EvK.pure (v := .int .i64 (IntKind.i64.wrap (s8 + 1))) (w_none rfl) rfl rfl (f_assign rfl rfl) ?_
                  refine EvK.nil ?_
                  exact KE.mk (IntKind.i64.wrap (s8 + 1)) ⟨rfl, rfl, rfl, rfl, rfl, trivial⟩ hF
                · intro k9 hF
                  refine WP.block ?_
                  refine WP.seq ?_
                  refine WP.region ?_
                  refine EvK.pure (v := .pointer r2.1) (w_none rfl) rfl rfl (f_move rfl rfl) ?_
                  refine EvK.pure (v := Sl.val s1) (w_none rfl) rfl rfl (f_move rfl rfl) ?_
                  refine EvK.pure (v := .int .i64 s8) (w_none rfl) rfl rfl (f_move rfl rfl) ?_
                  obtain ⟨q3, hq3, hF⟩ := hF
                  refine EvK.pure (v := .pointer (some q3)) (w_none rfl) rfl rfl (f_indexAddr (s := s1) Try.underlying22 ty3.size rfl rfl rfl hq3) ?_
                  obtain ⟨x3, hx3, hF⟩ := hF
                  refine EvK.read (v := .int .i64 x3) (w_none rfl) rfl rfl (f_load (kI .i64) ty3 rfl rfl hx3 rfl) ?_
                  refine EvK.call (w_none rfl) rfl rfl (enterH Try.func16 rfl rfl rfl rfl (locks_Manager_Has.sound hF)) ?_
                  rintro _ h15 ⟨r8, rfl, hF⟩
                  refine EvK.pure (v := .int .i64 (r8.len : Int)) (w_none rfl) rfl rfl (f_lenL (s := r8) Try.underlying30 rfl rfl) ?_
                  refine EvK.pure (v := .bool (decide ((r8.len : Int) > 0))) (w_none rfl) rfl rfl (f_gtr rfl rfl rfl) ?_
                  refine EvK.nil ?_
                  rcases ite_inv hF with ⟨c8, hF⟩ | ⟨c8, hF⟩
                  · refine WP.cond_true _ rfl c8 ?_
                    refine WP.seq ?_
                    refine WP.region ?_
                    refine EvK.pure (v := .pointer r2.1) (w_none rfl) rfl rfl (f_move rfl rfl) ?_
                    refine EvK.pure (v := Sl.val s1) (w_none rfl) rfl rfl (f_move rfl rfl) ?_
                    refine EvK.pure (v := .int .i64 s8) (w_none rfl) rfl rfl (f_move rfl rfl) ?_
                    obtain ⟨q4, hq4, hF⟩ := hF
                    refine EvK.pure (v := .pointer (some q4)) (w_none rfl) rfl rfl (f_indexAddr (s := s1) Try.underlying22 ty3.size rfl rfl rfl hq4) ?_
                    obtain ⟨x4, hx4, hF⟩ := hF
                    refine EvK.read (v := .int .i64 x4) (w_none rfl) rfl rfl (f_load (kI .i64) ty3 rfl rfl hx4 rfl) ?_
                    refine EvK.call (w_none rfl) rfl rfl (enterH Try.func17 rfl rfl rfl rfl (locks_Manager_Free.sound hF)) ?_
                    rintro _ h16 ⟨r9, rfl, hF⟩
                    refine EvK.pure (v := .tuple #[Sl.val r9.1, IF.val r9.2]) (w_none rfl) rfl rfl (f_move rfl rfl) ?_
                    refine EvK.pure (v := Sl.val r9.1) (w_none rfl) rfl rfl (f_extract (vs := #[Sl.val r9.1, IF.val r9.2]) rfl rfl rfl) ?_
                    refine EvK.pure (v := IF.val r9.2) (w_none rfl) rfl rfl (f_extract (vs := #[Sl.val r9.1, IF.val r9.2]) rfl rfl rfl) ?_
                    refine EvK.pure (v := Sl.val r9.1) (w_none rfl) rfl rfl (f_assign rfl rfl) ?_
                    refine EvK.pure (v := IF.val r9.2) (w_none rfl) rfl rfl (f_assign rfl rfl) ?_
                    refine EvK.nil ?_
                    refine WP.seq ?_
                    refine WP.region ?_
                    refine EvK.pure (v := IF.val r9.2) (w_none rfl) rfl rfl (f_move rfl rfl) ?_
                    refine EvK.pure (v := .bool (!r9.2.isNone)) (w_none rfl) rfl rfl (f_ineqn (a := r9.2) Try.underlying37 rfl rfl) ?_
                    refine EvK.nil ?_
                    rcases ite_inv hF with ⟨c9, hF⟩ | ⟨c9, hF⟩
                    · refine WP.cond_true _ rfl c9 ?_
                      refine WP.seq ?_
                      refine WP.region ?_
                      refine EvK.pure (v := .bool false) (w_none rfl) rfl rfl (f_assign rfl rfl) ?_
                      refine EvK.nil ?_
                      refine WP.ret ?_
                      exact Ret.mk (vs := [.bool false]) false ⟨rfl, trivial⟩ rfl hF
                    · refine WP.cond_false _ rfl c9 ?_
                      refine WP.skip ?_
                      exact KE.mk () ⟨rfl, rfl, rfl, rfl, rfl, trivial⟩ hF
                  · refine WP.cond_false _ rfl c8 ?_
                    refine WP.skip ?_
                    exact KE.mk () ⟨rfl, rfl, rfl, rfl, rfl, trivial⟩ hF
              · refine WP.cond_false _ rfl c7 ?_
                refine WP.exit ?_
                exact KE.mk () ⟨rfl, rfl, rfl, rfl, trivial⟩ hF
          · refine WP.cond_false _ rfl c6 ?_
            refine WP.exit ?_
            exact KE.mk () ⟨rfl, rfl, trivial⟩ hF
      · intro k1 hF
        refine WP.seq ?_
        refine WP.region ?_
        refine EvK.pure (v := .int .i64 0) (w_none rfl) rfl rfl (f_assign rfl rfl) ?_
        refine EvK.nil ?_
        refine WP.block ?_
        refine WP.loopF (fun (s10 : Sl × Int) => [(7, Sl.val s10.1), (8, .int .i64 s10.2), (1, Sl.val a1), (5, .pointer r2.1)]) hF ⟨rfl, rfl, rfl, rfl, trivial⟩ ?_
        intro k10 s10 E0 h17 hF
        refine WP.seq ?_
        refine WP.joinF (fun (s11 : Bool) => [(34, .bool s11), (1, Sl.val a1), (5, .pointer r2.1), (7, Sl.val s10.1), (8, .int .i64 s10.2)]) hF ?_ ?_
        · intro s11 E0 h18 hF
          rcases ite_inv hF with ⟨c10, hF⟩ | ⟨c10, hF⟩
          · refine WP.cond_true _ rfl c10 ?_
            refine WP.skip ?_
            refine WP.joinF (fun (s12 : Sl) => [(7, Sl.val s12), (1, Sl.val a1), (5, .pointer r2.1), (8, .int .i64 s10.2)]) hF ?_ ?_
            · intro s12 E0 h19 hF
              refine WP.region ?_
              refine EvK.pure (v := .int .i64 s10.2) (w_none rfl) rfl rfl (f_move rfl rfl) ?_
              refine EvK.pure (v := .int .i64 (IntKind.i64.wrap (s10.2 + 1))) (w_none rfl) rfl rfl (f_add rfl rfl rfl) ?_
              refine EvK.pure (v := .int .i64 (IntKind.i64.wrap (s10.2 + 1))) (w_none rfl) rfl rfl (f_assign rfl rfl) ?_
              refine EvK.nil ?_
              exact KE.mk (s12, IntKind.i64.wrap (s10.2 + 1)) ⟨rfl, rfl, rfl, rfl, trivial⟩ hF
            · intro k12 hF
              refine WP.block ?_
              refine WP.seq ?_
              refine WP.region ?_
              refine EvK.pure (v := Sl.val a1) (w_none rfl) rfl rfl (f_move rfl rfl) ?_
              refine EvK.pure (v := .int .i64 s10.2) (w_none rfl) rfl rfl (f_move rfl rfl) ?_
              obtain ⟨q5, hq5, hF⟩ := hF
              refine EvK.pure (v := .pointer (some q5)) (w_none rfl) rfl rfl (f_indexAddr (s := a1) Try.underlying47 ty53.size rfl rfl rfl hq5) ?_
              obtain ⟨x5, hx5, hF⟩ := hF
              refine EvK.read (v := k52.val x5) (w_none rfl) rfl rfl (f_load k52 ty53 rfl rfl hx5 rfl) ?_
              refine EvK.alloc (w_none rfl) rfl rfl (f_allocF zero53 rfl rfl hF) ?_
              rintro _ h20 ⟨q6, rfl, hF⟩
              obtain ⟨h21, hs1, hF⟩ := hF
              refine EvK.runN (w_none rfl) rfl (f_store k52 ty53.size (z := x5) rfl rfl rfl hs1) ?_
              rintro _ _ ⟨rfl, rfl⟩
              refine EvK.nil ?_
              refine WP.seq ?_
              refine WP.region ?_
              refine EvK.pure (v := .pointer (some (q6.add 0))) (w_none rfl) rfl rfl (f_fieldAddr fd53_0 rfl rfl) ?_
              obtain ⟨x6, hx6, hF⟩ := hF
              refine EvK.read (v := .int .i64 x6) (w_none rfl) rfl rfl (f_load (kI .i64) ty3 rfl rfl hx6 rfl) ?_
              refine EvK.nil ?_
              refine WP.block ?_
              refine WP.seq ?_
              refine WP.region ?_
              refine EvK.pure (v := .bool (x6 == 1)) (w_none rfl) rfl rfl (f_eql rfl rfl rfl) ?_
              refine EvK.pure (v := .bool (x6 == 1)) (w_none rfl) rfl rfl (f_assign rfl rfl) ?_
              refine EvK.nil ?_
              rcases ite_inv hF with ⟨c11, hF⟩ | ⟨c11, hF⟩
              · refine WP.cond_true _ rfl c11 ?_
                refine WP.seq ?_
                refine WP.draw mixed [.pure, .pure, .read, .pure, .read, .eff [2], .eff [], .pure, .pure, .pure, .pure, .pure] [[], [], [1], [], [3], [3, 4], [0, 1, 2, 3, 4, 5], [0, 1, 2, 3, 4, 5, 6], [0, 1, 2, 3, 4, 5, 6, 7], [0, 1, 2, 3, 4, 5, 6, 7], [0, 1, 2, 3, 4, 5, 6, 7, 8], [0, 1, 2, 3, 4, 5, 6, 7, 8, 9, 10]] [0, 1, 2, 3, 4, 5, 6, 7, 8, 9, 10, 11] (by kernel_rfl) (by kernel_rfl) ?_
                refine EvI.pure (v := .pointer r2.1) rfl rfl (w_none rfl) rfl (f_move rfl rfl) ?_
                refine EvI.pure (v := .pointer (some (q6.add 1))) rfl rfl (w_none rfl) rfl (f_fieldAddr fd53_1 rfl rfl) ?_
                obtain ⟨x7, hx7, hF⟩ := hF
                refine EvI.read (v := .int .i64 x7) rfl rfl (w_none rfl) rfl (f_load (kI .i64) ty3 rfl rfl hx7 rfl) ?_
                refine EvI.pure (v := .pointer (some (q6.add 2))) rfl rfl (w_none rfl) rfl (f_fieldAddr fd53_2 rfl rfl) ?_
                obtain ⟨x8, hx8, hF⟩ := hF
                refine EvI.read (v := Sl.val x8) rfl rfl (w_none rfl) rfl (f_load kL ty30 rfl rfl hx8 rfl) ?_
                refine EvI.call rfl rfl (w_none rfl) rfl (enterH Try.func25 rfl rfl rfl rfl (spatelaw11_set.sound hF)) ?_
                rintro _ h22 ⟨r14, rfl, hF⟩
                obtain ⟨hy1, hF⟩ := hF
                refine ⟨⟨chk_no rfl, chk_yes rfl (f_load (kI .i64) ty3 rfl rfl hy1 rfl), trivial⟩, ?_⟩
                refine EvI.call rfl rfl (w_none rfl) rfl (enterH Try.func14 rfl rfl rfl rfl (locks_Manager_Ask.sound hF)) ?_
                rintro _ h23 ⟨r15, rfl, hF⟩
                refine ⟨⟨chk_no rfl, chk_no rfl, trivial⟩, ?_⟩
                refine EvI.pure (v := .tuple #[.bool r15.1, IF.val r15.2]) rfl rfl (w_none rfl) rfl (f_move rfl rfl) ?_
                refine EvI.pure (v := .bool r15.1) rfl rfl (w_none rfl) rfl (f_extract (vs := #[.bool r15.1, IF.val r15.2]) rfl rfl rfl) ?_
                refine EvI.pure (v := IF.val r15.2) rfl rfl (w_none rfl) rfl (f_extract (vs := #[.bool r15.1, IF.val r15.2]) rfl rfl rfl) ?_
                refine EvI.pure (v := .bool r15.1) rfl rfl (w_none rfl) rfl (f_assign rfl rfl) ?_
                refine EvI.pure (v := IF.val r15.2) rfl rfl (w_none rfl) rfl (f_assign rfl rfl) ?_
                refine EvI.nil ?_
                refine WP.seq ?_
                refine WP.region ?_
                refine EvK.pure (v := IF.val r15.2) (w_none rfl) rfl rfl (f_move rfl rfl) ?_
                refine EvK.pure (v := .bool r15.2.isNone) (w_none rfl) rfl rfl (f_ieqln (a := r15.2) Try.underlying37 rfl rfl) ?_
                refine EvK.nil ?_
                rcases ite_inv hF with ⟨c12, hF⟩ | ⟨c12, hF⟩
                · refine WP.cond_true _ rfl c12 ?_
                  refine WP.region ?_
                  refine EvK.pure (v := Sl.val s10.1) (w_none rfl) rfl rfl (f_move rfl rfl) ?_
                  refine EvK.pure (v := .pointer (some (q6.add 1))) (w_none rfl) rfl rfl (f_fieldAddr fd53_1 rfl rfl) ?_
                  obtain ⟨x9, hx9, hF⟩ := hF
                  refine EvK.read (v := .int .i64 x9) (w_none rfl) rfl rfl (f_load (kI .i64) ty3 rfl rfl hx9 rfl) ?_
                  refine EvK.alloc (w_none rfl) rfl rfl (f_buildSliceF Try.underlying22 el3 (by decide) rfl rfl rfl hF) ?_
                  rintro _ h24 ⟨x10, rfl, hF⟩
                  refine EvK.run (w_none rfl) rfl rfl (f_appendE (s := s10.1) (x := x10) Try.underlying22 el3 rfl rfl rfl hF) ?_
                  rintro _ h25 ⟨x11, rfl, hF⟩
                  refine EvK.pure (v := Sl.val x11) (w_none rfl) rfl rfl (f_assign rfl rfl) ?_
                  refine EvK.nil ?_
                  exact KE.mk x11 ⟨rfl, rfl, rfl, rfl, trivial⟩ hF
                · refine WP.cond_false _ rfl c12 ?_
                  refine WP.skip ?_
                  exact KE.mk s10.1 ⟨rfl, rfl, rfl, rfl, trivial⟩ hF
              · refine WP.cond_false _ rfl c11 ?_
                refine WP.seq ?_
                refine WP.region ?_
                refine EvK.pure (v := .bool (x6 == 2)) (w_none rfl) rfl rfl (f_eql rfl rfl rfl) ?_
                refine EvK.pure (v := .bool (x6 == 2)) (w_none rfl) rfl rfl (f_assign rfl rfl) ?_
                refine EvK.nil ?_
                rcases ite_inv hF with ⟨c13, hF⟩ | ⟨c13, hF⟩
                · refine WP.cond_true _ rfl c13 ?_
                  refine WP.region ?_
                  refine EvK.pure (v := .pointer r2.1) (w_none rfl) rfl rfl (f_move rfl rfl) ?_
                  refine EvK.pure (v := .pointer (some (q6.add 1))) (w_none rfl) rfl rfl (f_fieldAddr fd53_1 rfl rfl) ?_
                  obtain ⟨x12, hx10, hF⟩ := hF
                  refine EvK.read (v := .int .i64 x12) (w_none rfl) rfl rfl (f_load (kI .i64) ty3 rfl rfl hx10 rfl) ?_
                  refine EvK.call (w_none rfl) rfl rfl (enterH Try.func17 rfl rfl rfl rfl (locks_Manager_Free.sound hF)) ?_
                  rintro _ h26 ⟨r16, rfl, hF⟩
                  refine EvK.nil ?_
                  exact KE.mk s10.1 ⟨rfl, rfl, rfl, rfl, trivial⟩ hF
                · refine WP.cond_false _ rfl c13 ?_
                  refine WP.seq ?_
                  refine WP.region ?_
                  refine EvK.pure (v := .bool (x6 == 3)) (w_none rfl) rfl rfl (f_eql rfl rfl rfl) ?_
                  refine EvK.pure (v := .bool (x6 == 3)) (w_none rfl) rfl rfl (f_assign rfl rfl) ?_
                  refine EvK.nil ?_
                  rcases ite_inv hF with ⟨c14, hF⟩ | ⟨c14, hF⟩
                  · refine WP.cond_true _ rfl c14 ?_
                    refine WP.region ?_
                    refine EvK.pure (v := .pointer r2.1) (w_none rfl) rfl rfl (f_move rfl rfl) ?_
                    refine EvK.pure (v := .pointer (some (q6.add 1))) (w_none rfl) rfl rfl (f_fieldAddr fd53_1 rfl rfl) ?_
                    obtain ⟨x13, hx11, hF⟩ := hF
                    refine EvK.read (v := .int .i64 x13) (w_none rfl) rfl rfl (f_load (kI .i64) ty3 rfl rfl hx11 rfl) ?_
                    refine EvK.call (w_none rfl) rfl rfl (enterH Try.func28 rfl rfl rfl rfl (locks_Manager_Quit.sound hF)) ?_
                    rintro _ h27 ⟨r17, rfl, hF⟩
                    refine EvK.nil ?_
                    exact KE.mk s10.1 ⟨rfl, rfl, rfl, rfl, trivial⟩ hF
                  · refine WP.cond_false _ rfl c14 ?_
                    refine WP.skip ?_
                    exact KE.mk s10.1 ⟨rfl, rfl, rfl, rfl, trivial⟩ hF
          · refine WP.cond_false _ rfl c10 ?_
            refine WP.exit ?_
            exact KE.mk s10.1 ⟨rfl, rfl, trivial⟩ hF
        · intro k11 hF
          refine WP.region ?_
          refine EvK.pure (v := .int .i64 s10.2) (w_none rfl) rfl rfl (f_move rfl rfl) ?_
          refine EvK.pure (v := Sl.val a1) (w_none rfl) rfl rfl (f_move rfl rfl) ?_
          refine EvK.pure (v := .int .i64 (a1.len : Int)) (w_none rfl) rfl rfl (f_lenL (s := a1) Try.underlying47 rfl rfl) ?_
          refine EvK.pure (v := .bool (decide (s10.2 < (a1.len : Int)))) (w_none rfl) rfl rfl (f_lss rfl rfl rfl) ?_
          refine EvK.pure (v := .bool (decide (s10.2 < (a1.len : Int)))) (w_none rfl) rfl rfl (f_move rfl rfl) ?_
          rcases ite_inv hF with ⟨c15, hF⟩ | ⟨c15, hF⟩
          · refine EvK.pure (v := .int .i64 s10.2) (w_some rfl rfl c15) rfl rfl (f_move rfl rfl) ?_
            refine EvK.pure (v := .bool (decide (s10.2 < 1500))) (w_some rfl rfl c15) rfl rfl (f_lss rfl rfl rfl) ?_
            refine EvK.pure (v := .bool (decide (s10.2 < 1500))) (w_none rfl) rfl rfl (f_pickT rfl rfl c15 rfl) ?_
            refine EvK.nil ?_
            exact KE.mk (decide (s10.2 < 1500)) ⟨rfl, rfl, rfl, rfl, rfl, trivial⟩ hF
          · refine EvK.not (w_not rfl rfl c15) rfl rfl ?_
            refine EvK.not (w_not rfl rfl c15) rfl rfl ?_
            refine EvK.pure (v := .bool false) (w_none rfl) rfl rfl (f_pickF rfl rfl c15 rfl) ?_
            refine EvK.nil ?_
            exact KE.mk false ⟨rfl, rfl, rfl, rfl, rfl, trivial⟩ hF
end Go.Proofs.Ytgmihbchcmjmdaa
