/- Functions as predicates over the heap, and that the code comes to them. Printed by gen.py, merged by group.py. -/
import Derived.Test.YtgmihbchcmjmdaaG0
import Derived.Test.YtgmihbchcmjmdaaG1
import Derived.Test.YtgmihbchcmjmdaaG2
import Derived.Test.YtgmihbchcmjmdaaG3
import Derived.Test.YtgmihbchcmjmdaaG4
import Derived.Test.YtgmihbchcmjmdaaTy
namespace Go.Proofs.Ytgmihbchcmjmdaa
open Go Go.Tr
set_option linter.unusedVariables false
set_option maxRecDepth 100000
set_option maxHeartbeats 400000
def spatelaw11_LocksEnds.b1 (p5 : Option Addr) (p7 : Sl) (s : Int) (h : H) (K : Int ⊕ (Unit ⊕ Bool) → H → Prop) : Prop :=
  if (decide (s < (p7.len : Int))) = true then
    jn (fun (k4 : Bool → H → Prop) =>
      rd (ixA 1 p7 s) fun q1 =>
      rd (ld (kI .i64) q1 h) fun x1 =>
      locks_Manager_Waits p5 x1 h fun r4 h8 =>
      if r4 = true then
        k4 true h8
      else
        rd (ixA 1 p7 s) fun q2 =>
        rd (ld (kI .i64) q2 h8) fun x2 =>
        locks_Manager_Has p5 x2 h8 fun r5 h9 =>
        k4 (decide ((r5.len : Int) > 0)) h9) fun s4 h7 =>
    if s4 = true then
      K (.inr (.inr false)) h7
    else
      K (.inl (IntKind.i64.wrap (s + 1))) h7
  else
    K (.inr (.inl ())) h
def spatelaw11_LocksEnds.b3 (p5 : Option Addr) (p7 : Sl) (p12 : Int) (p13 : Int) (s : Int) (h : H) (K : Int ⊕ (Unit ⊕ Bool) → H → Prop) : Prop :=
  if (decide (s < (p7.len : Int))) = true then
    jn (fun (k7 : Unit → H → Prop) =>
      rd (ixA 1 p7 s) fun q3 =>
      rd (ld (kI .i64) q3 h) fun x3 =>
      locks_Manager_Has p5 x3 h fun r8 h13 =>
      if (decide ((r8.len : Int) > 0)) = true then
        rd (ixA 1 p7 s) fun q4 =>
        rd (ld (kI .i64) q4 h13) fun x4 =>
        locks_Manager_Free p5 x4 h13 fun r9 h14 =>
        if (!r9.2.isNone) = true then
          K (.inr (.inr false)) h14
        else
          k7 () h14
      else
        k7 () h13) fun s7 h12 =>
    K (.inl (IntKind.i64.wrap (s + 1))) h12
  else
    K (.inr (.inl ())) h
def spatelaw11_LocksEnds.b2 (p5 : Option Addr) (p7 : Sl) (p12 : Int) (s : Int) (h : H) (K : Int ⊕ (Unit ⊕ Bool) → H → Prop) : Prop :=
  if (decide (s < p12)) = true then
    jn (fun (k6 : Unit → H → Prop) =>
      loopE (spatelaw11_LocksEnds.b3 p5 p7 p12 s) 0 h (sumK (fun r10 hh => k6 r10 hh) (fun r11 hh => K (.inr (.inr r11)) hh))) fun s6 h11 =>
    K (.inl (IntKind.i64.wrap (s + 1))) h11
  else
    K (.inr (.inl ())) h
def spatelaw11_LocksEnds.b4 (p1 : Sl) (p5 : Option Addr) (s : Sl × Int) (h : H) (K : (Sl × Int) ⊕ Sl → H → Prop) : Prop :=
  jn (fun (k10 : Bool → H → Prop) =>
    if (decide (s.2 < (p1.len : Int))) = true then
      k10 (decide (s.2 < 1500)) h
    else
      k10 false h) fun s10 h17 =>
  if s10 = true then
    jn (fun (k11 : Sl → H → Prop) =>
      rd (ixA 3 p1 s.2) fun q5 =>
      rd (ld k52 q5 h17) fun x5 =>
      al 53 (k52.enc z52) h17 fun q6 h19 =>
      rd (st k52 q6 x5 h19) fun h20 =>
      rd (ld (kI .i64) (q6.add 0) h20) fun x6 =>
      if (x6 == 1) = true then
        rd (ld (kI .i64) (q6.add 1) h20) fun x7 =>
        rd (ld kL (q6.add 2) h20) fun x8 =>
        spatelaw11_set x8 h20 fun r14 h21 =>
        ld (kI .i64) (q6.add 1) h21 = some x7 ∧
        locks_Manager_Ask p5 x7 r14 h21 fun r15 h22 =>
        if r15.2.isNone = true then
          rd (ld (kI .i64) (q6.add 1) h22) fun x9 =>
          bs 3 1 ((kI .i64).enc x9) h22 fun x10 h23 =>
          ap (kI .i64).n 8 3 ((kI .i64).enc 0) s.1 x10 h23 fun x11 h24 =>
          k11 x11 h24
        else
          k11 s.1 h22
      else
        if (x6 == 2) = true then
          rd (ld (kI .i64) (q6.add 1) h20) fun x12 =>
          locks_Manager_Free p5 x12 h20 fun r16 h25 =>
          k11 s.1 h25
        else
          if (x6 == 3) = true then
            rd (ld (kI .i64) (q6.add 1) h20) fun x13 =>
            locks_Manager_Quit p5 x13 h20 fun r17 h26 =>
            k11 s.1 h26
          else
            k11 s.1 h20) fun s11 h18 =>
    K (.inl (s11, IntKind.i64.wrap (s.2 + 1))) h18
  else
    K (.inr s.1) h17
/-- spate/spatelaw11.LocksEnds -/
def spatelaw11_LocksEnds (a0 : Int) (a1 : Sl) (h : H) (Q : Bool → H → Prop) : Prop :=
  spatelaw11_known  h fun r1 h1 =>
  if (!r1) = true then
    Q false h1
  else
    locks_New a0 h1 fun r2 h2 =>
    if (r2.2 != 0) = true then
      Q true h2
    else
      jn (fun (k1 : Sl → H → Prop) =>
        loopE (spatelaw11_LocksEnds.b4 a1 r2.1) (Sl.nil, 0) h2 (fun r18 hh => k1 r18 hh)) fun s1 h3 =>
      jn (fun (k2 : Unit → H → Prop) =>
        loopE (spatelaw11_LocksEnds.b2 r2.1 s1 (IntKind.i64.wrap ((s1.len : Int) + 1))) 0 h3 (sumK (fun r12 hh => k2 r12 hh) (fun r13 hh => Q r13 hh))) fun s2 h4 =>
      jn (fun (k3 : Unit → H → Prop) =>
        loopE (spatelaw11_LocksEnds.b1 r2.1 s1) 0 h4 (sumK (fun r6 hh => k3 r6 hh) (fun r7 hh => Q r7 hh))) fun s3 h5 =>
      locks_Manager_Queue r2.1 h5 fun r3 h6 =>
      Q ((r3.len : Int) == 0) h6
theorem spatelaw11_LocksEnds.sound {a0 : Int} {a1 : Sl} {h : H} {Q : Bool → H → Prop} (hF : spatelaw11_LocksEnds a0 a1 h Q) :
    CallsH Try.prog 6 (List.toArray (α := Value) [.int .i64 a0, Sl.val a1]) h fun v h' => ∃ x : Bool, v = .bool x ∧ Q x h' := by
  refine CallsH.of_body Try.func6 rfl 133 rfl rfl ?_
  refine WP.seq ?_
  refine WP.region ?_
  refine EvK.pure (v := .bool false) (w_none rfl) rfl rfl (f_assign rfl rfl) ?_
  refine EvK.nil ?_
  refine WP.seq ?_
  refine WP.seq ?_
  refine WP.region ?_
  refine EvK.call (w_none rfl) rfl rfl (enterH Try.func10 rfl rfl rfl rfl (spatelaw11_known.sound hF)) ?_
  rintro _ h1 ⟨r1, rfl, hF⟩
  refine EvK.pure (v := .bool (!r1)) (w_none rfl) rfl rfl (f_not rfl rfl) ?_
  refine EvK.nil ?_
  rcases ite_inv hF with ⟨c1, hF⟩ | ⟨c1, hF⟩
  · refine WP.cond_true _ rfl c1 ?_
    refine WP.seq ?_
    refine WP.region ?_
    refine EvK.pure (v := .bool false) (w_none rfl) rfl rfl (f_assign rfl rfl) ?_
    refine EvK.nil ?_
    refine WP.ret ?_
    exact Ret.mk (vs := [.bool false]) false ⟨rfl, trivial⟩ rfl hF
  · refine WP.cond_false _ rfl c1 ?_
    refine WP.skip ?_
    refine WP.seq ?_
    refine WP.region ?_
    refine EvK.pure (v := .int .i64 a0) (w_none rfl) rfl rfl (f_move rfl rfl) ?_
    refine EvK.call (w_none rfl) rfl rfl (enterH Try.func12 rfl rfl rfl rfl (locks_New.sound hF)) ?_
    rintro _ h2 ⟨r2, rfl, hF⟩
    refine EvK.pure (v := .tuple #[.pointer r2.1, .int .i64 r2.2]) (w_none rfl) rfl rfl (f_move rfl rfl) ?_
    refine EvK.pure (v := .pointer r2.1) (w_none rfl) rfl rfl (f_extract (vs := #[.pointer r2.1, .int .i64 r2.2]) rfl rfl rfl) ?_
    refine EvK.pure (v := .int .i64 r2.2) (w_none rfl) rfl rfl (f_extract (vs := #[.pointer r2.1, .int .i64 r2.2]) rfl rfl rfl) ?_
    refine EvK.pure (v := .pointer r2.1) (w_none rfl) rfl rfl (f_assign rfl rfl) ?_
    refine EvK.pure (v := .int .i64 r2.2) (w_none rfl) rfl rfl (f_assign rfl rfl) ?_
    refine EvK.nil ?_
    refine WP.seq ?_
    refine WP.seq ?_
    refine WP.region ?_
    refine EvK.pure (v := .int .i64 r2.2) (w_none rfl) rfl rfl (f_move rfl rfl) ?_
    refine EvK.pure (v := .bool (r2.2 != 0)) (w_none rfl) rfl rfl (f_neq rfl rfl rfl) ?_
    refine EvK.nil ?_
    rcases ite_inv hF with ⟨c2, hF⟩ | ⟨c2, hF⟩
    · refine WP.cond_true _ rfl c2 ?_
      refine WP.seq ?_
      refine WP.region ?_
      refine EvK.pure (v := .bool true) (w_none rfl) rfl rfl (f_assign rfl rfl) ?_
      refine EvK.nil ?_
      refine WP.ret ?_
      exact Ret.mk (vs := [.bool true]) true ⟨rfl, trivial⟩ rfl hF
    · refine WP.cond_false _ rfl c2 ?_
      refine WP.skip ?_
      refine WP.seq ?_
      refine WP.region ?_
      refine EvK.pure (v := Sl.val Sl.nil) (w_none rfl) rfl rfl (f_assign rfl rfl) ?_
      refine EvK.nil ?_
      refine WP.joinF (fun (s1 : Sl) => [(7, Sl.val s1), (5, .pointer r2.1)]) hF ?_ ?_
      · intro s1 E0 h3 hF
        refine WP.seq ?_
        refine WP.region ?_
        refine EvK.pure (v := Sl.val s1) (w_none rfl) rfl rfl (f_move rfl rfl) ?_
        refine EvK.pure (v := .int .i64 (s1.len : Int)) (w_none rfl) rfl rfl (f_lenL (s := s1) Try.underlying22 rfl rfl) ?_
        refine EvK.pure (v := .int .i64 (IntKind.i64.wrap ((s1.len : Int) + 1))) (w_none rfl) rfl rfl (f_add rfl rfl rfl) ?_
        refine EvK.pure (v := .int .i64 (IntKind.i64.wrap ((s1.len : Int) + 1))) (w_none rfl) rfl rfl (f_assign rfl rfl) ?_
        refine EvK.nil ?_
        refine WP.joinF (fun (s2 : Unit) => [(5, .pointer r2.1), (7, Sl.val s1)]) hF ?_ ?_
        · intro s2 E0 h4 hF
          refine WP.joinF (fun (s3 : Unit) => [(5, .pointer r2.1)]) hF ?_ ?_
          · intro s3 E0 h5 hF
            refine WP.seq ?_
            refine WP.region ?_
            refine EvK.pure (v := .pointer r2.1) (w_none rfl) rfl rfl (f_move rfl rfl) ?_
            refine EvK.call (w_none rfl) rfl rfl (enterH Try.func20 rfl rfl rfl rfl (locks_Manager_Queue.sound hF)) ?_
            rintro _ h6 ⟨r3, rfl, hF⟩
            refine EvK.pure (v := .int .i64 (r3.len : Int)) (w_none rfl) rfl rfl (f_lenL (s := r3) Try.underlying22 rfl rfl) ?_
            refine EvK.pure (v := .bool ((r3.len : Int) == 0)) (w_none rfl) rfl rfl (f_eql rfl rfl rfl) ?_
            refine EvK.pure (v := .bool ((r3.len : Int) == 0)) (w_none rfl) rfl rfl (f_assign rfl rfl) ?_
            refine EvK.nil ?_
            refine WP.ret ?_
            exact Ret.mk (vs := [.bool ((r3.len : Int) == 0)]) ((r3.len : Int) == 0) ⟨rfl, trivial⟩ rfl hF
          · intro k3 hF
            refine WP.seq ?_
            refine WP.region ?_
            refine EvK.pure (v := .int .i64 0) (w_none rfl) rfl rfl (f_assign rfl rfl) ?_
            refine EvK.nil ?_
            refine WP.block ?_
            refine WP.loopF (fun (s4 : Int) => [(17, .int .i64 s4), (5, .pointer r2.1), (7, Sl.val s1)]) hF ⟨rfl, rfl, rfl, trivial⟩ ?_
            intro k4 s4 E0 h7 hF
            refine WP.seq ?_
            refine WP.seq ?_
            refine WP.region ?_
            refine EvK.pure (v := .int .i64 s4) (w_none rfl) rfl rfl (f_move rfl rfl) ?_
            refine EvK.pure (v := Sl.val s1) (w_none rfl) rfl rfl (f_move rfl rfl) ?_
            refine EvK.pure (v := .int .i64 (s1.len : Int)) (w_none rfl) rfl rfl (f_lenL (s := s1) Try.underlying22 rfl rfl) ?_
            refine EvK.pure (v := .bool (decide (s4 < (s1.len : Int)))) (w_none rfl) rfl rfl (f_lss rfl rfl rfl) ?_
            refine EvK.nil ?_
            rcases ite_inv hF with ⟨c3, hF⟩ | ⟨c3, hF⟩
            · refine WP.cond_true _ rfl c3 ?_
              refine WP.skip ?_
              refine WP.seq ?_
              refine WP.block ?_
              refine WP.joinF (fun (s5 : Bool) => [(128, .bool s5), (5, .pointer r2.1), (7, Sl.val s1), (17, .int .i64 s4)]) hF ?_ ?_
              · intro s5 E0 h8 hF
                rcases ite_inv hF with ⟨c4, hF⟩ | ⟨c4, hF⟩
                · refine WP.cond_true _ rfl c4 ?_
                  refine WP.seq ?_
                  refine WP.region ?_
                  refine EvK.pure (v := .bool false) (w_none rfl) rfl rfl (f_assign rfl rfl) ?_
                  refine EvK.nil ?_
                  refine WP.ret ?_
                  exact Ret.mk (vs := [.bool false]) false ⟨rfl, trivial⟩ rfl hF
                · refine WP.cond_false _ rfl c4 ?_
                  refine WP.skip ?_
                  refine WP.region ?_
                  refine EvK.pure (v := .int .i64 s4) (w_none rfl) rfl rfl (f_move rfl rfl) ?_
                  refine EvK.pure (v := .int .i64 (IntKind.i64.wrap (s4 + 1))) (w_none rfl) rfl rfl (f_add rfl rfl rfl) ?_
                  refine EvK.pure (v := .int .i64 (IntKind.i64.wrap (s4 + 1))) (w_none rfl) rfl rfl (f_assign rfl rfl) ?_
                  refine EvK.nil ?_
                  exact KE.mk (IntKind.i64.wrap (s4 + 1)) ⟨rfl, rfl, rfl, trivial⟩ hF
              · intro k5 hF
                refine WP.region ?_
                refine EvK.pure (v := .pointer r2.1) (w_none rfl) rfl rfl (f_move rfl rfl) ?_
                refine EvK.pure (v := Sl.val s1) (w_none rfl) rfl rfl (f_move rfl rfl) ?_
                refine EvK.pure (v := .int .i64 s4) (w_none rfl) rfl rfl (f_move rfl rfl) ?_
                obtain ⟨q1, hq1, hF⟩ := hF
                refine EvK.pure (v := .pointer (some q1)) (w_none rfl) rfl rfl (f_indexAddr (s := s1) Try.underlying22 ty3.size rfl rfl rfl hq1) ?_
                obtain ⟨x1, hx1, hF⟩ := hF
                refine EvK.read (v := .int .i64 x1) (w_none rfl) rfl rfl (f_load (kI .i64) ty3 rfl rfl hx1 rfl) ?_
                refine EvK.call (w_none rfl) rfl rfl (enterH Try.func32 rfl rfl rfl rfl (locks_Manager_Waits.sound hF)) ?_
                rintro _ h9 ⟨r4, rfl, hF⟩
                refine EvK.pure (v := .bool r4) (w_none rfl) rfl rfl (f_move rfl rfl) ?_
                rcases ite_inv hF with ⟨c5, hF⟩ | ⟨c5, hF⟩
                · refine EvK.not (w_not rfl rfl c5) rfl rfl ?_
                  refine EvK.not (w_not rfl rfl c5) rfl rfl ?_
                  refine EvK.not (w_not rfl rfl c5) rfl rfl ?_
                  refine EvK.not (w_not rfl rfl c5) rfl rfl ?_
                  refine EvK.not (w_not rfl rfl c5) rfl rfl ?_
                  refine EvK.not (w_not rfl rfl c5) rfl rfl ?_
                  refine EvK.not (w_not rfl rfl c5) rfl rfl ?_
                  refine EvK.not (w_not rfl rfl c5) rfl rfl ?_
                  refine EvK.pure (v := .bool true) (w_none rfl) rfl rfl (f_pickT rfl rfl c5 rfl) ?_
                  refine EvK.nil ?_
                  exact KE.mk true ⟨rfl, rfl, rfl, rfl, trivial⟩ hF
                · refine EvK.pure (v := .pointer r2.1) (w_some rfl rfl c5) rfl rfl (f_move rfl rfl) ?_
                  refine EvK.pure (v := Sl.val s1) (w_some rfl rfl c5) rfl rfl (f_move rfl rfl) ?_
                  refine EvK.pure (v := .int .i64 s4) (w_some rfl rfl c5) rfl rfl (f_move rfl rfl) ?_
                  obtain ⟨q2, hq2, hF⟩ := hF
                  refine EvK.pure (v := .pointer (some q2)) (w_some rfl rfl c5) rfl rfl (f_indexAddr (s := s1) Try.underlying22 ty3.size rfl rfl rfl hq2) ?_
                  obtain ⟨x2, hx2, hF⟩ := hF
                  refine EvK.read (v := .int .i64 x2) (w_some rfl rfl c5) rfl rfl (f_load (kI .i64) ty3 rfl rfl hx2 rfl) ?_
                  refine EvK.call (w_some rfl rfl c5) rfl rfl (enterH Try.func16 rfl rfl rfl rfl (locks_Manager_Has.sound hF)) ?_
                  rintro _ h10 ⟨r5, rfl, hF⟩
                  refine EvK.pure (v := .int .i64 (r5.len : Int)) (w_some rfl rfl c5) rfl rfl (f_lenL (s := r5) Try.underlying30 rfl rfl) ?_
                  refine EvK.pure (v := .bool (decide ((r5.len : Int) > 0))) (w_some rfl rfl c5) rfl rfl (f_gtr rfl rfl rfl) ?_
                  refine EvK.pure (v := .bool (decide ((r5.len : Int) > 0))) (w_none rfl) rfl rfl (f_pickF rfl rfl c5 rfl) ?_
                  refine EvK.nil ?_
                  exact KE.mk (decide ((r5.len : Int) > 0)) ⟨rfl, rfl, rfl, rfl, trivial⟩ hF
            · refine WP.cond_false _ rfl c3 ?_
              refine WP.exit ?_
              exact KE.mk () ⟨rfl, trivial⟩ hF
        · intro k2 hF
          refine WP.seq ?_
          refine WP.region ?_
          refine EvK.pure (v := .int .i64 0) (w_none rfl) rfl rfl (f_assign rfl rfl) ?_
          refine EvK.nil ?_
          refine WP.block ?_
          refine WP.loopF (fun (s6 : Int) => [(13, .int .i64 s6), (5, .pointer r2.1), (7, Sl.val s1), (12, .int .i64 (IntKind.i64.wrap ((s1.len : Int) + 1)))]) hF ⟨rfl, rfl, rfl, rfl, trivial⟩ ?_
          intro k6 s6 E0 h11 hF
          refine WP.seq ?_
          refine WP.seq ?_
          refine WP.region ?_
          refine EvK.pure (v := .int .i64 s6) (w_none rfl) rfl rfl (f_move rfl rfl) ?_
          refine EvK.pure (v := .int .i64 (IntKind.i64.wrap ((s1.len : Int) + 1))) (w_none rfl) rfl rfl (f_move rfl rfl) ?_
          refine EvK.pure (v := .bool (decide (s6 < (IntKind.i64.wrap ((s1.len : Int) + 1))))) (w_none rfl) rfl rfl (f_lss rfl rfl rfl) ?_
          refine EvK.nil ?_
          rcases ite_inv hF with ⟨c6, hF⟩ | ⟨c6, hF⟩
          · refine WP.cond_true _ rfl c6 ?_
            refine WP.skip ?_
            refine WP.joinF (fun (s7 : Unit) => [(5, .pointer r2.1), (7, Sl.val s1), (12, .int .i64 (IntKind.i64.wrap ((s1.len : Int) + 1))), (13, .int .i64 s6)]) hF ?_ ?_
            · intro s7 E0 h12 hF
              refine WP.region ?_
              refine EvK.pure (v := .int .i64 s6) (w_none rfl) rfl rfl (f_move rfl rfl) ?_
              refine EvK.pure (v := .int .i64 (IntKind.i64.wrap (s6 + 1))) (w_none rfl) rfl rfl (f_add rfl rfl rfl) ?_
              refine EvK.pure (v := .int .i64 (IntKind.i64.wrap (s6 + 1))) (w_none rfl) rfl rfl (f_assign rfl rfl) ?_
              refine EvK.nil ?_
              exact KE.mk (IntKind.i64.wrap (s6 + 1)) ⟨rfl, rfl, rfl, rfl, trivial⟩ hF
            · intro k7 hF
              refine WP.block ?_
              refine WP.seq ?_
              refine WP.region ?_
              refine EvK.pure (v := .int .i64 0) (w_none rfl) rfl rfl (f_assign rfl rfl) ?_
              refine EvK.nil ?_
              refine WP.block ?_
              refine WP.loopF (fun (s8 : Int) => [(14, .int .i64 s8), (5, .pointer r2.1), (7, Sl.val s1), (12, .int .i64 (IntKind.i64.wrap ((s1.len : Int) + 1))), (13, .int .i64 s6)]) hF ⟨rfl, rfl, rfl, rfl, rfl, trivial⟩ ?_
              intro k8 s8 E0 h13 hF
              refine WP.seq ?_
              refine WP.seq ?_
              refine WP.region ?_
              refine EvK.pure (v := .int .i64 s8) (w_none rfl) rfl rfl (f_move rfl rfl) ?_
              refine EvK.pure (v := Sl.val s1) (w_none rfl) rfl rfl (f_move rfl rfl) ?_
              refine EvK.pure (v := .int .i64 (s1.len : Int)) (w_none rfl) rfl rfl (f_lenL (s := s1) Try.underlying22 rfl rfl) ?_
              refine EvK.pure (v := .bool (decide (s8 < (s1.len : Int)))) (w_none rfl) rfl rfl (f_lss rfl rfl rfl) ?_
              refine EvK.nil ?_
              rcases ite_inv hF with ⟨c7, hF⟩ | ⟨c7, hF⟩
              · refine WP.cond_true _ rfl c7 ?_
                refine WP.skip ?_
                refine WP.joinF (fun (s9 : Unit) => [(5, .pointer r2.1), (7, Sl.val s1), (12, .int .i64 (IntKind.i64.wrap ((s1.len : Int) + 1))), (13, .int .i64 s6), (14, .int .i64 s8)]) hF ?_ ?_
                · intro s9 E0 h14 hF
                  refine WP.region ?_
                  refine EvK.pure (v := .int .i64 s8) (w_none rfl) rfl rfl (f_move rfl rfl) ?_
                  refine EvK.pure (v := .int .i64 (IntKind.i64.wrap (s8 + 1))) (w_none rfl) rfl rfl (f_add rfl rfl rfl) ?_
                  refine EvK.pure (v := .int .i64 (IntKind.i64.wrap (s8 + 1))) (w_none rfl) rfl rfl (f_assign rfl rfl) ?_
                  refine EvK.nil ?_
                  exact KE.mk (IntKind.i64.wrap (s8 + 1)) ⟨rfl, rfl, rfl, rfl, rfl, trivial⟩ hF
                · intro k9 hF
                  refine WP.block ?_
                  refine WP.seq ?_
                  refine WP.region ?_
                  refine EvK.pure (v := .pointer r2.1) (w_none rfl) rfl rfl (f_move rfl rfl) ?_
                  refine EvK.pure (v := Sl.val s1) (w_none rfl) rfl rfl (f_move rfl rfl) ?_
                  refine EvK.pure (v := .int .i64 s8) (w_none rfl) rfl rfl (f_move rfl rfl) ?_
                  obtain ⟨q3, hq3, hF⟩ := hF
                  refine EvK.pure (v := .pointer (some q3)) (w_none rfl) rfl rfl (f_indexAddr (s := s1) Try.underlying22 ty3.size rfl rfl rfl hq3) ?_
                  obtain ⟨x3, hx3, hF⟩ := hF
                  refine EvK.read (v := .int .i64 x3) (w_none rfl) rfl rfl (f_load (kI .i64) ty3 rfl rfl hx3 rfl) ?_
                  refine EvK.call (w_none rfl) rfl rfl (enterH Try.func16 rfl rfl rfl rfl (locks_Manager_Has.sound hF)) ?_
                  rintro _ h15 ⟨r8, rfl, hF⟩
                  refine EvK.pure (v := .int .i64 (r8.len : Int)) (w_none rfl) rfl rfl (f_lenL (s := r8) Try.underlying30 rfl rfl) ?_
                  refine EvK.pure (v := .bool (decide ((r8.len : Int) > 0))) (w_none rfl) rfl rfl (f_gtr rfl rfl rfl) ?_
                  refine EvK.nil ?_
                  rcases ite_inv hF with ⟨c8, hF⟩ | ⟨c8, hF⟩
                  · refine WP.cond_true _ rfl c8 ?_
                    refine WP.seq ?_
                    refine WP.region ?_
                    refine EvK.pure (v := .pointer r2.1) (w_none rfl) rfl rfl (f_move rfl rfl) ?_
                    refine EvK.pure (v := Sl.val s1) (w_none rfl) rfl rfl (f_move rfl rfl) ?_
                    refine EvK.pure (v := .int .i64 s8) (w_none rfl) rfl rfl (f_move rfl rfl) ?_
                    obtain ⟨q4, hq4, hF⟩ := hF
                    refine EvK.pure (v := .pointer (some q4)) (w_none rfl) rfl rfl (f_indexAddr (s := s1) Try.underlying22 ty3.size rfl rfl rfl hq4) ?_
                    obtain ⟨x4, hx4, hF⟩ := hF
                    refine EvK.read (v := .int .i64 x4) (w_none rfl) rfl rfl (f_load (kI .i64) ty3 rfl rfl hx4 rfl) ?_
                    refine EvK.call (w_none rfl) rfl rfl (enterH Try.func17 rfl rfl rfl rfl (locks_Manager_Free.sound hF)) ?_
                    rintro _ h16 ⟨r9, rfl, hF⟩
                    refine EvK.pure (v := .tuple #[Sl.val r9.1, IF.val r9.2]) (w_none rfl) rfl rfl (f_move rfl rfl) ?_
                    refine EvK.pure (v := Sl.val r9.1) (w_none rfl) rfl rfl (f_extract (vs := #[Sl.val r9.1, IF.val r9.2]) rfl rfl rfl) ?_
                    refine EvK.pure (v := IF.val r9.2) (w_none rfl) rfl rfl (f_extract (vs := #[Sl.val r9.1, IF.val r9.2]) rfl rfl rfl) ?_
                    refine EvK.pure (v := Sl.val r9.1) (w_none rfl) rfl rfl (f_assign rfl rfl) ?_
                    refine EvK.pure (v := IF.val r9.2) (w_none rfl) rfl rfl (f_assign rfl rfl) ?_
                    refine EvK.nil ?_
                    refine WP.seq ?_
                    refine WP.region ?_
                    refine EvK.pure (v := IF.val r9.2) (w_none rfl) rfl rfl (f_move rfl rfl) ?_
                    refine EvK.pure (v := .bool (!r9.2.isNone)) (w_none rfl) rfl rfl (f_ineqn (a := r9.2) Try.underlying37 rfl rfl) ?_
                    refine EvK.nil ?_
                    rcases ite_inv hF with ⟨c9, hF⟩ | ⟨c9, hF⟩
                    · refine WP.cond_true _ rfl c9 ?_
                      refine WP.seq ?_
                      refine WP.region ?_
                      refine EvK.pure (v := .bool false) (w_none rfl) rfl rfl (f_assign rfl rfl) ?_
                      refine EvK.nil ?_
                      refine WP.ret ?_
                      exact Ret.mk (vs := [.bool false]) false ⟨rfl, trivial⟩ rfl hF
                    · refine WP.cond_false _ rfl c9 ?_
                      refine WP.skip ?_
                      exact KE.mk () ⟨rfl, rfl, rfl, rfl, rfl, trivial⟩ hF
                  · refine WP.cond_false _ rfl c8 ?_
                    refine WP.skip ?_
                    exact KE.mk () ⟨rfl, rfl, rfl, rfl, rfl, trivial⟩ hF
              · refine WP.cond_false _ rfl c7 ?_
                refine WP.exit ?_
                exact KE.mk () ⟨rfl, rfl, rfl, rfl, trivial⟩ hF
          · refine WP.cond_false _ rfl c6 ?_
            refine WP.exit ?_
            exact KE.mk () ⟨rfl, rfl, trivial⟩ hF
      · intro k1 hF
        refine WP.seq ?_
        refine WP.region ?_
        refine EvK.pure (v := .int .i64 0) (w_none rfl) rfl rfl (f_assign rfl rfl) ?_
        refine EvK.nil ?_
        refine WP.block ?_
        refine WP.loopF (fun (s10 : Sl × Int) => [(7, Sl.val s10.1), (8, .int .i64 s10.2), (1, Sl.val a1), (5, .pointer r2.1)]) hF ⟨rfl, rfl, rfl, rfl, trivial⟩ ?_
        intro k10 s10 E0 h17 hF
        refine WP.seq ?_
        refine WP.joinF (fun (s11 : Bool) => [(34, .bool s11), (1, Sl.val a1), (5, .pointer r2.1), (7, Sl.val s10.1), (8, .int .i64 s10.2)]) hF ?_ ?_
        · intro s11 E0 h18 hF
          rcases ite_inv hF with ⟨c10, hF⟩ | ⟨c10, hF⟩
          · refine WP.cond_true _ rfl c10 ?_
            refine WP.skip ?_
            refine WP.joinF (fun (s12 : Sl) => [(7, Sl.val s12), (1, Sl.val a1), (5, .pointer r2.1), (8, .int .i64 s10.2)]) hF ?_ ?_
            · intro s12 E0 h19 hF
              refine WP.region ?_
              refine EvK.pure (v := .int .i64 s10.2) (w_none rfl) rfl rfl (f_move rfl rfl) ?_
              refine EvK.pure (v := .int .i64 (IntKind.i64.wrap (s10.2 + 1))) (w_none rfl) rfl rfl (f_add rfl rfl rfl) ?_
              refine EvK.pure (v := .int .i64 (IntKind.i64.wrap (s10.2 + 1))) (w_none rfl) rfl rfl (f_assign rfl rfl) ?_
              refine EvK.nil ?_
              exact KE.mk (s12, IntKind.i64.wrap (s10.2 + 1)) ⟨rfl, rfl, rfl, rfl, trivial⟩ hF
            · intro k12 hF
              refine WP.block ?_
              refine WP.seq ?_
              refine WP.region ?_
              refine EvK.pure (v := Sl.val a1) (w_none rfl) rfl rfl (f_move rfl rfl) ?_
              refine EvK.pure (v := .int .i64 s10.2) (w_none rfl) rfl rfl (f_move rfl rfl) ?_
              obtain ⟨q5, hq5, hF⟩ := hF
              refine EvK.pure (v := .pointer (some q5)) (w_none rfl) rfl rfl (f_indexAddr (s := a1) Try.underlying47 ty53.size rfl rfl rfl hq5) ?_
              obtain ⟨x5, hx5, hF⟩ := hF
              refine EvK.read (v := k52.val x5) (w_none rfl) rfl rfl (f_load k52 ty53 rfl rfl hx5 rfl) ?_
              refine EvK.alloc (w_none rfl) rfl rfl (f_allocF zero53 rfl rfl hF) ?_
              rintro _ h20 ⟨q6, rfl, hF⟩
              obtain ⟨h21, hs1, hF⟩ := hF
              refine EvK.runN (w_none rfl) rfl (f_store k52 ty53.size (z := x5) rfl rfl rfl hs1) ?_
              rintro _ _ ⟨rfl, rfl⟩
              refine EvK.nil ?_
              refine WP.seq ?_
              refine WP.region ?_
              refine EvK.pure (v := .pointer (some (q6.add 0))) (w_none rfl) rfl rfl (f_fieldAddr fd53_0 rfl rfl) ?_
              obtain ⟨x6, hx6, hF⟩ := hF
              refine EvK.read (v := .int .i64 x6) (w_none rfl) rfl rfl (f_load (kI .i64) ty3 rfl rfl hx6 rfl) ?_
              refine EvK.nil ?_
              refine WP.block ?_
              refine WP.seq ?_
              refine WP.region ?_
              refine EvK.pure (v := .bool (x6 == 1)) (w_none rfl) rfl rfl (f_eql rfl rfl rfl) ?_
              refine EvK.pure (v := .bool (x6 == 1)) (w_none rfl) rfl rfl (f_assign rfl rfl) ?_
              refine EvK.nil ?_
              rcases ite_inv hF with ⟨c11, hF⟩ | ⟨c11, hF⟩
              · refine WP.cond_true _ rfl c11 ?_
                refine WP.seq ?_
                refine WP.draw mixed [.pure, .pure, .read, .pure, .read, .eff [2], .eff [], .pure, .pure, .pure, .pure, .pure] [[], [], [1], [], [3], [3, 4], [0, 1, 2, 3, 4, 5], [0, 1, 2, 3, 4, 5, 6], [0, 1, 2, 3, 4, 5, 6, 7], [0, 1, 2, 3, 4, 5, 6, 7], [0, 1, 2, 3, 4, 5, 6, 7, 8], [0, 1, 2, 3, 4, 5, 6, 7, 8, 9, 10]] [0, 1, 2, 3, 4, 5, 6, 7, 8, 9, 10, 11] (by kernel_rfl) (by kernel_rfl) ?_
                refine EvI.pure (v := .pointer r2.1) rfl rfl (w_none rfl) rfl (f_move rfl rfl) ?_
                refine EvI.pure (v := .pointer (some (q6.add 1))) rfl rfl (w_none rfl) rfl (f_fieldAddr fd53_1 rfl rfl) ?_
                obtain ⟨x7, hx7, hF⟩ := hF
                refine EvI.read (v := .int .i64 x7) rfl rfl (w_none rfl) rfl (f_load (kI .i64) ty3 rfl rfl hx7 rfl) ?_
                refine EvI.pure (v := .pointer (some (q6.add 2))) rfl rfl (w_none rfl) rfl (f_fieldAddr fd53_2 rfl rfl) ?_
                obtain ⟨x8, hx8, hF⟩ := hF
                refine EvI.read (v := Sl.val x8) rfl rfl (w_none rfl) rfl (f_load kL ty30 rfl rfl hx8 rfl) ?_
                refine EvI.call rfl rfl (w_none rfl) rfl (enterH Try.func25 rfl rfl rfl rfl (spatelaw11_set.sound hF)) ?_
                rintro _ h22 ⟨r14, rfl, hF⟩
                obtain ⟨hy1, hF⟩ := hF
                refine ⟨⟨chk_no rfl, chk_yes rfl (f_load (kI .i64) ty3 rfl rfl hy1 rfl), trivial⟩, ?_⟩
                refine EvI.call rfl rfl (w_none rfl) rfl (enterH Try.func14 rfl rfl rfl rfl (locks_Manager_Ask.sound hF)) ?_
                rintro _ h23 ⟨r15, rfl, hF⟩
                refine ⟨⟨chk_no rfl, chk_no rfl, trivial⟩, ?_⟩
                refine EvI.pure (v := .tuple #[.bool r15.1, IF.val r15.2]) rfl rfl (w_none rfl) rfl (f_move rfl rfl) ?_
                refine EvI.pure (v := .bool r15.1) rfl rfl (w_none rfl) rfl (f_extract (vs := #[.bool r15.1, IF.val r15.2]) rfl rfl rfl) ?_
                refine EvI.pure (v := IF.val r15.2) rfl rfl (w_none rfl) rfl (f_extract (vs := #[.bool r15.1, IF.val r15.2]) rfl rfl rfl) ?_
                refine EvI.pure (v := .bool r15.1) rfl rfl (w_none rfl) rfl (f_assign rfl rfl) ?_
                refine EvI.pure (v := IF.val r15.2) rfl rfl (w_none rfl) rfl (f_assign rfl rfl) ?_
                refine EvI.nil ?_
                refine WP.seq ?_
                refine WP.region ?_
                refine EvK.pure (v := IF.val r15.2) (w_none rfl) rfl rfl (f_move rfl rfl) ?_
                refine EvK.pure (v := .bool r15.2.isNone) (w_none rfl) rfl rfl (f_ieqln (a := r15.2) Try.underlying37 rfl rfl) ?_
                refine EvK.nil ?_
                rcases ite_inv hF with ⟨c12, hF⟩ | ⟨c12, hF⟩
                · refine WP.cond_true _ rfl c12 ?_
                  refine WP.region ?_
                  refine EvK.pure (v := Sl.val s10.1) (w_none rfl) rfl rfl (f_move rfl rfl) ?_
                  refine EvK.pure (v := .pointer (some (q6.add 1))) (w_none rfl) rfl rfl (f_fieldAddr fd53_1 rfl rfl) ?_
                  obtain ⟨x9, hx9, hF⟩ := hF
                  refine EvK.read (v := .int .i64 x9) (w_none rfl) rfl rfl (f_load (kI .i64) ty3 rfl rfl hx9 rfl) ?_
                  refine EvK.alloc (w_none rfl) rfl rfl (f_buildSliceF Try.underlying22 el3 (by decide) rfl rfl rfl hF) ?_
                  rintro _ h24 ⟨x10, rfl, hF⟩
                  refine EvK.run (w_none rfl) rfl rfl (f_appendE (s := s10.1) (x := x10) Try.underlying22 el3 rfl rfl rfl hF) ?_
                  rintro _ h25 ⟨x11, rfl, hF⟩
                  refine EvK.pure (v := Sl.val x11) (w_none rfl) rfl rfl (f_assign rfl rfl) ?_
                  refine EvK.nil ?_
                  exact KE.mk x11 ⟨rfl, rfl, rfl, rfl, trivial⟩ hF
                · refine WP.cond_false _ rfl c12 ?_
                  refine WP.skip ?_
                  exact KE.mk s10.1 ⟨rfl, rfl, rfl, rfl, trivial⟩ hF
              · refine WP.cond_false _ rfl c11 ?_
                refine WP.seq ?_
                refine WP.region ?_
                refine EvK.pure (v := .bool (x6 == 2)) (w_none rfl) rfl rfl (f_eql rfl rfl rfl) ?_
                refine EvK.pure (v := .bool (x6 == 2)) (w_none rfl) rfl rfl (f_assign rfl rfl) ?_
                refine EvK.nil ?_
                rcases ite_inv hF with ⟨c13, hF⟩ | ⟨c13, hF⟩
                · refine WP.cond_true _ rfl c13 ?_
                  refine WP.region ?_
                  refine EvK.pure (v := .pointer r2.1) (w_none rfl) rfl rfl (f_move rfl rfl) ?_
                  refine EvK.pure (v := .pointer (some (q6.add 1))) (w_none rfl) rfl rfl (f_fieldAddr fd53_1 rfl rfl) ?_
                  obtain ⟨x12, hx10, hF⟩ := hF
                  refine EvK.read (v := .int .i64 x12) (w_none rfl) rfl rfl (f_load (kI .i64) ty3 rfl rfl hx10 rfl) ?_
                  refine EvK.call (w_none rfl) rfl rfl (enterH Try.func17 rfl rfl rfl rfl (locks_Manager_Free.sound hF)) ?_
                  rintro _ h26 ⟨r16, rfl, hF⟩
                  refine EvK.nil ?_
                  exact KE.mk s10.1 ⟨rfl, rfl, rfl, rfl, trivial⟩ hF
                · refine WP.cond_false _ rfl c13 ?_
                  refine WP.seq ?_
                  refine WP.region ?_
                  refine EvK.pure (v := .bool (x6 == 3)) (w_none rfl) rfl rfl (f_eql rfl rfl rfl) ?_
                  refine EvK.pure (v := .bool (x6 == 3)) (w_none rfl) rfl rfl (f_assign rfl rfl) ?_
                  refine EvK.nil ?_
                  rcases ite_inv hF with ⟨c14, hF⟩ | ⟨c14, hF⟩
                  · refine WP.cond_true _ rfl c14 ?_
                    refine WP.region ?_
                    refine EvK.pure (v := .pointer r2.1) (w_none rfl) rfl rfl (f_move rfl rfl) ?_
                    refine EvK.pure (v := .pointer (some (q6.add 1))) (w_none rfl) rfl rfl (f_fieldAddr fd53_1 rfl rfl) ?_
                    obtain ⟨x13, hx11, hF⟩ := hF
                    refine EvK.read (v := .int .i64 x13) (w_none rfl) rfl rfl (f_load (kI .i64) ty3 rfl rfl hx11 rfl) ?_
                    refine EvK.call (w_none rfl) rfl rfl (enterH Try.func28 rfl rfl rfl rfl (locks_Manager_Quit.sound hF)) ?_
                    rintro _ h27 ⟨r17, rfl, hF⟩
                    refine EvK.nil ?_
                    exact KE.mk s10.1 ⟨rfl, rfl, rfl, rfl, trivial⟩ hF
                  · refine WP.cond_false _ rfl c14 ?_
                    refine WP.skip ?_
                    exact KE.mk s10.1 ⟨rfl, rfl, rfl, rfl, trivial⟩ hF
          · refine WP.cond_false _ rfl c10 ?_
            refine WP.exit ?_
            exact KE.mk s10.1 ⟨rfl, rfl, trivial⟩ hF
        · intro k11 hF
          refine WP.region ?_
          refine EvK.pure (v := .int .i64 s10.2) (w_none rfl) rfl rfl (f_move rfl rfl) ?_
          refine EvK.pure (v := Sl.val a1) (w_none rfl) rfl rfl (f_move rfl rfl) ?_
          refine EvK.pure (v := .int .i64 (a1.len : Int)) (w_none rfl) rfl rfl (f_lenL (s := a1) Try.underlying47 rfl rfl) ?_
          refine EvK.pure (v := .bool (decide (s10.2 < (a1.len : Int)))) (w_none rfl) rfl rfl (f_lss rfl rfl rfl) ?_
          refine EvK.pure (v := .bool (decide (s10.2 < (a1.len : Int)))) (w_none rfl) rfl rfl (f_move rfl rfl) ?_
          rcases ite_inv hF with ⟨c15, hF⟩ | ⟨c15, hF⟩
          · refine EvK.pure (v := .int .i64 s10.2) (w_some rfl rfl c15) rfl rfl (f_move rfl rfl) ?_
            refine EvK.pure (v := .bool (decide (s10.2 < 1500))) (w_some rfl rfl c15) rfl rfl (f_lss rfl rfl rfl) ?_
            refine EvK.pure (v := .bool (decide (s10.2 < 1500))) (w_none rfl) rfl rfl (f_pickT rfl rfl c15 rfl) ?_
            refine EvK.nil ?_
            exact KE.mk (decide (s10.2 < 1500)) ⟨rfl, rfl, rfl, rfl, rfl, trivial⟩ hF
          · refine EvK.not (w_not rfl rfl c15) rfl rfl ?_
            refine EvK.not (w_not rfl rfl c15) rfl rfl ?_
            refine EvK.pure (v := .bool false) (w_none rfl) rfl rfl (f_pickF rfl rfl c15 rfl) ?_
            refine EvK.nil ?_
            exact KE.mk false ⟨rfl, rfl, rfl, rfl, rfl, trivial⟩ hF
end Go.Proofs.Ytgmihbchcmjmdaa

namespace Go.Proofs.Ytgmihbchcmjmdaa
open Go Go.Tr
set_option linter.unusedVariables false
set_option maxRecDepth 100000
set_option maxHeartbeats 400000
def spatelaw11_names.b1 (p0 : Sl) (p1 : Int) (s : Sl × Int) (h : H) (K : (Sl × Int) ⊕ Sl → H → Prop) : Prop :=
  if (decide (s.2 < (p0.len : Int))) = true then
    rd (ixA 1 p0 s.2) fun q1 =>
    rd (ld (kI .i64) q1 h) fun x1 =>
    bs 3 1 ((kI .i64).enc (IntKind.i64.wrap ((IntKind.i64.wrap (3 * x1)) + p1))) h fun x2 h2 =>
    ap (kI .i64).n 8 3 ((kI .i64).enc 0) s.1 x2 h2 fun x3 h3 =>
    K (.inl (x3, IntKind.i64.wrap (s.2 + 1))) h3
  else
    K (.inr s.1) h
/-- spate/spatelaw11.names -/
def spatelaw11_names (a0 : Sl) (a1 : Int) (h : H) (Q : Sl → H → Prop) : Prop :=
  jn (fun (k1 : Sl → H → Prop) =>
    loopE (spatelaw11_names.b1 a0 a1) (Sl.nil, 0) h (fun r1 hh => k1 r1 hh)) fun s1 h1 =>
  Q s1 h1
theorem spatelaw11_names.sound {a0 : Sl} {a1 : Int} {h : H} {Q : Sl → H → Prop} (hF : spatelaw11_names a0 a1 h Q) :
    CallsH Try.prog 33 (List.toArray (α := Value) [Sl.val a0, .int .i64 a1]) h fun v h' => ∃ x : Sl, v = Sl.val x ∧ Q x h' := by
  refine CallsH.of_body Try.func33 rfl 24 rfl rfl ?_
  refine WP.seq ?_
  refine WP.region ?_
  refine EvK.pure (v := Sl.val Sl.nil) (w_none rfl) rfl rfl (f_assign rfl rfl) ?_
  refine EvK.nil ?_
  refine WP.seq ?_
  refine WP.region ?_
  refine EvK.pure (v := Sl.val Sl.nil) (w_none rfl) rfl rfl (f_assign rfl rfl) ?_
  refine EvK.nil ?_
  refine WP.joinF (fun (s1 : Sl) => [(5, Sl.val s1)]) hF ?_ ?_
  · intro s1 E0 h1 hF
    refine WP.seq ?_
    refine WP.region ?_
    refine EvK.pure (v := Sl.val s1) (w_none rfl) rfl rfl (f_move rfl rfl) ?_
    refine EvK.pure (v := Sl.val s1) (w_none rfl) rfl rfl (f_assign rfl rfl) ?_
    refine EvK.nil ?_
    refine WP.ret ?_
    exact Ret.mk (vs := [Sl.val s1]) s1 ⟨rfl, trivial⟩ rfl hF
  · intro k1 hF
    refine WP.seq ?_
    refine WP.region ?_
    refine EvK.pure (v := .int .i64 0) (w_none rfl) rfl rfl (f_assign rfl rfl) ?_
    refine EvK.nil ?_
    refine WP.block ?_
    refine WP.loopF (fun (s2 : Sl × Int) => [(5, Sl.val s2.1), (6, .int .i64 s2.2), (0, Sl.val a0), (1, .int .i64 a1)]) hF ⟨rfl, rfl, rfl, rfl, trivial⟩ ?_
    intro k2 s2 E0 h2 hF
    refine WP.seq ?_
    refine WP.seq ?_
    refine WP.region ?_
    refine EvK.pure (v := .int .i64 s2.2) (w_none rfl) rfl rfl (f_move rfl rfl) ?_
    refine EvK.pure (v := Sl.val a0) (w_none rfl) rfl rfl (f_move rfl rfl) ?_
    refine EvK.pure (v := .int .i64 (a0.len : Int)) (w_none rfl) rfl rfl (f_lenL (s := a0) Try.underlying22 rfl rfl) ?_
    refine EvK.pure (v := .bool (decide (s2.2 < (a0.len : Int)))) (w_none rfl) rfl rfl (f_lss rfl rfl rfl) ?_
    refine EvK.nil ?_
    rcases ite_inv hF with ⟨c1, hF⟩ | ⟨c1, hF⟩
    · refine WP.cond_true _ rfl c1 ?_
      refine WP.skip ?_
      refine WP.seq ?_
      refine WP.block ?_
      refine WP.region ?_
      refine EvK.pure (v := Sl.val s2.1) (w_none rfl) rfl rfl (f_move rfl rfl) ?_
      refine EvK.pure (v := Sl.val a0) (w_none rfl) rfl rfl (f_move rfl rfl) ?_
      refine EvK.pure (v := .int .i64 s2.2) (w_none rfl) rfl rfl (f_move rfl rfl) ?_
      obtain ⟨q1, hq1, hF⟩ := hF
      refine EvK.pure (v := .pointer (some q1)) (w_none rfl) rfl rfl (f_indexAddr (s := a0) Try.underlying22 ty3.size rfl rfl rfl hq1) ?_
      obtain ⟨x1, hx1, hF⟩ := hF
      refine EvK.read (v := .int .i64 x1) (w_none rfl) rfl rfl (f_load (kI .i64) ty3 rfl rfl hx1 rfl) ?_
      refine EvK.pure (v := .int .i64 (IntKind.i64.wrap (3 * x1))) (w_none rfl) rfl rfl (f_mul rfl rfl rfl) ?_
      refine EvK.pure (v := .int .i64 a1) (w_none rfl) rfl rfl (f_move rfl rfl) ?_
      refine EvK.pure (v := .int .i64 (IntKind.i64.wrap ((IntKind.i64.wrap (3 * x1)) + a1))) (w_none rfl) rfl rfl (f_add rfl rfl rfl) ?_
      refine EvK.alloc (w_none rfl) rfl rfl (f_buildSliceF Try.underlying22 el3 (by decide) rfl rfl rfl hF) ?_
      rintro _ h3 ⟨x2, rfl, hF⟩
      refine EvK.run (w_none rfl) rfl rfl (f_appendE (s := s2.1) (x := x2) Try.underlying22 el3 rfl rfl rfl hF) ?_
      rintro _ h4 ⟨x3, rfl, hF⟩
      refine EvK.pure (v := Sl.val x3) (w_none rfl) rfl rfl (f_assign rfl rfl) ?_
      refine EvK.nil ?_
      refine WP.region ?_
      refine EvK.pure (v := .int .i64 s2.2) (w_none rfl) rfl rfl (f_move rfl rfl) ?_
      refine EvK.pure (v := .int .i64 (IntKind.i64.wrap (s2.2 + 1))) (w_none rfl) rfl rfl (f_add rfl rfl rfl) ?_
      refine EvK.pure (v := .int .i64 (IntKind.i64.wrap (s2.2 + 1))) (w_none rfl) rfl rfl (f_assign rfl rfl) ?_
      refine EvK.nil ?_
      exact KE.mk (x3, IntKind.i64.wrap (s2.2 + 1)) ⟨rfl, rfl, rfl, rfl, trivial⟩ hF
    · refine WP.cond_false _ rfl c1 ?_
      refine WP.exit ?_
      exact KE.mk s2.1 ⟨rfl, trivial⟩ hF
end Go.Proofs.Ytgmihbchcmjmdaa

namespace Go.Proofs.Ytgmihbchcmjmdaa
open Go Go.Tr
set_option linter.unusedVariables false
set_option maxRecDepth 100000
set_option maxHeartbeats 400000
def spatelaw11_LocksNamed.b2 (p0 : Int) (p1 : Sl) (p2 : Int) (p7 : Option Addr) (p9 : Option Addr) (p11 : Int) (p12 : Addr) (p13 : Int) (p15 : Sl) (s : Sl × Int) (h : H) (K : (Sl × Int) ⊕ Sl → H → Prop) : Prop :=
  if (decide (s.2 < (p15.len : Int))) = true then
    rd (ixA 2 p15 (IntKind.i64.wrap ((IntKind.i64.wrap ((p15.len : Int) - 1)) - s.2))) fun q3 =>
    rd (ld k31 q3 h) fun x8 =>
    al 32 (k31.enc z31) h fun q4 h27 =>
    rd (st k31 q4 x8 h27) fun h28 =>
    jn (fun (k10 : Unit → H → Prop) =>
      jn (fun (k11 : Bool → H → Prop) =>
        rd (ld (kI .i64) (q4.add 0) h28) fun x14 =>
        if (decide (x14 ≥ 0)) = true then
          rd (ld (kI .i64) (q4.add 0) h28) fun x15 =>
          k11 (decide (x15 < p0)) h28
        else
          k11 false h28) fun s11 h32 =>
      if s11 = true then
        rd (ld (kI .i64) (q4.add 0) h32) fun x12 =>
        rd (remI (IntKind.i64.wrap (x12 + p2)) p0) fun x13 =>
        rd (st (kI .i64) (q4.add 0) x13 h32) fun h33 =>
        k10 () h33
      else
        k10 () h32) fun s10 h29 =>
    rd (ld k31 q4 h29) fun x9 =>
    bs 32 1 (k31.enc x9) h29 fun x10 h30 =>
    ap k31.n 16 32 (k31.enc z31) s.1 x10 h30 fun x11 h31 =>
    K (.inl (x11, IntKind.i64.wrap (s.2 + 1))) h31
  else
    K (.inr s.1) h
def spatelaw11_LocksNamed.b1 (p0 : Int) (p1 : Sl) (p2 : Int) (p7 : Option Addr) (p9 : Option Addr) (s : Int) (h : H) (K : Int ⊕ (Unit ⊕ Bool) → H → Prop) : Prop :=
  jn (fun (k3 : Bool → H → Prop) =>
    if (decide (s < (p1.len : Int))) = true then
      k3 (decide (s < 300)) h
    else
      k3 false h) fun s3 h7 =>
  if s3 = true then
    jn (fun (k4 : Unit → H → Prop) =>
      rd (ixA 3 p1 s) fun q1 =>
      rd (ld k52 q1 h7) fun x1 =>
      al 53 (k52.enc z52) h7 fun q2 h9 =>
      rd (st k52 q2 x1 h9) fun h10 =>
      jn (fun (k5 : Bool → H → Prop) =>
        rd (ld (kI .i64) (q2.add 1) h10) fun x18 =>
        if (decide (x18 < 0)) = true then
          k5 true h10
        else
          rd (ld (kI .i64) (q2.add 1) h10) fun x19 =>
          k5 (decide (x19 > 1099511627776)) h10) fun s5 h11 =>
      if s5 = true then
        k4 () h11
      else
        rd (ld (kI .i64) (q2.add 1) h11) fun x2 =>
        jn (fun (k6 : Unit → H → Prop) =>
          rd (ld (kI .i64) (q2.add 0) h11) fun x5 =>
          if (x5 == 1) = true then
            rd (ld kL (q2.add 2) h11) fun x6 =>
            spatelaw11_set x6 h11 fun r13 h22 =>
            jn (fun (k8 : Sl → H → Prop) =>
              loopE (spatelaw11_LocksNamed.b2 p0 p1 p2 p7 p9 s q2 (IntKind.i64.wrap ((IntKind.i64.wrap (3 * x2)) + p2)) r13) (Sl.nil, 0) h22 (fun r16 hh => k8 r16 hh)) fun s8 h23 =>
            rd (ld (kI .i64) (q2.add 1) h23) fun x7 =>
            locks_Manager_Ask p7 x7 r13 h23 fun r14 h24 =>
            locks_Manager_Ask p9 (IntKind.i64.wrap ((IntKind.i64.wrap (3 * x2)) + p2)) s8 h24 fun r15 h25 =>
            jn (fun (k9 : Bool → H → Prop) =>
              if (!(r14.1 == r15.1)) = true then
                k9 true h25
              else
                k9 (!(r14.2.isNone == r15.2.isNone)) h25) fun s9 h26 =>
            if s9 = true then
              K (.inr (.inr false)) h26
            else
              k6 () h26
          else
            if (x5 == 2) = true then
              rd (ld (kI .i64) (q2.add 1) h11) fun x16 =>
              locks_Manager_Free p7 x16 h11 fun r17 h35 =>
              locks_Manager_Free p9 (IntKind.i64.wrap ((IntKind.i64.wrap (3 * x2)) + p2)) h35 fun r18 h36 =>
              jn (fun (k13 : Bool → H → Prop) =>
                if (!(r17.2.isNone == r18.2.isNone)) = true then
                  k13 true h36
                else
                  spatelaw11_names r17.1 p2 h36 fun r19 h38 =>
                  spatelaw11_SameInts r19 r18.1 h38 fun r20 h39 =>
                  k13 (!r20) h39) fun s13 h37 =>
              if s13 = true then
                K (.inr (.inr false)) h37
              else
                k6 () h37
            else
              if (x5 == 3) = true then
                rd (ld (kI .i64) (q2.add 1) h11) fun x17 =>
                locks_Manager_Quit p7 x17 h11 fun r21 h40 =>
                spatelaw11_names r21 p2 h40 fun r22 h41 =>
                locks_Manager_Quit p9 (IntKind.i64.wrap ((IntKind.i64.wrap (3 * x2)) + p2)) h41 fun r23 h42 =>
                spatelaw11_SameInts r22 r23 h42 fun r24 h43 =>
                if (!r24) = true then
                  K (.inr (.inr false)) h43
                else
                  k6 () h43
              else
                k6 () h11) fun s6 h12 =>
        jn (fun (k7 : Bool → H → Prop) =>
          locks_Manager_Queue p7 h12 fun r5 h14 =>
          spatelaw11_names r5 p2 h14 fun r6 h15 =>
          locks_Manager_Queue p9 h15 fun r7 h16 =>
          spatelaw11_SameInts r6 r7 h16 fun r8 h17 =>
          if (!r8) = true then
            k7 true h17
          else
            rd (ld (kI .i64) (q2.add 1) h17) fun x3 =>
            locks_Manager_Waits p7 x3 h17 fun r9 h18 =>
            locks_Manager_Waits p9 (IntKind.i64.wrap ((IntKind.i64.wrap (3 * x2)) + p2)) h18 fun r10 h19 =>
            if (!(r9 == r10)) = true then
              k7 true h19
            else
              rd (ld (kI .i64) (q2.add 1) h19) fun x4 =>
              locks_Manager_Has p7 x4 h19 fun r11 h20 =>
              locks_Manager_Has p9 (IntKind.i64.wrap ((IntKind.i64.wrap (3 * x2)) + p2)) h20 fun r12 h21 =>
              k7 ((r11.len : Int) != (r12.len : Int)) h21) fun s7 h13 =>
        if s7 = true then
          K (.inr (.inr false)) h13
        else
          k4 () h13) fun s4 h8 =>
    K (.inl (IntKind.i64.wrap (s + 1))) h8
  else
    K (.inr (.inl ())) h7
/-- spate/spatelaw11.LocksNamed -/
def spatelaw11_LocksNamed (a0 : Int) (a1 : Sl) (a2 : Int) (h : H) (Q : Bool → H → Prop) : Prop :=
  spatelaw11_known  h fun r1 h1 =>
  if (!r1) = true then
    Q false h1
  else
    locks_New a0 h1 fun r2 h2 =>
    locks_New a0 h2 fun r3 h3 =>
    jn (fun (k1 : Bool → H → Prop) =>
      if (r2.2 != r3.2) = true then
        k1 true h3
      else
        k1 (!(r2.1.isNone == r3.1.isNone)) h3) fun s1 h4 =>
    if s1 = true then
      Q false h4
    else
      if r2.1.isNone = true then
        Q true h4
      else
        spatelaw11_within a2 1048576 h4 fun r4 h5 =>
        jn (fun (k2 : Unit → H → Prop) =>
          loopE (spatelaw11_LocksNamed.b1 a0 a1 r4 r2.1 r3.1) 0 h5 (sumK (fun r25 hh => k2 r25 hh) (fun r26 hh => Q r26 hh))) fun s2 h6 =>
        Q true h6
theorem spatelaw11_LocksNamed.sound {a0 : Int} {a1 : Sl} {a2 : Int} {h : H} {Q : Bool → H → Prop} (hF : spatelaw11_LocksNamed a0 a1 a2 h Q) :
    CallsH Try.prog 7 (List.toArray (α := Value) [.int .i64 a0, Sl.val a1, .int .i64 a2]) h fun v h' => ∃ x : Bool, v = .bool x ∧ Q x h' := by
  refine CallsH.of_body Try.func7 rfl 216 rfl rfl ?_
  refine WP.seq ?_
  refine WP.region ?_
  refine EvK.pure (v := .bool false) (w_none rfl) rfl rfl (f_assign rfl rfl) ?_
  refine EvK.nil ?_
  refine WP.seq ?_
  refine WP.seq ?_
  refine WP.region ?_
  refine EvK.call (w_none rfl) rfl rfl (enterH Try.func10 rfl rfl rfl rfl (spatelaw11_known.sound hF)) ?_
  rintro _ h1 ⟨r1, rfl, hF⟩
  refine EvK.pure (v := .bool (!r1)) (w_none rfl) rfl rfl (f_not rfl rfl) ?_
  refine EvK.nil ?_
  rcases ite_inv hF with ⟨c1, hF⟩ | ⟨c1, hF⟩
  · refine WP.cond_true _ rfl c1 ?_
    refine WP.seq ?_
    refine WP.region ?_
    refine EvK.pure (v := .bool false) (w_none rfl) rfl rfl (f_assign rfl rfl) ?_
    refine EvK.nil ?_
    refine WP.ret ?_
    exact Ret.mk (vs := [.bool false]) false ⟨rfl, trivial⟩ rfl hF
  · refine WP.cond_false _ rfl c1 ?_
    refine WP.skip ?_
    refine WP.seq ?_
    refine WP.region ?_
    refine EvK.pure (v := .int .i64 a0) (w_none rfl) rfl rfl (f_move rfl rfl) ?_
    refine EvK.call (w_none rfl) rfl rfl (enterH Try.func12 rfl rfl rfl rfl (locks_New.sound hF)) ?_
    rintro _ h2 ⟨r2, rfl, hF⟩
    refine EvK.pure (v := .tuple #[.pointer r2.1, .int .i64 r2.2]) (w_none rfl) rfl rfl (f_move rfl rfl) ?_
    refine EvK.pure (v := .pointer r2.1) (w_none rfl) rfl rfl (f_extract (vs := #[.pointer r2.1, .int .i64 r2.2]) rfl rfl rfl) ?_
    refine EvK.pure (v := .int .i64 r2.2) (w_none rfl) rfl rfl (f_extract (vs := #[.pointer r2.1, .int .i64 r2.2]) rfl rfl rfl) ?_
    refine EvK.pure (v := .pointer r2.1) (w_none rfl) rfl rfl (f_assign rfl rfl) ?_
    refine EvK.pure (v := .int .i64 r2.2) (w_none rfl) rfl rfl (f_assign rfl rfl) ?_
    refine EvK.nil ?_
    refine WP.seq ?_
    refine WP.region ?_
    refine EvK.pure (v := .int .i64 a0) (w_none rfl) rfl rfl (f_move rfl rfl) ?_
    refine EvK.call (w_none rfl) rfl rfl (enterH Try.func12 rfl rfl rfl rfl (locks_New.sound hF)) ?_
    rintro _ h3 ⟨r3, rfl, hF⟩
    refine EvK.pure (v := .tuple #[.pointer r3.1, .int .i64 r3.2]) (w_none rfl) rfl rfl (f_move rfl rfl) ?_
    refine EvK.pure (v := .pointer r3.1) (w_none rfl) rfl rfl (f_extract (vs := #[.pointer r3.1, .int .i64 r3.2]) rfl rfl rfl) ?_
    refine EvK.pure (v := .int .i64 r3.2) (w_none rfl) rfl rfl (f_extract (vs := #[.pointer r3.1, .int .i64 r3.2]) rfl rfl rfl) ?_
    refine EvK.pure (v := .pointer r3.1) (w_none rfl) rfl rfl (f_assign rfl rfl) ?_
    refine EvK.pure (v := .int .i64 r3.2) (w_none rfl) rfl rfl (f_assign rfl rfl) ?_
    refine EvK.nil ?_
    refine WP.seq ?_
    refine WP.joinF (fun (s1 : Bool) => [(47, .bool s1), (0, .int .i64 a0), (1, Sl.val a1), (2, .int .i64 a2), (7, .pointer r2.1), (9, .pointer r3.1)]) hF ?_ ?_
    · intro s1 E0 h4 hF
      rcases ite_inv hF with ⟨c2, hF⟩ | ⟨c2, hF⟩
      · refine WP.cond_true _ rfl c2 ?_
        refine WP.seq ?_
        refine WP.region ?_
        refine EvK.pure (v := .bool false) (w_none rfl) rfl rfl (f_assign rfl rfl) ?_
        refine EvK.nil ?_
        refine WP.ret ?_
        exact Ret.mk (vs := [.bool false]) false ⟨rfl, trivial⟩ rfl hF
      · refine WP.cond_false _ rfl c2 ?_
        refine WP.skip ?_
        refine WP.seq ?_
        refine WP.seq ?_
        refine WP.region ?_
        refine EvK.pure (v := .pointer r2.1) (w_none rfl) rfl rfl (f_move rfl rfl) ?_
        refine EvK.pure (v := .bool r2.1.isNone) (w_none rfl) rfl rfl (f_peqln Try.underlying25 rfl rfl rfl) ?_
        refine EvK.nil ?_
        rcases ite_inv hF with ⟨c3, hF⟩ | ⟨c3, hF⟩
        · refine WP.cond_true _ rfl c3 ?_
          refine WP.seq ?_
          refine WP.region ?_
          refine EvK.pure (v := .bool true) (w_none rfl) rfl rfl (f_assign rfl rfl) ?_
          refine EvK.nil ?_
          refine WP.ret ?_
          exact Ret.mk (vs := [.bool true]) true ⟨rfl, trivial⟩ rfl hF
        · refine WP.cond_false _ rfl c3 ?_
          refine WP.skip ?_
          refine WP.seq ?_
          refine WP.region ?_
          refine EvK.pure (v := .int .i64 a2) (w_none rfl) rfl rfl (f_move rfl rfl) ?_
          refine EvK.call (w_none rfl) rfl rfl (enterH Try.func11 rfl rfl rfl rfl (spatelaw11_within.sound hF)) ?_
          rintro _ h5 ⟨r4, rfl, hF⟩
          refine EvK.pure (v := .int .i64 r4) (w_none rfl) rfl rfl (f_assign rfl rfl) ?_
          refine EvK.nil ?_
          refine WP.joinF (fun (s2 : Unit) => []) hF ?_ ?_
          · intro s2 E0 h6 hF
            refine WP.seq ?_
            refine WP.region ?_
            refine EvK.pure (v := .bool true) (w_none rfl) rfl rfl (f_assign rfl rfl) ?_
            refine EvK.nil ?_
            refine WP.ret ?_
            exact Ret.mk (vs := [.bool true]) true ⟨rfl, trivial⟩ rfl hF
          · intro k2 hF
            refine WP.seq ?_
            refine WP.region ?_
            refine EvK.pure (v := .int .i64 0) (w_none rfl) rfl rfl (f_assign rfl rfl) ?_
            refine EvK.nil ?_
            refine WP.block ?_
            refine WP.loopF (fun (s3 : Int) => [(11, .int .i64 s3), (0, .int .i64 a0), (1, Sl.val a1), (2, .int .i64 r4), (7, .pointer r2.1), (9, .pointer r3.1)]) hF ⟨rfl, rfl, rfl, rfl, rfl, rfl, trivial⟩ ?_
            intro k3 s3 E0 h7 hF
            refine WP.seq ?_
            refine WP.joinF (fun (s4 : Bool) => [(59, .bool s4), (0, .int .i64 a0), (1, Sl.val a1), (2, .int .i64 r4), (7, .pointer r2.1), (9, .pointer r3.1), (11, .int .i64 s3)]) hF ?_ ?_
            · intro s4 E0 h8 hF
              rcases ite_inv hF with ⟨c4, hF⟩ | ⟨c4, hF⟩
              · refine WP.cond_true _ rfl c4 ?_
                refine WP.skip ?_
                refine WP.joinF (fun (s5 : Unit) => [(0, .int .i64 a0), (1, Sl.val a1), (2, .int .i64 r4), (7, .pointer r2.1), (9, .pointer r3.1), (11, .int .i64 s3)]) hF ?_ ?_
                · intro s5 E0 h9 hF
                  refine WP.region ?_
                  refine EvK.pure (v := .int .i64 s3) (w_none rfl) rfl rfl (f_move rfl rfl) ?_
                  refine EvK.pure (v := .int .i64 (IntKind.i64.wrap (s3 + 1))) (w_none rfl) rfl rfl (f_add rfl rfl rfl) ?_
                  refine EvK.pure (v := .int .i64 (IntKind.i64.wrap (s3 + 1))) (w_none rfl) rfl rfl (f_assign rfl rfl) ?_
                  refine EvK.nil ?_
                  exact KE.mk (IntKind.i64.wrap (s3 + 1)) ⟨rfl, rfl, rfl, rfl, rfl, rfl, trivial⟩ hF
                · intro k5 hF
                  refine WP.block ?_
                  refine WP.seq ?_
                  refine WP.region ?_
                  refine EvK.pure (v := Sl.val a1) (w_none rfl) rfl rfl (f_move rfl rfl) ?_
                  refine EvK.pure (v := .int .i64 s3) (w_none rfl) rfl rfl (f_move rfl rfl) ?_
                  obtain ⟨q1, hq1, hF⟩ := hF
                  refine EvK.pure (v := .pointer (some q1)) (w_none rfl) rfl rfl (f_indexAddr (s := a1) Try.underlying47 ty53.size rfl rfl rfl hq1) ?_
                  obtain ⟨x1, hx1, hF⟩ := hF
                  refine EvK.read (v := k52.val x1) (w_none rfl) rfl rfl (f_load k52 ty53 rfl rfl hx1 rfl) ?_
                  refine EvK.alloc (w_none rfl) rfl rfl (f_allocF zero53 rfl rfl hF) ?_
                  rintro _ h10 ⟨q2, rfl, hF⟩
                  obtain ⟨h11, hs1, hF⟩ := hF
                  refine EvK.runN (w_none rfl) rfl (f_store k52 ty53.size (z := x1) rfl rfl rfl hs1) ?_
                  rintro _ _ ⟨rfl, rfl⟩
                  refine EvK.nil ?_
                  refine WP.seq ?_
                  refine WP.joinF (fun (s6 : Bool) => [(73, .bool s6), (0, .int .i64 a0), (1, Sl.val a1), (2, .int .i64 r4), (7, .pointer r2.1), (9, .pointer r3.1), (11, .int .i64 s3), (12, .pointer (some q2))]) hF ?_ ?_
                  · intro s6 E0 h12 hF
                    rcases ite_inv hF with ⟨c5, hF⟩ | ⟨c5, hF⟩
                    · refine WP.cond_true _ rfl c5 ?_
                      refine WP.exit ?_
                      exact KE.mk () ⟨rfl, rfl, rfl, rfl, rfl, rfl, trivial⟩ hF
                    · refine WP.cond_false _ rfl c5 ?_
                      refine WP.skip ?_
                      refine WP.seq ?_
                      refine WP.region ?_
                      refine EvK.pure (v := .pointer (some (q2.add 1))) (w_none rfl) rfl rfl (f_fieldAddr fd53_1 rfl rfl) ?_
                      obtain ⟨x2, hx2, hF⟩ := hF
                      refine EvK.read (v := .int .i64 x2) (w_none rfl) rfl rfl (f_load (kI .i64) ty3 rfl rfl hx2 rfl) ?_
                      refine EvK.pure (v := .int .i64 (IntKind.i64.wrap (3 * x2))) (w_none rfl) rfl rfl (f_mul rfl rfl rfl) ?_
                      refine EvK.pure (v := .int .i64 r4) (w_none rfl) rfl rfl (f_move rfl rfl) ?_
                      refine EvK.pure (v := .int .i64 (IntKind.i64.wrap ((IntKind.i64.wrap (3 * x2)) + r4))) (w_none rfl) rfl rfl (f_add rfl rfl rfl) ?_
                      refine EvK.pure (v := .int .i64 (IntKind.i64.wrap ((IntKind.i64.wrap (3 * x2)) + r4))) (w_none rfl) rfl rfl (f_assign rfl rfl) ?_
                      refine EvK.nil ?_
                      refine WP.joinF (fun (s7 : Unit) => [(0, .int .i64 a0), (1, Sl.val a1), (2, .int .i64 r4), (7, .pointer r2.1), (9, .pointer r3.1), (11, .int .i64 s3), (12, .pointer (some q2)), (13, .int .i64 (IntKind.i64.wrap ((IntKind.i64.wrap (3 * x2)) + r4)))]) hF ?_ ?_
                      · intro s7 E0 h13 hF
                        refine WP.joinF (fun (s8 : Bool) => [(215, .bool s8), (0, .int .i64 a0), (1, Sl.val a1), (2, .int .i64 r4), (7, .pointer r2.1), (9, .pointer r3.1), (11, .int .i64 s3)]) hF ?_ ?_
                        · intro s8 E0 h14 hF
                          rcases ite_inv hF with ⟨c6, hF⟩ | ⟨c6, hF⟩
                          · refine WP.cond_true _ rfl c6 ?_
                            refine WP.seq ?_
                            refine WP.region ?_
                            refine EvK.pure (v := .bool false) (w_none rfl) rfl rfl (f_assign rfl rfl) ?_
                            refine EvK.nil ?_
                            refine WP.ret ?_
                            exact Ret.mk (vs := [.bool false]) false ⟨rfl, trivial⟩ rfl hF
                          · refine WP.cond_false _ rfl c6 ?_
                            refine WP.skip ?_
                            exact KE.mk () ⟨rfl, rfl, rfl, rfl, rfl, rfl, trivial⟩ hF
                        · intro k8 hF
                          refine WP.region ?_
                          refine EvK.pure (v := .pointer r2.1) (w_none rfl) rfl rfl (f_move rfl rfl) ?_
                          refine EvK.call (w_none rfl) rfl rfl (enterH Try.func20 rfl rfl rfl rfl (locks_Manager_Queue.sound hF)) ?_
                          rintro _ h15 ⟨r5, rfl, hF⟩
                          refine EvK.pure (v := .int .i64 r4) (w_none rfl) rfl rfl (f_move rfl rfl) ?_
                          refine EvK.call (w_none rfl) rfl rfl (enterH Try.func33 rfl rfl rfl rfl (spatelaw11_names.sound hF)) ?_
                          rintro _ h16 ⟨r6, rfl, hF⟩
                          refine EvK.pure (v := .pointer r3.1) (w_none rfl) rfl rfl (f_move rfl rfl) ?_
                          refine EvK.call (w_none rfl) rfl rfl (enterH Try.func20 rfl rfl rfl rfl (locks_Manager_Queue.sound hF)) ?_
                          rintro _ h17 ⟨r7, rfl, hF⟩
                          refine EvK.call (w_none rfl) rfl rfl (enterH Try.func19 rfl rfl rfl rfl (spatelaw11_SameInts.sound hF)) ?_
                          rintro _ h18 ⟨r8, rfl, hF⟩
                          refine EvK.pure (v := .bool (!r8)) (w_none rfl) rfl rfl (f_not rfl rfl) ?_
                          refine EvK.pure (v := .bool (!r8)) (w_none rfl) rfl rfl (f_move rfl rfl) ?_
                          rcases ite_inv hF with ⟨c7, hF⟩ | ⟨c7, hF⟩
                          · refine EvK.not (w_not rfl rfl c7) rfl rfl ?_
                            refine EvK.not (w_not rfl rfl c7) rfl rfl ?_
                            refine EvK.not (w_not rfl rfl c7) rfl rfl ?_
                            refine EvK.not (w_not rfl rfl c7) rfl rfl ?_
                            refine EvK.not (w_not rfl rfl c7) rfl rfl ?_
                            refine EvK.not (w_not rfl rfl c7) rfl rfl ?_
                            refine EvK.not (w_not rfl rfl c7) rfl rfl ?_
                            refine EvK.not (w_not rfl rfl c7) rfl rfl ?_
                            refine EvK.pure (v := .bool true) (w_none rfl) rfl rfl (f_pickT rfl rfl c7 rfl) ?_
                            refine EvK.pure (v := .bool true) (w_none rfl) rfl rfl (f_move rfl rfl) ?_
                            refine EvK.not (w_not rfl rfl rfl) rfl rfl ?_
                            refine EvK.not (w_not rfl rfl rfl) rfl rfl ?_
                            refine EvK.not (w_not rfl rfl rfl) rfl rfl ?_
                            refine EvK.not (w_not rfl rfl rfl) rfl rfl ?_
                            refine EvK.not (w_not rfl rfl rfl) rfl rfl ?_
                            refine EvK.not (w_not rfl rfl rfl) rfl rfl ?_
                            refine EvK.not (w_not rfl rfl rfl) rfl rfl ?_
                            refine EvK.not (w_not rfl rfl rfl) rfl rfl ?_
                            refine EvK.not (w_not rfl rfl rfl) rfl rfl ?_
                            refine EvK.not (w_not rfl rfl rfl) rfl rfl ?_
                            refine EvK.pure (v := .bool true) (w_none rfl) rfl rfl (f_pickT rfl rfl rfl rfl) ?_
                            refine EvK.nil ?_
                            exact KE.mk true ⟨rfl, rfl, rfl, rfl, rfl, rfl, rfl, trivial⟩ hF
                          · refine EvK.pure (v := .pointer r2.1) (w_some rfl rfl c7) rfl rfl (f_move rfl rfl) ?_
                            refine EvK.pure (v := .pointer (some (q2.add 1))) (w_some rfl rfl c7) rfl rfl (f_fieldAddr fd53_1 rfl rfl) ?_
                            obtain ⟨x3, hx3, hF⟩ := hF
                            refine EvK.read (v := .int .i64 x3) (w_some rfl rfl c7) rfl rfl (f_load (kI .i64) ty3 rfl rfl hx3 rfl) ?_
                            refine EvK.call (w_some rfl rfl c7) rfl rfl (enterH Try.func32 rfl rfl rfl rfl (locks_Manager_Waits.sound hF)) ?_
                            rintro _ h19 ⟨r9, rfl, hF⟩
                            refine EvK.pure (v := .pointer r3.1) (w_some rfl rfl c7) rfl rfl (f_move rfl rfl) ?_
                            refine EvK.pure (v := .int .i64 (IntKind.i64.wrap ((IntKind.i64.wrap (3 * x2)) + r4))) (w_some rfl rfl c7) rfl rfl (f_move rfl rfl) ?_
                            refine EvK.call (w_some rfl rfl c7) rfl rfl (enterH Try.func32 rfl rfl rfl rfl (locks_Manager_Waits.sound hF)) ?_
                            rintro _ h20 ⟨r10, rfl, hF⟩
                            refine EvK.pure (v := .bool (!(r9 == r10))) (w_some rfl rfl c7) rfl rfl (f_bneq Try.underlying4 rfl rfl rfl) ?_
                            refine EvK.pure (v := .bool (!(r9 == r10))) (w_none rfl) rfl rfl (f_pickF rfl rfl c7 rfl) ?_
                            refine EvK.pure (v := .bool (!(r9 == r10))) (w_none rfl) rfl rfl (f_move rfl rfl) ?_
                            rcases ite_inv hF with ⟨c8, hF⟩ | ⟨c8, hF⟩
                            · refine EvK.not (w_not rfl rfl c8) rfl rfl ?_
                              refine EvK.not (w_not rfl rfl c8) rfl rfl ?_
                              refine EvK.not (w_not rfl rfl c8) rfl rfl ?_
                              refine EvK.not (w_not rfl rfl c8) rfl rfl ?_
                              refine EvK.not (w_not rfl rfl c8) rfl rfl ?_
                              refine EvK.not (w_not rfl rfl c8) rfl rfl ?_
                              refine EvK.not (w_not rfl rfl c8) rfl rfl ?_
                              refine EvK.not (w_not rfl rfl c8) rfl rfl ?_
                              refine EvK.not (w_not rfl rfl c8) rfl rfl ?_
                              refine EvK.not (w_not rfl rfl c8) rfl rfl ?_
                              refine EvK.pure (v := .bool true) (w_none rfl) rfl rfl (f_pickT rfl rfl c8 rfl) ?_
                              refine EvK.nil ?_
                              exact KE.mk true ⟨rfl, rfl, rfl, rfl, rfl, rfl, rfl, trivial⟩ hF
                            · refine EvK.pure (v := .pointer r2.1) (w_some rfl rfl c8) rfl rfl (f_move rfl rfl) ?_
                              refine EvK.pure (v := .pointer (some (q2.add 1))) (w_some rfl rfl c8) rfl rfl (f_fieldAddr fd53_1 rfl rfl) ?_
                              obtain ⟨x4, hx4, hF⟩ := hF
                              refine EvK.read (v := .int .i64 x4) (w_some rfl rfl c8) rfl rfl (f_load (kI .i64) ty3 rfl rfl hx4 rfl) ?_
                              refine EvK.call (w_some rfl rfl c8) rfl rfl (enterH Try.func16 rfl rfl rfl rfl (locks_Manager_Has.sound hF)) ?_
                              rintro _ h21 ⟨r11, rfl, hF⟩
                              refine EvK.pure (v := .int .i64 (r11.len : Int)) (w_some rfl rfl c8) rfl rfl (f_lenL (s := r11) Try.underlying30 rfl rfl) ?_
                              refine EvK.pure (v := .pointer r3.1) (w_some rfl rfl c8) rfl rfl (f_move rfl rfl) ?_
                              refine EvK.pure (v := .int .i64 (IntKind.i64.wrap ((IntKind.i64.wrap (3 * x2)) + r4))) (w_some rfl rfl c8) rfl rfl (f_move rfl rfl) ?_
                              refine EvK.call (w_some rfl rfl c8) rfl rfl (enterH Try.func16 rfl rfl rfl rfl (locks_Manager_Has.sound hF)) ?_
                              rintro _ h22 ⟨r12, rfl, hF⟩
                              refine EvK.pure (v := .int .i64 (r12.len : Int)) (w_some rfl rfl c8) rfl rfl (f_lenL (s := r12) Try.underlying30 rfl rfl) ?_
                              refine EvK.pure (v := .bool ((r11.len : Int) != (r12.len : Int))) (w_some rfl rfl c8) rfl rfl (f_neq rfl rfl rfl) ?_
                              refine EvK.pure (v := .bool ((r11.len : Int) != (r12.len : Int))) (w_none rfl) rfl rfl (f_pickF rfl rfl c8 rfl) ?_
                              refine EvK.nil ?_
                              exact KE.mk ((r11.len : Int) != (r12.len : Int)) ⟨rfl, rfl, rfl, rfl, rfl, rfl, rfl, trivial⟩ hF
                      · intro k7 hF
                        refine WP.seq ?_
                        refine WP.region ?_
                        refine EvK.pure (v := .pointer (some (q2.add 0))) (w_none rfl) rfl rfl (f_fieldAddr fd53_0 rfl rfl) ?_
                        obtain ⟨x5, hx5, hF⟩ := hF
                        refine EvK.read (v := .int .i64 x5) (w_none rfl) rfl rfl (f_load (kI .i64) ty3 rfl rfl hx5 rfl) ?_
                        refine EvK.nil ?_
                        refine WP.block ?_
                        refine WP.seq ?_
                        refine WP.region ?_
                        refine EvK.pure (v := .bool (x5 == 1)) (w_none rfl) rfl rfl (f_eql rfl rfl rfl) ?_
                        refine EvK.pure (v := .bool (x5 == 1)) (w_none rfl) rfl rfl (f_assign rfl rfl) ?_
                        refine EvK.nil ?_
                        rcases ite_inv hF with ⟨c9, hF⟩ | ⟨c9, hF⟩
                        · refine WP.cond_true _ rfl c9 ?_
                          refine WP.seq ?_
                          refine WP.region ?_
                          refine EvK.pure (v := Sl.val Sl.nil) (w_none rfl) rfl rfl (f_assign rfl rfl) ?_
                          refine EvK.nil ?_
                          refine WP.seq ?_
                          refine WP.region ?_
                          refine EvK.pure (v := .pointer (some (q2.add 2))) (w_none rfl) rfl rfl (f_fieldAddr fd53_2 rfl rfl) ?_
                          obtain ⟨x6, hx6, hF⟩ := hF
                          refine EvK.read (v := Sl.val x6) (w_none rfl) rfl rfl (f_load kL ty30 rfl rfl hx6 rfl) ?_
                          refine EvK.call (w_none rfl) rfl rfl (enterH Try.func25 rfl rfl rfl rfl (spatelaw11_set.sound hF)) ?_
                          rintro _ h23 ⟨r13, rfl, hF⟩
                          refine EvK.pure (v := Sl.val r13) (w_none rfl) rfl rfl (f_assign rfl rfl) ?_
                          refine EvK.nil ?_
                          refine WP.joinF (fun (s9 : Sl) => [(14, Sl.val s9), (0, .int .i64 a0), (1, Sl.val a1), (2, .int .i64 r4), (7, .pointer r2.1), (9, .pointer r3.1), (11, .int .i64 s3), (12, .pointer (some q2)), (13, .int .i64 (IntKind.i64.wrap ((IntKind.i64.wrap (3 * x2)) + r4))), (15, Sl.val r13)]) hF ?_ ?_
                          · intro s9 E0 h24 hF
                            refine WP.seq ?_
                            refine WP.region ?_
                            refine EvK.pure (v := .pointer r2.1) (w_none rfl) rfl rfl (f_move rfl rfl) ?_
                            refine EvK.pure (v := .pointer (some (q2.add 1))) (w_none rfl) rfl rfl (f_fieldAddr fd53_1 rfl rfl) ?_
                            obtain ⟨x7, hx7, hF⟩ := hF
                            refine EvK.read (v := .int .i64 x7) (w_none rfl) rfl rfl (f_load (kI .i64) ty3 rfl rfl hx7 rfl) ?_
                            refine EvK.pure (v := Sl.val r13) (w_none rfl) rfl rfl (f_move rfl rfl) ?_
                            refine EvK.call (w_none rfl) rfl rfl (enterH Try.func14 rfl rfl rfl rfl (locks_Manager_Ask.sound hF)) ?_
                            rintro _ h25 ⟨r14, rfl, hF⟩
                            refine EvK.pure (v := .tuple #[.bool r14.1, IF.val r14.2]) (w_none rfl) rfl rfl (f_move rfl rfl) ?_
                            refine EvK.pure (v := .bool r14.1) (w_none rfl) rfl rfl (f_extract (vs := #[.bool r14.1, IF.val r14.2]) rfl rfl rfl) ?_
                            refine EvK.pure (v := IF.val r14.2) (w_none rfl) rfl rfl (f_extract (vs := #[.bool r14.1, IF.val r14.2]) rfl rfl rfl) ?_
                            refine EvK.pure (v := .bool r14.1) (w_none rfl) rfl rfl (f_assign rfl rfl) ?_
                            refine EvK.pure (v := IF.val r14.2) (w_none rfl) rfl rfl (f_assign rfl rfl) ?_
                            refine EvK.nil ?_
                            refine WP.seq ?_
                            refine WP.region ?_
                            refine EvK.pure (v := .pointer r3.1) (w_none rfl) rfl rfl (f_move rfl rfl) ?_
                            refine EvK.pure (v := .int .i64 (IntKind.i64.wrap ((IntKind.i64.wrap (3 * x2)) + r4))) (w_none rfl) rfl rfl (f_move rfl rfl) ?_
                            refine EvK.pure (v := Sl.val s9) (w_none rfl) rfl rfl (f_move rfl rfl) ?_
                            refine EvK.call (w_none rfl) rfl rfl (enterH Try.func14 rfl rfl rfl rfl (locks_Manager_Ask.sound hF)) ?_
                            rintro _ h26 ⟨r15, rfl, hF⟩
                            refine EvK.pure (v := .tuple #[.bool r15.1, IF.val r15.2]) (w_none rfl) rfl rfl (f_move rfl rfl) ?_
                            refine EvK.pure (v := .bool r15.1) (w_none rfl) rfl rfl (f_extract (vs := #[.bool r15.1, IF.val r15.2]) rfl rfl rfl) ?_
                            refine EvK.pure (v := IF.val r15.2) (w_none rfl) rfl rfl (f_extract (vs := #[.bool r15.1, IF.val r15.2]) rfl rfl rfl) ?_
                            refine EvK.pure (v := .bool r15.1) (w_none rfl) rfl rfl (f_assign rfl rfl) ?_
                            refine EvK.pure (v := IF.val r15.2) (w_none rfl) rfl rfl (f_assign rfl rfl) ?_
                            refine EvK.nil ?_
                            refine WP.joinF (fun (s10 : Bool) => [(144, .bool s10), (0, .int .i64 a0), (1, Sl.val a1), (2, .int .i64 r4), (7, .pointer r2.1), (9, .pointer r3.1), (11, .int .i64 s3), (12, .pointer (some q2)), (13, .int .i64 (IntKind.i64.wrap ((IntKind.i64.wrap (3 * x2)) + r4)))]) hF ?_ ?_
                            · intro s10 E0 h27 hF
                              rcases ite_inv hF with ⟨c10, hF⟩ | ⟨c10, hF⟩
                              · refine WP.cond_true _ rfl c10 ?_
                                refine WP.seq ?_
                                refine WP.region ?_
                                refine EvK.pure (v := .bool false) (w_none rfl) rfl rfl (f_assign rfl rfl) ?_
                                refine EvK.nil ?_
                                refine WP.ret ?_
                                exact Ret.mk (vs := [.bool false]) false ⟨rfl, trivial⟩ rfl hF
                              · refine WP.cond_false _ rfl c10 ?_
                                refine WP.skip ?_
                                exact KE.mk () ⟨rfl, rfl, rfl, rfl, rfl, rfl, rfl, rfl, trivial⟩ hF
                            · intro k10 hF
                              refine WP.draw mixed [.pure, .pure, .pure, .pure, .pure, .pure, .pure, .pure, .pure, .pure] [[], [], [0, 1], [0, 1, 2], [0, 1, 2, 3], [0, 1, 2, 3, 4], [0, 1, 2, 3], [0, 1, 2, 3, 6], [0, 1, 2, 3, 4, 5, 6, 7], [0, 1, 2, 3, 4, 5, 6, 7, 8]] [0, 1, 2, 3, 4, 5, 6, 7, 8, 9] (by kernel_rfl) (by kernel_rfl) ?_
                              refine EvI.pure (v := .bool r14.1) rfl rfl (w_none rfl) rfl (f_move rfl rfl) ?_
                              refine EvI.pure (v := .bool r15.1) rfl rfl (w_none rfl) rfl (f_move rfl rfl) ?_
                              refine EvI.pure (v := .bool (!(r14.1 == r15.1))) rfl rfl (w_none rfl) rfl (f_bneq Try.underlying4 rfl rfl rfl) ?_
                              refine EvI.pure (v := .bool (!(r14.1 == r15.1))) rfl rfl (w_none rfl) rfl (f_move rfl rfl) ?_
                              rcases ite_inv hF with ⟨c11, hF⟩ | ⟨c11, hF⟩
                              · refine EvI.not rfl (w_not rfl rfl c11) rfl ?_
                                refine EvI.not rfl (w_not rfl rfl c11) rfl ?_
                                refine EvI.not rfl (w_not rfl rfl c11) rfl ?_
                                refine EvI.not rfl (w_not rfl rfl c11) rfl ?_
                                refine EvI.not rfl (w_not rfl rfl c11) rfl ?_
                                refine EvI.pure (v := .bool true) rfl rfl (w_none rfl) rfl (f_pickT rfl rfl c11 rfl) ?_
                                refine EvI.nil ?_
                                exact KE.mk true ⟨rfl, rfl, rfl, rfl, rfl, rfl, rfl, rfl, rfl, trivial⟩ hF
                              · refine EvI.pure (v := IF.val r14.2) rfl rfl (w_some rfl rfl c11) rfl (f_move rfl rfl) ?_
                                refine EvI.pure (v := .bool r14.2.isNone) rfl rfl (w_some rfl rfl c11) rfl (f_ieqln (a := r14.2) Try.underlying37 rfl rfl) ?_
                                refine EvI.pure (v := IF.val r15.2) rfl rfl (w_some rfl rfl c11) rfl (f_move rfl rfl) ?_
                                refine EvI.pure (v := .bool r15.2.isNone) rfl rfl (w_some rfl rfl c11) rfl (f_ieqln (a := r15.2) Try.underlying37 rfl rfl) ?_
                                refine EvI.pure (v := .bool (!(r14.2.isNone == r15.2.isNone))) rfl rfl (w_some rfl rfl c11) rfl (f_bneq Try.underlying4 rfl rfl rfl) ?_
                                refine EvI.pure (v := .bool (!(r14.2.isNone == r15.2.isNone))) rfl rfl (w_none rfl) rfl (f_pickF rfl rfl c11 rfl) ?_
                                refine EvI.nil ?_
                                exact KE.mk (!(r14.2.isNone == r15.2.isNone)) ⟨rfl, rfl, rfl, rfl, rfl, rfl, rfl, rfl, rfl, trivial⟩ hF
                          · intro k9 hF
                            refine WP.seq ?_
                            refine WP.region ?_
                            refine EvK.pure (v := .int .i64 0) (w_none rfl) rfl rfl (f_assign rfl rfl) ?_
                            refine EvK.nil ?_
                            refine WP.block ?_
                            refine WP.loopF (fun (s11 : Sl × Int) => [(14, Sl.val s11.1), (16, .int .i64 s11.2), (0, .int .i64 a0), (1, Sl.val a1), (2, .int .i64 r4), (7, .pointer r2.1), (9, .pointer r3.1), (11, .int .i64 s3), (12, .pointer (some q2)), (13, .int .i64 (IntKind.i64.wrap ((IntKind.i64.wrap (3 * x2)) + r4))), (15, Sl.val r13)]) hF ⟨rfl, rfl, rfl, rfl, rfl, rfl, rfl, rfl, rfl, rfl, rfl, trivial⟩ ?_
                            intro k11 s11 E0 h28 hF
                            refine WP.seq ?_
                            refine WP.seq ?_
                            refine WP.region ?_
                            refine EvK.pure (v := .int .i64 s11.2) (w_none rfl) rfl rfl (f_move rfl rfl) ?_
                            refine EvK.pure (v := Sl.val r13) (w_none rfl) rfl rfl (f_move rfl rfl) ?_
                            refine EvK.pure (v := .int .i64 (r13.len : Int)) (w_none rfl) rfl rfl (f_lenL (s := r13) Try.underlying30 rfl rfl) ?_
                            refine EvK.pure (v := .bool (decide (s11.2 < (r13.len : Int)))) (w_none rfl) rfl rfl (f_lss rfl rfl rfl) ?_
                            refine EvK.nil ?_
                            rcases ite_inv hF with ⟨c12, hF⟩ | ⟨c12, hF⟩
                            · refine WP.cond_true _ rfl c12 ?_
                              refine WP.skip ?_
                              refine WP.seq ?_
                              refine WP.block ?_
                              refine WP.seq ?_
                              refine WP.region ?_
                              refine EvK.pure (v := Sl.val r13) (w_none rfl) rfl rfl (f_move rfl rfl) ?_
                              refine EvK.pure (v := Sl.val r13) (w_none rfl) rfl rfl (f_move rfl rfl) ?_
                              refine EvK.pure (v := .int .i64 (r13.len : Int)) (w_none rfl) rfl rfl (f_lenL (s := r13) Try.underlying30 rfl rfl) ?_
                              refine EvK.pure (v := .int .i64 (IntKind.i64.wrap ((r13.len : Int) - 1))) (w_none rfl) rfl rfl (f_sub rfl rfl rfl) ?_
                              refine EvK.pure (v := .int .i64 s11.2) (w_none rfl) rfl rfl (f_move rfl rfl) ?_
                              refine EvK.pure (v := .int .i64 (IntKind.i64.wrap ((IntKind.i64.wrap ((r13.len : Int) - 1)) - s11.2))) (w_none rfl) rfl rfl (f_sub rfl rfl rfl) ?_
                              obtain ⟨q3, hq2, hF⟩ := hF
                              refine EvK.pure (v := .pointer (some q3)) (w_none rfl) rfl rfl (f_indexAddr (s := r13) Try.underlying30 ty32.size rfl rfl rfl hq2) ?_
                              obtain ⟨x8, hx8, hF⟩ := hF
                              refine EvK.read (v := k31.val x8) (w_none rfl) rfl rfl (f_load k31 ty32 rfl rfl hx8 rfl) ?_
                              refine EvK.alloc (w_none rfl) rfl rfl (f_allocF zero32 rfl rfl hF) ?_
                              rintro _ h29 ⟨q4, rfl, hF⟩
                              obtain ⟨h30, hs2, hF⟩ := hF
                              refine EvK.runN (w_none rfl) rfl (f_store k31 ty32.size (z := x8) rfl rfl rfl hs2) ?_
                              rintro _ _ ⟨rfl, rfl⟩
                              refine EvK.nil ?_
                              refine WP.joinF (fun (s12 : Unit) => [(0, .int .i64 a0), (1, Sl.val a1), (2, .int .i64 r4), (7, .pointer r2.1), (9, .pointer r3.1), (11, .int .i64 s3), (12, .pointer (some q2)), (13, .int .i64 (IntKind.i64.wrap ((IntKind.i64.wrap (3 * x2)) + r4))), (14, Sl.val s11.1), (15, Sl.val r13), (16, .int .i64 s11.2), (17, .pointer (some q4))]) hF ?_ ?_
                              · intro s12 E0 h31 hF
                                refine WP.region ?_
                                refine EvK.pure (v := Sl.val s11.1) (w_none rfl) rfl rfl (f_move rfl rfl) ?_
                                obtain ⟨x9, hx9, hF⟩ := hF
                                refine EvK.read (v := k31.val x9) (w_none rfl) rfl rfl (f_load k31 ty32 rfl rfl hx9 rfl) ?_
                                refine EvK.alloc (w_none rfl) rfl rfl (f_buildSliceF Try.underlying30 el32 (by decide) rfl rfl rfl hF) ?_
                                rintro _ h32 ⟨x10, rfl, hF⟩
                                refine EvK.run (w_none rfl) rfl rfl (f_appendE (s := s11.1) (x := x10) Try.underlying30 el32 rfl rfl rfl hF) ?_
                                rintro _ h33 ⟨x11, rfl, hF⟩
                                refine EvK.pure (v := Sl.val x11) (w_none rfl) rfl rfl (f_assign rfl rfl) ?_
                                refine EvK.nil ?_
                                refine WP.region ?_
                                refine EvK.pure (v := .int .i64 s11.2) (w_none rfl) rfl rfl (f_move rfl rfl) ?_
                                refine EvK.pure (v := .int .i64 (IntKind.i64.wrap (s11.2 + 1))) (w_none rfl) rfl rfl (f_add rfl rfl rfl) ?_
                                refine EvK.pure (v := .int .i64 (IntKind.i64.wrap (s11.2 + 1))) (w_none rfl) rfl rfl (f_assign rfl rfl) ?_
                                refine EvK.nil ?_
                                exact KE.mk (x11, IntKind.i64.wrap (s11.2 + 1)) ⟨rfl, rfl, rfl, rfl, rfl, rfl, rfl, rfl, rfl, rfl, rfl, trivial⟩ hF
                              · intro k12 hF
                                refine WP.joinF (fun (s13 : Bool) => [(108, .bool s13), (0, .int .i64 a0), (1, Sl.val a1), (2, .int .i64 r4), (7, .pointer r2.1), (9, .pointer r3.1), (11, .int .i64 s3), (12, .pointer (some q2)), (13, .int .i64 (IntKind.i64.wrap ((IntKind.i64.wrap (3 * x2)) + r4))), (14, Sl.val s11.1), (15, Sl.val r13), (16, .int .i64 s11.2), (17, .pointer (some q4))]) hF ?_ ?_
                                · intro s13 E0 h34 hF
                                  rcases ite_inv hF with ⟨c13, hF⟩ | ⟨c13, hF⟩
                                  · refine WP.cond_true _ rfl c13 ?_
                                    refine WP.region ?_
                                    refine EvK.pure (v := .pointer (some (q4.add 0))) (w_none rfl) rfl rfl (f_fieldAddr fd32_0 rfl rfl) ?_
                                    obtain ⟨x12, hx10, hF⟩ := hF
                                    refine EvK.read (v := .int .i64 x12) (w_none rfl) rfl rfl (f_load (kI .i64) ty3 rfl rfl hx10 rfl) ?_
                                    refine EvK.pure (v := .int .i64 r4) (w_none rfl) rfl rfl (f_move rfl rfl) ?_
                                    refine EvK.pure (v := .int .i64 (IntKind.i64.wrap (x12 + r4))) (w_none rfl) rfl rfl (f_add rfl rfl rfl) ?_
                                    refine EvK.pure (v := .int .i64 a0) (w_none rfl) rfl rfl (f_move rfl rfl) ?_
                                    obtain ⟨x13, hx11, hF⟩ := hF
                                    refine EvK.pure (v := .int .i64 x13) (w_none rfl) rfl rfl (f_rem rfl rfl rfl hx11) ?_
                                    refine EvK.pure (v := .pointer (some (q4.add 0))) (w_none rfl) rfl rfl (f_fieldAddr fd32_0 rfl rfl) ?_
                                    obtain ⟨h35, hs3, hF⟩ := hF
                                    refine EvK.runN (w_none rfl) rfl (f_store (kI .i64) ty3.size (z := x13) rfl rfl rfl hs3) ?_
                                    rintro _ _ ⟨rfl, rfl⟩
                                    refine EvK.nil ?_
                                    exact KE.mk () ⟨rfl, rfl, rfl, rfl, rfl, rfl, rfl, rfl, rfl, rfl, rfl, rfl, trivial⟩ hF
                                  · refine WP.cond_false _ rfl c13 ?_
                                    refine WP.skip ?_
                                    exact KE.mk () ⟨rfl, rfl, rfl, rfl, rfl, rfl, rfl, rfl, rfl, rfl, rfl, rfl, trivial⟩ hF
                                · intro k13 hF
                                  refine WP.region ?_
                                  refine EvK.pure (v := .pointer (some (q4.add 0))) (w_none rfl) rfl rfl (f_fieldAddr fd32_0 rfl rfl) ?_
                                  obtain ⟨x14, hx12, hF⟩ := hF
                                  refine EvK.read (v := .int .i64 x14) (w_none rfl) rfl rfl (f_load (kI .i64) ty3 rfl rfl hx12 rfl) ?_
                                  refine EvK.pure (v := .bool (decide (x14 ≥ 0))) (w_none rfl) rfl rfl (f_geq rfl rfl rfl) ?_
                                  refine EvK.pure (v := .bool (decide (x14 ≥ 0))) (w_none rfl) rfl rfl (f_move rfl rfl) ?_
                                  rcases ite_inv hF with ⟨c14, hF⟩ | ⟨c14, hF⟩
                                  · refine EvK.pure (v := .pointer (some (q4.add 0))) (w_some rfl rfl c14) rfl rfl (f_fieldAddr fd32_0 rfl rfl) ?_
                                    obtain ⟨x15, hx13, hF⟩ := hF
                                    refine EvK.read (v := .int .i64 x15) (w_some rfl rfl c14) rfl rfl (f_load (kI .i64) ty3 rfl rfl hx13 rfl) ?_
                                    refine EvK.pure (v := .int .i64 a0) (w_some rfl rfl c14) rfl rfl (f_move rfl rfl) ?_
                                    refine EvK.pure (v := .bool (decide (x15 < a0))) (w_some rfl rfl c14) rfl rfl (f_lss rfl rfl rfl) ?_
                                    refine EvK.pure (v := .bool (decide (x15 < a0))) (w_none rfl) rfl rfl (f_pickT rfl rfl c14 rfl) ?_
                                    refine EvK.nil ?_
                                    exact KE.mk (decide (x15 < a0)) ⟨rfl, rfl, rfl, rfl, rfl, rfl, rfl, rfl, rfl, rfl, rfl, rfl, rfl, trivial⟩ hF
                                  · refine EvK.not (w_not rfl rfl c14) rfl rfl ?_
                                    refine EvK.not (w_not rfl rfl c14) rfl rfl ?_
                                    refine EvK.not (w_not rfl rfl c14) rfl rfl ?_
                                    refine EvK.not (w_not rfl rfl c14) rfl rfl ?_
                                    refine EvK.pure (v := .bool false) (w_none rfl) rfl rfl (f_pickF rfl rfl c14 rfl) ?_
                                    refine EvK.nil ?_
                                    exact KE.mk false ⟨rfl, rfl, rfl, rfl, rfl, rfl, rfl, rfl, rfl, rfl, rfl, rfl, rfl, trivial⟩ hF
                            · refine WP.cond_false _ rfl c12 ?_
                              refine WP.exit ?_
                              exact KE.mk s11.1 ⟨rfl, rfl, rfl, rfl, rfl, rfl, rfl, rfl, rfl, rfl, trivial⟩ hF
                        · refine WP.cond_false _ rfl c9 ?_
                          refine WP.seq ?_
                          refine WP.region ?_
                          refine EvK.pure (v := .bool (x5 == 2)) (w_none rfl) rfl rfl (f_eql rfl rfl rfl) ?_
                          refine EvK.pure (v := .bool (x5 == 2)) (w_none rfl) rfl rfl (f_assign rfl rfl) ?_
                          refine EvK.nil ?_
                          rcases ite_inv hF with ⟨c15, hF⟩ | ⟨c15, hF⟩
                          · refine WP.cond_true _ rfl c15 ?_
                            refine WP.seq ?_
                            refine WP.region ?_
                            refine EvK.pure (v := .pointer r2.1) (w_none rfl) rfl rfl (f_move rfl rfl) ?_
                            refine EvK.pure (v := .pointer (some (q2.add 1))) (w_none rfl) rfl rfl (f_fieldAddr fd53_1 rfl rfl) ?_
                            obtain ⟨x16, hx14, hF⟩ := hF
                            refine EvK.read (v := .int .i64 x16) (w_none rfl) rfl rfl (f_load (kI .i64) ty3 rfl rfl hx14 rfl) ?_
                            refine EvK.call (w_none rfl) rfl rfl (enterH Try.func17 rfl rfl rfl rfl (locks_Manager_Free.sound hF)) ?_
                            rintro _ h36 ⟨r17, rfl, hF⟩
                            refine EvK.pure (v := .tuple #[Sl.val r17.1, IF.val r17.2]) (w_none rfl) rfl rfl (f_move rfl rfl) ?_
                            refine EvK.pure (v := Sl.val r17.1) (w_none rfl) rfl rfl (f_extract (vs := #[Sl.val r17.1, IF.val r17.2]) rfl rfl rfl) ?_
                            refine EvK.pure (v := IF.val r17.2) (w_none rfl) rfl rfl (f_extract (vs := #[Sl.val r17.1, IF.val r17.2]) rfl rfl rfl) ?_
                            refine EvK.pure (v := Sl.val r17.1) (w_none rfl) rfl rfl (f_assign rfl rfl) ?_
                            refine EvK.pure (v := IF.val r17.2) (w_none rfl) rfl rfl (f_assign rfl rfl) ?_
                            refine EvK.nil ?_
                            refine WP.seq ?_
                            refine WP.region ?_
                            refine EvK.pure (v := .pointer r3.1) (w_none rfl) rfl rfl (f_move rfl rfl) ?_
                            refine EvK.pure (v := .int .i64 (IntKind.i64.wrap ((IntKind.i64.wrap (3 * x2)) + r4))) (w_none rfl) rfl rfl (f_move rfl rfl) ?_
                            refine EvK.call (w_none rfl) rfl rfl (enterH Try.func17 rfl rfl rfl rfl (locks_Manager_Free.sound hF)) ?_
                            rintro _ h37 ⟨r18, rfl, hF⟩
                            refine EvK.pure (v := .tuple #[Sl.val r18.1, IF.val r18.2]) (w_none rfl) rfl rfl (f_move rfl rfl) ?_
                            refine EvK.pure (v := Sl.val r18.1) (w_none rfl) rfl rfl (f_extract (vs := #[Sl.val r18.1, IF.val r18.2]) rfl rfl rfl) ?_
                            refine EvK.pure (v := IF.val r18.2) (w_none rfl) rfl rfl (f_extract (vs := #[Sl.val r18.1, IF.val r18.2]) rfl rfl rfl) ?_
                            refine EvK.pure (v := Sl.val r18.1) (w_none rfl) rfl rfl (f_assign rfl rfl) ?_
                            refine EvK.pure (v := IF.val r18.2) (w_none rfl) rfl rfl (f_assign rfl rfl) ?_
                            refine EvK.nil ?_
                            refine WP.joinF (fun (s14 : Bool) => [(172, .bool s14), (0, .int .i64 a0), (1, Sl.val a1), (2, .int .i64 r4), (7, .pointer r2.1), (9, .pointer r3.1), (11, .int .i64 s3), (12, .pointer (some q2)), (13, .int .i64 (IntKind.i64.wrap ((IntKind.i64.wrap (3 * x2)) + r4)))]) hF ?_ ?_
                            · intro s14 E0 h38 hF
                              rcases ite_inv hF with ⟨c16, hF⟩ | ⟨c16, hF⟩
                              · refine WP.cond_true _ rfl c16 ?_
                                refine WP.seq ?_
                                refine WP.region ?_
                                refine EvK.pure (v := .bool false) (w_none rfl) rfl rfl (f_assign rfl rfl) ?_
                                refine EvK.nil ?_
                                refine WP.ret ?_
                                exact Ret.mk (vs := [.bool false]) false ⟨rfl, trivial⟩ rfl hF
                              · refine WP.cond_false _ rfl c16 ?_
                                refine WP.skip ?_
                                exact KE.mk () ⟨rfl, rfl, rfl, rfl, rfl, rfl, rfl, rfl, trivial⟩ hF
                            · intro k14 hF
                              refine WP.draw mixed [.pure, .pure, .pure, .pure, .pure, .pure, .pure, .pure, .eff [], .pure, .eff [], .pure, .pure] [[], [0], [], [2], [0, 1, 2, 3], [0, 1, 2, 3, 4], [0, 1, 2, 3, 4, 5], [0, 1, 2, 3, 4, 5], [0, 1, 2, 3, 4, 5, 6, 7], [0, 1, 2, 3, 4, 5], [0, 1, 2, 3, 4, 5, 6, 7, 8, 9], [0, 1, 2, 3, 4, 5, 6, 7, 8, 9, 10], [0, 1, 2, 3, 4, 5, 6, 7, 8, 9, 10, 11]] [0, 1, 2, 3, 4, 5, 6, 7, 9, 8, 10, 11, 12] (by kernel_rfl) (by kernel_rfl) ?_
                              refine EvI.pure (v := IF.val r17.2) rfl rfl (w_none rfl) rfl (f_move rfl rfl) ?_
                              refine EvI.pure (v := .bool r17.2.isNone) rfl rfl (w_none rfl) rfl (f_ieqln (a := r17.2) Try.underlying37 rfl rfl) ?_
                              refine EvI.pure (v := IF.val r18.2) rfl rfl (w_none rfl) rfl (f_move rfl rfl) ?_
                              refine EvI.pure (v := .bool r18.2.isNone) rfl rfl (w_none rfl) rfl (f_ieqln (a := r18.2) Try.underlying37 rfl rfl) ?_
                              refine EvI.pure (v := .bool (!(r17.2.isNone == r18.2.isNone))) rfl rfl (w_none rfl) rfl (f_bneq Try.underlying4 rfl rfl rfl) ?_
                              refine EvI.pure (v := .bool (!(r17.2.isNone == r18.2.isNone))) rfl rfl (w_none rfl) rfl (f_move rfl rfl) ?_
                              rcases ite_inv hF with ⟨c17, hF⟩ | ⟨c17, hF⟩
                              · refine EvI.not rfl (w_not rfl rfl c17) rfl ?_
                                refine EvI.not rfl (w_not rfl rfl c17) rfl ?_
                                refine EvI.not rfl (w_not rfl rfl c17) rfl ?_
                                refine EvI.not rfl (w_not rfl rfl c17) rfl ?_
                                refine EvI.not rfl (w_not rfl rfl c17) rfl ?_
                                refine EvI.not rfl (w_not rfl rfl c17) rfl ?_
                                refine EvI.pure (v := .bool true) rfl rfl (w_none rfl) rfl (f_pickT rfl rfl c17 rfl) ?_
                                refine EvI.nil ?_
                                exact KE.mk true ⟨rfl, rfl, rfl, rfl, rfl, rfl, rfl, rfl, rfl, trivial⟩ hF
                              · refine EvI.pure (v := Sl.val r17.1) rfl rfl (w_some rfl rfl c17) rfl (f_move rfl rfl) ?_
                                refine EvI.pure (v := .int .i64 r4) rfl rfl (w_some rfl rfl c17) rfl (f_move rfl rfl) ?_
                                refine EvI.pure (v := Sl.val r18.1) rfl rfl (w_some rfl rfl c17) rfl (f_move rfl rfl) ?_
                                refine EvI.call rfl rfl (w_some rfl rfl c17) rfl (enterH Try.func33 rfl rfl rfl rfl (spatelaw11_names.sound hF)) ?_
                                rintro _ h39 ⟨r19, rfl, hF⟩
                                refine ⟨trivial, ?_⟩
                                refine EvI.call rfl rfl (w_some rfl rfl c17) rfl (enterH Try.func19 rfl rfl rfl rfl (spatelaw11_SameInts.sound hF)) ?_
                                rintro _ h40 ⟨r20, rfl, hF⟩
                                refine ⟨trivial, ?_⟩
                                refine EvI.pure (v := .bool (!r20)) rfl rfl (w_some rfl rfl c17) rfl (f_not rfl rfl) ?_
                                refine EvI.pure (v := .bool (!r20)) rfl rfl (w_none rfl) rfl (f_pickF rfl rfl c17 rfl) ?_
                                refine EvI.nil ?_
                                exact KE.mk (!r20) ⟨rfl, rfl, rfl, rfl, rfl, rfl, rfl, rfl, rfl, trivial⟩ hF
                          · refine WP.cond_false _ rfl c15 ?_
                            refine WP.seq ?_
                            refine WP.region ?_
                            refine EvK.pure (v := .bool (x5 == 3)) (w_none rfl) rfl rfl (f_eql rfl rfl rfl) ?_
                            refine EvK.pure (v := .bool (x5 == 3)) (w_none rfl) rfl rfl (f_assign rfl rfl) ?_
                            refine EvK.nil ?_
                            rcases ite_inv hF with ⟨c18, hF⟩ | ⟨c18, hF⟩
                            · refine WP.cond_true _ rfl c18 ?_
                              refine WP.seq ?_
                              refine WP.region ?_
                              refine EvK.pure (v := .pointer r2.1) (w_none rfl) rfl rfl (f_move rfl rfl) ?_
                              refine EvK.pure (v := .pointer (some (q2.add 1))) (w_none rfl) rfl rfl (f_fieldAddr fd53_1 rfl rfl) ?_
                              obtain ⟨x17, hx15, hF⟩ := hF
                              refine EvK.read (v := .int .i64 x17) (w_none rfl) rfl rfl (f_load (kI .i64) ty3 rfl rfl hx15 rfl) ?_
                              refine EvK.call (w_none rfl) rfl rfl (enterH Try.func28 rfl rfl rfl rfl (locks_Manager_Quit.sound hF)) ?_
                              rintro _ h41 ⟨r21, rfl, hF⟩
                              refine EvK.pure (v := .int .i64 r4) (w_none rfl) rfl rfl (f_move rfl rfl) ?_
                              refine EvK.call (w_none rfl) rfl rfl (enterH Try.func33 rfl rfl rfl rfl (spatelaw11_names.sound hF)) ?_
                              rintro _ h42 ⟨r22, rfl, hF⟩
                              refine EvK.pure (v := .pointer r3.1) (w_none rfl) rfl rfl (f_move rfl rfl) ?_
                              refine EvK.pure (v := .int .i64 (IntKind.i64.wrap ((IntKind.i64.wrap (3 * x2)) + r4))) (w_none rfl) rfl rfl (f_move rfl rfl) ?_
                              refine EvK.call (w_none rfl) rfl rfl (enterH Try.func28 rfl rfl rfl rfl (locks_Manager_Quit.sound hF)) ?_
                              rintro _ h43 ⟨r23, rfl, hF⟩
                              refine EvK.call (w_none rfl) rfl rfl (enterH Try.func19 rfl rfl rfl rfl (spatelaw11_SameInts.sound hF)) ?_
                              rintro _ h44 ⟨r24, rfl, hF⟩
                              refine EvK.pure (v := .bool (!r24)) (w_none rfl) rfl rfl (f_not rfl rfl) ?_
                              refine EvK.nil ?_
                              rcases ite_inv hF with ⟨c19, hF⟩ | ⟨c19, hF⟩
                              · refine WP.cond_true _ rfl c19 ?_
                                refine WP.seq ?_
                                refine WP.region ?_
                                refine EvK.pure (v := .bool false) (w_none rfl) rfl rfl (f_assign rfl rfl) ?_
                                refine EvK.nil ?_
                                refine WP.ret ?_
                                exact Ret.mk (vs := [.bool false]) false ⟨rfl, trivial⟩ rfl hF
                              · refine WP.cond_false _ rfl c19 ?_
                                refine WP.skip ?_
                                exact KE.mk () ⟨rfl, rfl, rfl, rfl, rfl, rfl, rfl, rfl, trivial⟩ hF
                            · refine WP.cond_false _ rfl c18 ?_
                              refine WP.skip ?_
                              exact KE.mk () ⟨rfl, rfl, rfl, rfl, rfl, rfl, rfl, rfl, trivial⟩ hF
                  · intro k6 hF
                    refine WP.region ?_
                    refine EvK.pure (v := .pointer (some (q2.add 1))) (w_none rfl) rfl rfl (f_fieldAddr fd53_1 rfl rfl) ?_
                    obtain ⟨x18, hx16, hF⟩ := hF
                    refine EvK.read (v := .int .i64 x18) (w_none rfl) rfl rfl (f_load (kI .i64) ty3 rfl rfl hx16 rfl) ?_
                    refine EvK.pure (v := .bool (decide (x18 < 0))) (w_none rfl) rfl rfl (f_lss rfl rfl rfl) ?_
                    refine EvK.pure (v := .bool (decide (x18 < 0))) (w_none rfl) rfl rfl (f_move rfl rfl) ?_
                    rcases ite_inv hF with ⟨c20, hF⟩ | ⟨c20, hF⟩
                    · refine EvK.not (w_not rfl rfl c20) rfl rfl ?_
                      refine EvK.not (w_not rfl rfl c20) rfl rfl ?_
                      refine EvK.not (w_not rfl rfl c20) rfl rfl ?_
                      refine EvK.pure (v := .bool true) (w_none rfl) rfl rfl (f_pickT rfl rfl c20 rfl) ?_
                      refine EvK.nil ?_
                      exact KE.mk true ⟨rfl, rfl, rfl, rfl, rfl, rfl, rfl, rfl, trivial⟩ hF
                    · refine EvK.pure (v := .pointer (some (q2.add 1))) (w_some rfl rfl c20) rfl rfl (f_fieldAddr fd53_1 rfl rfl) ?_
                      obtain ⟨x19, hx17, hF⟩ := hF
                      refine EvK.read (v := .int .i64 x19) (w_some rfl rfl c20) rfl rfl (f_load (kI .i64) ty3 rfl rfl hx17 rfl) ?_
                      refine EvK.pure (v := .bool (decide (x19 > 1099511627776))) (w_some rfl rfl c20) rfl rfl (f_gtr rfl rfl rfl) ?_
                      refine EvK.pure (v := .bool (decide (x19 > 1099511627776))) (w_none rfl) rfl rfl (f_pickF rfl rfl c20 rfl) ?_
                      refine EvK.nil ?_
                      exact KE.mk (decide (x19 > 1099511627776)) ⟨rfl, rfl, rfl, rfl, rfl, rfl, rfl, rfl, trivial⟩ hF
              · refine WP.cond_false _ rfl c4 ?_
                refine WP.exit ?_
                exact KE.mk () trivial hF
            · intro k4 hF
              refine WP.region ?_
              refine EvK.pure (v := .int .i64 s3) (w_none rfl) rfl rfl (f_move rfl rfl) ?_
              refine EvK.pure (v := Sl.val a1) (w_none rfl) rfl rfl (f_move rfl rfl) ?_
              refine EvK.pure (v := .int .i64 (a1.len : Int)) (w_none rfl) rfl rfl (f_lenL (s := a1) Try.underlying47 rfl rfl) ?_
              refine EvK.pure (v := .bool (decide (s3 < (a1.len : Int)))) (w_none rfl) rfl rfl (f_lss rfl rfl rfl) ?_
              refine EvK.pure (v := .bool (decide (s3 < (a1.len : Int)))) (w_none rfl) rfl rfl (f_move rfl rfl) ?_
              rcases ite_inv hF with ⟨c21, hF⟩ | ⟨c21, hF⟩
              · refine EvK.pure (v := .int .i64 s3) (w_some rfl rfl c21) rfl rfl (f_move rfl rfl) ?_
                refine EvK.pure (v := .bool (decide (s3 < 300))) (w_some rfl rfl c21) rfl rfl (f_lss rfl rfl rfl) ?_
                refine EvK.pure (v := .bool (decide (s3 < 300))) (w_none rfl) rfl rfl (f_pickT rfl rfl c21 rfl) ?_
                refine EvK.nil ?_
                exact KE.mk (decide (s3 < 300)) ⟨rfl, rfl, rfl, rfl, rfl, rfl, rfl, trivial⟩ hF
              · refine EvK.not (w_not rfl rfl c21) rfl rfl ?_
                refine EvK.not (w_not rfl rfl c21) rfl rfl ?_
                refine EvK.pure (v := .bool false) (w_none rfl) rfl rfl (f_pickF rfl rfl c21 rfl) ?_
                refine EvK.nil ?_
                exact KE.mk false ⟨rfl, rfl, rfl, rfl, rfl, rfl, rfl, trivial⟩ hF
    · intro k1 hF
      refine WP.region ?_
      refine EvK.pure (v := .int .i64 r2.2) (w_none rfl) rfl rfl (f_move rfl rfl) ?_
      refine EvK.pure (v := .int .i64 r3.2) (w_none rfl) rfl rfl (f_move rfl rfl) ?_
      refine EvK.pure (v := .bool (r2.2 != r3.2)) (w_none rfl) rfl rfl (f_neq rfl rfl rfl) ?_
      refine EvK.pure (v := .bool (r2.2 != r3.2)) (w_none rfl) rfl rfl (f_move rfl rfl) ?_
      rcases ite_inv hF with ⟨c22, hF⟩ | ⟨c22, hF⟩
      · refine EvK.not (w_not rfl rfl c22) rfl rfl ?_
        refine EvK.not (w_not rfl rfl c22) rfl rfl ?_
        refine EvK.not (w_not rfl rfl c22) rfl rfl ?_
        refine EvK.not (w_not rfl rfl c22) rfl rfl ?_
        refine EvK.not (w_not rfl rfl c22) rfl rfl ?_
        refine EvK.pure (v := .bool true) (w_none rfl) rfl rfl (f_pickT rfl rfl c22 rfl) ?_
        refine EvK.nil ?_
        exact KE.mk true ⟨rfl, rfl, rfl, rfl, rfl, rfl, trivial⟩ hF
      · refine EvK.pure (v := .pointer r2.1) (w_some rfl rfl c22) rfl rfl (f_move rfl rfl) ?_
        refine EvK.pure (v := .bool r2.1.isNone) (w_some rfl rfl c22) rfl rfl (f_peqln Try.underlying25 rfl rfl rfl) ?_
        refine EvK.pure (v := .pointer r3.1) (w_some rfl rfl c22) rfl rfl (f_move rfl rfl) ?_
        refine EvK.pure (v := .bool r3.1.isNone) (w_some rfl rfl c22) rfl rfl (f_peqln Try.underlying25 rfl rfl rfl) ?_
        refine EvK.pure (v := .bool (!(r2.1.isNone == r3.1.isNone))) (w_some rfl rfl c22) rfl rfl (f_bneq Try.underlying4 rfl rfl rfl) ?_
        refine EvK.pure (v := .bool (!(r2.1.isNone == r3.1.isNone))) (w_none rfl) rfl rfl (f_pickF rfl rfl c22 rfl) ?_
        refine EvK.nil ?_
        exact KE.mk (!(r2.1.isNone == r3.1.isNone)) ⟨rfl, rfl, rfl, rfl, rfl, rfl, trivial⟩ hF
end Go.Proofs.Ytgmihbchcmjmdaa

namespace Go.Proofs.Ytgmihbchcmjmdaa
open Go Go.Tr
set_option linter.unusedVariables false
set_option maxRecDepth 100000
set_option maxHeartbeats 400000
def spatelaw11_spoil.b1 (p0 : Sl) (s : Int) (h : H) (K : Int ⊕ Unit → H → Prop) : Prop :=
  if (decide (s < (p0.len : Int))) = true then
    rd (ixA 1 p0 s) fun q2 =>
    rd (st (kI .i64) q2 (-41) h) fun h5 =>
    K (.inl (IntKind.i64.wrap (s + 1))) h5
  else
    K (.inr ()) h
/-- spate/spatelaw11.spoil -/
def spatelaw11_spoil (a0 : Sl) (h : H) (Q : Unit → H → Prop) : Prop :=
  jn (fun (k1 : Unit → H → Prop) =>
    loopE (spatelaw11_spoil.b1 a0) 0 h (fun r1 hh => k1 r1 hh)) fun s1 h1 =>
  bs 3 2 ((kI .i64).enc 42 ++ (kI .i64).enc 43) h1 fun x1 h2 =>
  ap (kI .i64).n 8 3 ((kI .i64).enc 0) a0 x1 h2 fun x2 h3 =>
  rd (ixA 1 x2 0) fun q1 =>
  rd (st (kI .i64) q1 44 h3) fun h4 =>
  Q () h4
theorem spatelaw11_spoil.sound {a0 : Sl} {h : H} {Q : Unit → H → Prop} (hF : spatelaw11_spoil a0 h Q) :
    CallsH Try.prog 34 (List.toArray (α := Value) [Sl.val a0]) h fun v h' => ∃ x : Unit, v = .tuple #[] ∧ Q x h' := by
  refine CallsH.of_body Try.func34 rfl 17 rfl rfl ?_
  refine WP.joinF (fun (s1 : Unit) => [(0, Sl.val a0)]) hF ?_ ?_
  · intro s1 E0 h1 hF
    refine WP.seq ?_
    refine WP.region ?_
    refine EvK.pure (v := Sl.val a0) (w_none rfl) rfl rfl (f_move rfl rfl) ?_
    refine EvK.alloc (w_none rfl) rfl rfl (f_buildSliceF Try.underlying22 el3 (by decide) rfl rfl rfl hF) ?_
    rintro _ h2 ⟨x1, rfl, hF⟩
    refine EvK.run (w_none rfl) rfl rfl (f_appendE (s := a0) (x := x1) Try.underlying22 el3 rfl rfl rfl hF) ?_
    rintro _ h3 ⟨x2, rfl, hF⟩
    refine EvK.pure (v := Sl.val x2) (w_none rfl) rfl rfl (f_assign rfl rfl) ?_
    refine EvK.nil ?_
    refine WP.region ?_
    refine EvK.pure (v := Sl.val x2) (w_none rfl) rfl rfl (f_move rfl rfl) ?_
    obtain ⟨q1, hq1, hF⟩ := hF
    refine EvK.pure (v := .pointer (some q1)) (w_none rfl) rfl rfl (f_indexAddr (s := x2) Try.underlying22 ty3.size rfl rfl rfl hq1) ?_
    obtain ⟨h4, hs1, hF⟩ := hF
    refine EvK.runN (w_none rfl) rfl (f_store (kI .i64) ty3.size (z := 44) rfl rfl rfl hs1) ?_
    rintro _ _ ⟨rfl, rfl⟩
    refine EvK.nil ?_
    exact Ret.mk (vs := []) () trivial rfl hF
  · intro k1 hF
    refine WP.seq ?_
    refine WP.region ?_
    refine EvK.pure (v := .int .i64 0) (w_none rfl) rfl rfl (f_assign rfl rfl) ?_
    refine EvK.nil ?_
    refine WP.block ?_
    refine WP.loopF (fun (s2 : Int) => [(2, .int .i64 s2), (0, Sl.val a0)]) hF ⟨rfl, rfl, trivial⟩ ?_
    intro k2 s2 E0 h5 hF
    refine WP.seq ?_
    refine WP.seq ?_
    refine WP.region ?_
    refine EvK.pure (v := .int .i64 s2) (w_none rfl) rfl rfl (f_move rfl rfl) ?_
    refine EvK.pure (v := Sl.val a0) (w_none rfl) rfl rfl (f_move rfl rfl) ?_
    refine EvK.pure (v := .int .i64 (a0.len : Int)) (w_none rfl) rfl rfl (f_lenL (s := a0) Try.underlying22 rfl rfl) ?_
    refine EvK.pure (v := .bool (decide (s2 < (a0.len : Int)))) (w_none rfl) rfl rfl (f_lss rfl rfl rfl) ?_
    refine EvK.nil ?_
    rcases ite_inv hF with ⟨c1, hF⟩ | ⟨c1, hF⟩
    · refine WP.cond_true _ rfl c1 ?_
      refine WP.skip ?_
      refine WP.seq ?_
      refine WP.block ?_
      refine WP.region ?_
      refine EvK.pure (v := Sl.val a0) (w_none rfl) rfl rfl (f_move rfl rfl) ?_
      refine EvK.pure (v := .int .i64 s2) (w_none rfl) rfl rfl (f_move rfl rfl) ?_
      obtain ⟨q2, hq2, hF⟩ := hF
      refine EvK.pure (v := .pointer (some q2)) (w_none rfl) rfl rfl (f_indexAddr (s := a0) Try.underlying22 ty3.size rfl rfl rfl hq2) ?_
      obtain ⟨h6, hs2, hF⟩ := hF
      refine EvK.runN (w_none rfl) rfl (f_store (kI .i64) ty3.size (z := (-41)) rfl rfl rfl hs2) ?_
      rintro _ _ ⟨rfl, rfl⟩
      refine EvK.nil ?_
      refine WP.region ?_
      refine EvK.pure (v := .int .i64 s2) (w_none rfl) rfl rfl (f_move rfl rfl) ?_
      refine EvK.pure (v := .int .i64 (IntKind.i64.wrap (s2 + 1))) (w_none rfl) rfl rfl (f_add rfl rfl rfl) ?_
      refine EvK.pure (v := .int .i64 (IntKind.i64.wrap (s2 + 1))) (w_none rfl) rfl rfl (f_assign rfl rfl) ?_
      refine EvK.nil ?_
      exact KE.mk (IntKind.i64.wrap (s2 + 1)) ⟨rfl, rfl, trivial⟩ hF
    · refine WP.cond_false _ rfl c1 ?_
      refine WP.exit ?_
      exact KE.mk () ⟨rfl, trivial⟩ hF
end Go.Proofs.Ytgmihbchcmjmdaa

namespace Go.Proofs.Ytgmihbchcmjmdaa
open Go Go.Tr
set_option linter.unusedVariables false
set_option maxRecDepth 100000
set_option maxHeartbeats 400000
def spatelaw11_LocksOwn.b2 (p1 : Sl) (p2 : Sl) (p7 : Option Addr) (p9 : Option Addr) (p11 : Option Addr) (p13 : Int) (p14 : Addr) (p25 : Sl) (s : Int) (h : H) (K : Int ⊕ Unit → H → Prop) : Prop :=
  if (decide (s < (p25.len : Int))) = true then
    rd (ixA 2 p25 s) fun q5 =>
    rd (st k31 q5 (S31.mk (-3) false) h) fun h30 =>
    K (.inl (IntKind.i64.wrap (s + 1))) h30
  else
    K (.inr ()) h
def spatelaw11_LocksOwn.b1 (p1 : Sl) (p2 : Sl) (p7 : Option Addr) (p9 : Option Addr) (p11 : Option Addr) (s : Int) (h : H) (K : Int ⊕ (Unit ⊕ Bool) → H → Prop) : Prop :=
  jn (fun (k3 : Bool → H → Prop) =>
    if (decide (s < (p1.len : Int))) = true then
      k3 (decide (s < 300)) h
    else
      if (decide (s < (p2.len : Int))) = true then
        k3 (decide (s < 300)) h
      else
        k3 false h) fun s3 h7 =>
  if s3 = true then
    jn (fun (k4 : Unit → H → Prop) =>
      jn (fun (k5 : Unit → H → Prop) =>
        if (decide (s < (p1.len : Int))) = true then
          rd (ixA 3 p1 s) fun q3 =>
          rd (ld k52 q3 h7) fun x7 =>
          al 53 (k52.enc z52) h7 fun q4 h16 =>
          rd (st k52 q4 x7 h16) fun h17 =>
          jn (fun (k6 : Bool → H → Prop) =>
            rd (ld (kI .i64) (q4.add 0) h17) fun x11 =>
            if (x11 == 1) = true then
              rd (ld (kI .i64) (q4.add 1) h17) fun x12 =>
              rd (ld kL (q4.add 2) h17) fun x13 =>
              spatelaw11_set x13 h17 fun r19 h32 =>
              ld (kI .i64) (q4.add 1) h32 = some x12 ∧
              locks_Manager_Ask p7 x12 r19 h32 fun r20 h33 =>
              rd (ld (kI .i64) (q4.add 1) h33) fun x14 =>
              rd (ld kL (q4.add 2) h33) fun x15 =>
              spatelaw11_set x15 h33 fun r21 h34 =>
              ld (kI .i64) (q4.add 1) h34 = some x14 ∧
              locks_Manager_Ask p11 x14 r21 h34 fun r22 h35 =>
              k6 (r20.1 == r22.1) h35
            else
              if (x11 == 2) = true then
                rd (ld (kI .i64) (q4.add 1) h17) fun x16 =>
                locks_Manager_Free p7 x16 h17 fun r23 h36 =>
                rd (ld (kI .i64) (q4.add 1) h36) fun x17 =>
                locks_Manager_Free p11 x17 h36 fun r24 h37 =>
                spatelaw11_SameInts r23.1 r24.1 h37 fun r25 h38 =>
                spatelaw11_spoil r23.1 h38 fun r26 h39 =>
                k6 r25 h39
              else
                if (x11 == 3) = true then
                  rd (ld (kI .i64) (q4.add 1) h17) fun x18 =>
                  locks_Manager_Quit p7 x18 h17 fun r27 h40 =>
                  rd (ld (kI .i64) (q4.add 1) h40) fun x19 =>
                  locks_Manager_Quit p11 x19 h40 fun r28 h41 =>
                  spatelaw11_SameInts r27 r28 h41 fun r29 h42 =>
                  spatelaw11_spoil r27 h42 fun r30 h43 =>
                  k6 r29 h43
                else
                  k6 true h17) fun s6 h18 =>
          if (!s6) = true then
            K (.inr (.inr false)) h18
          else
            locks_Manager_Queue p7 h18 fun r9 h19 =>
            spatelaw11_spoil r9 h19 fun r10 h20 =>
            rd (ld (kI .i64) (q4.add 1) h20) fun x8 =>
            locks_Manager_Has p7 x8 h20 fun r11 h21 =>
            jn (fun (k7 : Unit → H → Prop) =>
              loopE (spatelaw11_LocksOwn.b2 p1 p2 p7 p9 p11 s q4 r11) 0 h21 (fun r18 hh => k7 r18 hh)) fun s7 h22 =>
            jn (fun (k8 : Bool → H → Prop) =>
              locks_Manager_Queue p7 h22 fun r12 h24 =>
              locks_Manager_Queue p11 h24 fun r13 h25 =>
              spatelaw11_SameInts r12 r13 h25 fun r14 h26 =>
              if (!r14) = true then
                k8 true h26
              else
                rd (ld (kI .i64) (q4.add 1) h26) fun x9 =>
                rd (ld (kI .i64) (q4.add 1) h26) fun x10 =>
                locks_Manager_Has p7 x9 h26 fun r15 h27 =>
                ld (kI .i64) (q4.add 1) h27 = some x10 ∧
                locks_Manager_Has p11 x10 h27 fun r16 h28 =>
                spatelaw11_SameLocks r15 r16 h28 fun r17 h29 =>
                k8 (!r17) h29) fun s8 h23 =>
            if s8 = true then
              K (.inr (.inr false)) h23
            else
              k5 () h23
        else
          k5 () h7) fun s5 h9 =>
      if (decide (s < (p2.len : Int))) = true then
        rd (ixA 3 p2 s) fun q1 =>
        rd (ld k52 q1 h9) fun x1 =>
        al 53 (k52.enc z52) h9 fun q2 h10 =>
        rd (st k52 q2 x1 h10) fun h11 =>
        rd (ld (kI .i64) (q2.add 0) h11) fun x2 =>
        if (x2 == 1) = true then
          rd (ld (kI .i64) (q2.add 1) h11) fun x3 =>
          rd (ld kL (q2.add 2) h11) fun x4 =>
          spatelaw11_set x4 h11 fun r5 h12 =>
          ld (kI .i64) (q2.add 1) h12 = some x3 ∧
          locks_Manager_Ask p9 x3 r5 h12 fun r6 h13 =>
          k4 () h13
        else
          if (x2 == 2) = true then
            rd (ld (kI .i64) (q2.add 1) h11) fun x5 =>
            locks_Manager_Free p9 x5 h11 fun r7 h14 =>
            k4 () h14
          else
            if (x2 == 3) = true then
              rd (ld (kI .i64) (q2.add 1) h11) fun x6 =>
              locks_Manager_Quit p9 x6 h11 fun r8 h15 =>
              k4 () h15
            else
              k4 () h11
      else
        k4 () h9) fun s4 h8 =>
    K (.inl (IntKind.i64.wrap (s + 1))) h8
  else
    K (.inr (.inl ())) h7
/-- spate/spatelaw11.LocksOwn -/
def spatelaw11_LocksOwn (a0 : Int) (a1 : Sl) (a2 : Sl) (h : H) (Q : Bool → H → Prop) : Prop :=
  spatelaw11_known  h fun r1 h1 =>
  if (!r1) = true then
    Q false h1
  else
    locks_New a0 h1 fun r2 h2 =>
    locks_New a0 h2 fun r3 h3 =>
    locks_New a0 h3 fun r4 h4 =>
    if (r2.2 != 0) = true then
      jn (fun (k1 : Bool → H → Prop) =>
        if r2.1.isNone = true then
          k1 r3.1.isNone h4
        else
          k1 false h4) fun s1 h5 =>
      Q s1 h5
    else
      jn (fun (k2 : Unit → H → Prop) =>
        loopE (spatelaw11_LocksOwn.b1 a1 a2 r2.1 r3.1 r4.1) 0 h4 (sumK (fun r31 hh => k2 r31 hh) (fun r32 hh => Q r32 hh))) fun s2 h6 =>
      Q true h6
theorem spatelaw11_LocksOwn.sound {a0 : Int} {a1 : Sl} {a2 : Sl} {h : H} {Q : Bool → H → Prop} (hF : spatelaw11_LocksOwn a0 a1 a2 h Q) :
    CallsH Try.prog 8 (List.toArray (α := Value) [.int .i64 a0, Sl.val a1, Sl.val a2]) h fun v h' => ∃ x : Bool, v = .bool x ∧ Q x h' := by
  refine CallsH.of_body Try.func8 rfl 207 rfl rfl ?_
  refine WP.seq ?_
  refine WP.region ?_
  refine EvK.pure (v := .bool false) (w_none rfl) rfl rfl (f_assign rfl rfl) ?_
  refine EvK.nil ?_
  refine WP.seq ?_
  refine WP.seq ?_
  refine WP.region ?_
  refine EvK.call (w_none rfl) rfl rfl (enterH Try.func10 rfl rfl rfl rfl (spatelaw11_known.sound hF)) ?_
  rintro _ h1 ⟨r1, rfl, hF⟩
  refine EvK.pure (v := .bool (!r1)) (w_none rfl) rfl rfl (f_not rfl rfl) ?_
  refine EvK.nil ?_
  rcases ite_inv hF with ⟨c1, hF⟩ | ⟨c1, hF⟩
  · refine WP.cond_true _ rfl c1 ?_
    refine WP.seq ?_
    refine WP.region ?_
    refine EvK.pure (v := .bool false) (w_none rfl) rfl rfl (f_assign rfl rfl) ?_
    refine EvK.nil ?_
    refine WP.ret ?_
    exact Ret.mk (vs := [.bool false]) false ⟨rfl, trivial⟩ rfl hF
  · refine WP.cond_false _ rfl c1 ?_
    refine WP.skip ?_
    refine WP.seq ?_
    refine WP.region ?_
    refine EvK.pure (v := .int .i64 a0) (w_none rfl) rfl rfl (f_move rfl rfl) ?_
    refine EvK.call (w_none rfl) rfl rfl (enterH Try.func12 rfl rfl rfl rfl (locks_New.sound hF)) ?_
    rintro _ h2 ⟨r2, rfl, hF⟩
    refine EvK.pure (v := .tuple #[.pointer r2.1, .int .i64 r2.2]) (w_none rfl) rfl rfl (f_move rfl rfl) ?_
    refine EvK.pure (v := .pointer r2.1) (w_none rfl) rfl rfl (f_extract (vs := #[.pointer r2.1, .int .i64 r2.2]) rfl rfl rfl) ?_
    refine EvK.pure (v := .int .i64 r2.2) (w_none rfl) rfl rfl (f_extract (vs := #[.pointer r2.1, .int .i64 r2.2]) rfl rfl rfl) ?_
    refine EvK.pure (v := .pointer r2.1) (w_none rfl) rfl rfl (f_assign rfl rfl) ?_
    refine EvK.pure (v := .int .i64 r2.2) (w_none rfl) rfl rfl (f_assign rfl rfl) ?_
    refine EvK.nil ?_
    refine WP.seq ?_
    refine WP.region ?_
    refine EvK.pure (v := .int .i64 a0) (w_none rfl) rfl rfl (f_move rfl rfl) ?_
    refine EvK.call (w_none rfl) rfl rfl (enterH Try.func12 rfl rfl rfl rfl (locks_New.sound hF)) ?_
    rintro _ h3 ⟨r3, rfl, hF⟩
    refine EvK.pure (v := .tuple #[.pointer r3.1, .int .i64 r3.2]) (w_none rfl) rfl rfl (f_move rfl rfl) ?_
    refine EvK.pure (v := .pointer r3.1) (w_none rfl) rfl rfl (f_extract (vs := #[.pointer r3.1, .int .i64 r3.2]) rfl rfl rfl) ?_
    refine EvK.pure (v := .int .i64 r3.2) (w_none rfl) rfl rfl (f_extract (vs := #[.pointer r3.1, .int .i64 r3.2]) rfl rfl rfl) ?_
    refine EvK.pure (v := .pointer r3.1) (w_none rfl) rfl rfl (f_assign rfl rfl) ?_
    refine EvK.pure (v := .int .i64 r3.2) (w_none rfl) rfl rfl (f_assign rfl rfl) ?_
    refine EvK.nil ?_
    refine WP.seq ?_
    refine WP.region ?_
    refine EvK.pure (v := .int .i64 a0) (w_none rfl) rfl rfl (f_move rfl rfl) ?_
    refine EvK.call (w_none rfl) rfl rfl (enterH Try.func12 rfl rfl rfl rfl (locks_New.sound hF)) ?_
    rintro _ h4 ⟨r4, rfl, hF⟩
    refine EvK.pure (v := .tuple #[.pointer r4.1, .int .i64 r4.2]) (w_none rfl) rfl rfl (f_move rfl rfl) ?_
    refine EvK.pure (v := .pointer r4.1) (w_none rfl) rfl rfl (f_extract (vs := #[.pointer r4.1, .int .i64 r4.2]) rfl rfl rfl) ?_
    refine EvK.pure (v := .int .i64 r4.2) (w_none rfl) rfl rfl (f_extract (vs := #[.pointer r4.1, .int .i64 r4.2]) rfl rfl rfl) ?_
    refine EvK.pure (v := .pointer r4.1) (w_none rfl) rfl rfl (f_assign rfl rfl) ?_
    refine EvK.pure (v := .int .i64 r4.2) (w_none rfl) rfl rfl (f_assign rfl rfl) ?_
    refine EvK.nil ?_
    refine WP.seq ?_
    refine WP.seq ?_
    refine WP.region ?_
    refine EvK.pure (v := .int .i64 r2.2) (w_none rfl) rfl rfl (f_move rfl rfl) ?_
    refine EvK.pure (v := .bool (r2.2 != 0)) (w_none rfl) rfl rfl (f_neq rfl rfl rfl) ?_
    refine EvK.nil ?_
    rcases ite_inv hF with ⟨c2, hF⟩ | ⟨c2, hF⟩
    · refine WP.cond_true _ rfl c2 ?_
      refine WP.joinF (fun (s1 : Bool) => [(6, .bool s1)]) hF ?_ ?_
      · intro s1 E0 h5 hF
        refine WP.ret ?_
        exact Ret.mk (vs := [.bool s1]) s1 ⟨rfl, trivial⟩ rfl hF
      · intro k1 hF
        refine WP.region ?_
        refine EvK.pure (v := .pointer r2.1) (w_none rfl) rfl rfl (f_move rfl rfl) ?_
        refine EvK.pure (v := .bool r2.1.isNone) (w_none rfl) rfl rfl (f_peqln Try.underlying25 rfl rfl rfl) ?_
        refine EvK.pure (v := .bool r2.1.isNone) (w_none rfl) rfl rfl (f_move rfl rfl) ?_
        rcases ite_inv hF with ⟨c3, hF⟩ | ⟨c3, hF⟩
        · refine EvK.pure (v := .pointer r3.1) (w_some rfl rfl c3) rfl rfl (f_move rfl rfl) ?_
          refine EvK.pure (v := .bool r3.1.isNone) (w_some rfl rfl c3) rfl rfl (f_peqln Try.underlying25 rfl rfl rfl) ?_
          refine EvK.pure (v := .bool r3.1.isNone) (w_none rfl) rfl rfl (f_pickT rfl rfl c3 rfl) ?_
          refine EvK.pure (v := .bool r3.1.isNone) (w_none rfl) rfl rfl (f_assign rfl rfl) ?_
          refine EvK.nil ?_
          exact KE.mk r3.1.isNone ⟨rfl, trivial⟩ hF
        · refine EvK.not (w_not rfl rfl c3) rfl rfl ?_
          refine EvK.not (w_not rfl rfl c3) rfl rfl ?_
          refine EvK.pure (v := .bool false) (w_none rfl) rfl rfl (f_pickF rfl rfl c3 rfl) ?_
          refine EvK.pure (v := .bool false) (w_none rfl) rfl rfl (f_assign rfl rfl) ?_
          refine EvK.nil ?_
          exact KE.mk false ⟨rfl, trivial⟩ hF
    · refine WP.cond_false _ rfl c2 ?_
      refine WP.skip ?_
      refine WP.joinF (fun (s2 : Unit) => []) hF ?_ ?_
      · intro s2 E0 h6 hF
        refine WP.seq ?_
        refine WP.region ?_
        refine EvK.pure (v := .bool true) (w_none rfl) rfl rfl (f_assign rfl rfl) ?_
        refine EvK.nil ?_
        refine WP.ret ?_
        exact Ret.mk (vs := [.bool true]) true ⟨rfl, trivial⟩ rfl hF
      · intro k2 hF
        refine WP.seq ?_
        refine WP.region ?_
        refine EvK.pure (v := .int .i64 0) (w_none rfl) rfl rfl (f_assign rfl rfl) ?_
        refine EvK.nil ?_
        refine WP.block ?_
        refine WP.loopF (fun (s3 : Int) => [(13, .int .i64 s3), (1, Sl.val a1), (2, Sl.val a2), (7, .pointer r2.1), (9, .pointer r3.1), (11, .pointer r4.1)]) hF ⟨rfl, rfl, rfl, rfl, rfl, rfl, trivial⟩ ?_
        intro k3 s3 E0 h7 hF
        refine WP.seq ?_
        refine WP.joinF (fun (s4 : Bool) => [(66, .bool s4), (1, Sl.val a1), (2, Sl.val a2), (7, .pointer r2.1), (9, .pointer r3.1), (11, .pointer r4.1), (13, .int .i64 s3)]) hF ?_ ?_
        · intro s4 E0 h8 hF
          rcases ite_inv hF with ⟨c4, hF⟩ | ⟨c4, hF⟩
          · refine WP.cond_true _ rfl c4 ?_
            refine WP.skip ?_
            refine WP.joinF (fun (s5 : Unit) => [(1, Sl.val a1), (2, Sl.val a2), (7, .pointer r2.1), (9, .pointer r3.1), (11, .pointer r4.1), (13, .int .i64 s3)]) hF ?_ ?_
            · intro s5 E0 h9 hF
              refine WP.region ?_
              refine EvK.pure (v := .int .i64 s3) (w_none rfl) rfl rfl (f_move rfl rfl) ?_
              refine EvK.pure (v := .int .i64 (IntKind.i64.wrap (s3 + 1))) (w_none rfl) rfl rfl (f_add rfl rfl rfl) ?_
              refine EvK.pure (v := .int .i64 (IntKind.i64.wrap (s3 + 1))) (w_none rfl) rfl rfl (f_assign rfl rfl) ?_
              refine EvK.nil ?_
              exact KE.mk (IntKind.i64.wrap (s3 + 1)) ⟨rfl, rfl, rfl, rfl, rfl, rfl, trivial⟩ hF
            · intro k5 hF
              refine WP.block ?_
              refine WP.joinF (fun (s6 : Unit) => [(1, Sl.val a1), (2, Sl.val a2), (7, .pointer r2.1), (9, .pointer r3.1), (11, .pointer r4.1), (13, .int .i64 s3)]) hF ?_ ?_
              · intro s6 E0 h10 hF
                refine WP.seq ?_
                refine WP.region ?_
                refine EvK.pure (v := .int .i64 s3) (w_none rfl) rfl rfl (f_move rfl rfl) ?_
                refine EvK.pure (v := Sl.val a2) (w_none rfl) rfl rfl (f_move rfl rfl) ?_
                refine EvK.pure (v := .int .i64 (a2.len : Int)) (w_none rfl) rfl rfl (f_lenL (s := a2) Try.underlying47 rfl rfl) ?_
                refine EvK.pure (v := .bool (decide (s3 < (a2.len : Int)))) (w_none rfl) rfl rfl (f_lss rfl rfl rfl) ?_
                refine EvK.nil ?_
                rcases ite_inv hF with ⟨c5, hF⟩ | ⟨c5, hF⟩
                · refine WP.cond_true _ rfl c5 ?_
                  refine WP.seq ?_
                  refine WP.region ?_
                  refine EvK.pure (v := Sl.val a2) (w_none rfl) rfl rfl (f_move rfl rfl) ?_
                  refine EvK.pure (v := .int .i64 s3) (w_none rfl) rfl rfl (f_move rfl rfl) ?_
                  obtain ⟨q1, hq1, hF⟩ := hF
                  refine EvK.pure (v := .pointer (some q1)) (w_none rfl) rfl rfl (f_indexAddr (s := a2) Try.underlying47 ty53.size rfl rfl rfl hq1) ?_
                  obtain ⟨x1, hx1, hF⟩ := hF
                  refine EvK.read (v := k52.val x1) (w_none rfl) rfl rfl (f_load k52 ty53 rfl rfl hx1 rfl) ?_
                  refine EvK.alloc (w_none rfl) rfl rfl (f_allocF zero53 rfl rfl hF) ?_
                  rintro _ h11 ⟨q2, rfl, hF⟩
                  obtain ⟨h12, hs1, hF⟩ := hF
                  refine EvK.runN (w_none rfl) rfl (f_store k52 ty53.size (z := x1) rfl rfl rfl hs1) ?_
                  rintro _ _ ⟨rfl, rfl⟩
                  refine EvK.nil ?_
                  refine WP.seq ?_
                  refine WP.region ?_
                  refine EvK.pure (v := .pointer (some (q2.add 0))) (w_none rfl) rfl rfl (f_fieldAddr fd53_0 rfl rfl) ?_
                  obtain ⟨x2, hx2, hF⟩ := hF
                  refine EvK.read (v := .int .i64 x2) (w_none rfl) rfl rfl (f_load (kI .i64) ty3 rfl rfl hx2 rfl) ?_
                  refine EvK.nil ?_
                  refine WP.block ?_
                  refine WP.seq ?_
                  refine WP.region ?_
                  refine EvK.pure (v := .bool (x2 == 1)) (w_none rfl) rfl rfl (f_eql rfl rfl rfl) ?_
                  refine EvK.pure (v := .bool (x2 == 1)) (w_none rfl) rfl rfl (f_assign rfl rfl) ?_
                  refine EvK.nil ?_
                  rcases ite_inv hF with ⟨c6, hF⟩ | ⟨c6, hF⟩
                  · refine WP.cond_true _ rfl c6 ?_
                    refine WP.draw mixed [.pure, .pure, .read, .pure, .read, .eff [2], .eff []] [[], [], [1], [], [3], [3, 4], [0, 1, 2, 3, 4, 5]] [0, 1, 2, 3, 4, 5, 6] (by kernel_rfl) (by kernel_rfl) ?_
                    refine EvI.pure (v := .pointer r3.1) rfl rfl (w_none rfl) rfl (f_move rfl rfl) ?_
                    refine EvI.pure (v := .pointer (some (q2.add 1))) rfl rfl (w_none rfl) rfl (f_fieldAddr fd53_1 rfl rfl) ?_
                    obtain ⟨x3, hx3, hF⟩ := hF
                    refine EvI.read (v := .int .i64 x3) rfl rfl (w_none rfl) rfl (f_load (kI .i64) ty3 rfl rfl hx3 rfl) ?_
                    refine EvI.pure (v := .pointer (some (q2.add 2))) rfl rfl (w_none rfl) rfl (f_fieldAddr fd53_2 rfl rfl) ?_
                    obtain ⟨x4, hx4, hF⟩ := hF
                    refine EvI.read (v := Sl.val x4) rfl rfl (w_none rfl) rfl (f_load kL ty30 rfl rfl hx4 rfl) ?_
                    refine EvI.call rfl rfl (w_none rfl) rfl (enterH Try.func25 rfl rfl rfl rfl (spatelaw11_set.sound hF)) ?_
                    rintro _ h13 ⟨r5, rfl, hF⟩
                    obtain ⟨hy1, hF⟩ := hF
                    refine ⟨⟨chk_no rfl, chk_yes rfl (f_load (kI .i64) ty3 rfl rfl hy1 rfl), trivial⟩, ?_⟩
                    refine EvI.call rfl rfl (w_none rfl) rfl (enterH Try.func14 rfl rfl rfl rfl (locks_Manager_Ask.sound hF)) ?_
                    rintro _ h14 ⟨r6, rfl, hF⟩
                    refine ⟨⟨chk_no rfl, chk_no rfl, trivial⟩, ?_⟩
                    refine EvI.nil ?_
                    exact KE.mk () ⟨rfl, rfl, rfl, rfl, rfl, rfl, trivial⟩ hF
                  · refine WP.cond_false _ rfl c6 ?_
                    refine WP.seq ?_
                    refine WP.region ?_
                    refine EvK.pure (v := .bool (x2 == 2)) (w_none rfl) rfl rfl (f_eql rfl rfl rfl) ?_
                    refine EvK.pure (v := .bool (x2 == 2)) (w_none rfl) rfl rfl (f_assign rfl rfl) ?_
                    refine EvK.nil ?_
                    rcases ite_inv hF with ⟨c7, hF⟩ | ⟨c7, hF⟩
                    · refine WP.cond_true _ rfl c7 ?_
                      refine WP.region ?_
                      refine EvK.pure (v := .pointer r3.1) (w_none rfl) rfl rfl (f_move rfl rfl) ?_
                      refine EvK.pure (v := .pointer (some (q2.add 1))) (w_none rfl) rfl rfl (f_fieldAddr fd53_1 rfl rfl) ?_
                      obtain ⟨x5, hx5, hF⟩ := hF
                      refine EvK.read (v := .int .i64 x5) (w_none rfl) rfl rfl (f_load (kI .i64) ty3 rfl rfl hx5 rfl) ?_
                      refine EvK.call (w_none rfl) rfl rfl (enterH Try.func17 rfl rfl rfl rfl (locks_Manager_Free.sound hF)) ?_
                      rintro _ h15 ⟨r7, rfl, hF⟩
                      refine EvK.nil ?_
                      exact KE.mk () ⟨rfl, rfl, rfl, rfl, rfl, rfl, trivial⟩ hF
                    · refine WP.cond_false _ rfl c7 ?_
                      refine WP.seq ?_
                      refine WP.region ?_
                      refine EvK.pure (v := .bool (x2 == 3)) (w_none rfl) rfl rfl (f_eql rfl rfl rfl) ?_
                      refine EvK.pure (v := .bool (x2 == 3)) (w_none rfl) rfl rfl (f_assign rfl rfl) ?_
                      refine EvK.nil ?_
                      rcases ite_inv hF with ⟨c8, hF⟩ | ⟨c8, hF⟩
                      · refine WP.cond_true _ rfl c8 ?_
                        refine WP.region ?_
                        refine EvK.pure (v := .pointer r3.1) (w_none rfl) rfl rfl (f_move rfl rfl) ?_
                        refine EvK.pure (v := .pointer (some (q2.add 1))) (w_none rfl) rfl rfl (f_fieldAddr fd53_1 rfl rfl) ?_
                        obtain ⟨x6, hx6, hF⟩ := hF
                        refine EvK.read (v := .int .i64 x6) (w_none rfl) rfl rfl (f_load (kI .i64) ty3 rfl rfl hx6 rfl) ?_
                        refine EvK.call (w_none rfl) rfl rfl (enterH Try.func28 rfl rfl rfl rfl (locks_Manager_Quit.sound hF)) ?_
                        rintro _ h16 ⟨r8, rfl, hF⟩
                        refine EvK.nil ?_
                        exact KE.mk () ⟨rfl, rfl, rfl, rfl, rfl, rfl, trivial⟩ hF
                      · refine WP.cond_false _ rfl c8 ?_
                        refine WP.skip ?_
                        exact KE.mk () ⟨rfl, rfl, rfl, rfl, rfl, rfl, trivial⟩ hF
                · refine WP.cond_false _ rfl c5 ?_
                  refine WP.skip ?_
                  exact KE.mk () ⟨rfl, rfl, rfl, rfl, rfl, rfl, trivial⟩ hF
              · intro k6 hF
                refine WP.seq ?_
                refine WP.region ?_
                refine EvK.pure (v := .int .i64 s3) (w_none rfl) rfl rfl (f_move rfl rfl) ?_
                refine EvK.pure (v := Sl.val a1) (w_none rfl) rfl rfl (f_move rfl rfl) ?_
                refine EvK.pure (v := .int .i64 (a1.len : Int)) (w_none rfl) rfl rfl (f_lenL (s := a1) Try.underlying47 rfl rfl) ?_
                refine EvK.pure (v := .bool (decide (s3 < (a1.len : Int)))) (w_none rfl) rfl rfl (f_lss rfl rfl rfl) ?_
                refine EvK.nil ?_
                rcases ite_inv hF with ⟨c9, hF⟩ | ⟨c9, hF⟩
                · refine WP.cond_true _ rfl c9 ?_
                  refine WP.seq ?_
                  refine WP.region ?_
                  refine EvK.pure (v := Sl.val a1) (w_none rfl) rfl rfl (f_move rfl rfl) ?_
                  refine EvK.pure (v := .int .i64 s3) (w_none rfl) rfl rfl (f_move rfl rfl) ?_
                  obtain ⟨q3, hq2, hF⟩ := hF
                  refine EvK.pure (v := .pointer (some q3)) (w_none rfl) rfl rfl (f_indexAddr (s := a1) Try.underlying47 ty53.size rfl rfl rfl hq2) ?_
                  obtain ⟨x7, hx7, hF⟩ := hF
                  refine EvK.read (v := k52.val x7) (w_none rfl) rfl rfl (f_load k52 ty53 rfl rfl hx7 rfl) ?_
                  refine EvK.alloc (w_none rfl) rfl rfl (f_allocF zero53 rfl rfl hF) ?_
                  rintro _ h17 ⟨q4, rfl, hF⟩
                  obtain ⟨h18, hs2, hF⟩ := hF
                  refine EvK.runN (w_none rfl) rfl (f_store k52 ty53.size (z := x7) rfl rfl rfl hs2) ?_
                  rintro _ _ ⟨rfl, rfl⟩
                  refine EvK.nil ?_
                  refine WP.seq ?_
                  refine WP.region ?_
                  refine EvK.pure (v := .bool true) (w_none rfl) rfl rfl (f_assign rfl rfl) ?_
                  refine EvK.nil ?_
                  refine WP.joinF (fun (s7 : Bool) => [(15, .bool s7), (1, Sl.val a1), (2, Sl.val a2), (7, .pointer r2.1), (9, .pointer r3.1), (11, .pointer r4.1), (13, .int .i64 s3), (14, .pointer (some q4))]) hF ?_ ?_
                  · intro s7 E0 h19 hF
                    refine WP.seq ?_
                    refine WP.seq ?_
                    refine WP.region ?_
                    refine EvK.pure (v := .bool s7) (w_none rfl) rfl rfl (f_move rfl rfl) ?_
                    refine EvK.pure (v := .bool (!s7)) (w_none rfl) rfl rfl (f_not rfl rfl) ?_
                    refine EvK.nil ?_
                    rcases ite_inv hF with ⟨c10, hF⟩ | ⟨c10, hF⟩
                    · refine WP.cond_true _ rfl c10 ?_
                      refine WP.seq ?_
                      refine WP.region ?_
                      refine EvK.pure (v := .bool false) (w_none rfl) rfl rfl (f_assign rfl rfl) ?_
                      refine EvK.nil ?_
                      refine WP.ret ?_
                      exact Ret.mk (vs := [.bool false]) false ⟨rfl, trivial⟩ rfl hF
                    · refine WP.cond_false _ rfl c10 ?_
                      refine WP.skip ?_
                      refine WP.seq ?_
                      refine WP.region ?_
                      refine EvK.pure (v := .pointer r2.1) (w_none rfl) rfl rfl (f_move rfl rfl) ?_
                      refine EvK.call (w_none rfl) rfl rfl (enterH Try.func20 rfl rfl rfl rfl (locks_Manager_Queue.sound hF)) ?_
                      rintro _ h20 ⟨r9, rfl, hF⟩
                      refine EvK.call (w_none rfl) rfl rfl (enterH Try.func34 rfl rfl rfl rfl (spatelaw11_spoil.sound hF)) ?_
                      rintro _ h21 ⟨r10, rfl, hF⟩
                      refine EvK.nil ?_
                      refine WP.seq ?_
                      refine WP.region ?_
                      refine EvK.pure (v := .pointer r2.1) (w_none rfl) rfl rfl (f_move rfl rfl) ?_
                      refine EvK.pure (v := .pointer (some (q4.add 1))) (w_none rfl) rfl rfl (f_fieldAddr fd53_1 rfl rfl) ?_
                      obtain ⟨x8, hx8, hF⟩ := hF
                      refine EvK.read (v := .int .i64 x8) (w_none rfl) rfl rfl (f_load (kI .i64) ty3 rfl rfl hx8 rfl) ?_
                      refine EvK.call (w_none rfl) rfl rfl (enterH Try.func16 rfl rfl rfl rfl (locks_Manager_Has.sound hF)) ?_
                      rintro _ h22 ⟨r11, rfl, hF⟩
                      refine EvK.pure (v := Sl.val r11) (w_none rfl) rfl rfl (f_assign rfl rfl) ?_
                      refine EvK.nil ?_
                      refine WP.joinF (fun (s8 : Unit) => [(1, Sl.val a1), (2, Sl.val a2), (7, .pointer r2.1), (9, .pointer r3.1), (11, .pointer r4.1), (13, .int .i64 s3), (14, .pointer (some q4))]) hF ?_ ?_
                      · intro s8 E0 h23 hF
                        refine WP.joinF (fun (s9 : Bool) => [(175, .bool s9), (1, Sl.val a1), (2, Sl.val a2), (7, .pointer r2.1), (9, .pointer r3.1), (11, .pointer r4.1), (13, .int .i64 s3)]) hF ?_ ?_
                        · intro s9 E0 h24 hF
                          rcases ite_inv hF with ⟨c11, hF⟩ | ⟨c11, hF⟩
                          · refine WP.cond_true _ rfl c11 ?_
                            refine WP.seq ?_
                            refine WP.region ?_
                            refine EvK.pure (v := .bool false) (w_none rfl) rfl rfl (f_assign rfl rfl) ?_
                            refine EvK.nil ?_
                            refine WP.ret ?_
                            exact Ret.mk (vs := [.bool false]) false ⟨rfl, trivial⟩ rfl hF
                          · refine WP.cond_false _ rfl c11 ?_
                            refine WP.skip ?_
                            exact KE.mk () ⟨rfl, rfl, rfl, rfl, rfl, rfl, trivial⟩ hF
                        · intro k9 hF
                          refine WP.draw mixed [.pure, .eff [], .pure, .eff [], .eff [], .pure, .pure, .pure, .pure, .read, .eff [13], .pure, .pure, .read, .eff [], .eff [], .pure, .pure] [[], [0], [], [0, 1, 2], [0, 1, 2, 3], [0, 1, 2, 3, 4], [0, 1, 2, 3, 4, 5], [0, 1, 2, 3, 4, 5, 6], [0, 1, 2, 3, 4, 5, 6], [0, 1, 2, 3, 4, 5, 6, 8], [0, 1, 2, 3, 4, 5, 6, 7, 8, 9], [0, 1, 2, 3, 4, 5, 6], [0, 1, 2, 3, 4, 5, 6], [0, 1, 2, 3, 4, 5, 6, 12], [0, 1, 2, 3, 4, 5, 6, 7, 8, 9, 10, 11, 12, 13], [0, 1, 2, 3, 4, 5, 6, 7, 8, 9, 10, 11, 12, 13, 14], [0, 1, 2, 3, 4, 5, 6, 7, 8, 9, 10, 11, 12, 13, 14, 15], [0, 1, 2, 3, 4, 5, 6, 7, 8, 9, 10, 11, 12, 13, 14, 15, 16]] [0, 2, 1, 3, 4, 5, 6, 7, 8, 9, 11, 12, 13, 10, 14, 15, 16, 17] (by kernel_rfl) (by kernel_rfl) ?_
                          refine EvI.pure (v := .pointer r2.1) rfl rfl (w_none rfl) rfl (f_move rfl rfl) ?_
                          refine EvI.pure (v := .pointer r4.1) rfl rfl (w_none rfl) rfl (f_move rfl rfl) ?_
                          refine EvI.call rfl rfl (w_none rfl) rfl (enterH Try.func20 rfl rfl rfl rfl (locks_Manager_Queue.sound hF)) ?_
                          rintro _ h25 ⟨r12, rfl, hF⟩
                          refine ⟨trivial, ?_⟩
                          refine EvI.call rfl rfl (w_none rfl) rfl (enterH Try.func20 rfl rfl rfl rfl (locks_Manager_Queue.sound hF)) ?_
                          rintro _ h26 ⟨r13, rfl, hF⟩
                          refine ⟨trivial, ?_⟩
                          refine EvI.call rfl rfl (w_none rfl) rfl (enterH Try.func19 rfl rfl rfl rfl (spatelaw11_SameInts.sound hF)) ?_
                          rintro _ h27 ⟨r14, rfl, hF⟩
                          refine ⟨trivial, ?_⟩
                          refine EvI.pure (v := .bool (!r14)) rfl rfl (w_none rfl) rfl (f_not rfl rfl) ?_
                          refine EvI.pure (v := .bool (!r14)) rfl rfl (w_none rfl) rfl (f_move rfl rfl) ?_
                          rcases ite_inv hF with ⟨c12, hF⟩ | ⟨c12, hF⟩
                          · refine EvI.not rfl (w_not rfl rfl c12) rfl ?_
                            refine EvI.not rfl (w_not rfl rfl c12) rfl ?_
                            refine EvI.not rfl (w_not rfl rfl c12) rfl ?_
                            refine EvI.not rfl (w_not rfl rfl c12) rfl ?_
                            refine EvI.not rfl (w_not rfl rfl c12) rfl ?_
                            refine EvI.not rfl (w_not rfl rfl c12) rfl ?_
                            refine EvI.not rfl (w_not rfl rfl c12) rfl ?_
                            refine EvI.not rfl (w_not rfl rfl c12) rfl ?_
                            refine EvI.not rfl (w_not rfl rfl c12) rfl ?_
                            refine EvI.not rfl (w_not rfl rfl c12) rfl ?_
                            refine EvI.pure (v := .bool true) rfl rfl (w_none rfl) rfl (f_pickT rfl rfl c12 rfl) ?_
                            refine EvI.nil ?_
                            exact KE.mk true ⟨rfl, rfl, rfl, rfl, rfl, rfl, rfl, trivial⟩ hF
                          · refine EvI.pure (v := .pointer r2.1) rfl rfl (w_some rfl rfl c12) rfl (f_move rfl rfl) ?_
                            refine EvI.pure (v := .pointer (some (q4.add 1))) rfl rfl (w_some rfl rfl c12) rfl (f_fieldAddr fd53_1 rfl rfl) ?_
                            obtain ⟨x9, hx9, hF⟩ := hF
                            refine EvI.read (v := .int .i64 x9) rfl rfl (w_some rfl rfl c12) rfl (f_load (kI .i64) ty3 rfl rfl hx9 rfl) ?_
                            refine EvI.pure (v := .pointer r4.1) rfl rfl (w_some rfl rfl c12) rfl (f_move rfl rfl) ?_
                            refine EvI.pure (v := .pointer (some (q4.add 1))) rfl rfl (w_some rfl rfl c12) rfl (f_fieldAddr fd53_1 rfl rfl) ?_
                            obtain ⟨x10, hx10, hF⟩ := hF
                            refine EvI.read (v := .int .i64 x10) rfl rfl (w_some rfl rfl c12) rfl (f_load (kI .i64) ty3 rfl rfl hx10 rfl) ?_
                            refine EvI.call rfl rfl (w_some rfl rfl c12) rfl (enterH Try.func16 rfl rfl rfl rfl (locks_Manager_Has.sound hF)) ?_
                            rintro _ h28 ⟨r15, rfl, hF⟩
                            obtain ⟨hy2, hF⟩ := hF
                            refine ⟨⟨chk_yes rfl (f_load (kI .i64) ty3 rfl rfl hy2 rfl), chk_no rfl, trivial⟩, ?_⟩
                            refine EvI.call rfl rfl (w_some rfl rfl c12) rfl (enterH Try.func16 rfl rfl rfl rfl (locks_Manager_Has.sound hF)) ?_
                            rintro _ h29 ⟨r16, rfl, hF⟩
                            refine ⟨⟨chk_no rfl, chk_no rfl, trivial⟩, ?_⟩
                            refine EvI.call rfl rfl (w_some rfl rfl c12) rfl (enterH Try.func15 rfl rfl rfl rfl (spatelaw11_SameLocks.sound hF)) ?_
                            rintro _ h30 ⟨r17, rfl, hF⟩
                            refine ⟨⟨chk_no rfl, chk_no rfl, trivial⟩, ?_⟩
                            refine EvI.pure (v := .bool (!r17)) rfl rfl (w_some rfl rfl c12) rfl (f_not rfl rfl) ?_
                            refine EvI.pure (v := .bool (!r17)) rfl rfl (w_none rfl) rfl (f_pickF rfl rfl c12 rfl) ?_
                            refine EvI.nil ?_
                            exact KE.mk (!r17) ⟨rfl, rfl, rfl, rfl, rfl, rfl, rfl, trivial⟩ hF
                      · intro k8 hF
                        refine WP.seq ?_
                        refine WP.region ?_
                        refine EvK.pure (v := .int .i64 0) (w_none rfl) rfl rfl (f_assign rfl rfl) ?_
                        refine EvK.nil ?_
                        refine WP.block ?_
                        refine WP.loopF (fun (s10 : Int) => [(26, .int .i64 s10), (1, Sl.val a1), (2, Sl.val a2), (7, .pointer r2.1), (9, .pointer r3.1), (11, .pointer r4.1), (13, .int .i64 s3), (14, .pointer (some q4)), (25, Sl.val r11)]) hF ⟨rfl, rfl, rfl, rfl, rfl, rfl, rfl, rfl, rfl, trivial⟩ ?_
                        intro k10 s10 E0 h31 hF
                        refine WP.seq ?_
                        refine WP.seq ?_
                        refine WP.region ?_
                        refine EvK.pure (v := .int .i64 s10) (w_none rfl) rfl rfl (f_move rfl rfl) ?_
                        refine EvK.pure (v := Sl.val r11) (w_none rfl) rfl rfl (f_move rfl rfl) ?_
                        refine EvK.pure (v := .int .i64 (r11.len : Int)) (w_none rfl) rfl rfl (f_lenL (s := r11) Try.underlying30 rfl rfl) ?_
                        refine EvK.pure (v := .bool (decide (s10 < (r11.len : Int)))) (w_none rfl) rfl rfl (f_lss rfl rfl rfl) ?_
                        refine EvK.nil ?_
                        rcases ite_inv hF with ⟨c13, hF⟩ | ⟨c13, hF⟩
                        · refine WP.cond_true _ rfl c13 ?_
                          refine WP.skip ?_
                          refine WP.seq ?_
                          refine WP.block ?_
                          refine WP.region ?_
                          refine EvK.pure (v := Sl.val r11) (w_none rfl) rfl rfl (f_move rfl rfl) ?_
                          refine EvK.pure (v := .int .i64 s10) (w_none rfl) rfl rfl (f_move rfl rfl) ?_
                          refine EvK.pure (v := k31.val (S31.mk (-3) false)) (w_none rfl) rfl rfl (f_build (cells := k31.enc (S31.mk (-3) false)) st32 rfl rfl rfl) ?_
                          obtain ⟨q5, hq3, hF⟩ := hF
                          refine EvK.pure (v := .pointer (some q5)) (w_none rfl) rfl rfl (f_indexAddr (s := r11) Try.underlying30 ty32.size rfl rfl rfl hq3) ?_
                          obtain ⟨h32, hs3, hF⟩ := hF
                          refine EvK.runN (w_none rfl) rfl (f_store k31 ty32.size (z := (S31.mk (-3) false)) rfl rfl rfl hs3) ?_
                          rintro _ _ ⟨rfl, rfl⟩
                          refine EvK.nil ?_
                          refine WP.region ?_
                          refine EvK.pure (v := .int .i64 s10) (w_none rfl) rfl rfl (f_move rfl rfl) ?_
                          refine EvK.pure (v := .int .i64 (IntKind.i64.wrap (s10 + 1))) (w_none rfl) rfl rfl (f_add rfl rfl rfl) ?_
                          refine EvK.pure (v := .int .i64 (IntKind.i64.wrap (s10 + 1))) (w_none rfl) rfl rfl (f_assign rfl rfl) ?_
                          refine EvK.nil ?_
                          exact KE.mk (IntKind.i64.wrap (s10 + 1)) ⟨rfl, rfl, rfl, rfl, rfl, rfl, rfl, rfl, rfl, trivial⟩ hF
                        · refine WP.cond_false _ rfl c13 ?_
                          refine WP.exit ?_
                          exact KE.mk () ⟨rfl, rfl, rfl, rfl, rfl, rfl, rfl, trivial⟩ hF
                  · intro k7 hF
                    refine WP.seq ?_
                    refine WP.region ?_
                    refine EvK.pure (v := .pointer (some (q4.add 0))) (w_none rfl) rfl rfl (f_fieldAddr fd53_0 rfl rfl) ?_
                    obtain ⟨x11, hx11, hF⟩ := hF
                    refine EvK.read (v := .int .i64 x11) (w_none rfl) rfl rfl (f_load (kI .i64) ty3 rfl rfl hx11 rfl) ?_
                    refine EvK.nil ?_
                    refine WP.block ?_
                    refine WP.seq ?_
                    refine WP.region ?_
                    refine EvK.pure (v := .bool (x11 == 1)) (w_none rfl) rfl rfl (f_eql rfl rfl rfl) ?_
                    refine EvK.pure (v := .bool (x11 == 1)) (w_none rfl) rfl rfl (f_assign rfl rfl) ?_
                    refine EvK.nil ?_
                    rcases ite_inv hF with ⟨c14, hF⟩ | ⟨c14, hF⟩
                    · refine WP.cond_true _ rfl c14 ?_
                      refine WP.seq ?_
                      refine WP.draw mixed [.pure, .pure, .read, .pure, .read, .eff [2], .eff [], .pure, .pure, .pure, .pure, .pure] [[], [], [1], [], [3], [3, 4], [0, 1, 2, 3, 4, 5], [0, 1, 2, 3, 4, 5, 6], [0, 1, 2, 3, 4, 5, 6, 7], [0, 1, 2, 3, 4, 5, 6, 7], [0, 1, 2, 3, 4, 5, 6, 7, 8], [0, 1, 2, 3, 4, 5, 6, 7, 8, 9, 10]] [0, 1, 2, 3, 4, 5, 6, 7, 8, 9, 10, 11] (by kernel_rfl) (by kernel_rfl) ?_
                      refine EvI.pure (v := .pointer r2.1) rfl rfl (w_none rfl) rfl (f_move rfl rfl) ?_
                      refine EvI.pure (v := .pointer (some (q4.add 1))) rfl rfl (w_none rfl) rfl (f_fieldAddr fd53_1 rfl rfl) ?_
                      obtain ⟨x12, hx12, hF⟩ := hF
                      refine EvI.read (v := .int .i64 x12) rfl rfl (w_none rfl) rfl (f_load (kI .i64) ty3 rfl rfl hx12 rfl) ?_
                      refine EvI.pure (v := .pointer (some (q4.add 2))) rfl rfl (w_none rfl) rfl (f_fieldAddr fd53_2 rfl rfl) ?_
                      obtain ⟨x13, hx13, hF⟩ := hF
                      refine EvI.read (v := Sl.val x13) rfl rfl (w_none rfl) rfl (f_load kL ty30 rfl rfl hx13 rfl) ?_
                      refine EvI.call rfl rfl (w_none rfl) rfl (enterH Try.func25 rfl rfl rfl rfl (spatelaw11_set.sound hF)) ?_
                      rintro _ h33 ⟨r19, rfl, hF⟩
                      obtain ⟨hy3, hF⟩ := hF
                      refine ⟨⟨chk_no rfl, chk_yes rfl (f_load (kI .i64) ty3 rfl rfl hy3 rfl), trivial⟩, ?_⟩
                      refine EvI.call rfl rfl (w_none rfl) rfl (enterH Try.func14 rfl rfl rfl rfl (locks_Manager_Ask.sound hF)) ?_
                      rintro _ h34 ⟨r20, rfl, hF⟩
                      refine ⟨⟨chk_no rfl, chk_no rfl, trivial⟩, ?_⟩
                      refine EvI.pure (v := .tuple #[.bool r20.1, IF.val r20.2]) rfl rfl (w_none rfl) rfl (f_move rfl rfl) ?_
                      refine EvI.pure (v := .bool r20.1) rfl rfl (w_none rfl) rfl (f_extract (vs := #[.bool r20.1, IF.val r20.2]) rfl rfl rfl) ?_
                      refine EvI.pure (v := IF.val r20.2) rfl rfl (w_none rfl) rfl (f_extract (vs := #[.bool r20.1, IF.val r20.2]) rfl rfl rfl) ?_
                      refine EvI.pure (v := .bool r20.1) rfl rfl (w_none rfl) rfl (f_assign rfl rfl) ?_
                      refine EvI.pure (v := IF.val r20.2) rfl rfl (w_none rfl) rfl (f_assign rfl rfl) ?_
                      refine EvI.nil ?_
                      refine WP.seq ?_
                      refine WP.draw mixed [.pure, .pure, .read, .pure, .read, .eff [2], .eff [], .pure, .pure, .pure, .pure, .pure] [[], [], [1], [], [3], [3, 4], [0, 1, 2, 3, 4, 5], [0, 1, 2, 3, 4, 5, 6], [0, 1, 2, 3, 4, 5, 6, 7], [0, 1, 2, 3, 4, 5, 6, 7], [0, 1, 2, 3, 4, 5, 6, 7, 8], [0, 1, 2, 3, 4, 5, 6, 7, 8, 9, 10]] [0, 1, 2, 3, 4, 5, 6, 7, 8, 9, 10, 11] (by kernel_rfl) (by kernel_rfl) ?_
                      refine EvI.pure (v := .pointer r4.1) rfl rfl (w_none rfl) rfl (f_move rfl rfl) ?_
                      refine EvI.pure (v := .pointer (some (q4.add 1))) rfl rfl (w_none rfl) rfl (f_fieldAddr fd53_1 rfl rfl) ?_
                      obtain ⟨x14, hx14, hF⟩ := hF
                      refine EvI.read (v := .int .i64 x14) rfl rfl (w_none rfl) rfl (f_load (kI .i64) ty3 rfl rfl hx14 rfl) ?_
                      refine EvI.pure (v := .pointer (some (q4.add 2))) rfl rfl (w_none rfl) rfl (f_fieldAddr fd53_2 rfl rfl) ?_
                      obtain ⟨x15, hx15, hF⟩ := hF
                      refine EvI.read (v := Sl.val x15) rfl rfl (w_none rfl) rfl (f_load kL ty30 rfl rfl hx15 rfl) ?_
                      refine EvI.call rfl rfl (w_none rfl) rfl (enterH Try.func25 rfl rfl rfl rfl (spatelaw11_set.sound hF)) ?_
                      rintro _ h35 ⟨r21, rfl, hF⟩
                      obtain ⟨hy4, hF⟩ := hF
                      refine ⟨⟨chk_no rfl, chk_yes rfl (f_load (kI .i64) ty3 rfl rfl hy4 rfl), trivial⟩, ?_⟩
                      refine EvI.call rfl rfl (w_none rfl) rfl (enterH Try.func14 rfl rfl rfl rfl (locks_Manager_Ask.sound hF)) ?_
                      rintro _ h36 ⟨r22, rfl, hF⟩
                      refine ⟨⟨chk_no rfl, chk_no rfl, trivial⟩, ?_⟩
                      refine EvI.pure (v := .tuple #[.bool r22.1, IF.val r22.2]) rfl rfl (w_none rfl) rfl (f_move rfl rfl) ?_
                      refine EvI.pure (v := .bool r22.1) rfl rfl (w_none rfl) rfl (f_extract (vs := #[.bool r22.1, IF.val r22.2]) rfl rfl rfl) ?_
                      refine EvI.pure (v := IF.val r22.2) rfl rfl (w_none rfl) rfl (f_extract (vs := #[.bool r22.1, IF.val r22.2]) rfl rfl rfl) ?_
                      refine EvI.pure (v := .bool r22.1) rfl rfl (w_none rfl) rfl (f_assign rfl rfl) ?_
                      refine EvI.pure (v := IF.val r22.2) rfl rfl (w_none rfl) rfl (f_assign rfl rfl) ?_
                      refine EvI.nil ?_
                      refine WP.region ?_
                      refine EvK.pure (v := .bool r20.1) (w_none rfl) rfl rfl (f_move rfl rfl) ?_
                      refine EvK.pure (v := .bool r22.1) (w_none rfl) rfl rfl (f_move rfl rfl) ?_
                      refine EvK.pure (v := .bool (r20.1 == r22.1)) (w_none rfl) rfl rfl (f_beql Try.underlying4 rfl rfl rfl) ?_
                      refine EvK.pure (v := .bool (r20.1 == r22.1)) (w_none rfl) rfl rfl (f_assign rfl rfl) ?_
                      refine EvK.nil ?_
                      exact KE.mk (r20.1 == r22.1) ⟨rfl, rfl, rfl, rfl, rfl, rfl, rfl, rfl, trivial⟩ hF
                    · refine WP.cond_false _ rfl c14 ?_
                      refine WP.seq ?_
                      refine WP.region ?_
                      refine EvK.pure (v := .bool (x11 == 2)) (w_none rfl) rfl rfl (f_eql rfl rfl rfl) ?_
                      refine EvK.pure (v := .bool (x11 == 2)) (w_none rfl) rfl rfl (f_assign rfl rfl) ?_
                      refine EvK.nil ?_
                      rcases ite_inv hF with ⟨c15, hF⟩ | ⟨c15, hF⟩
                      · refine WP.cond_true _ rfl c15 ?_
                        refine WP.seq ?_
                        refine WP.region ?_
                        refine EvK.pure (v := .pointer r2.1) (w_none rfl) rfl rfl (f_move rfl rfl) ?_
                        refine EvK.pure (v := .pointer (some (q4.add 1))) (w_none rfl) rfl rfl (f_fieldAddr fd53_1 rfl rfl) ?_
                        obtain ⟨x16, hx16, hF⟩ := hF
                        refine EvK.read (v := .int .i64 x16) (w_none rfl) rfl rfl (f_load (kI .i64) ty3 rfl rfl hx16 rfl) ?_
                        refine EvK.call (w_none rfl) rfl rfl (enterH Try.func17 rfl rfl rfl rfl (locks_Manager_Free.sound hF)) ?_
                        rintro _ h37 ⟨r23, rfl, hF⟩
                        refine EvK.pure (v := .tuple #[Sl.val r23.1, IF.val r23.2]) (w_none rfl) rfl rfl (f_move rfl rfl) ?_
                        refine EvK.pure (v := Sl.val r23.1) (w_none rfl) rfl rfl (f_extract (vs := #[Sl.val r23.1, IF.val r23.2]) rfl rfl rfl) ?_
                        refine EvK.pure (v := IF.val r23.2) (w_none rfl) rfl rfl (f_extract (vs := #[Sl.val r23.1, IF.val r23.2]) rfl rfl rfl) ?_
                        refine EvK.pure (v := Sl.val r23.1) (w_none rfl) rfl rfl (f_assign rfl rfl) ?_
                        refine EvK.pure (v := IF.val r23.2) (w_none rfl) rfl rfl (f_assign rfl rfl) ?_
                        refine EvK.nil ?_
                        refine WP.seq ?_
                        refine WP.region ?_
                        refine EvK.pure (v := .pointer r4.1) (w_none rfl) rfl rfl (f_move rfl rfl) ?_
                        refine EvK.pure (v := .pointer (some (q4.add 1))) (w_none rfl) rfl rfl (f_fieldAddr fd53_1 rfl rfl) ?_
                        obtain ⟨x17, hx17, hF⟩ := hF
                        refine EvK.read (v := .int .i64 x17) (w_none rfl) rfl rfl (f_load (kI .i64) ty3 rfl rfl hx17 rfl) ?_
                        refine EvK.call (w_none rfl) rfl rfl (enterH Try.func17 rfl rfl rfl rfl (locks_Manager_Free.sound hF)) ?_
                        rintro _ h38 ⟨r24, rfl, hF⟩
                        refine EvK.pure (v := .tuple #[Sl.val r24.1, IF.val r24.2]) (w_none rfl) rfl rfl (f_move rfl rfl) ?_
                        refine EvK.pure (v := Sl.val r24.1) (w_none rfl) rfl rfl (f_extract (vs := #[Sl.val r24.1, IF.val r24.2]) rfl rfl rfl) ?_
                        refine EvK.pure (v := IF.val r24.2) (w_none rfl) rfl rfl (f_extract (vs := #[Sl.val r24.1, IF.val r24.2]) rfl rfl rfl) ?_
                        refine EvK.pure (v := Sl.val r24.1) (w_none rfl) rfl rfl (f_assign rfl rfl) ?_
                        refine EvK.pure (v := IF.val r24.2) (w_none rfl) rfl rfl (f_assign rfl rfl) ?_
                        refine EvK.nil ?_
                        refine WP.seq ?_
                        refine WP.region ?_
                        refine EvK.pure (v := Sl.val r23.1) (w_none rfl) rfl rfl (f_move rfl rfl) ?_
                        refine EvK.pure (v := Sl.val r24.1) (w_none rfl) rfl rfl (f_move rfl rfl) ?_
                        refine EvK.call (w_none rfl) rfl rfl (enterH Try.func19 rfl rfl rfl rfl (spatelaw11_SameInts.sound hF)) ?_
                        rintro _ h39 ⟨r25, rfl, hF⟩
                        refine EvK.pure (v := .bool r25) (w_none rfl) rfl rfl (f_assign rfl rfl) ?_
                        refine EvK.nil ?_
                        refine WP.region ?_
                        refine EvK.pure (v := Sl.val r23.1) (w_none rfl) rfl rfl (f_move rfl rfl) ?_
                        refine EvK.call (w_none rfl) rfl rfl (enterH Try.func34 rfl rfl rfl rfl (spatelaw11_spoil.sound hF)) ?_
                        rintro _ h40 ⟨r26, rfl, hF⟩
                        refine EvK.nil ?_
                        exact KE.mk r25 ⟨rfl, rfl, rfl, rfl, rfl, rfl, rfl, rfl, trivial⟩ hF
                      · refine WP.cond_false _ rfl c15 ?_
                        refine WP.seq ?_
                        refine WP.region ?_
                        refine EvK.pure (v := .bool (x11 == 3)) (w_none rfl) rfl rfl (f_eql rfl rfl rfl) ?_
                        refine EvK.pure (v := .bool (x11 == 3)) (w_none rfl) rfl rfl (f_assign rfl rfl) ?_
                        refine EvK.nil ?_
                        rcases ite_inv hF with ⟨c16, hF⟩ | ⟨c16, hF⟩
                        · refine WP.cond_true _ rfl c16 ?_
                          refine WP.seq ?_
                          refine WP.region ?_
                          refine EvK.pure (v := .pointer r2.1) (w_none rfl) rfl rfl (f_move rfl rfl) ?_
                          refine EvK.pure (v := .pointer (some (q4.add 1))) (w_none rfl) rfl rfl (f_fieldAddr fd53_1 rfl rfl) ?_
                          obtain ⟨x18, hx18, hF⟩ := hF
                          refine EvK.read (v := .int .i64 x18) (w_none rfl) rfl rfl (f_load (kI .i64) ty3 rfl rfl hx18 rfl) ?_
                          refine EvK.call (w_none rfl) rfl rfl (enterH Try.func28 rfl rfl rfl rfl (locks_Manager_Quit.sound hF)) ?_
                          rintro _ h41 ⟨r27, rfl, hF⟩
                          refine EvK.pure (v := Sl.val r27) (w_none rfl) rfl rfl (f_assign rfl rfl) ?_
                          refine EvK.nil ?_
                          refine WP.seq ?_
                          refine WP.region ?_
                          refine EvK.pure (v := Sl.val r27) (w_none rfl) rfl rfl (f_move rfl rfl) ?_
                          refine EvK.pure (v := .pointer r4.1) (w_none rfl) rfl rfl (f_move rfl rfl) ?_
                          refine EvK.pure (v := .pointer (some (q4.add 1))) (w_none rfl) rfl rfl (f_fieldAddr fd53_1 rfl rfl) ?_
                          obtain ⟨x19, hx19, hF⟩ := hF
                          refine EvK.read (v := .int .i64 x19) (w_none rfl) rfl rfl (f_load (kI .i64) ty3 rfl rfl hx19 rfl) ?_
                          refine EvK.call (w_none rfl) rfl rfl (enterH Try.func28 rfl rfl rfl rfl (locks_Manager_Quit.sound hF)) ?_
                          rintro _ h42 ⟨r28, rfl, hF⟩
                          refine EvK.call (w_none rfl) rfl rfl (enterH Try.func19 rfl rfl rfl rfl (spatelaw11_SameInts.sound hF)) ?_
                          rintro _ h43 ⟨r29, rfl, hF⟩
                          refine EvK.pure (v := .bool r29) (w_none rfl) rfl rfl (f_assign rfl rfl) ?_
                          refine EvK.nil ?_
                          refine WP.region ?_
                          refine EvK.pure (v := Sl.val r27) (w_none rfl) rfl rfl (f_move rfl rfl) ?_
                          refine EvK.call (w_none rfl) rfl rfl (enterH Try.func34 rfl rfl rfl rfl (spatelaw11_spoil.sound hF)) ?_
                          rintro _ h44 ⟨r30, rfl, hF⟩
                          refine EvK.nil ?_
                          exact KE.mk r29 ⟨rfl, rfl, rfl, rfl, rfl, rfl, rfl, rfl, trivial⟩ hF
                        · refine WP.cond_false _ rfl c16 ?_
                          refine WP.skip ?_
                          exact KE.mk true ⟨rfl, rfl, rfl, rfl, rfl, rfl, rfl, rfl, trivial⟩ hF
                · refine WP.cond_false _ rfl c9 ?_
                  refine WP.skip ?_
                  exact KE.mk () ⟨rfl, rfl, rfl, rfl, rfl, rfl, trivial⟩ hF
          · refine WP.cond_false _ rfl c4 ?_
            refine WP.exit ?_
            exact KE.mk () trivial hF
        · intro k4 hF
          refine WP.region ?_
          refine EvK.pure (v := .int .i64 s3) (w_none rfl) rfl rfl (f_move rfl rfl) ?_
          refine EvK.pure (v := Sl.val a1) (w_none rfl) rfl rfl (f_move rfl rfl) ?_
          refine EvK.pure (v := .int .i64 (a1.len : Int)) (w_none rfl) rfl rfl (f_lenL (s := a1) Try.underlying47 rfl rfl) ?_
          refine EvK.pure (v := .bool (decide (s3 < (a1.len : Int)))) (w_none rfl) rfl rfl (f_lss rfl rfl rfl) ?_
          refine EvK.pure (v := .bool (decide (s3 < (a1.len : Int)))) (w_none rfl) rfl rfl (f_move rfl rfl) ?_
          rcases ite_inv hF with ⟨c17, hF⟩ | ⟨c17, hF⟩
          · refine EvK.not (w_not rfl rfl c17) rfl rfl ?_
            refine EvK.not (w_not rfl rfl c17) rfl rfl ?_
            refine EvK.not (w_not rfl rfl c17) rfl rfl ?_
            refine EvK.not (w_not rfl rfl c17) rfl rfl ?_
            refine EvK.pure (v := .bool true) (w_none rfl) rfl rfl (f_pickT rfl rfl c17 rfl) ?_
            refine EvK.pure (v := .bool true) (w_none rfl) rfl rfl (f_move rfl rfl) ?_
            refine EvK.pure (v := .int .i64 s3) (w_some rfl rfl rfl) rfl rfl (f_move rfl rfl) ?_
            refine EvK.pure (v := .bool (decide (s3 < 300))) (w_some rfl rfl rfl) rfl rfl (f_lss rfl rfl rfl) ?_
            refine EvK.pure (v := .bool (decide (s3 < 300))) (w_none rfl) rfl rfl (f_pickT rfl rfl rfl rfl) ?_
            refine EvK.nil ?_
            exact KE.mk (decide (s3 < 300)) ⟨rfl, rfl, rfl, rfl, rfl, rfl, rfl, trivial⟩ hF
          · refine EvK.pure (v := .int .i64 s3) (w_some rfl rfl c17) rfl rfl (f_move rfl rfl) ?_
            refine EvK.pure (v := Sl.val a2) (w_some rfl rfl c17) rfl rfl (f_move rfl rfl) ?_
            refine EvK.pure (v := .int .i64 (a2.len : Int)) (w_some rfl rfl c17) rfl rfl (f_lenL (s := a2) Try.underlying47 rfl rfl) ?_
            refine EvK.pure (v := .bool (decide (s3 < (a2.len : Int)))) (w_some rfl rfl c17) rfl rfl (f_lss rfl rfl rfl) ?_
            refine EvK.pure (v := .bool (decide (s3 < (a2.len : Int)))) (w_none rfl) rfl rfl (f_pickF rfl rfl c17 rfl) ?_
            refine EvK.pure (v := .bool (decide (s3 < (a2.len : Int)))) (w_none rfl) rfl rfl (f_move rfl rfl) ?_
            rcases ite_inv hF with ⟨c18, hF⟩ | ⟨c18, hF⟩
            · refine EvK.pure (v := .int .i64 s3) (w_some rfl rfl c18) rfl rfl (f_move rfl rfl) ?_
              refine EvK.pure (v := .bool (decide (s3 < 300))) (w_some rfl rfl c18) rfl rfl (f_lss rfl rfl rfl) ?_
              refine EvK.pure (v := .bool (decide (s3 < 300))) (w_none rfl) rfl rfl (f_pickT rfl rfl c18 rfl) ?_
              refine EvK.nil ?_
              exact KE.mk (decide (s3 < 300)) ⟨rfl, rfl, rfl, rfl, rfl, rfl, rfl, trivial⟩ hF
            · refine EvK.not (w_not rfl rfl c18) rfl rfl ?_
              refine EvK.not (w_not rfl rfl c18) rfl rfl ?_
              refine EvK.pure (v := .bool false) (w_none rfl) rfl rfl (f_pickF rfl rfl c18 rfl) ?_
              refine EvK.nil ?_
              exact KE.mk false ⟨rfl, rfl, rfl, rfl, rfl, rfl, rfl, trivial⟩ hF
end Go.Proofs.Ytgmihbchcmjmdaa

namespace Go.Proofs.Ytgmihbchcmjmdaa
open Go Go.Tr
set_option linter.unusedVariables false
set_option maxRecDepth 100000
set_option maxHeartbeats 400000
def spatelaw2_GrownInts.b2 (p0 : Sl) (p5 : Sl) (p8 : Int) (p9 : Int) (s : Int) (h : H) (K : Int ⊕ (Unit ⊕ Bool) → H → Prop) : Prop :=
  if (decide (s < (IntKind.i64.wrap (p9 + 40)))) = true then
    jn (fun (k5 : Bool → H → Prop) =>
      if (decide (s < p9)) = true then
        rd (ixA 1 p0 p8) fun q2 =>
        rd (ld kL q2 h) fun x3 =>
        rd (ixA 1 x3 s) fun q3 =>
        rd (ld (kI .i64) q3 h) fun x4 =>
        if (x4 != (IntKind.i64.wrap ((IntKind.i64.wrap (1000 * p8)) + s))) = true then
          k5 true h
        else
          rd (ixA 1 p5 p8) fun q4 =>
          rd (ld kL q4 h) fun x5 =>
          rd (ixA 1 x5 s) fun q5 =>
          rd (ld (kI .i64) q5 h) fun x6 =>
          if (x6 != (IntKind.i64.wrap ((IntKind.i64.wrap (1000 * p8)) + s))) = true then
            k5 true h
          else
            if (decide (s ≥ p9)) = true then
              rd (ixA 1 p5 p8) fun q6 =>
              rd (ld kL q6 h) fun x7 =>
              rd (ixA 1 x7 s) fun q7 =>
              rd (ld (kI .i64) q7 h) fun x8 =>
              k5 (x8 != (IntKind.i64.wrap ((IntKind.i64.wrap ((IntKind.i64.wrap (0 - (IntKind.i64.wrap (1000 * p8)))) - (IntKind.i64.wrap (s - p9)))) - 1))) h
            else
              k5 false h
      else
        if (decide (s ≥ p9)) = true then
          rd (ixA 1 p5 p8) fun q8 =>
          rd (ld kL q8 h) fun x9 =>
          rd (ixA 1 x9 s) fun q9 =>
          rd (ld (kI .i64) q9 h) fun x10 =>
          k5 (x10 != (IntKind.i64.wrap ((IntKind.i64.wrap ((IntKind.i64.wrap (0 - (IntKind.i64.wrap (1000 * p8)))) - (IntKind.i64.wrap (s - p9)))) - 1))) h
        else
          k5 false h) fun s5 h6 =>
    if s5 = true then
      K (.inr (.inr false)) h6
    else
      K (.inl (IntKind.i64.wrap (s + 1))) h6
  else
    K (.inr (.inl ())) h
def spatelaw2_GrownInts.b1 (p0 : Sl) (p5 : Sl) (s : Int) (h : H) (K : Int ⊕ (Unit ⊕ Bool) → H → Prop) : Prop :=
  if (decide (s < (p0.len : Int))) = true then
    jn (fun (k4 : Unit → H → Prop) =>
      rd (ixA 1 p0 s) fun q1 =>
      rd (ld kL q1 h) fun x2 =>
      loopE (spatelaw2_GrownInts.b2 p0 p5 s (x2.len : Int)) 0 h (sumK (fun r1 hh => k4 r1 hh) (fun r2 hh => K (.inr (.inr r2)) hh))) fun s4 h5 =>
    K (.inl (IntKind.i64.wrap (s + 1))) h5
  else
    K (.inr (.inl ())) h
def spatelaw2_GrownInts.b4 (p0 : Sl) (p5 : Sl) (p6 : Int) (s : Int) (h : H) (K : Int ⊕ Unit → H → Prop) : Prop :=
  if (decide (s < (p0.len : Int))) = true then
    rd (ixA 1 p5 s) fun q10 =>
    rd (ld kL q10 h) fun x11 =>
    bs 3 1 ((kI .i64).enc (IntKind.i64.wrap ((IntKind.i64.wrap ((IntKind.i64.wrap (0 - (IntKind.i64.wrap (1000 * s)))) - p6)) - 1))) h fun x12 h10 =>
    ap (kI .i64).n 8 3 ((kI .i64).enc 0) x11 x12 h10 fun x13 h11 =>
    rd (ixA 1 p5 s) fun q11 =>
    rd (st kL q11 x13 h11) fun h12 =>
    K (.inl (IntKind.i64.wrap (s + 1))) h12
  else
    K (.inr ()) h
def spatelaw2_GrownInts.b3 (p0 : Sl) (p5 : Sl) (s : Int) (h : H) (K : Int ⊕ Unit → H → Prop) : Prop :=
  if (decide (s < 40)) = true then
    jn (fun (k8 : Unit → H → Prop) =>
      loopE (spatelaw2_GrownInts.b4 p0 p5 s) 0 h (fun r5 hh => k8 r5 hh)) fun s8 h9 =>
    K (.inl (IntKind.i64.wrap (s + 1))) h9
  else
    K (.inr ()) h
def spatelaw2_GrownInts.b6 (p0 : Sl) (p3 : Int) (s : Int) (h : H) (K : Int ⊕ Unit → H → Prop) : Prop :=
  rd (ixA 1 p0 p3) fun q12 =>
  rd (ld kL q12 h) fun x14 =>
  if (decide (s < (x14.len : Int))) = true then
    rd (ixA 1 p0 p3) fun q13 =>
    rd (ld kL q13 h) fun x15 =>
    rd (ixA 1 x15 s) fun q14 =>
    rd (st (kI .i64) q14 (IntKind.i64.wrap ((IntKind.i64.wrap (1000 * p3)) + s)) h) fun h16 =>
    K (.inl (IntKind.i64.wrap (s + 1))) h16
  else
    K (.inr ()) h
def spatelaw2_GrownInts.b5 (p0 : Sl) (s : Int) (h : H) (K : Int ⊕ Unit → H → Prop) : Prop :=
  if (decide (s < (p0.len : Int))) = true then
    jn (fun (k11 : Unit → H → Prop) =>
      loopE (spatelaw2_GrownInts.b6 p0 s) 0 h (fun r7 hh => k11 r7 hh)) fun s11 h15 =>
    K (.inl (IntKind.i64.wrap (s + 1))) h15
  else
    K (.inr ()) h
/-- spate/spatelaw2.GrownInts -/
def spatelaw2_GrownInts (a0 : Sl) (h : H) (Q : Bool → H → Prop) : Prop :=
  jn (fun (k1 : Unit → H → Prop) =>
    loopE (spatelaw2_GrownInts.b5 a0) 0 h (fun r8 hh => k1 r8 hh)) fun s1 h1 =>
  ap kL.n 24 22 (kL.enc Sl.nil) Sl.nil a0 h1 fun x1 h2 =>
  jn (fun (k2 : Unit → H → Prop) =>
    loopE (spatelaw2_GrownInts.b3 a0 x1) 0 h2 (fun r6 hh => k2 r6 hh)) fun s2 h3 =>
  jn (fun (k3 : Unit → H → Prop) =>
    loopE (spatelaw2_GrownInts.b1 a0 x1) 0 h3 (sumK (fun r3 hh => k3 r3 hh) (fun r4 hh => Q r4 hh))) fun s3 h4 =>
  Q true h4
theorem spatelaw2_GrownInts.sound {a0 : Sl} {h : H} {Q : Bool → H → Prop} (hF : spatelaw2_GrownInts a0 h Q) :
    CallsH Try.prog 40 (List.toArray (α := Value) [Sl.val a0]) h fun v h' => ∃ x : Bool, v = .bool x ∧ Q x h' := by
  refine CallsH.of_body Try.func40 rfl 135 rfl rfl ?_
  refine WP.seq ?_
  refine WP.region ?_
  refine EvK.pure (v := .bool false) (w_none rfl) rfl rfl (f_assign rfl rfl) ?_
  refine EvK.nil ?_
  refine WP.joinF (fun (s1 : Unit) => [(0, Sl.val a0)]) hF ?_ ?_
  · intro s1 E0 h1 hF
    refine WP.seq ?_
    refine WP.region ?_
    refine EvK.pure (v := Sl.val Sl.nil) (w_none rfl) rfl rfl (f_assign rfl rfl) ?_
    refine EvK.nil ?_
    refine WP.seq ?_
    refine WP.region ?_
    refine EvK.pure (v := Sl.val Sl.nil) (w_none rfl) rfl rfl (f_move rfl rfl) ?_
    refine EvK.pure (v := Sl.val a0) (w_none rfl) rfl rfl (f_move rfl rfl) ?_
    refine EvK.run (w_none rfl) rfl rfl (f_appendE (s := Sl.nil) (x := a0) Try.underlying68 el22 rfl rfl rfl hF) ?_
    rintro _ h2 ⟨x1, rfl, hF⟩
    refine EvK.pure (v := Sl.val x1) (w_none rfl) rfl rfl (f_assign rfl rfl) ?_
    refine EvK.nil ?_
    refine WP.joinF (fun (s2 : Unit) => [(0, Sl.val a0), (5, Sl.val x1)]) hF ?_ ?_
    · intro s2 E0 h3 hF
      refine WP.joinF (fun (s3 : Unit) => []) hF ?_ ?_
      · intro s3 E0 h4 hF
        refine WP.seq ?_
        refine WP.region ?_
        refine EvK.pure (v := .bool true) (w_none rfl) rfl rfl (f_assign rfl rfl) ?_
        refine EvK.nil ?_
        refine WP.ret ?_
        exact Ret.mk (vs := [.bool true]) true ⟨rfl, trivial⟩ rfl hF
      · intro k3 hF
        refine WP.seq ?_
        refine WP.region ?_
        refine EvK.pure (v := .int .i64 0) (w_none rfl) rfl rfl (f_assign rfl rfl) ?_
        refine EvK.nil ?_
        refine WP.block ?_
        refine WP.loopF (fun (s4 : Int) => [(8, .int .i64 s4), (0, Sl.val a0), (5, Sl.val x1)]) hF ⟨rfl, rfl, rfl, trivial⟩ ?_
        intro k4 s4 E0 h5 hF
        refine WP.seq ?_
        refine WP.seq ?_
        refine WP.region ?_
        refine EvK.pure (v := .int .i64 s4) (w_none rfl) rfl rfl (f_move rfl rfl) ?_
        refine EvK.pure (v := Sl.val a0) (w_none rfl) rfl rfl (f_move rfl rfl) ?_
        refine EvK.pure (v := .int .i64 (a0.len : Int)) (w_none rfl) rfl rfl (f_lenL (s := a0) Try.underlying68 rfl rfl) ?_
        refine EvK.pure (v := .bool (decide (s4 < (a0.len : Int)))) (w_none rfl) rfl rfl (f_lss rfl rfl rfl) ?_
        refine EvK.nil ?_
        rcases ite_inv hF with ⟨c1, hF⟩ | ⟨c1, hF⟩
        · refine WP.cond_true _ rfl c1 ?_
          refine WP.skip ?_
          refine WP.joinF (fun (s5 : Unit) => [(0, Sl.val a0), (5, Sl.val x1), (8, .int .i64 s4)]) hF ?_ ?_
          · intro s5 E0 h6 hF
            refine WP.region ?_
            refine EvK.pure (v := .int .i64 s4) (w_none rfl) rfl rfl (f_move rfl rfl) ?_
            refine EvK.pure (v := .int .i64 (IntKind.i64.wrap (s4 + 1))) (w_none rfl) rfl rfl (f_add rfl rfl rfl) ?_
            refine EvK.pure (v := .int .i64 (IntKind.i64.wrap (s4 + 1))) (w_none rfl) rfl rfl (f_assign rfl rfl) ?_
            refine EvK.nil ?_
            exact KE.mk (IntKind.i64.wrap (s4 + 1)) ⟨rfl, rfl, rfl, trivial⟩ hF
          · intro k5 hF
            refine WP.block ?_
            refine WP.seq ?_
            refine WP.region ?_
            refine EvK.pure (v := Sl.val a0) (w_none rfl) rfl rfl (f_move rfl rfl) ?_
            refine EvK.pure (v := .int .i64 s4) (w_none rfl) rfl rfl (f_move rfl rfl) ?_
            obtain ⟨q1, hq1, hF⟩ := hF
            refine EvK.pure (v := .pointer (some q1)) (w_none rfl) rfl rfl (f_indexAddr (s := a0) Try.underlying68 ty22.size rfl rfl rfl hq1) ?_
            obtain ⟨x2, hx1, hF⟩ := hF
            refine EvK.read (v := Sl.val x2) (w_none rfl) rfl rfl (f_load kL ty22 rfl rfl hx1 rfl) ?_
            refine EvK.pure (v := .int .i64 (x2.len : Int)) (w_none rfl) rfl rfl (f_lenL (s := x2) Try.underlying22 rfl rfl) ?_
            refine EvK.pure (v := .int .i64 (x2.len : Int)) (w_none rfl) rfl rfl (f_assign rfl rfl) ?_
            refine EvK.nil ?_
            refine WP.seq ?_
            refine WP.region ?_
            refine EvK.pure (v := .int .i64 0) (w_none rfl) rfl rfl (f_assign rfl rfl) ?_
            refine EvK.nil ?_
            refine WP.block ?_
            refine WP.loopF (fun (s6 : Int) => [(10, .int .i64 s6), (0, Sl.val a0), (5, Sl.val x1), (8, .int .i64 s4), (9, .int .i64 (x2.len : Int))]) hF ⟨rfl, rfl, rfl, rfl, rfl, trivial⟩ ?_
            intro k6 s6 E0 h7 hF
            refine WP.seq ?_
            refine WP.seq ?_
            refine WP.region ?_
            refine EvK.pure (v := .int .i64 s6) (w_none rfl) rfl rfl (f_move rfl rfl) ?_
            refine EvK.pure (v := .int .i64 (x2.len : Int)) (w_none rfl) rfl rfl (f_move rfl rfl) ?_
            refine EvK.pure (v := .int .i64 (IntKind.i64.wrap ((x2.len : Int) + 40))) (w_none rfl) rfl rfl (f_add rfl rfl rfl) ?_
            refine EvK.pure (v := .bool (decide (s6 < (IntKind.i64.wrap ((x2.len : Int) + 40))))) (w_none rfl) rfl rfl (f_lss rfl rfl rfl) ?_
            refine EvK.nil ?_
            rcases ite_inv hF with ⟨c2, hF⟩ | ⟨c2, hF⟩
            · refine WP.cond_true _ rfl c2 ?_
              refine WP.skip ?_
              refine WP.seq ?_
              refine WP.block ?_
              refine WP.joinF (fun (s7 : Bool) => [(134, .bool s7), (0, Sl.val a0), (5, Sl.val x1), (8, .int .i64 s4), (9, .int .i64 (x2.len : Int)), (10, .int .i64 s6)]) hF ?_ ?_
              · intro s7 E0 h8 hF
                rcases ite_inv hF with ⟨c3, hF⟩ | ⟨c3, hF⟩
                · refine WP.cond_true _ rfl c3 ?_
                  refine WP.seq ?_
                  refine WP.region ?_
                  refine EvK.pure (v := .bool false) (w_none rfl) rfl rfl (f_assign rfl rfl) ?_
                  refine EvK.nil ?_
                  refine WP.ret ?_
                  exact Ret.mk (vs := [.bool false]) false ⟨rfl, trivial⟩ rfl hF
                · refine WP.cond_false _ rfl c3 ?_
                  refine WP.skip ?_
                  refine WP.region ?_
                  refine EvK.pure (v := .int .i64 s6) (w_none rfl) rfl rfl (f_move rfl rfl) ?_
                  refine EvK.pure (v := .int .i64 (IntKind.i64.wrap (s6 + 1))) (w_none rfl) rfl rfl (f_add rfl rfl rfl) ?_
                  refine EvK.pure (v := .int .i64 (IntKind.i64.wrap (s6 + 1))) (w_none rfl) rfl rfl (f_assign rfl rfl) ?_
                  refine EvK.nil ?_
                  exact KE.mk (IntKind.i64.wrap (s6 + 1)) ⟨rfl, rfl, rfl, rfl, rfl, trivial⟩ hF
              · intro k7 hF
                refine WP.region ?_
                refine EvK.pure (v := .int .i64 s6) (w_none rfl) rfl rfl (f_move rfl rfl) ?_
                refine EvK.pure (v := .int .i64 (x2.len : Int)) (w_none rfl) rfl rfl (f_move rfl rfl) ?_
                refine EvK.pure (v := .bool (decide (s6 < (x2.len : Int)))) (w_none rfl) rfl rfl (f_lss rfl rfl rfl) ?_
                refine EvK.pure (v := .bool (decide (s6 < (x2.len : Int)))) (w_none rfl) rfl rfl (f_move rfl rfl) ?_
                rcases ite_inv hF with ⟨c4, hF⟩ | ⟨c4, hF⟩
                · refine EvK.pure (v := Sl.val a0) (w_some rfl rfl c4) rfl rfl (f_move rfl rfl) ?_
                  refine EvK.pure (v := .int .i64 s4) (w_some rfl rfl c4) rfl rfl (f_move rfl rfl) ?_
                  obtain ⟨q2, hq2, hF⟩ := hF
                  refine EvK.pure (v := .pointer (some q2)) (w_some rfl rfl c4) rfl rfl (f_indexAddr (s := a0) Try.underlying68 ty22.size rfl rfl rfl hq2) ?_
                  obtain ⟨x3, hx2, hF⟩ := hF
                  refine EvK.read (v := Sl.val x3) (w_some rfl rfl c4) rfl rfl (f_load kL ty22 rfl rfl hx2 rfl) ?_
                  refine EvK.pure (v := .int .i64 s6) (w_some rfl rfl c4) rfl rfl (f_move rfl rfl) ?_
                  obtain ⟨q3, hq3, hF⟩ := hF
                  refine EvK.pure (v := .pointer (some q3)) (w_some rfl rfl c4) rfl rfl (f_indexAddr (s := x3) Try.underlying22 ty3.size rfl rfl rfl hq3) ?_
                  obtain ⟨x4, hx3, hF⟩ := hF
                  refine EvK.read (v := .int .i64 x4) (w_some rfl rfl c4) rfl rfl (f_load (kI .i64) ty3 rfl rfl hx3 rfl) ?_
                  refine EvK.pure (v := .int .i64 s4) (w_some rfl rfl c4) rfl rfl (f_move rfl rfl) ?_
                  refine EvK.pure (v := .int .i64 (IntKind.i64.wrap (1000 * s4))) (w_some rfl rfl c4) rfl rfl (f_mul rfl rfl rfl) ?_
                  refine EvK.pure (v := .int .i64 s6) (w_some rfl rfl c4) rfl rfl (f_move rfl rfl) ?_
                  refine EvK.pure (v := .int .i64 (IntKind.i64.wrap ((IntKind.i64.wrap (1000 * s4)) + s6))) (w_some rfl rfl c4) rfl rfl (f_add rfl rfl rfl) ?_
                  refine EvK.pure (v := .bool (x4 != (IntKind.i64.wrap ((IntKind.i64.wrap (1000 * s4)) + s6)))) (w_some rfl rfl c4) rfl rfl (f_neq rfl rfl rfl) ?_
                  refine EvK.pure (v := .bool (x4 != (IntKind.i64.wrap ((IntKind.i64.wrap (1000 * s4)) + s6)))) (w_some rfl rfl c4) rfl rfl (f_move rfl rfl) ?_
                  rcases ite_inv hF with ⟨c5, hF⟩ | ⟨c5, hF⟩
                  · refine EvK.not (w_not rfl rfl c5) rfl rfl ?_
                    refine EvK.not (w_not rfl rfl c5) rfl rfl ?_
                    refine EvK.not (w_not rfl rfl c5) rfl rfl ?_
                    refine EvK.not (w_not rfl rfl c5) rfl rfl ?_
                    refine EvK.not (w_not rfl rfl c5) rfl rfl ?_
                    refine EvK.not (w_not rfl rfl c5) rfl rfl ?_
                    refine EvK.not (w_not rfl rfl c5) rfl rfl ?_
                    refine EvK.not (w_not rfl rfl c5) rfl rfl ?_
                    refine EvK.not (w_not rfl rfl c5) rfl rfl ?_
                    refine EvK.not (w_not rfl rfl c5) rfl rfl ?_
                    refine EvK.not (w_not rfl rfl c5) rfl rfl ?_
                    refine EvK.not (w_not rfl rfl c5) rfl rfl ?_
                    refine EvK.pure (v := .bool true) (w_some rfl rfl c4) rfl rfl (f_pickT rfl rfl c5 rfl) ?_
                    refine EvK.pure (v := .bool true) (w_none rfl) rfl rfl (f_pickT rfl rfl c4 rfl) ?_
                    refine EvK.pure (v := .bool true) (w_none rfl) rfl rfl (f_move rfl rfl) ?_
                    refine EvK.not (w_not rfl rfl rfl) rfl rfl ?_
                    refine EvK.not (w_not rfl rfl rfl) rfl rfl ?_
                    refine EvK.not (w_not rfl rfl rfl) rfl rfl ?_
                    refine EvK.not (w_not rfl rfl rfl) rfl rfl ?_
                    refine EvK.not (w_undef rfl rfl) rfl rfl ?_
                    refine EvK.not (w_undef rfl rfl) rfl rfl ?_
                    refine EvK.not (w_undef rfl rfl) rfl rfl ?_
                    refine EvK.not (w_undef rfl rfl) rfl rfl ?_
                    refine EvK.not (w_undef rfl rfl) rfl rfl ?_
                    refine EvK.not (w_undef rfl rfl) rfl rfl ?_
                    refine EvK.not (w_undef rfl rfl) rfl rfl ?_
                    refine EvK.not (w_undef rfl rfl) rfl rfl ?_
                    refine EvK.not (w_undef rfl rfl) rfl rfl ?_
                    refine EvK.not (w_undef rfl rfl) rfl rfl ?_
                    refine EvK.not (w_undef rfl rfl) rfl rfl ?_
                    refine EvK.not (w_undef rfl rfl) rfl rfl ?_
                    refine EvK.not (w_undef rfl rfl) rfl rfl ?_
                    refine EvK.not (w_undef rfl rfl) rfl rfl ?_
                    refine EvK.not (w_undef rfl rfl) rfl rfl ?_
                    refine EvK.not (w_undef rfl rfl) rfl rfl ?_
                    refine EvK.not (w_not rfl rfl rfl) rfl rfl ?_
                    refine EvK.pure (v := .bool true) (w_none rfl) rfl rfl (f_pickT rfl rfl rfl rfl) ?_
                    refine EvK.nil ?_
                    exact KE.mk true ⟨rfl, rfl, rfl, rfl, rfl, rfl, trivial⟩ hF
                  · refine EvK.pure (v := Sl.val x1) (w_some rfl rfl c5) rfl rfl (f_move rfl rfl) ?_
                    refine EvK.pure (v := .int .i64 s4) (w_some rfl rfl c5) rfl rfl (f_move rfl rfl) ?_
                    obtain ⟨q4, hq4, hF⟩ := hF
                    refine EvK.pure (v := .pointer (some q4)) (w_some rfl rfl c5) rfl rfl (f_indexAddr (s := x1) Try.underlying68 ty22.size rfl rfl rfl hq4) ?_
                    obtain ⟨x5, hx4, hF⟩ := hF
                    refine EvK.read (v := Sl.val x5) (w_some rfl rfl c5) rfl rfl (f_load kL ty22 rfl rfl hx4 rfl) ?_
                    refine EvK.pure (v := .int .i64 s6) (w_some rfl rfl c5) rfl rfl (f_move rfl rfl) ?_
                    obtain ⟨q5, hq5, hF⟩ := hF
                    refine EvK.pure (v := .pointer (some q5)) (w_some rfl rfl c5) rfl rfl (f_indexAddr (s := x5) Try.underlying22 ty3.size rfl rfl rfl hq5) ?_
                    obtain ⟨x6, hx5, hF⟩ := hF
                    refine EvK.read (v := .int .i64 x6) (w_some rfl rfl c5) rfl rfl (f_load (kI .i64) ty3 rfl rfl hx5 rfl) ?_
                    refine EvK.pure (v := .int .i64 s4) (w_some rfl rfl c5) rfl rfl (f_move rfl rfl) ?_
                    refine EvK.pure (v := .int .i64 (IntKind.i64.wrap (1000 * s4))) (w_some rfl rfl c5) rfl rfl (f_mul rfl rfl rfl) ?_
                    refine EvK.pure (v := .int .i64 s6) (w_some rfl rfl c5) rfl rfl (f_move rfl rfl) ?_
                    refine EvK.pure (v := .int .i64 (IntKind.i64.wrap ((IntKind.i64.wrap (1000 * s4)) + s6))) (w_some rfl rfl c5) rfl rfl (f_add rfl rfl rfl) ?_
                    refine EvK.pure (v := .bool (x6 != (IntKind.i64.wrap ((IntKind.i64.wrap (1000 * s4)) + s6)))) (w_some rfl rfl c5) rfl rfl (f_neq rfl rfl rfl) ?_
                    refine EvK.pure (v := .bool (x6 != (IntKind.i64.wrap ((IntKind.i64.wrap (1000 * s4)) + s6)))) (w_some rfl rfl c4) rfl rfl (f_pickF rfl rfl c5 rfl) ?_
                    refine EvK.pure (v := .bool (x6 != (IntKind.i64.wrap ((IntKind.i64.wrap (1000 * s4)) + s6)))) (w_none rfl) rfl rfl (f_pickT rfl rfl c4 rfl) ?_
                    refine EvK.pure (v := .bool (x6 != (IntKind.i64.wrap ((IntKind.i64.wrap (1000 * s4)) + s6)))) (w_none rfl) rfl rfl (f_move rfl rfl) ?_
                    rcases ite_inv hF with ⟨c6, hF⟩ | ⟨c6, hF⟩
                    · refine EvK.not (w_not rfl rfl c6) rfl rfl ?_
                      refine EvK.not (w_not rfl rfl c6) rfl rfl ?_
                      refine EvK.not (w_not rfl rfl c6) rfl rfl ?_
                      refine EvK.not (w_not rfl rfl c6) rfl rfl ?_
                      refine EvK.not (w_undef rfl rfl) rfl rfl ?_
                      refine EvK.not (w_undef rfl rfl) rfl rfl ?_
                      refine EvK.not (w_undef rfl rfl) rfl rfl ?_
                      refine EvK.not (w_undef rfl rfl) rfl rfl ?_
                      refine EvK.not (w_undef rfl rfl) rfl rfl ?_
                      refine EvK.not (w_undef rfl rfl) rfl rfl ?_
                      refine EvK.not (w_undef rfl rfl) rfl rfl ?_
                      refine EvK.not (w_undef rfl rfl) rfl rfl ?_
                      refine EvK.not (w_undef rfl rfl) rfl rfl ?_
                      refine EvK.not (w_undef rfl rfl) rfl rfl ?_
                      refine EvK.not (w_undef rfl rfl) rfl rfl ?_
                      refine EvK.not (w_undef rfl rfl) rfl rfl ?_
                      refine EvK.not (w_undef rfl rfl) rfl rfl ?_
                      refine EvK.not (w_undef rfl rfl) rfl rfl ?_
                      refine EvK.not (w_undef rfl rfl) rfl rfl ?_
                      refine EvK.not (w_undef rfl rfl) rfl rfl ?_
                      refine EvK.not (w_not rfl rfl c6) rfl rfl ?_
                      refine EvK.pure (v := .bool true) (w_none rfl) rfl rfl (f_pickT rfl rfl c6 rfl) ?_
                      refine EvK.nil ?_
                      exact KE.mk true ⟨rfl, rfl, rfl, rfl, rfl, rfl, trivial⟩ hF
                    · refine EvK.pure (v := .int .i64 s6) (w_some rfl rfl c6) rfl rfl (f_move rfl rfl) ?_
                      refine EvK.pure (v := .int .i64 (x2.len : Int)) (w_some rfl rfl c6) rfl rfl (f_move rfl rfl) ?_
                      refine EvK.pure (v := .bool (decide (s6 ≥ (x2.len : Int)))) (w_some rfl rfl c6) rfl rfl (f_geq rfl rfl rfl) ?_
                      refine EvK.pure (v := .bool (decide (s6 ≥ (x2.len : Int)))) (w_some rfl rfl c6) rfl rfl (f_move rfl rfl) ?_
                      rcases ite_inv hF with ⟨c7, hF⟩ | ⟨c7, hF⟩
                      · refine EvK.pure (v := Sl.val x1) (w_some rfl rfl c7) rfl rfl (f_move rfl rfl) ?_
                        refine EvK.pure (v := .int .i64 s4) (w_some rfl rfl c7) rfl rfl (f_move rfl rfl) ?_
                        obtain ⟨q6, hq6, hF⟩ := hF
                        refine EvK.pure (v := .pointer (some q6)) (w_some rfl rfl c7) rfl rfl (f_indexAddr (s := x1) Try.underlying68 ty22.size rfl rfl rfl hq6) ?_
                        obtain ⟨x7, hx6, hF⟩ := hF
                        refine EvK.read (v := Sl.val x7) (w_some rfl rfl c7) rfl rfl (f_load kL ty22 rfl rfl hx6 rfl) ?_
                        refine EvK.pure (v := .int .i64 s6) (w_some rfl rfl c7) rfl rfl (f_move rfl rfl) ?_
                        obtain ⟨q7, hq7, hF⟩ := hF
                        refine EvK.pure (v := .pointer (some q7)) (w_some rfl rfl c7) rfl rfl (f_indexAddr (s := x7) Try.underlying22 ty3.size rfl rfl rfl hq7) ?_
                        obtain ⟨x8, hx7, hF⟩ := hF
                        refine EvK.read (v := .int .i64 x8) (w_some rfl rfl c7) rfl rfl (f_load (kI .i64) ty3 rfl rfl hx7 rfl) ?_
                        refine EvK.pure (v := .int .i64 s4) (w_some rfl rfl c7) rfl rfl (f_move rfl rfl) ?_
                        refine EvK.pure (v := .int .i64 (IntKind.i64.wrap (1000 * s4))) (w_some rfl rfl c7) rfl rfl (f_mul rfl rfl rfl) ?_
                        refine EvK.pure (v := .int .i64 (IntKind.i64.wrap (0 - (IntKind.i64.wrap (1000 * s4))))) (w_some rfl rfl c7) rfl rfl (f_sub rfl rfl rfl) ?_
                        refine EvK.pure (v := .int .i64 s6) (w_some rfl rfl c7) rfl rfl (f_move rfl rfl) ?_
                        refine EvK.pure (v := .int .i64 (x2.len : Int)) (w_some rfl rfl c7) rfl rfl (f_move rfl rfl) ?_
                        refine EvK.pure (v := .int .i64 (IntKind.i64.wrap (s6 - (x2.len : Int)))) (w_some rfl rfl c7) rfl rfl (f_sub rfl rfl rfl) ?_
                        refine EvK.pure (v := .int .i64 (IntKind.i64.wrap ((IntKind.i64.wrap (0 - (IntKind.i64.wrap (1000 * s4)))) - (IntKind.i64.wrap (s6 - (x2.len : Int)))))) (w_some rfl rfl c7) rfl rfl (f_sub rfl rfl rfl) ?_
                        refine EvK.pure (v := .int .i64 (IntKind.i64.wrap ((IntKind.i64.wrap ((IntKind.i64.wrap (0 - (IntKind.i64.wrap (1000 * s4)))) - (IntKind.i64.wrap (s6 - (x2.len : Int))))) - 1))) (w_some rfl rfl c7) rfl rfl (f_sub rfl rfl rfl) ?_
                        refine EvK.pure (v := .bool (x8 != (IntKind.i64.wrap ((IntKind.i64.wrap ((IntKind.i64.wrap (0 - (IntKind.i64.wrap (1000 * s4)))) - (IntKind.i64.wrap (s6 - (x2.len : Int))))) - 1)))) (w_some rfl rfl c7) rfl rfl (f_neq rfl rfl rfl) ?_
                        refine EvK.pure (v := .bool (x8 != (IntKind.i64.wrap ((IntKind.i64.wrap ((IntKind.i64.wrap (0 - (IntKind.i64.wrap (1000 * s4)))) - (IntKind.i64.wrap (s6 - (x2.len : Int))))) - 1)))) (w_some rfl rfl c6) rfl rfl (f_pickT rfl rfl c7 rfl) ?_
                        refine EvK.pure (v := .bool (x8 != (IntKind.i64.wrap ((IntKind.i64.wrap ((IntKind.i64.wrap (0 - (IntKind.i64.wrap (1000 * s4)))) - (IntKind.i64.wrap (s6 - (x2.len : Int))))) - 1)))) (w_none rfl) rfl rfl (f_pickF rfl rfl c6 rfl) ?_
                        refine EvK.nil ?_
                        exact KE.mk (x8 != (IntKind.i64.wrap ((IntKind.i64.wrap ((IntKind.i64.wrap (0 - (IntKind.i64.wrap (1000 * s4)))) - (IntKind.i64.wrap (s6 - (x2.len : Int))))) - 1))) ⟨rfl, rfl, rfl, rfl, rfl, rfl, trivial⟩ hF
                      · refine EvK.not (w_not rfl rfl c7) rfl rfl ?_
                        refine EvK.not (w_not rfl rfl c7) rfl rfl ?_
                        refine EvK.not (w_not rfl rfl c7) rfl rfl ?_
                        refine EvK.not (w_not rfl rfl c7) rfl rfl ?_
                        refine EvK.not (w_not rfl rfl c7) rfl rfl ?_
                        refine EvK.not (w_not rfl rfl c7) rfl rfl ?_
                        refine EvK.not (w_not rfl rfl c7) rfl rfl ?_
                        refine EvK.not (w_not rfl rfl c7) rfl rfl ?_
                        refine EvK.not (w_not rfl rfl c7) rfl rfl ?_
                        refine EvK.not (w_not rfl rfl c7) rfl rfl ?_
                        refine EvK.not (w_not rfl rfl c7) rfl rfl ?_
                        refine EvK.not (w_not rfl rfl c7) rfl rfl ?_
                        refine EvK.not (w_not rfl rfl c7) rfl rfl ?_
                        refine EvK.not (w_not rfl rfl c7) rfl rfl ?_
                        refine EvK.not (w_not rfl rfl c7) rfl rfl ?_
                        refine EvK.not (w_not rfl rfl c7) rfl rfl ?_
                        refine EvK.pure (v := .bool false) (w_some rfl rfl c6) rfl rfl (f_pickF rfl rfl c7 rfl) ?_
                        refine EvK.pure (v := .bool false) (w_none rfl) rfl rfl (f_pickF rfl rfl c6 rfl) ?_
                        refine EvK.nil ?_
                        exact KE.mk false ⟨rfl, rfl, rfl, rfl, rfl, rfl, trivial⟩ hF
                · refine EvK.not (w_not rfl rfl c4) rfl rfl ?_
                  refine EvK.not (w_not rfl rfl c4) rfl rfl ?_
                  refine EvK.not (w_not rfl rfl c4) rfl rfl ?_
                  refine EvK.not (w_not rfl rfl c4) rfl rfl ?_
                  refine EvK.not (w_not rfl rfl c4) rfl rfl ?_
                  refine EvK.not (w_not rfl rfl c4) rfl rfl ?_
                  refine EvK.not (w_not rfl rfl c4) rfl rfl ?_
                  refine EvK.not (w_not rfl rfl c4) rfl rfl ?_
                  refine EvK.not (w_not rfl rfl c4) rfl rfl ?_
                  refine EvK.not (w_not rfl rfl c4) rfl rfl ?_
                  refine EvK.not (w_not rfl rfl c4) rfl rfl ?_
                  refine EvK.not (w_not rfl rfl c4) rfl rfl ?_
                  refine EvK.not (w_not rfl rfl c4) rfl rfl ?_
                  refine EvK.not (w_undef rfl rfl) rfl rfl ?_
                  refine EvK.not (w_undef rfl rfl) rfl rfl ?_
                  refine EvK.not (w_undef rfl rfl) rfl rfl ?_
                  refine EvK.not (w_undef rfl rfl) rfl rfl ?_
                  refine EvK.not (w_undef rfl rfl) rfl rfl ?_
                  refine EvK.not (w_undef rfl rfl) rfl rfl ?_
                  refine EvK.not (w_undef rfl rfl) rfl rfl ?_
                  refine EvK.not (w_undef rfl rfl) rfl rfl ?_
                  refine EvK.not (w_undef rfl rfl) rfl rfl ?_
                  refine EvK.not (w_undef rfl rfl) rfl rfl ?_
                  refine EvK.not (w_undef rfl rfl) rfl rfl ?_
                  refine EvK.not (w_undef rfl rfl) rfl rfl ?_
                  refine EvK.not (w_not rfl rfl c4) rfl rfl ?_
                  refine EvK.pure (v := .bool false) (w_none rfl) rfl rfl (f_pickF rfl rfl c4 rfl) ?_
                  refine EvK.pure (v := .bool false) (w_none rfl) rfl rfl (f_move rfl rfl) ?_
                  refine EvK.pure (v := .int .i64 s6) (w_some rfl rfl rfl) rfl rfl (f_move rfl rfl) ?_
                  refine EvK.pure (v := .int .i64 (x2.len : Int)) (w_some rfl rfl rfl) rfl rfl (f_move rfl rfl) ?_
                  refine EvK.pure (v := .bool (decide (s6 ≥ (x2.len : Int)))) (w_some rfl rfl rfl) rfl rfl (f_geq rfl rfl rfl) ?_
                  refine EvK.pure (v := .bool (decide (s6 ≥ (x2.len : Int)))) (w_some rfl rfl rfl) rfl rfl (f_move rfl rfl) ?_
                  rcases ite_inv hF with ⟨c8, hF⟩ | ⟨c8, hF⟩
                  · refine EvK.pure (v := Sl.val x1) (w_some rfl rfl c8) rfl rfl (f_move rfl rfl) ?_
                    refine EvK.pure (v := .int .i64 s4) (w_some rfl rfl c8) rfl rfl (f_move rfl rfl) ?_
                    obtain ⟨q8, hq8, hF⟩ := hF
                    refine EvK.pure (v := .pointer (some q8)) (w_some rfl rfl c8) rfl rfl (f_indexAddr (s := x1) Try.underlying68 ty22.size rfl rfl rfl hq8) ?_
                    obtain ⟨x9, hx8, hF⟩ := hF
                    refine EvK.read (v := Sl.val x9) (w_some rfl rfl c8) rfl rfl (f_load kL ty22 rfl rfl hx8 rfl) ?_
                    refine EvK.pure (v := .int .i64 s6) (w_some rfl rfl c8) rfl rfl (f_move rfl rfl) ?_
                    obtain ⟨q9, hq9, hF⟩ := hF
                    refine EvK.pure (v := .pointer (some q9)) (w_some rfl rfl c8) rfl rfl (f_indexAddr (s := x9) Try.underlying22 ty3.size rfl rfl rfl hq9) ?_
                    obtain ⟨x10, hx9, hF⟩ := hF
                    refine EvK.read (v := .int .i64 x10) (w_some rfl rfl c8) rfl rfl (f_load (kI .i64) ty3 rfl rfl hx9 rfl) ?_
                    refine EvK.pure (v := .int .i64 s4) (w_some rfl rfl c8) rfl rfl (f_move rfl rfl) ?_
                    refine EvK.pure (v := .int .i64 (IntKind.i64.wrap (1000 * s4))) (w_some rfl rfl c8) rfl rfl (f_mul rfl rfl rfl) ?_
                    refine EvK.pure (v := .int .i64 (IntKind.i64.wrap (0 - (IntKind.i64.wrap (1000 * s4))))) (w_some rfl rfl c8) rfl rfl (f_sub rfl rfl rfl) ?_
                    refine EvK.pure (v := .int .i64 s6) (w_some rfl rfl c8) rfl rfl (f_move rfl rfl) ?_
                    refine EvK.pure (v := .int .i64 (x2.len : Int)) (w_some rfl rfl c8) rfl rfl (f_move rfl rfl) ?_
                    refine EvK.pure (v := .int .i64 (IntKind.i64.wrap (s6 - (x2.len : Int)))) (w_some rfl rfl c8) rfl rfl (f_sub rfl rfl rfl) ?_
                    refine EvK.pure (v := .int .i64 (IntKind.i64.wrap ((IntKind.i64.wrap (0 - (IntKind.i64.wrap (1000 * s4)))) - (IntKind.i64.wrap (s6 - (x2.len : Int)))))) (w_some rfl rfl c8) rfl rfl (f_sub rfl rfl rfl) ?_
                    refine EvK.pure (v := .int .i64 (IntKind.i64.wrap ((IntKind.i64.wrap ((IntKind.i64.wrap (0 - (IntKind.i64.wrap (1000 * s4)))) - (IntKind.i64.wrap (s6 - (x2.len : Int))))) - 1))) (w_some rfl rfl c8) rfl rfl (f_sub rfl rfl rfl) ?_
                    refine EvK.pure (v := .bool (x10 != (IntKind.i64.wrap ((IntKind.i64.wrap ((IntKind.i64.wrap (0 - (IntKind.i64.wrap (1000 * s4)))) - (IntKind.i64.wrap (s6 - (x2.len : Int))))) - 1)))) (w_some rfl rfl c8) rfl rfl (f_neq rfl rfl rfl) ?_
                    refine EvK.pure (v := .bool (x10 != (IntKind.i64.wrap ((IntKind.i64.wrap ((IntKind.i64.wrap (0 - (IntKind.i64.wrap (1000 * s4)))) - (IntKind.i64.wrap (s6 - (x2.len : Int))))) - 1)))) (w_some rfl rfl rfl) rfl rfl (f_pickT rfl rfl c8 rfl) ?_
                    refine EvK.pure (v := .bool (x10 != (IntKind.i64.wrap ((IntKind.i64.wrap ((IntKind.i64.wrap (0 - (IntKind.i64.wrap (1000 * s4)))) - (IntKind.i64.wrap (s6 - (x2.len : Int))))) - 1)))) (w_none rfl) rfl rfl (f_pickF rfl rfl rfl rfl) ?_
                    refine EvK.nil ?_
                    exact KE.mk (x10 != (IntKind.i64.wrap ((IntKind.i64.wrap ((IntKind.i64.wrap (0 - (IntKind.i64.wrap (1000 * s4)))) - (IntKind.i64.wrap (s6 - (x2.len : Int))))) - 1))) ⟨rfl, rfl, rfl, rfl, rfl, rfl, trivial⟩ hF
                  · refine EvK.not (w_not rfl rfl c8) rfl rfl ?_
                    refine EvK.not (w_not rfl rfl c8) rfl rfl ?_
                    refine EvK.not (w_not rfl rfl c8) rfl rfl ?_
                    refine EvK.not (w_not rfl rfl c8) rfl rfl ?_
                    refine EvK.not (w_not rfl rfl c8) rfl rfl ?_
                    refine EvK.not (w_not rfl rfl c8) rfl rfl ?_
                    refine EvK.not (w_not rfl rfl c8) rfl rfl ?_
                    refine EvK.not (w_not rfl rfl c8) rfl rfl ?_
                    refine EvK.not (w_not rfl rfl c8) rfl rfl ?_
                    refine EvK.not (w_not rfl rfl c8) rfl rfl ?_
                    refine EvK.not (w_not rfl rfl c8) rfl rfl ?_
                    refine EvK.not (w_not rfl rfl c8) rfl rfl ?_
                    refine EvK.not (w_not rfl rfl c8) rfl rfl ?_
                    refine EvK.not (w_not rfl rfl c8) rfl rfl ?_
                    refine EvK.not (w_not rfl rfl c8) rfl rfl ?_
                    refine EvK.not (w_not rfl rfl c8) rfl rfl ?_
                    refine EvK.pure (v := .bool false) (w_some rfl rfl rfl) rfl rfl (f_pickF rfl rfl c8 rfl) ?_
                    refine EvK.pure (v := .bool false) (w_none rfl) rfl rfl (f_pickF rfl rfl rfl rfl) ?_
                    refine EvK.nil ?_
                    exact KE.mk false ⟨rfl, rfl, rfl, rfl, rfl, rfl, trivial⟩ hF
            · refine WP.cond_false _ rfl c2 ?_
              refine WP.exit ?_
              exact KE.mk () ⟨rfl, rfl, rfl, trivial⟩ hF
        · refine WP.cond_false _ rfl c1 ?_
          refine WP.exit ?_
          exact KE.mk () trivial hF
    · intro k2 hF
      refine WP.seq ?_
      refine WP.region ?_
      refine EvK.pure (v := .int .i64 0) (w_none rfl) rfl rfl (f_assign rfl rfl) ?_
      refine EvK.nil ?_
      refine WP.block ?_
      refine WP.loopF (fun (s8 : Int) => [(6, .int .i64 s8), (0, Sl.val a0), (5, Sl.val x1)]) hF ⟨rfl, rfl, rfl, trivial⟩ ?_
      intro k8 s8 E0 h9 hF
      refine WP.seq ?_
      refine WP.seq ?_
      refine WP.region ?_
      refine EvK.pure (v := .int .i64 s8) (w_none rfl) rfl rfl (f_move rfl rfl) ?_
      refine EvK.pure (v := .bool (decide (s8 < 40))) (w_none rfl) rfl rfl (f_lss rfl rfl rfl) ?_
      refine EvK.nil ?_
      rcases ite_inv hF with ⟨c9, hF⟩ | ⟨c9, hF⟩
      · refine WP.cond_true _ rfl c9 ?_
        refine WP.skip ?_
        refine WP.joinF (fun (s9 : Unit) => [(0, Sl.val a0), (5, Sl.val x1), (6, .int .i64 s8)]) hF ?_ ?_
        · intro s9 E0 h10 hF
          refine WP.region ?_
          refine EvK.pure (v := .int .i64 s8) (w_none rfl) rfl rfl (f_move rfl rfl) ?_
          refine EvK.pure (v := .int .i64 (IntKind.i64.wrap (s8 + 1))) (w_none rfl) rfl rfl (f_add rfl rfl rfl) ?_
          refine EvK.pure (v := .int .i64 (IntKind.i64.wrap (s8 + 1))) (w_none rfl) rfl rfl (f_assign rfl rfl) ?_
          refine EvK.nil ?_
          exact KE.mk (IntKind.i64.wrap (s8 + 1)) ⟨rfl, rfl, rfl, trivial⟩ hF
        · intro k9 hF
          refine WP.block ?_
          refine WP.seq ?_
          refine WP.region ?_
          refine EvK.pure (v := .int .i64 0) (w_none rfl) rfl rfl (f_assign rfl rfl) ?_
          refine EvK.nil ?_
          refine WP.block ?_
          refine WP.loopF (fun (s10 : Int) => [(7, .int .i64 s10), (0, Sl.val a0), (5, Sl.val x1), (6, .int .i64 s8)]) hF ⟨rfl, rfl, rfl, rfl, trivial⟩ ?_
          intro k10 s10 E0 h11 hF
          refine WP.seq ?_
          refine WP.seq ?_
          refine WP.region ?_
          refine EvK.pure (v := .int .i64 s10) (w_none rfl) rfl rfl (f_move rfl rfl) ?_
          refine EvK.pure (v := Sl.val a0) (w_none rfl) rfl rfl (f_move rfl rfl) ?_
          refine EvK.pure (v := .int .i64 (a0.len : Int)) (w_none rfl) rfl rfl (f_lenL (s := a0) Try.underlying68 rfl rfl) ?_
          refine EvK.pure (v := .bool (decide (s10 < (a0.len : Int)))) (w_none rfl) rfl rfl (f_lss rfl rfl rfl) ?_
          refine EvK.nil ?_
          rcases ite_inv hF with ⟨c10, hF⟩ | ⟨c10, hF⟩
          · refine WP.cond_true _ rfl c10 ?_
            refine WP.skip ?_
            refine WP.seq ?_
            refine WP.block ?_
            refine WP.region ?_
            refine EvK.pure (v := Sl.val x1) (w_none rfl) rfl rfl (f_move rfl rfl) ?_
            refine EvK.pure (v := .int .i64 s10) (w_none rfl) rfl rfl (f_move rfl rfl) ?_
            refine EvK.pure (v := Sl.val x1) (w_none rfl) rfl rfl (f_move rfl rfl) ?_
            refine EvK.pure (v := .int .i64 s10) (w_none rfl) rfl rfl (f_move rfl rfl) ?_
            obtain ⟨q10, hq10, hF⟩ := hF
            refine EvK.pure (v := .pointer (some q10)) (w_none rfl) rfl rfl (f_indexAddr (s := x1) Try.underlying68 ty22.size rfl rfl rfl hq10) ?_
            obtain ⟨x11, hx10, hF⟩ := hF
            refine EvK.read (v := Sl.val x11) (w_none rfl) rfl rfl (f_load kL ty22 rfl rfl hx10 rfl) ?_
            refine EvK.pure (v := .int .i64 s10) (w_none rfl) rfl rfl (f_move rfl rfl) ?_
            refine EvK.pure (v := .int .i64 (IntKind.i64.wrap (1000 * s10))) (w_none rfl) rfl rfl (f_mul rfl rfl rfl) ?_
            refine EvK.pure (v := .int .i64 (IntKind.i64.wrap (0 - (IntKind.i64.wrap (1000 * s10))))) (w_none rfl) rfl rfl (f_sub rfl rfl rfl) ?_
            refine EvK.pure (v := .int .i64 s8) (w_none rfl) rfl rfl (f_move rfl rfl) ?_
            refine EvK.pure (v := .int .i64 (IntKind.i64.wrap ((IntKind.i64.wrap (0 - (IntKind.i64.wrap (1000 * s10)))) - s8))) (w_none rfl) rfl rfl (f_sub rfl rfl rfl) ?_
            refine EvK.pure (v := .int .i64 (IntKind.i64.wrap ((IntKind.i64.wrap ((IntKind.i64.wrap (0 - (IntKind.i64.wrap (1000 * s10)))) - s8)) - 1))) (w_none rfl) rfl rfl (f_sub rfl rfl rfl) ?_
            refine EvK.alloc (w_none rfl) rfl rfl (f_buildSliceF Try.underlying22 el3 (by decide) rfl rfl rfl hF) ?_
            rintro _ h12 ⟨x12, rfl, hF⟩
            refine EvK.run (w_none rfl) rfl rfl (f_appendE (s := x11) (x := x12) Try.underlying22 el3 rfl rfl rfl hF) ?_
            rintro _ h13 ⟨x13, rfl, hF⟩
            obtain ⟨q11, hq11, hF⟩ := hF
            refine EvK.pure (v := .pointer (some q11)) (w_none rfl) rfl rfl (f_indexAddr (s := x1) Try.underlying68 ty22.size rfl rfl rfl hq11) ?_
            obtain ⟨h14, hs1, hF⟩ := hF
            refine EvK.runN (w_none rfl) rfl (f_store kL ty22.size (z := x13) rfl rfl rfl hs1) ?_
            rintro _ _ ⟨rfl, rfl⟩
            refine EvK.nil ?_
            refine WP.region ?_
            refine EvK.pure (v := .int .i64 s10) (w_none rfl) rfl rfl (f_move rfl rfl) ?_
            refine EvK.pure (v := .int .i64 (IntKind.i64.wrap (s10 + 1))) (w_none rfl) rfl rfl (f_add rfl rfl rfl) ?_
            refine EvK.pure (v := .int .i64 (IntKind.i64.wrap (s10 + 1))) (w_none rfl) rfl rfl (f_assign rfl rfl) ?_
            refine EvK.nil ?_
            exact KE.mk (IntKind.i64.wrap (s10 + 1)) ⟨rfl, rfl, rfl, rfl, trivial⟩ hF
          · refine WP.cond_false _ rfl c10 ?_
            refine WP.exit ?_
            exact KE.mk () ⟨rfl, rfl, rfl, trivial⟩ hF
      · refine WP.cond_false _ rfl c9 ?_
        refine WP.exit ?_
        exact KE.mk () ⟨rfl, rfl, trivial⟩ hF
  · intro k1 hF
    refine WP.seq ?_
    refine WP.region ?_
    refine EvK.pure (v := .int .i64 0) (w_none rfl) rfl rfl (f_assign rfl rfl) ?_
    refine EvK.nil ?_
    refine WP.block ?_
    refine WP.loopF (fun (s11 : Int) => [(3, .int .i64 s11), (0, Sl.val a0)]) hF ⟨rfl, rfl, trivial⟩ ?_
    intro k11 s11 E0 h15 hF
    refine WP.seq ?_
    refine WP.seq ?_
    refine WP.region ?_
    refine EvK.pure (v := .int .i64 s11) (w_none rfl) rfl rfl (f_move rfl rfl) ?_
    refine EvK.pure (v := Sl.val a0) (w_none rfl) rfl rfl (f_move rfl rfl) ?_
    refine EvK.pure (v := .int .i64 (a0.len : Int)) (w_none rfl) rfl rfl (f_lenL (s := a0) Try.underlying68 rfl rfl) ?_
    refine EvK.pure (v := .bool (decide (s11 < (a0.len : Int)))) (w_none rfl) rfl rfl (f_lss rfl rfl rfl) ?_
    refine EvK.nil ?_
    rcases ite_inv hF with ⟨c11, hF⟩ | ⟨c11, hF⟩
    · refine WP.cond_true _ rfl c11 ?_
      refine WP.skip ?_
      refine WP.joinF (fun (s12 : Unit) => [(0, Sl.val a0), (3, .int .i64 s11)]) hF ?_ ?_
      · intro s12 E0 h16 hF
        refine WP.region ?_
        refine EvK.pure (v := .int .i64 s11) (w_none rfl) rfl rfl (f_move rfl rfl) ?_
        refine EvK.pure (v := .int .i64 (IntKind.i64.wrap (s11 + 1))) (w_none rfl) rfl rfl (f_add rfl rfl rfl) ?_
        refine EvK.pure (v := .int .i64 (IntKind.i64.wrap (s11 + 1))) (w_none rfl) rfl rfl (f_assign rfl rfl) ?_
        refine EvK.nil ?_
        exact KE.mk (IntKind.i64.wrap (s11 + 1)) ⟨rfl, rfl, trivial⟩ hF
      · intro k12 hF
        refine WP.block ?_
        refine WP.seq ?_
        refine WP.region ?_
        refine EvK.pure (v := .int .i64 0) (w_none rfl) rfl rfl (f_assign rfl rfl) ?_
        refine EvK.nil ?_
        refine WP.block ?_
        refine WP.loopF (fun (s13 : Int) => [(4, .int .i64 s13), (0, Sl.val a0), (3, .int .i64 s11)]) hF ⟨rfl, rfl, rfl, trivial⟩ ?_
        intro k13 s13 E0 h17 hF
        refine WP.seq ?_
        refine WP.seq ?_
        refine WP.region ?_
        refine EvK.pure (v := .int .i64 s13) (w_none rfl) rfl rfl (f_move rfl rfl) ?_
        refine EvK.pure (v := Sl.val a0) (w_none rfl) rfl rfl (f_move rfl rfl) ?_
        refine EvK.pure (v := .int .i64 s11) (w_none rfl) rfl rfl (f_move rfl rfl) ?_
        obtain ⟨q12, hq12, hF⟩ := hF
        refine EvK.pure (v := .pointer (some q12)) (w_none rfl) rfl rfl (f_indexAddr (s := a0) Try.underlying68 ty22.size rfl rfl rfl hq12) ?_
        obtain ⟨x14, hx11, hF⟩ := hF
        refine EvK.read (v := Sl.val x14) (w_none rfl) rfl rfl (f_load kL ty22 rfl rfl hx11 rfl) ?_
        refine EvK.pure (v := .int .i64 (x14.len : Int)) (w_none rfl) rfl rfl (f_lenL (s := x14) Try.underlying22 rfl rfl) ?_
        refine EvK.pure (v := .bool (decide (s13 < (x14.len : Int)))) (w_none rfl) rfl rfl (f_lss rfl rfl rfl) ?_
        refine EvK.nil ?_
        rcases ite_inv hF with ⟨c12, hF⟩ | ⟨c12, hF⟩
        · refine WP.cond_true _ rfl c12 ?_
          refine WP.skip ?_
          refine WP.seq ?_
          refine WP.block ?_
          refine WP.region ?_
          refine EvK.pure (v := Sl.val a0) (w_none rfl) rfl rfl (f_move rfl rfl) ?_
          refine EvK.pure (v := .int .i64 s11) (w_none rfl) rfl rfl (f_move rfl rfl) ?_
          obtain ⟨q13, hq13, hF⟩ := hF
          refine EvK.pure (v := .pointer (some q13)) (w_none rfl) rfl rfl (f_indexAddr (s := a0) Try.underlying68 ty22.size rfl rfl rfl hq13) ?_
          obtain ⟨x15, hx12, hF⟩ := hF
          refine EvK.read (v := Sl.val x15) (w_none rfl) rfl rfl (f_load kL ty22 rfl rfl hx12 rfl) ?_
          refine EvK.pure (v := .int .i64 s13) (w_none rfl) rfl rfl (f_move rfl rfl) ?_
          refine EvK.pure (v := .int .i64 s11) (w_none rfl) rfl rfl (f_move rfl rfl) ?_
          refine EvK.pure (v := .int .i64 (IntKind.i64.wrap (1000 * s11))) (w_none rfl) rfl rfl (f_mul rfl rfl rfl) ?_
          refine EvK.pure (v := .int .i64 s13) (w_none rfl) rfl rfl (f_move rfl rfl) ?_
          refine EvK.pure (v := .int .i64 (IntKind.i64.wrap ((IntKind.i64.wrap (1000 * s11)) + s13))) (w_none rfl) rfl rfl (f_add rfl rfl rfl) ?_
          obtain ⟨q14, hq14, hF⟩ := hF
          refine EvK.pure (v := .pointer (some q14)) (w_none rfl) rfl rfl (f_indexAddr (s := x15) Try.underlying22 ty3.size rfl rfl rfl hq14) ?_
          obtain ⟨h18, hs2, hF⟩ := hF
          refine EvK.runN (w_none rfl) rfl (f_store (kI .i64) ty3.size (z := IntKind.i64.wrap ((IntKind.i64.wrap (1000 * s11)) + s13)) rfl rfl rfl hs2) ?_
          rintro _ _ ⟨rfl, rfl⟩
          refine EvK.nil ?_
          refine WP.region ?_
          refine EvK.pure (v := .int .i64 s13) (w_none rfl) rfl rfl (f_move rfl rfl) ?_
          refine EvK.pure (v := .int .i64 (IntKind.i64.wrap (s13 + 1))) (w_none rfl) rfl rfl (f_add rfl rfl rfl) ?_
          refine EvK.pure (v := .int .i64 (IntKind.i64.wrap (s13 + 1))) (w_none rfl) rfl rfl (f_assign rfl rfl) ?_
          refine EvK.nil ?_
          exact KE.mk (IntKind.i64.wrap (s13 + 1)) ⟨rfl, rfl, rfl, trivial⟩ hF
        · refine WP.cond_false _ rfl c12 ?_
          refine WP.exit ?_
          exact KE.mk () ⟨rfl, rfl, trivial⟩ hF
    · refine WP.cond_false _ rfl c11 ?_
      refine WP.exit ?_
      exact KE.mk () ⟨rfl, trivial⟩ hF
end Go.Proofs.Ytgmihbchcmjmdaa
