/- Functions as predicates over the heap, and that the code comes to them. Printed by gen.py, merged by group.py. -/
import Derived.Test.YtgmihbchcmjmdaaG0
import Derived.Test.YtgmihbchcmjmdaaG1
import Derived.Test.YtgmihbchcmjmdaaG2
import Derived.Test.YtgmihbchcmjmdaaG3
import Derived.Test.YtgmihbchcmjmdaaG4
import Derived.Test.YtgmihbchcmjmdaaG6
import Derived.Test.YtgmihbchcmjmdaaTy
namespace Go.Proofs.Ytgmihbchcmjmdaa
open Go Go.Tr
set_option linter.unusedVariables false
set_option maxRecDepth 100000
set_option maxHeartbeats 400000
def spatelaw11_conflict.b2 (p0 : Sl) (p1 : Sl) (p5 : Int) (s : Int) (h : H) (K : Int ⊕ (Unit ⊕ Bool) → H → Prop) : Prop :=
  if (decide (s < (p1.len : Int))) = true then
    jn (fun (k3 : Bool → H → Prop) =>
      rd (ixA 2 p0 p5) fun q1 =>
      rd (ld (kI .i64) (q1.add 0) h) fun x1 =>
      rd (ixA 2 p1 s) fun q2 =>
      rd (ld (kI .i64) (q2.add 0) h) fun x2 =>
      if (x1 == x2) = true then
        rd (ixA 2 p0 p5) fun q3 =>
        rd (ld kB (q3.add 1) h) fun x3 =>
        if x3 = true then
          rd (ixA 2 p1 s) fun q4 =>
          rd (ld kB (q4.add 1) h) fun x4 =>
          k3 (!x4) h
        else
          k3 (!false) h
      else
        k3 false h) fun s3 h3 =>
    if s3 = true then
      K (.inr (.inr true)) h3
    else
      K (.inl (IntKind.i64.wrap (s + 1))) h3
  else
    K (.inr (.inl ())) h
def spatelaw11_conflict.b1 (p0 : Sl) (p1 : Sl) (s : Int) (h : H) (K : Int ⊕ (Unit ⊕ Bool) → H → Prop) : Prop :=
  if (decide (s < (p0.len : Int))) = true then
    jn (fun (k2 : Unit → H → Prop) =>
      loopE (spatelaw11_conflict.b2 p0 p1 s) 0 h (sumK (fun r1 hh => k2 r1 hh) (fun r2 hh => K (.inr (.inr r2)) hh))) fun s2 h2 =>
    K (.inl (IntKind.i64.wrap (s + 1))) h2
  else
    K (.inr (.inl ())) h
/-- spate/spatelaw11.conflict -/
def spatelaw11_conflict (a0 : Sl) (a1 : Sl) (h : H) (Q : Bool → H → Prop) : Prop :=
  jn (fun (k1 : Unit → H → Prop) =>
    loopE (spatelaw11_conflict.b1 a0 a1) 0 h (sumK (fun r3 hh => k1 r3 hh) (fun r4 hh => Q r4 hh))) fun s1 h1 =>
  Q false h1
theorem spatelaw11_conflict.sound {a0 : Sl} {a1 : Sl} {h : H} {Q : Bool → H → Prop} (hF : spatelaw11_conflict a0 a1 h Q) :
    CallsH Try.prog 26 (List.toArray (α := Value) [Sl.val a0, Sl.val a1]) h fun v h' => ∃ x : Bool, v = .bool x ∧ Q x h' := by
  refine CallsH.of_body Try.func26 rfl 45 rfl rfl ?_
  refine WP.seq ?_
  refine WP.region ?_
  refine EvK.pure (v := .bool false) (w_none rfl) rfl rfl (f_assign rfl rfl) ?_
  refine EvK.nil ?_
  refine WP.joinF (fun (s1 : Unit) => []) hF ?_ ?_
  · intro s1 E0 h1 hF
    refine WP.seq ?_
    refine WP.region ?_
    refine EvK.pure (v := .bool false) (w_none rfl) rfl rfl (f_assign rfl rfl) ?_
    refine EvK.nil ?_
    refine WP.ret ?_
    exact Ret.mk (vs := [.bool false]) false ⟨rfl, trivial⟩ rfl hF
  · intro k1 hF
    refine WP.seq ?_
    refine WP.region ?_
    refine EvK.pure (v := .int .i64 0) (w_none rfl) rfl rfl (f_assign rfl rfl) ?_
    refine EvK.nil ?_
    refine WP.block ?_
    refine WP.loopF (fun (s2 : Int) => [(5, .int .i64 s2), (0, Sl.val a0), (1, Sl.val a1)]) hF ⟨rfl, rfl, rfl, trivial⟩ ?_
    intro k2 s2 E0 h2 hF
    refine WP.seq ?_
    refine WP.seq ?_
    refine WP.region ?_
    refine EvK.pure (v := .int .i64 s2) (w_none rfl) rfl rfl (f_move rfl rfl) ?_
    refine EvK.pure (v := Sl.val a0) (w_none rfl) rfl rfl (f_move rfl rfl) ?_
    refine EvK.pure (v := .int .i64 (a0.len : Int)) (w_none rfl) rfl rfl (f_lenL (s := a0) Try.underlying30 rfl rfl) ?_
    refine EvK.pure (v := .bool (decide (s2 < (a0.len : Int)))) (w_none rfl) rfl rfl (f_lss rfl rfl rfl) ?_
    refine EvK.nil ?_
    rcases ite_inv hF with ⟨c1, hF⟩ | ⟨c1, hF⟩
    · refine WP.cond_true _ rfl c1 ?_
      refine WP.skip ?_
      refine WP.joinF (fun (s3 : Unit) => [(0, Sl.val a0), (1, Sl.val a1), (5, .int .i64 s2)]) hF ?_ ?_
      · intro s3 E0 h3 hF
        refine WP.region ?_
        refine EvK.pure (v := .int .i64 s2) (w_none rfl) rfl rfl (f_move rfl rfl) ?_
        refine EvK.pure (v := .int .i64 (IntKind.i64.wrap (s2 + 1))) (w_none rfl) rfl rfl (f_add rfl rfl rfl) ?_
        refine EvK.pure (v := .int .i64 (IntKind.i64.wrap (s2 + 1))) (w_none rfl) rfl rfl (f_assign rfl rfl) ?_
        refine EvK.nil ?_
        exact KE.mk (IntKind.i64.wrap (s2 + 1)) ⟨rfl, rfl, rfl, trivial⟩ hF
      · intro k3 hF
        refine WP.block ?_
        refine WP.seq ?_
        refine WP.region ?_
        refine EvK.pure (v := .int .i64 0) (w_none rfl) rfl rfl (f_assign rfl rfl) ?_
        refine EvK.nil ?_
        refine WP.block ?_
        refine WP.loopF (fun (s4 : Int) => [(6, .int .i64 s4), (0, Sl.val a0), (1, Sl.val a1), (5, .int .i64 s2)]) hF ⟨rfl, rfl, rfl, rfl, trivial⟩ ?_
        intro k4 s4 E0 h4 hF
        refine WP.seq ?_
        refine WP.seq ?_
        refine WP.region ?_
        refine EvK.pure (v := .int .i64 s4) (w_none rfl) rfl rfl (f_move rfl rfl) ?_
        refine EvK.pure (v := Sl.val a1) (w_none rfl) rfl rfl (f_move rfl rfl) ?_
        refine EvK.pure (v := .int .i64 (a1.len : Int)) (w_none rfl) rfl rfl (f_lenL (s := a1) Try.underlying30 rfl rfl) ?_
        refine EvK.pure (v := .bool (decide (s4 < (a1.len : Int)))) (w_none rfl) rfl rfl (f_lss rfl rfl rfl) ?_
        refine EvK.nil ?_
        rcases ite_inv hF with ⟨c2, hF⟩ | ⟨c2, hF⟩
        · refine WP.cond_true _ rfl c2 ?_
          refine WP.skip ?_
          refine WP.seq ?_
          refine WP.block ?_
          refine WP.joinF (fun (s5 : Bool) => [(44, .bool s5), (0, Sl.val a0), (1, Sl.val a1), (5, .int .i64 s2), (6, .int .i64 s4)]) hF ?_ ?_
          · intro s5 E0 h5 hF
            rcases ite_inv hF with ⟨c3, hF⟩ | ⟨c3, hF⟩
            · refine WP.cond_true _ rfl c3 ?_
              refine WP.seq ?_
              refine WP.region ?_
              refine EvK.pure (v := .bool true) (w_none rfl) rfl rfl (f_assign rfl rfl) ?_
              refine EvK.nil ?_
              refine WP.ret ?_
              exact Ret.mk (vs := [.bool true]) true ⟨rfl, trivial⟩ rfl hF
            · refine WP.cond_false _ rfl c3 ?_
              refine WP.skip ?_
              refine WP.region ?_
              refine EvK.pure (v := .int .i64 s4) (w_none rfl) rfl rfl (f_move rfl rfl) ?_
              refine EvK.pure (v := .int .i64 (IntKind.i64.wrap (s4 + 1))) (w_none rfl) rfl rfl (f_add rfl rfl rfl) ?_
              refine EvK.pure (v := .int .i64 (IntKind.i64.wrap (s4 + 1))) (w_none rfl) rfl rfl (f_assign rfl rfl) ?_
              refine EvK.nil ?_
              exact KE.mk (IntKind.i64.wrap (s4 + 1)) ⟨rfl, rfl, rfl, rfl, trivial⟩ hF
          · intro k5 hF
            refine WP.draw mixed [.pure, .pure, .pure, .pure, .read, .pure, .pure, .pure, .pure, .read, .pure, .pure, .pure, .pure, .pure, .pure, .read, .pure, .pure, .pure, .pure, .pure, .read, .pure, .pure, .pure] [[], [], [0, 1], [0, 1, 2], [0, 1, 2, 3], [], [], [5, 6], [5, 6, 7], [5, 6, 7, 8], [0, 1, 2, 3, 4, 5, 6, 7, 8, 9], [0, 1, 2, 3, 4, 5, 6, 7, 8, 9, 10], [0, 1, 2, 3, 4, 5, 6, 7, 8, 9, 10, 11], [0, 1, 2, 3, 4, 5, 6, 7, 8, 9, 10, 11], [0, 1, 2, 3, 4, 5, 6, 7, 8, 9, 10, 11, 12, 13], [0, 1, 2, 3, 4, 5, 6, 7, 8, 9, 10, 11, 12, 13, 14], [0, 1, 2, 3, 4, 5, 6, 7, 8, 9, 10, 11, 12, 13, 14, 15], [0, 1, 2, 3, 4, 5, 6, 7, 8, 9, 10, 11, 12, 13, 14, 15, 16], [0, 1, 2, 3, 4, 5, 6, 7, 8, 9, 10, 11, 12, 13, 14, 15, 16, 17], [0, 1, 2, 3, 4, 5, 6, 7, 8, 9, 10, 11, 12, 13, 14, 15, 16, 17], [0, 1, 2, 3, 4, 5, 6, 7, 8, 9, 10, 11, 12, 13, 14, 15, 16, 17, 18, 19], [0, 1, 2, 3, 4, 5, 6, 7, 8, 9, 10, 11, 12, 13, 14, 15, 16, 17, 18, 19, 20], [0, 1, 2, 3, 4, 5, 6, 7, 8, 9, 10, 11, 12, 13, 14, 15, 16, 17, 18, 19, 20, 21], [0, 1, 2, 3, 4, 5, 6, 7, 8, 9, 10, 11, 12, 13, 14, 15, 16, 17, 18, 19, 20, 21, 22], [0, 1, 2, 3, 4, 5, 6, 7, 8, 9, 10, 11, 12, 13, 14, 15, 16, 17, 18, 19, 20, 21, 22, 23], [0, 1, 2, 3, 4, 5, 6, 7, 8, 9, 10, 11, 12, 13, 14, 15, 16, 17, 18, 19, 20, 21, 22, 23, 24]] [0, 1, 2, 3, 4, 5, 6, 7, 8, 9, 10, 11, 12, 13, 14, 15, 16, 17, 18, 19, 20, 21, 22, 23, 24, 25] (by kernel_rfl) (by kernel_rfl) ?_
            refine EvI.pure (v := Sl.val a0) rfl rfl (w_none rfl) rfl (f_move rfl rfl) ?_
            refine EvI.pure (v := .int .i64 s2) rfl rfl (w_none rfl) rfl (f_move rfl rfl) ?_
            obtain ⟨q1, hq1, hF⟩ := hF
            refine EvI.pure (v := .pointer (some q1)) rfl rfl (w_none rfl) rfl (f_indexAddr (s := a0) Try.underlying30 ty32.size rfl rfl rfl hq1) ?_
            refine EvI.pure (v := .pointer (some (q1.add 0))) rfl rfl (w_none rfl) rfl (f_fieldAddr fd32_0 rfl rfl) ?_
            obtain ⟨x1, hx1, hF⟩ := hF
            refine EvI.read (v := .int .i64 x1) rfl rfl (w_none rfl) rfl (f_load (kI .i64) ty3 rfl rfl hx1 rfl) ?_
            refine EvI.pure (v := Sl.val a1) rfl rfl (w_none rfl) rfl (f_move rfl rfl) ?_
            refine EvI.pure (v := .int .i64 s4) rfl rfl (w_none rfl) rfl (f_move rfl rfl) ?_
            obtain ⟨q2, hq2, hF⟩ := hF
            refine EvI.pure (v := .pointer (some q2)) rfl rfl (w_none rfl) rfl (f_indexAddr (s := a1) Try.underlying30 ty32.size rfl rfl rfl hq2) ?_
            refine EvI.pure (v := .pointer (some (q2.add 0))) rfl rfl (w_none rfl) rfl (f_fieldAddr fd32_0 rfl rfl) ?_
            obtain ⟨x2, hx2, hF⟩ := hF
            refine EvI.read (v := .int .i64 x2) rfl rfl (w_none rfl) rfl (f_load (kI .i64) ty3 rfl rfl hx2 rfl) ?_
            refine EvI.pure (v := .bool (x1 == x2)) rfl rfl (w_none rfl) rfl (f_eql rfl rfl rfl) ?_
            refine EvI.pure (v := .bool (x1 == x2)) rfl rfl (w_none rfl) rfl (f_move rfl rfl) ?_
            rcases ite_inv hF with ⟨c4, hF⟩ | ⟨c4, hF⟩
            · refine EvI.pure (v := Sl.val a0) rfl rfl (w_some rfl rfl c4) rfl (f_move rfl rfl) ?_
              refine EvI.pure (v := .int .i64 s2) rfl rfl (w_some rfl rfl c4) rfl (f_move rfl rfl) ?_
              obtain ⟨q3, hq3, hF⟩ := hF
              refine EvI.pure (v := .pointer (some q3)) rfl rfl (w_some rfl rfl c4) rfl (f_indexAddr (s := a0) Try.underlying30 ty32.size rfl rfl rfl hq3) ?_
              refine EvI.pure (v := .pointer (some (q3.add 1))) rfl rfl (w_some rfl rfl c4) rfl (f_fieldAddr fd32_1 rfl rfl) ?_
              obtain ⟨x3, hx3, hF⟩ := hF
              refine EvI.read (v := .bool x3) rfl rfl (w_some rfl rfl c4) rfl (f_load kB ty4 rfl rfl hx3 rfl) ?_
              refine EvI.pure (v := .bool x3) rfl rfl (w_some rfl rfl c4) rfl (f_move rfl rfl) ?_
              rcases ite_inv hF with ⟨c5, hF⟩ | ⟨c5, hF⟩
              · refine EvI.pure (v := Sl.val a1) rfl rfl (w_some rfl rfl c5) rfl (f_move rfl rfl) ?_
                refine EvI.pure (v := .int .i64 s4) rfl rfl (w_some rfl rfl c5) rfl (f_move rfl rfl) ?_
                obtain ⟨q4, hq4, hF⟩ := hF
                refine EvI.pure (v := .pointer (some q4)) rfl rfl (w_some rfl rfl c5) rfl (f_indexAddr (s := a1) Try.underlying30 ty32.size rfl rfl rfl hq4) ?_
                refine EvI.pure (v := .pointer (some (q4.add 1))) rfl rfl (w_some rfl rfl c5) rfl (f_fieldAddr fd32_1 rfl rfl) ?_
                obtain ⟨x4, hx4, hF⟩ := hF
                refine EvI.read (v := .bool x4) rfl rfl (w_some rfl rfl c5) rfl (f_load kB ty4 rfl rfl hx4 rfl) ?_
                refine EvI.pure (v := .bool x4) rfl rfl (w_some rfl rfl c4) rfl (f_pickT rfl rfl c5 rfl) ?_
                refine EvI.pure (v := .bool (!x4)) rfl rfl (w_some rfl rfl c4) rfl (f_not rfl rfl) ?_
                refine EvI.pure (v := .bool (!x4)) rfl rfl (w_none rfl) rfl (f_pickT rfl rfl c4 rfl) ?_
                refine EvI.nil ?_
                exact KE.mk (!x4) ⟨rfl, rfl, rfl, rfl, rfl, trivial⟩ hF
              · refine EvI.not rfl (w_not rfl rfl c5) rfl ?_
                refine EvI.not rfl (w_not rfl rfl c5) rfl ?_
                refine EvI.not rfl (w_not rfl rfl c5) rfl ?_
                refine EvI.not rfl (w_not rfl rfl c5) rfl ?_
                refine EvI.not rfl (w_not rfl rfl c5) rfl ?_
                refine EvI.pure (v := .bool false) rfl rfl (w_some rfl rfl c4) rfl (f_pickF rfl rfl c5 rfl) ?_
                refine EvI.pure (v := .bool (!false)) rfl rfl (w_some rfl rfl c4) rfl (f_not rfl rfl) ?_
                refine EvI.pure (v := .bool (!false)) rfl rfl (w_none rfl) rfl (f_pickT rfl rfl c4 rfl) ?_
                refine EvI.nil ?_
                exact KE.mk (!false) ⟨rfl, rfl, rfl, rfl, rfl, trivial⟩ hF
            · refine EvI.not rfl (w_not rfl rfl c4) rfl ?_
              refine EvI.not rfl (w_not rfl rfl c4) rfl ?_
              refine EvI.not rfl (w_not rfl rfl c4) rfl ?_
              refine EvI.not rfl (w_not rfl rfl c4) rfl ?_
              refine EvI.not rfl (w_not rfl rfl c4) rfl ?_
              refine EvI.not rfl (w_not rfl rfl c4) rfl ?_
              refine EvI.not rfl (w_undef rfl rfl) rfl ?_
              refine EvI.not rfl (w_undef rfl rfl) rfl ?_
              refine EvI.not rfl (w_undef rfl rfl) rfl ?_
              refine EvI.not rfl (w_undef rfl rfl) rfl ?_
              refine EvI.not rfl (w_undef rfl rfl) rfl ?_
              refine EvI.not rfl (w_not rfl rfl c4) rfl ?_
              refine EvI.not rfl (w_not rfl rfl c4) rfl ?_
              refine EvI.pure (v := .bool false) rfl rfl (w_none rfl) rfl (f_pickF rfl rfl c4 rfl) ?_
              refine EvI.nil ?_
              exact KE.mk false ⟨rfl, rfl, rfl, rfl, rfl, trivial⟩ hF
        · refine WP.cond_false _ rfl c2 ?_
          refine WP.exit ?_
          exact KE.mk () ⟨rfl, rfl, rfl, trivial⟩ hF
    · refine WP.cond_false _ rfl c1 ?_
      refine WP.exit ?_
      exact KE.mk () trivial hF
end Go.Proofs.Ytgmihbchcmjmdaa

namespace Go.Proofs.Ytgmihbchcmjmdaa
open Go Go.Tr
set_option linter.unusedVariables false
set_option maxRecDepth 100000
set_option maxHeartbeats 400000
def spatelaw11_fair.b2 (p0 : Sl) (p3 : Int) (s : Bool × Int) (h : H) (K : (Bool × Int) ⊕ (Bool ⊕ Bool) → H → Prop) : Prop :=
  if (decide (s.2 < (p0.len : Int))) = true then
    jn (fun (k5 : Bool → H → Prop) =>
      jn (fun (k6 : Bool → H → Prop) =>
        if (p3 == s.2) = true then
          k6 true h
        else
          rd (ixA 3 p0 p3) fun q6 =>
          rd (ld kL (q6.add 1) h) fun x6 =>
          rd (ixA 3 p0 s.2) fun q7 =>
          rd (ld kL (q7.add 1) h) fun x7 =>
          spatelaw11_conflict x6 x7 h fun r1 h8 =>
          k6 (!r1) h8) fun s6 h6 =>
      if s6 = true then
        k5 s.1 h6
      else
        jn (fun (k7 : Bool → H → Prop) =>
          rd (ixA 3 p0 p3) fun q4 =>
          rd (ld kB (q4.add 2) h6) fun x4 =>
          if x4 = true then
            rd (ixA 3 p0 s.2) fun q5 =>
            rd (ld kB (q5.add 2) h6) fun x5 =>
            k7 x5 h6
          else
            k7 false h6) fun s7 h7 =>
        if s7 = true then
          K (.inr (.inr false)) h7
        else
          if s.1 = true then
            k5 true h7
          else
            rd (ixA 3 p0 s.2) fun q2 =>
            rd (ld kB (q2.add 2) h7) fun x2 =>
            if x2 = true then
              k5 true h7
            else
              if (decide (s.2 < p3)) = true then
                rd (ixA 3 p0 s.2) fun q3 =>
                rd (ld kB (q3.add 2) h7) fun x3 =>
                k5 (!x3) h7
              else
                k5 false h7) fun s5 h5 =>
    K (.inl (s5, IntKind.i64.wrap (s.2 + 1))) h5
  else
    K (.inr (.inl s.1)) h
def spatelaw11_fair.b1 (p0 : Sl) (s : Int) (h : H) (K : Int ⊕ (Unit ⊕ Bool) → H → Prop) : Prop :=
  if (decide (s < (p0.len : Int))) = true then
    jn (fun (k2 : Unit → H → Prop) =>
      jn (fun (k3 : Bool → H → Prop) =>
        loopE (spatelaw11_fair.b2 p0 s) (false, 0) h (sumK (fun r2 hh => k3 r2 hh) (fun r3 hh => K (.inr (.inr r3)) hh))) fun s3 h3 =>
      jn (fun (k4 : Bool → H → Prop) =>
        rd (ixA 3 p0 s) fun q1 =>
        rd (ld kB (q1.add 2) h3) fun x1 =>
        if (!x1) = true then
          k4 (!s3) h3
        else
          k4 false h3) fun s4 h4 =>
      if s4 = true then
        K (.inr (.inr false)) h4
      else
        k2 () h4) fun s2 h2 =>
    K (.inl (IntKind.i64.wrap (s + 1))) h2
  else
    K (.inr (.inl ())) h
/-- spate/spatelaw11.fair -/
def spatelaw11_fair (a0 : Sl) (h : H) (Q : Bool → H → Prop) : Prop :=
  jn (fun (k1 : Unit → H → Prop) =>
    loopE (spatelaw11_fair.b1 a0) 0 h (sumK (fun r4 hh => k1 r4 hh) (fun r5 hh => Q r5 hh))) fun s1 h1 =>
  Q true h1
theorem spatelaw11_fair.sound {a0 : Sl} {h : H} {Q : Bool → H → Prop} (hF : spatelaw11_fair a0 h Q) :
    CallsH Try.prog 29 (List.toArray (α := Value) [Sl.val a0]) h fun v h' => ∃ x : Bool, v = .bool x ∧ Q x h' := by
  refine CallsH.of_body Try.func29 rfl 78 rfl rfl ?_
  refine WP.seq ?_
  refine WP.region ?_
  refine EvK.pure (v := .bool false) (w_none rfl) rfl rfl (f_assign rfl rfl) ?_
  refine EvK.nil ?_
  refine WP.joinF (fun (s1 : Unit) => []) hF ?_ ?_
  · intro s1 E0 h1 hF
    refine WP.seq ?_
    refine WP.region ?_
    refine EvK.pure (v := .bool true) (w_none rfl) rfl rfl (f_assign rfl rfl) ?_
    refine EvK.nil ?_
    refine WP.ret ?_
    exact Ret.mk (vs := [.bool true]) true ⟨rfl, trivial⟩ rfl hF
  · intro k1 hF
    refine WP.seq ?_
    refine WP.region ?_
    refine EvK.pure (v := .int .i64 0) (w_none rfl) rfl rfl (f_assign rfl rfl) ?_
    refine EvK.nil ?_
    refine WP.block ?_
    refine WP.loopF (fun (s2 : Int) => [(3, .int .i64 s2), (0, Sl.val a0)]) hF ⟨rfl, rfl, trivial⟩ ?_
    intro k2 s2 E0 h2 hF
    refine WP.seq ?_
    refine WP.seq ?_
    refine WP.region ?_
    refine EvK.pure (v := .int .i64 s2) (w_none rfl) rfl rfl (f_move rfl rfl) ?_
    refine EvK.pure (v := Sl.val a0) (w_none rfl) rfl rfl (f_move rfl rfl) ?_
    refine EvK.pure (v := .int .i64 (a0.len : Int)) (w_none rfl) rfl rfl (f_lenL (s := a0) Try.underlying29 rfl rfl) ?_
    refine EvK.pure (v := .bool (decide (s2 < (a0.len : Int)))) (w_none rfl) rfl rfl (f_lss rfl rfl rfl) ?_
    refine EvK.nil ?_
    rcases ite_inv hF with ⟨c1, hF⟩ | ⟨c1, hF⟩
    · refine WP.cond_true _ rfl c1 ?_
      refine WP.skip ?_
      refine WP.joinF (fun (s3 : Unit) => [(0, Sl.val a0), (3, .int .i64 s2)]) hF ?_ ?_
      · intro s3 E0 h3 hF
        refine WP.region ?_
        refine EvK.pure (v := .int .i64 s2) (w_none rfl) rfl rfl (f_move rfl rfl) ?_
        refine EvK.pure (v := .int .i64 (IntKind.i64.wrap (s2 + 1))) (w_none rfl) rfl rfl (f_add rfl rfl rfl) ?_
        refine EvK.pure (v := .int .i64 (IntKind.i64.wrap (s2 + 1))) (w_none rfl) rfl rfl (f_assign rfl rfl) ?_
        refine EvK.nil ?_
        exact KE.mk (IntKind.i64.wrap (s2 + 1)) ⟨rfl, rfl, trivial⟩ hF
      · intro k3 hF
        refine WP.block ?_
        refine WP.seq ?_
        refine WP.region ?_
        refine EvK.pure (v := .bool false) (w_none rfl) rfl rfl (f_assign rfl rfl) ?_
        refine EvK.nil ?_
        refine WP.joinF (fun (s4 : Bool) => [(4, .bool s4), (0, Sl.val a0), (3, .int .i64 s2)]) hF ?_ ?_
        · intro s4 E0 h4 hF
          refine WP.joinF (fun (s5 : Bool) => [(77, .bool s5), (0, Sl.val a0), (3, .int .i64 s2)]) hF ?_ ?_
          · intro s5 E0 h5 hF
            rcases ite_inv hF with ⟨c2, hF⟩ | ⟨c2, hF⟩
            · refine WP.cond_true _ rfl c2 ?_
              refine WP.seq ?_
              refine WP.region ?_
              refine EvK.pure (v := .bool false) (w_none rfl) rfl rfl (f_assign rfl rfl) ?_
              refine EvK.nil ?_
              refine WP.ret ?_
              exact Ret.mk (vs := [.bool false]) false ⟨rfl, trivial⟩ rfl hF
            · refine WP.cond_false _ rfl c2 ?_
              refine WP.skip ?_
              exact KE.mk () ⟨rfl, rfl, trivial⟩ hF
          · intro k5 hF
            refine WP.region ?_
            refine EvK.pure (v := Sl.val a0) (w_none rfl) rfl rfl (f_move rfl rfl) ?_
            refine EvK.pure (v := .int .i64 s2) (w_none rfl) rfl rfl (f_move rfl rfl) ?_
            obtain ⟨q1, hq1, hF⟩ := hF
            refine EvK.pure (v := .pointer (some q1)) (w_none rfl) rfl rfl (f_indexAddr (s := a0) Try.underlying29 ty35.size rfl rfl rfl hq1) ?_
            refine EvK.pure (v := .pointer (some (q1.add 2))) (w_none rfl) rfl rfl (f_fieldAddr fd35_2 rfl rfl) ?_
            obtain ⟨x1, hx1, hF⟩ := hF
            refine EvK.read (v := .bool x1) (w_none rfl) rfl rfl (f_load kB ty4 rfl rfl hx1 rfl) ?_
            refine EvK.pure (v := .bool (!x1)) (w_none rfl) rfl rfl (f_not rfl rfl) ?_
            refine EvK.pure (v := .bool (!x1)) (w_none rfl) rfl rfl (f_move rfl rfl) ?_
            rcases ite_inv hF with ⟨c3, hF⟩ | ⟨c3, hF⟩
            · refine EvK.pure (v := .bool s4) (w_some rfl rfl c3) rfl rfl (f_move rfl rfl) ?_
              refine EvK.pure (v := .bool (!s4)) (w_some rfl rfl c3) rfl rfl (f_not rfl rfl) ?_
              refine EvK.pure (v := .bool (!s4)) (w_none rfl) rfl rfl (f_pickT rfl rfl c3 rfl) ?_
              refine EvK.nil ?_
              exact KE.mk (!s4) ⟨rfl, rfl, rfl, trivial⟩ hF
            · refine EvK.not (w_not rfl rfl c3) rfl rfl ?_
              refine EvK.not (w_not rfl rfl c3) rfl rfl ?_
              refine EvK.pure (v := .bool false) (w_none rfl) rfl rfl (f_pickF rfl rfl c3 rfl) ?_
              refine EvK.nil ?_
              exact KE.mk false ⟨rfl, rfl, rfl, trivial⟩ hF
        · intro k4 hF
          refine WP.seq ?_
          refine WP.region ?_
          refine EvK.pure (v := .int .i64 0) (w_none rfl) rfl rfl (f_assign rfl rfl) ?_
          refine EvK.nil ?_
          refine WP.block ?_
          refine WP.loopF (fun (s6 : Bool × Int) => [(4, .bool s6.1), (5, .int .i64 s6.2), (0, Sl.val a0), (3, .int .i64 s2)]) hF ⟨rfl, rfl, rfl, rfl, trivial⟩ ?_
          intro k6 s6 E0 h6 hF
          refine WP.seq ?_
          refine WP.seq ?_
          refine WP.region ?_
          refine EvK.pure (v := .int .i64 s6.2) (w_none rfl) rfl rfl (f_move rfl rfl) ?_
          refine EvK.pure (v := Sl.val a0) (w_none rfl) rfl rfl (f_move rfl rfl) ?_
          refine EvK.pure (v := .int .i64 (a0.len : Int)) (w_none rfl) rfl rfl (f_lenL (s := a0) Try.underlying29 rfl rfl) ?_
          refine EvK.pure (v := .bool (decide (s6.2 < (a0.len : Int)))) (w_none rfl) rfl rfl (f_lss rfl rfl rfl) ?_
          refine EvK.nil ?_
          rcases ite_inv hF with ⟨c4, hF⟩ | ⟨c4, hF⟩
          · refine WP.cond_true _ rfl c4 ?_
            refine WP.skip ?_
            refine WP.joinF (fun (s7 : Bool) => [(4, .bool s7), (0, Sl.val a0), (3, .int .i64 s2), (5, .int .i64 s6.2)]) hF ?_ ?_
            · intro s7 E0 h7 hF
              refine WP.region ?_
              refine EvK.pure (v := .int .i64 s6.2) (w_none rfl) rfl rfl (f_move rfl rfl) ?_
              refine EvK.pure (v := .int .i64 (IntKind.i64.wrap (s6.2 + 1))) (w_none rfl) rfl rfl (f_add rfl rfl rfl) ?_
              refine EvK.pure (v := .int .i64 (IntKind.i64.wrap (s6.2 + 1))) (w_none rfl) rfl rfl (f_assign rfl rfl) ?_
              refine EvK.nil ?_
              exact KE.mk (s7, IntKind.i64.wrap (s6.2 + 1)) ⟨rfl, rfl, rfl, rfl, trivial⟩ hF
            · intro k7 hF
              refine WP.block ?_
              refine WP.seq ?_
              refine WP.joinF (fun (s8 : Bool) => [(34, .bool s8), (0, Sl.val a0), (3, .int .i64 s2), (4, .bool s6.1), (5, .int .i64 s6.2)]) hF ?_ ?_
              · intro s8 E0 h8 hF
                rcases ite_inv hF with ⟨c5, hF⟩ | ⟨c5, hF⟩
                · refine WP.cond_true _ rfl c5 ?_
                  refine WP.exit ?_
                  exact KE.mk s6.1 ⟨rfl, rfl, rfl, rfl, trivial⟩ hF
                · refine WP.cond_false _ rfl c5 ?_
                  refine WP.skip ?_
                  refine WP.seq ?_
                  refine WP.joinF (fun (s9 : Bool) => [(46, .bool s9), (0, Sl.val a0), (3, .int .i64 s2), (4, .bool s6.1), (5, .int .i64 s6.2)]) hF ?_ ?_
                  · intro s9 E0 h9 hF
                    rcases ite_inv hF with ⟨c6, hF⟩ | ⟨c6, hF⟩
                    · refine WP.cond_true _ rfl c6 ?_
                      refine WP.seq ?_
                      refine WP.region ?_
                      refine EvK.pure (v := .bool false) (w_none rfl) rfl rfl (f_assign rfl rfl) ?_
                      refine EvK.nil ?_
                      refine WP.ret ?_
                      exact Ret.mk (vs := [.bool false]) false ⟨rfl, trivial⟩ rfl hF
                    · refine WP.cond_false _ rfl c6 ?_
                      refine WP.skip ?_
                      refine WP.region ?_
                      refine EvK.pure (v := .bool s6.1) (w_none rfl) rfl rfl (f_move rfl rfl) ?_
                      refine EvK.pure (v := .bool s6.1) (w_none rfl) rfl rfl (f_move rfl rfl) ?_
                      rcases ite_inv hF with ⟨c7, hF⟩ | ⟨c7, hF⟩
                      · refine EvK.not (w_not rfl rfl c7) rfl rfl ?_
                        refine EvK.not (w_not rfl rfl c7) rfl rfl ?_
                        refine EvK.not (w_not rfl rfl c7) rfl rfl ?_
                        refine EvK.not (w_not rfl rfl c7) rfl rfl ?_
                        refine EvK.not (w_not rfl rfl c7) rfl rfl ?_
                        refine EvK.pure (v := .bool true) (w_none rfl) rfl rfl (f_pickT rfl rfl c7 rfl) ?_
                        refine EvK.pure (v := .bool true) (w_none rfl) rfl rfl (f_move rfl rfl) ?_
                        refine EvK.not (w_not rfl rfl rfl) rfl rfl ?_
                        refine EvK.not (w_not rfl rfl rfl) rfl rfl ?_
                        refine EvK.not (w_not rfl rfl rfl) rfl rfl ?_
                        refine EvK.not (w_not rfl rfl rfl) rfl rfl ?_
                        refine EvK.not (w_undef rfl rfl) rfl rfl ?_
                        refine EvK.not (w_undef rfl rfl) rfl rfl ?_
                        refine EvK.not (w_undef rfl rfl) rfl rfl ?_
                        refine EvK.not (w_undef rfl rfl) rfl rfl ?_
                        refine EvK.not (w_undef rfl rfl) rfl rfl ?_
                        refine EvK.not (w_undef rfl rfl) rfl rfl ?_
                        refine EvK.not (w_not rfl rfl rfl) rfl rfl ?_
                        refine EvK.pure (v := .bool true) (w_none rfl) rfl rfl (f_pickT rfl rfl rfl rfl) ?_
                        refine EvK.pure (v := .bool true) (w_none rfl) rfl rfl (f_assign rfl rfl) ?_
                        refine EvK.nil ?_
                        exact KE.mk true ⟨rfl, rfl, rfl, rfl, trivial⟩ hF
                      · refine EvK.pure (v := Sl.val a0) (w_some rfl rfl c7) rfl rfl (f_move rfl rfl) ?_
                        refine EvK.pure (v := .int .i64 s6.2) (w_some rfl rfl c7) rfl rfl (f_move rfl rfl) ?_
                        obtain ⟨q2, hq2, hF⟩ := hF
                        refine EvK.pure (v := .pointer (some q2)) (w_some rfl rfl c7) rfl rfl (f_indexAddr (s := a0) Try.underlying29 ty35.size rfl rfl rfl hq2) ?_
                        refine EvK.pure (v := .pointer (some (q2.add 2))) (w_some rfl rfl c7) rfl rfl (f_fieldAddr fd35_2 rfl rfl) ?_
                        obtain ⟨x2, hx2, hF⟩ := hF
                        refine EvK.read (v := .bool x2) (w_some rfl rfl c7) rfl rfl (f_load kB ty4 rfl rfl hx2 rfl) ?_
                        refine EvK.pure (v := .bool x2) (w_none rfl) rfl rfl (f_pickF rfl rfl c7 rfl) ?_
                        refine EvK.pure (v := .bool x2) (w_none rfl) rfl rfl (f_move rfl rfl) ?_
                        rcases ite_inv hF with ⟨c8, hF⟩ | ⟨c8, hF⟩
                        · refine EvK.not (w_not rfl rfl c8) rfl rfl ?_
                          refine EvK.not (w_not rfl rfl c8) rfl rfl ?_
                          refine EvK.not (w_not rfl rfl c8) rfl rfl ?_
                          refine EvK.not (w_not rfl rfl c8) rfl rfl ?_
                          refine EvK.not (w_undef rfl rfl) rfl rfl ?_
                          refine EvK.not (w_undef rfl rfl) rfl rfl ?_
                          refine EvK.not (w_undef rfl rfl) rfl rfl ?_
                          refine EvK.not (w_undef rfl rfl) rfl rfl ?_
                          refine EvK.not (w_undef rfl rfl) rfl rfl ?_
                          refine EvK.not (w_undef rfl rfl) rfl rfl ?_
                          refine EvK.not (w_not rfl rfl c8) rfl rfl ?_
                          refine EvK.pure (v := .bool true) (w_none rfl) rfl rfl (f_pickT rfl rfl c8 rfl) ?_
                          refine EvK.pure (v := .bool true) (w_none rfl) rfl rfl (f_assign rfl rfl) ?_
                          refine EvK.nil ?_
                          exact KE.mk true ⟨rfl, rfl, rfl, rfl, trivial⟩ hF
                        · refine EvK.pure (v := .int .i64 s6.2) (w_some rfl rfl c8) rfl rfl (f_move rfl rfl) ?_
                          refine EvK.pure (v := .int .i64 s2) (w_some rfl rfl c8) rfl rfl (f_move rfl rfl) ?_
                          refine EvK.pure (v := .bool (decide (s6.2 < s2))) (w_some rfl rfl c8) rfl rfl (f_lss rfl rfl rfl) ?_
                          refine EvK.pure (v := .bool (decide (s6.2 < s2))) (w_some rfl rfl c8) rfl rfl (f_move rfl rfl) ?_
                          rcases ite_inv hF with ⟨c9, hF⟩ | ⟨c9, hF⟩
                          · refine EvK.pure (v := Sl.val a0) (w_some rfl rfl c9) rfl rfl (f_move rfl rfl) ?_
                            refine EvK.pure (v := .int .i64 s6.2) (w_some rfl rfl c9) rfl rfl (f_move rfl rfl) ?_
                            obtain ⟨q3, hq3, hF⟩ := hF
                            refine EvK.pure (v := .pointer (some q3)) (w_some rfl rfl c9) rfl rfl (f_indexAddr (s := a0) Try.underlying29 ty35.size rfl rfl rfl hq3) ?_
                            refine EvK.pure (v := .pointer (some (q3.add 2))) (w_some rfl rfl c9) rfl rfl (f_fieldAddr fd35_2 rfl rfl) ?_
                            obtain ⟨x3, hx3, hF⟩ := hF
                            refine EvK.read (v := .bool x3) (w_some rfl rfl c9) rfl rfl (f_load kB ty4 rfl rfl hx3 rfl) ?_
                            refine EvK.pure (v := .bool (!x3)) (w_some rfl rfl c9) rfl rfl (f_not rfl rfl) ?_
                            refine EvK.pure (v := .bool (!x3)) (w_some rfl rfl c8) rfl rfl (f_pickT rfl rfl c9 rfl) ?_
                            refine EvK.pure (v := .bool (!x3)) (w_none rfl) rfl rfl (f_pickF rfl rfl c8 rfl) ?_
                            refine EvK.pure (v := .bool (!x3)) (w_none rfl) rfl rfl (f_assign rfl rfl) ?_
                            refine EvK.nil ?_
                            exact KE.mk (!x3) ⟨rfl, rfl, rfl, rfl, trivial⟩ hF
                          · refine EvK.not (w_not rfl rfl c9) rfl rfl ?_
                            refine EvK.not (w_not rfl rfl c9) rfl rfl ?_
                            refine EvK.not (w_not rfl rfl c9) rfl rfl ?_
                            refine EvK.not (w_not rfl rfl c9) rfl rfl ?_
                            refine EvK.not (w_not rfl rfl c9) rfl rfl ?_
                            refine EvK.not (w_not rfl rfl c9) rfl rfl ?_
                            refine EvK.pure (v := .bool false) (w_some rfl rfl c8) rfl rfl (f_pickF rfl rfl c9 rfl) ?_
                            refine EvK.pure (v := .bool false) (w_none rfl) rfl rfl (f_pickF rfl rfl c8 rfl) ?_
                            refine EvK.pure (v := .bool false) (w_none rfl) rfl rfl (f_assign rfl rfl) ?_
                            refine EvK.nil ?_
                            exact KE.mk false ⟨rfl, rfl, rfl, rfl, trivial⟩ hF
                  · intro k9 hF
                    refine WP.region ?_
                    refine EvK.pure (v := Sl.val a0) (w_none rfl) rfl rfl (f_move rfl rfl) ?_
                    refine EvK.pure (v := .int .i64 s2) (w_none rfl) rfl rfl (f_move rfl rfl) ?_
                    obtain ⟨q4, hq4, hF⟩ := hF
                    refine EvK.pure (v := .pointer (some q4)) (w_none rfl) rfl rfl (f_indexAddr (s := a0) Try.underlying29 ty35.size rfl rfl rfl hq4) ?_
                    refine EvK.pure (v := .pointer (some (q4.add 2))) (w_none rfl) rfl rfl (f_fieldAddr fd35_2 rfl rfl) ?_
                    obtain ⟨x4, hx4, hF⟩ := hF
                    refine EvK.read (v := .bool x4) (w_none rfl) rfl rfl (f_load kB ty4 rfl rfl hx4 rfl) ?_
                    refine EvK.pure (v := .bool x4) (w_none rfl) rfl rfl (f_move rfl rfl) ?_
                    rcases ite_inv hF with ⟨c10, hF⟩ | ⟨c10, hF⟩
                    · refine EvK.pure (v := Sl.val a0) (w_some rfl rfl c10) rfl rfl (f_move rfl rfl) ?_
                      refine EvK.pure (v := .int .i64 s6.2) (w_some rfl rfl c10) rfl rfl (f_move rfl rfl) ?_
                      obtain ⟨q5, hq5, hF⟩ := hF
                      refine EvK.pure (v := .pointer (some q5)) (w_some rfl rfl c10) rfl rfl (f_indexAddr (s := a0) Try.underlying29 ty35.size rfl rfl rfl hq5) ?_
                      refine EvK.pure (v := .pointer (some (q5.add 2))) (w_some rfl rfl c10) rfl rfl (f_fieldAddr fd35_2 rfl rfl) ?_
                      obtain ⟨x5, hx5, hF⟩ := hF
                      refine EvK.read (v := .bool x5) (w_some rfl rfl c10) rfl rfl (f_load kB ty4 rfl rfl hx5 rfl) ?_
                      refine EvK.pure (v := .bool x5) (w_none rfl) rfl rfl (f_pickT rfl rfl c10 rfl) ?_
                      refine EvK.nil ?_
                      exact KE.mk x5 ⟨rfl, rfl, rfl, rfl, rfl, trivial⟩ hF
                    · refine EvK.not (w_not rfl rfl c10) rfl rfl ?_
                      refine EvK.not (w_not rfl rfl c10) rfl rfl ?_
                      refine EvK.not (w_not rfl rfl c10) rfl rfl ?_
                      refine EvK.not (w_not rfl rfl c10) rfl rfl ?_
                      refine EvK.not (w_not rfl rfl c10) rfl rfl ?_
                      refine EvK.pure (v := .bool false) (w_none rfl) rfl rfl (f_pickF rfl rfl c10 rfl) ?_
                      refine EvK.nil ?_
                      exact KE.mk false ⟨rfl, rfl, rfl, rfl, rfl, trivial⟩ hF
              · intro k8 hF
                refine WP.draw mixed [.pure, .pure, .pure, .pure, .pure, .pure, .pure, .pure, .read, .pure, .pure, .pure, .pure, .read, .eff [], .pure, .pure] [[], [], [0, 1], [0, 1, 2], [0, 1, 2, 3], [0, 1, 2, 3], [0, 1, 2, 3, 4, 5], [0, 1, 2, 3, 4, 5, 6], [0, 1, 2, 3, 4, 5, 6, 7], [0, 1, 2, 3], [0, 1, 2, 3], [0, 1, 2, 3, 9, 10], [0, 1, 2, 3, 9, 10, 11], [0, 1, 2, 3, 9, 10, 11, 12], [0, 1, 2, 3, 4, 5, 6, 7, 8, 9, 10, 11, 12, 13], [0, 1, 2, 3, 4, 5, 6, 7, 8, 9, 10, 11, 12, 13, 14], [0, 1, 2, 3, 4, 5, 6, 7, 8, 9, 10, 11, 12, 13, 14, 15]] [0, 1, 2, 3, 4, 5, 6, 7, 8, 9, 10, 11, 12, 13, 14, 15, 16] (by kernel_rfl) (by kernel_rfl) ?_
                refine EvI.pure (v := .int .i64 s2) rfl rfl (w_none rfl) rfl (f_move rfl rfl) ?_
                refine EvI.pure (v := .int .i64 s6.2) rfl rfl (w_none rfl) rfl (f_move rfl rfl) ?_
                refine EvI.pure (v := .bool (s2 == s6.2)) rfl rfl (w_none rfl) rfl (f_eql rfl rfl rfl) ?_
                refine EvI.pure (v := .bool (s2 == s6.2)) rfl rfl (w_none rfl) rfl (f_move rfl rfl) ?_
                rcases ite_inv hF with ⟨c11, hF⟩ | ⟨c11, hF⟩
                · refine EvI.not rfl (w_not rfl rfl c11) rfl ?_
                  refine EvI.not rfl (w_not rfl rfl c11) rfl ?_
                  refine EvI.not rfl (w_not rfl rfl c11) rfl ?_
                  refine EvI.not rfl (w_not rfl rfl c11) rfl ?_
                  refine EvI.not rfl (w_not rfl rfl c11) rfl ?_
                  refine EvI.not rfl (w_not rfl rfl c11) rfl ?_
                  refine EvI.not rfl (w_not rfl rfl c11) rfl ?_
                  refine EvI.not rfl (w_not rfl rfl c11) rfl ?_
                  refine EvI.not rfl (w_not rfl rfl c11) rfl ?_
                  refine EvI.not rfl (w_not rfl rfl c11) rfl ?_
                  refine EvI.not rfl (w_not rfl rfl c11) rfl ?_
                  refine EvI.not rfl (w_not rfl rfl c11) rfl ?_
                  refine EvI.pure (v := .bool true) rfl rfl (w_none rfl) rfl (f_pickT rfl rfl c11 rfl) ?_
                  refine EvI.nil ?_
                  exact KE.mk true ⟨rfl, rfl, rfl, rfl, rfl, trivial⟩ hF
                · refine EvI.pure (v := Sl.val a0) rfl rfl (w_some rfl rfl c11) rfl (f_move rfl rfl) ?_
                  refine EvI.pure (v := .int .i64 s2) rfl rfl (w_some rfl rfl c11) rfl (f_move rfl rfl) ?_
                  obtain ⟨q6, hq6, hF⟩ := hF
                  refine EvI.pure (v := .pointer (some q6)) rfl rfl (w_some rfl rfl c11) rfl (f_indexAddr (s := a0) Try.underlying29 ty35.size rfl rfl rfl hq6) ?_
                  refine EvI.pure (v := .pointer (some (q6.add 1))) rfl rfl (w_some rfl rfl c11) rfl (f_fieldAddr fd35_1 rfl rfl) ?_
                  obtain ⟨x6, hx6, hF⟩ := hF
                  refine EvI.read (v := Sl.val x6) rfl rfl (w_some rfl rfl c11) rfl (f_load kL ty30 rfl rfl hx6 rfl) ?_
                  refine EvI.pure (v := Sl.val a0) rfl rfl (w_some rfl rfl c11) rfl (f_move rfl rfl) ?_
                  refine EvI.pure (v := .int .i64 s6.2) rfl rfl (w_some rfl rfl c11) rfl (f_move rfl rfl) ?_
                  obtain ⟨q7, hq7, hF⟩ := hF
                  refine EvI.pure (v := .pointer (some q7)) rfl rfl (w_some rfl rfl c11) rfl (f_indexAddr (s := a0) Try.underlying29 ty35.size rfl rfl rfl hq7) ?_
                  refine EvI.pure (v := .pointer (some (q7.add 1))) rfl rfl (w_some rfl rfl c11) rfl (f_fieldAddr fd35_1 rfl rfl) ?_
                  obtain ⟨x7, hx7, hF⟩ := hF
                  refine EvI.read (v := Sl.val x7) rfl rfl (w_some rfl rfl c11) rfl (f_load kL ty30 rfl rfl hx7 rfl) ?_
                  refine EvI.call rfl rfl (w_some rfl rfl c11) rfl (enterH Try.func26 rfl rfl rfl rfl (spatelaw11_conflict.sound hF)) ?_
                  rintro _ h10 ⟨r1, rfl, hF⟩
                  refine ⟨⟨chk_no rfl, chk_no rfl, trivial⟩, ?_⟩
                  refine EvI.pure (v := .bool (!r1)) rfl rfl (w_some rfl rfl c11) rfl (f_not rfl rfl) ?_
                  refine EvI.pure (v := .bool (!r1)) rfl rfl (w_none rfl) rfl (f_pickF rfl rfl c11 rfl) ?_
                  refine EvI.nil ?_
                  exact KE.mk (!r1) ⟨rfl, rfl, rfl, rfl, rfl, trivial⟩ hF
          · refine WP.cond_false _ rfl c4 ?_
            refine WP.exit ?_
            exact KE.mk s6.1 ⟨rfl, rfl, rfl, trivial⟩ hF
    · refine WP.cond_false _ rfl c1 ?_
      refine WP.exit ?_
      exact KE.mk () trivial hF
end Go.Proofs.Ytgmihbchcmjmdaa

namespace Go.Proofs.Ytgmihbchcmjmdaa
open Go Go.Tr
set_option linter.unusedVariables false
set_option maxRecDepth 100000
set_option maxHeartbeats 400000
def spatelaw11_grant.b1 (p0 : Sl) (p1 : Sl) (s : Int × Int) (h : H) (K : (Int × Int) ⊕ (Unit ⊕ Bool) → H → Prop) : Prop :=
  if (decide (s.2 < (p1.len : Int))) = true then
    rd (ixA 1 p1 s.2) fun q1 =>
    rd (ld (kI .i64) q1 h) fun x1 =>
    spatelaw11_find p0 x1 h fun r2 h3 =>
    jn (fun (k2 : Bool → H → Prop) =>
      if (decide (r2 < 0)) = true then
        k2 true h3
      else
        rd (ixA 3 p0 r2) fun q3 =>
        rd (ld kB (q3.add 2) h3) fun x2 =>
        if x2 = true then
          k2 true h3
        else
          k2 (decide (r2 ≤ s.1)) h3) fun s2 h4 =>
    if s2 = true then
      K (.inr (.inr false)) h4
    else
      rd (ixA 3 p0 r2) fun q2 =>
      rd (st kB (q2.add 2) true h4) fun h5 =>
      K (.inl (r2, IntKind.i64.wrap (s.2 + 1))) h5
  else
    K (.inr (.inl ())) h
/-- spate/spatelaw11.grant -/
def spatelaw11_grant (a0 : Sl) (a1 : Sl) (h : H) (Q : Bool → H → Prop) : Prop :=
  jn (fun (k1 : Unit → H → Prop) =>
    loopE (spatelaw11_grant.b1 a0 a1) ((-1), 0) h (sumK (fun r3 hh => k1 r3 hh) (fun r4 hh => Q r4 hh))) fun s1 h1 =>
  spatelaw11_fair a0 h1 fun r1 h2 =>
  Q r1 h2
theorem spatelaw11_grant.sound {a0 : Sl} {a1 : Sl} {h : H} {Q : Bool → H → Prop} (hF : spatelaw11_grant a0 a1 h Q) :
    CallsH Try.prog 27 (List.toArray (α := Value) [Sl.val a0, Sl.val a1]) h fun v h' => ∃ x : Bool, v = .bool x ∧ Q x h' := by
  refine CallsH.of_body Try.func27 rfl 41 rfl rfl ?_
  refine WP.seq ?_
  refine WP.region ?_
  refine EvK.pure (v := .bool false) (w_none rfl) rfl rfl (f_assign rfl rfl) ?_
  refine EvK.nil ?_
  refine WP.seq ?_
  refine WP.region ?_
  refine EvK.pure (v := .int .i64 (-1)) (w_none rfl) rfl rfl (f_assign rfl rfl) ?_
  refine EvK.nil ?_
  refine WP.joinF (fun (s1 : Unit) => [(0, Sl.val a0)]) hF ?_ ?_
  · intro s1 E0 h1 hF
    refine WP.seq ?_
    refine WP.region ?_
    refine EvK.pure (v := Sl.val a0) (w_none rfl) rfl rfl (f_move rfl rfl) ?_
    refine EvK.call (w_none rfl) rfl rfl (enterH Try.func29 rfl rfl rfl rfl (spatelaw11_fair.sound hF)) ?_
    rintro _ h2 ⟨r1, rfl, hF⟩
    refine EvK.pure (v := .bool r1) (w_none rfl) rfl rfl (f_assign rfl rfl) ?_
    refine EvK.nil ?_
    refine WP.ret ?_
    exact Ret.mk (vs := [.bool r1]) r1 ⟨rfl, trivial⟩ rfl hF
  · intro k1 hF
    refine WP.seq ?_
    refine WP.region ?_
    refine EvK.pure (v := .int .i64 0) (w_none rfl) rfl rfl (f_assign rfl rfl) ?_
    refine EvK.nil ?_
    refine WP.block ?_
    refine WP.loopF (fun (s2 : Int × Int) => [(5, .int .i64 s2.1), (6, .int .i64 s2.2), (0, Sl.val a0), (1, Sl.val a1)]) hF ⟨rfl, rfl, rfl, rfl, trivial⟩ ?_
    intro k2 s2 E0 h3 hF
    refine WP.seq ?_
    refine WP.seq ?_
    refine WP.region ?_
    refine EvK.pure (v := .int .i64 s2.2) (w_none rfl) rfl rfl (f_move rfl rfl) ?_
    refine EvK.pure (v := Sl.val a1) (w_none rfl) rfl rfl (f_move rfl rfl) ?_
    refine EvK.pure (v := .int .i64 (a1.len : Int)) (w_none rfl) rfl rfl (f_lenL (s := a1) Try.underlying22 rfl rfl) ?_
    refine EvK.pure (v := .bool (decide (s2.2 < (a1.len : Int)))) (w_none rfl) rfl rfl (f_lss rfl rfl rfl) ?_
    refine EvK.nil ?_
    rcases ite_inv hF with ⟨c1, hF⟩ | ⟨c1, hF⟩
    · refine WP.cond_true _ rfl c1 ?_
      refine WP.skip ?_
      refine WP.seq ?_
      refine WP.block ?_
      refine WP.seq ?_
      refine WP.region ?_
      refine EvK.pure (v := Sl.val a0) (w_none rfl) rfl rfl (f_move rfl rfl) ?_
      refine EvK.pure (v := Sl.val a1) (w_none rfl) rfl rfl (f_move rfl rfl) ?_
      refine EvK.pure (v := .int .i64 s2.2) (w_none rfl) rfl rfl (f_move rfl rfl) ?_
      obtain ⟨q1, hq1, hF⟩ := hF
      refine EvK.pure (v := .pointer (some q1)) (w_none rfl) rfl rfl (f_indexAddr (s := a1) Try.underlying22 ty3.size rfl rfl rfl hq1) ?_
      obtain ⟨x1, hx1, hF⟩ := hF
      refine EvK.read (v := .int .i64 x1) (w_none rfl) rfl rfl (f_load (kI .i64) ty3 rfl rfl hx1 rfl) ?_
      refine EvK.call (w_none rfl) rfl rfl (enterH Try.func24 rfl rfl rfl rfl (spatelaw11_find.sound hF)) ?_
      rintro _ h4 ⟨r2, rfl, hF⟩
      refine EvK.pure (v := .int .i64 r2) (w_none rfl) rfl rfl (f_assign rfl rfl) ?_
      refine EvK.nil ?_
      refine WP.seq ?_
      refine WP.joinF (fun (s3 : Bool) => [(33, .bool s3), (0, Sl.val a0), (1, Sl.val a1), (6, .int .i64 s2.2), (7, .int .i64 r2)]) hF ?_ ?_
      · intro s3 E0 h5 hF
        rcases ite_inv hF with ⟨c2, hF⟩ | ⟨c2, hF⟩
        · refine WP.cond_true _ rfl c2 ?_
          refine WP.seq ?_
          refine WP.region ?_
          refine EvK.pure (v := .bool false) (w_none rfl) rfl rfl (f_assign rfl rfl) ?_
          refine EvK.nil ?_
          refine WP.ret ?_
          exact Ret.mk (vs := [.bool false]) false ⟨rfl, trivial⟩ rfl hF
        · refine WP.cond_false _ rfl c2 ?_
          refine WP.skip ?_
          refine WP.seq ?_
          refine WP.region ?_
          refine EvK.pure (v := .int .i64 r2) (w_none rfl) rfl rfl (f_move rfl rfl) ?_
          refine EvK.pure (v := .int .i64 r2) (w_none rfl) rfl rfl (f_assign rfl rfl) ?_
          refine EvK.nil ?_
          refine WP.region ?_
          refine EvK.pure (v := Sl.val a0) (w_none rfl) rfl rfl (f_move rfl rfl) ?_
          refine EvK.pure (v := .int .i64 r2) (w_none rfl) rfl rfl (f_move rfl rfl) ?_
          obtain ⟨q2, hq2, hF⟩ := hF
          refine EvK.pure (v := .pointer (some q2)) (w_none rfl) rfl rfl (f_indexAddr (s := a0) Try.underlying29 ty35.size rfl rfl rfl hq2) ?_
          refine EvK.pure (v := .pointer (some (q2.add 2))) (w_none rfl) rfl rfl (f_fieldAddr fd35_2 rfl rfl) ?_
          obtain ⟨h6, hs1, hF⟩ := hF
          refine EvK.runN (w_none rfl) rfl (f_store kB ty4.size (z := true) rfl rfl rfl hs1) ?_
          rintro _ _ ⟨rfl, rfl⟩
          refine EvK.nil ?_
          refine WP.region ?_
          refine EvK.pure (v := .int .i64 s2.2) (w_none rfl) rfl rfl (f_move rfl rfl) ?_
          refine EvK.pure (v := .int .i64 (IntKind.i64.wrap (s2.2 + 1))) (w_none rfl) rfl rfl (f_add rfl rfl rfl) ?_
          refine EvK.pure (v := .int .i64 (IntKind.i64.wrap (s2.2 + 1))) (w_none rfl) rfl rfl (f_assign rfl rfl) ?_
          refine EvK.nil ?_
          exact KE.mk (r2, IntKind.i64.wrap (s2.2 + 1)) ⟨rfl, rfl, rfl, rfl, trivial⟩ hF
      · intro k3 hF
        refine WP.region ?_
        refine EvK.pure (v := .int .i64 r2) (w_none rfl) rfl rfl (f_move rfl rfl) ?_
        refine EvK.pure (v := .bool (decide (r2 < 0))) (w_none rfl) rfl rfl (f_lss rfl rfl rfl) ?_
        refine EvK.pure (v := .bool (decide (r2 < 0))) (w_none rfl) rfl rfl (f_move rfl rfl) ?_
        rcases ite_inv hF with ⟨c3, hF⟩ | ⟨c3, hF⟩
        · refine EvK.not (w_not rfl rfl c3) rfl rfl ?_
          refine EvK.not (w_not rfl rfl c3) rfl rfl ?_
          refine EvK.not (w_not rfl rfl c3) rfl rfl ?_
          refine EvK.not (w_not rfl rfl c3) rfl rfl ?_
          refine EvK.not (w_not rfl rfl c3) rfl rfl ?_
          refine EvK.pure (v := .bool true) (w_none rfl) rfl rfl (f_pickT rfl rfl c3 rfl) ?_
          refine EvK.pure (v := .bool true) (w_none rfl) rfl rfl (f_move rfl rfl) ?_
          refine EvK.not (w_not rfl rfl rfl) rfl rfl ?_
          refine EvK.not (w_not rfl rfl rfl) rfl rfl ?_
          refine EvK.not (w_not rfl rfl rfl) rfl rfl ?_
          refine EvK.pure (v := .bool true) (w_none rfl) rfl rfl (f_pickT rfl rfl rfl rfl) ?_
          refine EvK.nil ?_
          exact KE.mk true ⟨rfl, rfl, rfl, rfl, rfl, trivial⟩ hF
        · refine EvK.pure (v := Sl.val a0) (w_some rfl rfl c3) rfl rfl (f_move rfl rfl) ?_
          refine EvK.pure (v := .int .i64 r2) (w_some rfl rfl c3) rfl rfl (f_move rfl rfl) ?_
          obtain ⟨q3, hq3, hF⟩ := hF
          refine EvK.pure (v := .pointer (some q3)) (w_some rfl rfl c3) rfl rfl (f_indexAddr (s := a0) Try.underlying29 ty35.size rfl rfl rfl hq3) ?_
          refine EvK.pure (v := .pointer (some (q3.add 2))) (w_some rfl rfl c3) rfl rfl (f_fieldAddr fd35_2 rfl rfl) ?_
          obtain ⟨x2, hx2, hF⟩ := hF
          refine EvK.read (v := .bool x2) (w_some rfl rfl c3) rfl rfl (f_load kB ty4 rfl rfl hx2 rfl) ?_
          refine EvK.pure (v := .bool x2) (w_none rfl) rfl rfl (f_pickF rfl rfl c3 rfl) ?_
          refine EvK.pure (v := .bool x2) (w_none rfl) rfl rfl (f_move rfl rfl) ?_
          rcases ite_inv hF with ⟨c4, hF⟩ | ⟨c4, hF⟩
          · refine EvK.not (w_not rfl rfl c4) rfl rfl ?_
            refine EvK.not (w_not rfl rfl c4) rfl rfl ?_
            refine EvK.not (w_not rfl rfl c4) rfl rfl ?_
            refine EvK.pure (v := .bool true) (w_none rfl) rfl rfl (f_pickT rfl rfl c4 rfl) ?_
            refine EvK.nil ?_
            exact KE.mk true ⟨rfl, rfl, rfl, rfl, rfl, trivial⟩ hF
          · refine EvK.pure (v := .int .i64 r2) (w_some rfl rfl c4) rfl rfl (f_move rfl rfl) ?_
            refine EvK.pure (v := .int .i64 s2.1) (w_some rfl rfl c4) rfl rfl (f_move rfl rfl) ?_
            refine EvK.pure (v := .bool (decide (r2 ≤ s2.1))) (w_some rfl rfl c4) rfl rfl (f_leq rfl rfl rfl) ?_
            refine EvK.pure (v := .bool (decide (r2 ≤ s2.1))) (w_none rfl) rfl rfl (f_pickF rfl rfl c4 rfl) ?_
            refine EvK.nil ?_
            exact KE.mk (decide (r2 ≤ s2.1)) ⟨rfl, rfl, rfl, rfl, rfl, trivial⟩ hF
    · refine WP.cond_false _ rfl c1 ?_
      refine WP.exit ?_
      exact KE.mk () ⟨rfl, trivial⟩ hF
end Go.Proofs.Ytgmihbchcmjmdaa

namespace Go.Proofs.Ytgmihbchcmjmdaa
open Go Go.Tr
set_option linter.unusedVariables false
set_option maxRecDepth 100000
set_option maxHeartbeats 400000
def spatelaw11_queue.b1 (p0 : Sl) (s : Sl × Int) (h : H) (K : (Sl × Int) ⊕ Sl → H → Prop) : Prop :=
  if (decide (s.2 < (p0.len : Int))) = true then
    jn (fun (k2 : Sl → H → Prop) =>
      rd (ixA 3 p0 s.2) fun q1 =>
      rd (ld kB (q1.add 2) h) fun x1 =>
      if (!x1) = true then
        rd (ixA 3 p0 s.2) fun q2 =>
        rd (ld (kI .i64) (q2.add 0) h) fun x2 =>
        bs 3 1 ((kI .i64).enc x2) h fun x3 h3 =>
        ap (kI .i64).n 8 3 ((kI .i64).enc 0) s.1 x3 h3 fun x4 h4 =>
        k2 x4 h4
      else
        k2 s.1 h) fun s2 h2 =>
    K (.inl (s2, IntKind.i64.wrap (s.2 + 1))) h2
  else
    K (.inr s.1) h
/-- spate/spatelaw11.queue -/
def spatelaw11_queue (a0 : Sl) (h : H) (Q : Sl → H → Prop) : Prop :=
  jn (fun (k1 : Sl → H → Prop) =>
    loopE (spatelaw11_queue.b1 a0) (Sl.nil, 0) h (fun r1 hh => k1 r1 hh)) fun s1 h1 =>
  Q s1 h1
theorem spatelaw11_queue.sound {a0 : Sl} {h : H} {Q : Sl → H → Prop} (hF : spatelaw11_queue a0 h Q) :
    CallsH Try.prog 30 (List.toArray (α := Value) [Sl.val a0]) h fun v h' => ∃ x : Sl, v = Sl.val x ∧ Q x h' := by
  refine CallsH.of_body Try.func30 rfl 26 rfl rfl ?_
  refine WP.seq ?_
  refine WP.region ?_
  refine EvK.pure (v := Sl.val Sl.nil) (w_none rfl) rfl rfl (f_assign rfl rfl) ?_
  refine EvK.nil ?_
  refine WP.seq ?_
  refine WP.region ?_
  refine EvK.pure (v := Sl.val Sl.nil) (w_none rfl) rfl rfl (f_assign rfl rfl) ?_
  refine EvK.nil ?_
  refine WP.joinF (fun (s1 : Sl) => [(3, Sl.val s1)]) hF ?_ ?_
  · intro s1 E0 h1 hF
    refine WP.seq ?_
    refine WP.region ?_
    refine EvK.pure (v := Sl.val s1) (w_none rfl) rfl rfl (f_move rfl rfl) ?_
    refine EvK.pure (v := Sl.val s1) (w_none rfl) rfl rfl (f_assign rfl rfl) ?_
    refine EvK.nil ?_
    refine WP.ret ?_
    exact Ret.mk (vs := [Sl.val s1]) s1 ⟨rfl, trivial⟩ rfl hF
  · intro k1 hF
    refine WP.seq ?_
    refine WP.region ?_
    refine EvK.pure (v := .int .i64 0) (w_none rfl) rfl rfl (f_assign rfl rfl) ?_
    refine EvK.nil ?_
    refine WP.block ?_
    refine WP.loopF (fun (s2 : Sl × Int) => [(3, Sl.val s2.1), (4, .int .i64 s2.2), (0, Sl.val a0)]) hF ⟨rfl, rfl, rfl, trivial⟩ ?_
    intro k2 s2 E0 h2 hF
    refine WP.seq ?_
    refine WP.seq ?_
    refine WP.region ?_
    refine EvK.pure (v := .int .i64 s2.2) (w_none rfl) rfl rfl (f_move rfl rfl) ?_
    refine EvK.pure (v := Sl.val a0) (w_none rfl) rfl rfl (f_move rfl rfl) ?_
    refine EvK.pure (v := .int .i64 (a0.len : Int)) (w_none rfl) rfl rfl (f_lenL (s := a0) Try.underlying29 rfl rfl) ?_
    refine EvK.pure (v := .bool (decide (s2.2 < (a0.len : Int)))) (w_none rfl) rfl rfl (f_lss rfl rfl rfl) ?_
    refine EvK.nil ?_
    rcases ite_inv hF with ⟨c1, hF⟩ | ⟨c1, hF⟩
    · refine WP.cond_true _ rfl c1 ?_
      refine WP.skip ?_
      refine WP.joinF (fun (s3 : Sl) => [(3, Sl.val s3), (0, Sl.val a0), (4, .int .i64 s2.2)]) hF ?_ ?_
      · intro s3 E0 h3 hF
        refine WP.region ?_
        refine EvK.pure (v := .int .i64 s2.2) (w_none rfl) rfl rfl (f_move rfl rfl) ?_
        refine EvK.pure (v := .int .i64 (IntKind.i64.wrap (s2.2 + 1))) (w_none rfl) rfl rfl (f_add rfl rfl rfl) ?_
        refine EvK.pure (v := .int .i64 (IntKind.i64.wrap (s2.2 + 1))) (w_none rfl) rfl rfl (f_assign rfl rfl) ?_
        refine EvK.nil ?_
        exact KE.mk (s3, IntKind.i64.wrap (s2.2 + 1)) ⟨rfl, rfl, rfl, trivial⟩ hF
      · intro k3 hF
        refine WP.block ?_
        refine WP.seq ?_
        refine WP.region ?_
        refine EvK.pure (v := Sl.val a0) (w_none rfl) rfl rfl (f_move rfl rfl) ?_
        refine EvK.pure (v := .int .i64 s2.2) (w_none rfl) rfl rfl (f_move rfl rfl) ?_
        obtain ⟨q1, hq1, hF⟩ := hF
        refine EvK.pure (v := .pointer (some q1)) (w_none rfl) rfl rfl (f_indexAddr (s := a0) Try.underlying29 ty35.size rfl rfl rfl hq1) ?_
        refine EvK.pure (v := .pointer (some (q1.add 2))) (w_none rfl) rfl rfl (f_fieldAddr fd35_2 rfl rfl) ?_
        obtain ⟨x1, hx1, hF⟩ := hF
        refine EvK.read (v := .bool x1) (w_none rfl) rfl rfl (f_load kB ty4 rfl rfl hx1 rfl) ?_
        refine EvK.pure (v := .bool (!x1)) (w_none rfl) rfl rfl (f_not rfl rfl) ?_
        refine EvK.nil ?_
        rcases ite_inv hF with ⟨c2, hF⟩ | ⟨c2, hF⟩
        · refine WP.cond_true _ rfl c2 ?_
          refine WP.region ?_
          refine EvK.pure (v := Sl.val s2.1) (w_none rfl) rfl rfl (f_move rfl rfl) ?_
          refine EvK.pure (v := Sl.val a0) (w_none rfl) rfl rfl (f_move rfl rfl) ?_
          refine EvK.pure (v := .int .i64 s2.2) (w_none rfl) rfl rfl (f_move rfl rfl) ?_
          obtain ⟨q2, hq2, hF⟩ := hF
          refine EvK.pure (v := .pointer (some q2)) (w_none rfl) rfl rfl (f_indexAddr (s := a0) Try.underlying29 ty35.size rfl rfl rfl hq2) ?_
          refine EvK.pure (v := .pointer (some (q2.add 0))) (w_none rfl) rfl rfl (f_fieldAddr fd35_0 rfl rfl) ?_
          obtain ⟨x2, hx2, hF⟩ := hF
          refine EvK.read (v := .int .i64 x2) (w_none rfl) rfl rfl (f_load (kI .i64) ty3 rfl rfl hx2 rfl) ?_
          refine EvK.alloc (w_none rfl) rfl rfl (f_buildSliceF Try.underlying22 el3 (by decide) rfl rfl rfl hF) ?_
          rintro _ h4 ⟨x3, rfl, hF⟩
          refine EvK.run (w_none rfl) rfl rfl (f_appendE (s := s2.1) (x := x3) Try.underlying22 el3 rfl rfl rfl hF) ?_
          rintro _ h5 ⟨x4, rfl, hF⟩
          refine EvK.pure (v := Sl.val x4) (w_none rfl) rfl rfl (f_assign rfl rfl) ?_
          refine EvK.nil ?_
          exact KE.mk x4 ⟨rfl, rfl, rfl, trivial⟩ hF
        · refine WP.cond_false _ rfl c2 ?_
          refine WP.skip ?_
          exact KE.mk s2.1 ⟨rfl, rfl, rfl, trivial⟩ hF
    · refine WP.cond_false _ rfl c1 ?_
      refine WP.exit ?_
      exact KE.mk s2.1 ⟨rfl, trivial⟩ hF
end Go.Proofs.Ytgmihbchcmjmdaa

namespace Go.Proofs.Ytgmihbchcmjmdaa
open Go Go.Tr
set_option linter.unusedVariables false
set_option maxRecDepth 100000
set_option maxHeartbeats 400000
def spatelaw11_says.b3 (p0 : Option Addr) (p1 : Sl) (p5 : Int) (p6 : Sl) (p7 : Int) (s : Bool × Int) (h : H) (K : (Bool × Int) ⊕ Bool → H → Prop) : Prop :=
  rd (ixA 3 p1 p5) fun q4 =>
  rd (ld kL (q4.add 1) h) fun x4 =>
  if (decide (s.2 < (x4.len : Int))) = true then
    jn (fun (k8 : Bool → H → Prop) =>
      if s.1 = true then
        k8 true h
      else
        rd (ixA 3 p1 p5) fun q5 =>
        rd (ld kL (q5.add 1) h) fun x5 =>
        rd (ixA 2 x5 s.2) fun q6 =>
        rd (ld k31 q6 h) fun x6 =>
        rd (ixA 2 p6 p7) fun q7 =>
        rd (ld k31 q7 h) fun x7 =>
        k8 (eq32 x6 x7) h) fun s8 h9 =>
    K (.inl (s8, IntKind.i64.wrap (s.2 + 1))) h9
  else
    K (.inr s.1) h
def spatelaw11_says.b2 (p0 : Option Addr) (p1 : Sl) (p5 : Int) (p6 : Sl) (s : Int) (h : H) (K : Int ⊕ (Unit ⊕ Bool) → H → Prop) : Prop :=
  if (decide (s < (p6.len : Int))) = true then
    jn (fun (k5 : Unit → H → Prop) =>
      jn (fun (k6 : Bool → H → Prop) =>
        loopE (spatelaw11_says.b3 p0 p1 p5 p6 s) (false, 0) h (fun r2 hh => k6 r2 hh)) fun s6 h7 =>
      jn (fun (k7 : Bool → H → Prop) =>
        if (!s6) = true then
          k7 true h7
        else
          if (decide (s > 0)) = true then
            rd (ixA 2 p6 (IntKind.i64.wrap (s - 1))) fun q2 =>
            rd (ld (kI .i64) (q2.add 0) h7) fun x2 =>
            rd (ixA 2 p6 s) fun q3 =>
            rd (ld (kI .i64) (q3.add 0) h7) fun x3 =>
            k7 (decide (x2 ≥ x3)) h7
          else
            k7 false h7) fun s7 h8 =>
      if s7 = true then
        K (.inr (.inr false)) h8
      else
        k5 () h8) fun s5 h6 =>
    K (.inl (IntKind.i64.wrap (s + 1))) h6
  else
    K (.inr (.inl ())) h
def spatelaw11_says.b1 (p0 : Option Addr) (p1 : Sl) (s : Int) (h : H) (K : Int ⊕ (Unit ⊕ Bool) → H → Prop) : Prop :=
  if (decide (s < (p1.len : Int))) = true then
    jn (fun (k2 : Unit → H → Prop) =>
      rd (ixA 3 p1 s) fun q1 =>
      rd (ld (kI .i64) (q1.add 0) h) fun x1 =>
      locks_Manager_Has p0 x1 h fun r1 h3 =>
      jn (fun (k3 : Bool → H → Prop) =>
        rd (ixA 3 p1 s) fun q10 =>
        rd (ld (kI .i64) (q10.add 0) h3) fun x10 =>
        rd (ixA 3 p1 s) fun q11 =>
        rd (ld kB (q11.add 2) h3) fun x11 =>
        locks_Manager_Waits p0 x10 h3 fun r5 h12 =>
        ld kB (q11.add 2) h12 = some x11 ∧
        if (r5 == x11) = true then
          k3 true h12
        else
          rd (ixA 3 p1 s) fun q12 =>
          rd (ld kB (q12.add 2) h12) fun x12 =>
          k3 (!((decide ((r1.len : Int) > 0)) == x12)) h12) fun s3 h4 =>
      if s3 = true then
        K (.inr (.inr false)) h4
      else
        jn (fun (k4 : Bool → H → Prop) =>
          rd (ixA 3 p1 s) fun q8 =>
          rd (ld kB (q8.add 2) h4) fun x8 =>
          if x8 = true then
            rd (ixA 3 p1 s) fun q9 =>
            rd (ld kL (q9.add 1) h4) fun x9 =>
            k4 ((r1.len : Int) != (x9.len : Int)) h4
          else
            k4 false h4) fun s4 h5 =>
        if s4 = true then
          K (.inr (.inr false)) h5
        else
          loopE (spatelaw11_says.b2 p0 p1 s r1) 0 h5 (sumK (fun r3 hh => k2 r3 hh) (fun r4 hh => K (.inr (.inr r4)) hh))) fun s2 h2 =>
    K (.inl (IntKind.i64.wrap (s + 1))) h2
  else
    K (.inr (.inl ())) h
/-- spate/spatelaw11.says -/
def spatelaw11_says (a0 : Option Addr) (a1 : Sl) (h : H) (Q : Bool → H → Prop) : Prop :=
  jn (fun (k1 : Unit → H → Prop) =>
    loopE (spatelaw11_says.b1 a0 a1) 0 h (sumK (fun r6 hh => k1 r6 hh) (fun r7 hh => Q r7 hh))) fun s1 h1 =>
  Q true h1
theorem spatelaw11_says.sound {a0 : Option Addr} {a1 : Sl} {h : H} {Q : Bool → H → Prop} (hF : spatelaw11_says a0 a1 h Q) :
    CallsH Try.prog 31 (List.toArray (α := Value) [.pointer a0, Sl.val a1]) h fun v h' => ∃ x : Bool, v = .bool x ∧ Q x h' := by
  refine CallsH.of_body Try.func31 rfl 115 rfl rfl ?_
  refine WP.seq ?_
  refine WP.region ?_
  refine EvK.pure (v := .bool false) (w_none rfl) rfl rfl (f_assign rfl rfl) ?_
  refine EvK.nil ?_
  refine WP.joinF (fun (s1 : Unit) => []) hF ?_ ?_
  · intro s1 E0 h1 hF
    refine WP.seq ?_
    refine WP.region ?_
    refine EvK.pure (v := .bool true) (w_none rfl) rfl rfl (f_assign rfl rfl) ?_
    refine EvK.nil ?_
    refine WP.ret ?_
    exact Ret.mk (vs := [.bool true]) true ⟨rfl, trivial⟩ rfl hF
  · intro k1 hF
    refine WP.seq ?_
    refine WP.region ?_
    refine EvK.pure (v := .int .i64 0) (w_none rfl) rfl rfl (f_assign rfl rfl) ?_
    refine EvK.nil ?_
    refine WP.block ?_
    refine WP.loopF (fun (s2 : Int) => [(5, .int .i64 s2), (0, .pointer a0), (1, Sl.val a1)]) hF ⟨rfl, rfl, rfl, trivial⟩ ?_
    intro k2 s2 E0 h2 hF
    refine WP.seq ?_
    refine WP.seq ?_
    refine WP.region ?_
    refine EvK.pure (v := .int .i64 s2) (w_none rfl) rfl rfl (f_move rfl rfl) ?_
    refine EvK.pure (v := Sl.val a1) (w_none rfl) rfl rfl (f_move rfl rfl) ?_
    refine EvK.pure (v := .int .i64 (a1.len : Int)) (w_none rfl) rfl rfl (f_lenL (s := a1) Try.underlying29 rfl rfl) ?_
    refine EvK.pure (v := .bool (decide (s2 < (a1.len : Int)))) (w_none rfl) rfl rfl (f_lss rfl rfl rfl) ?_
    refine EvK.nil ?_
    rcases ite_inv hF with ⟨c1, hF⟩ | ⟨c1, hF⟩
    · refine WP.cond_true _ rfl c1 ?_
      refine WP.skip ?_
      refine WP.joinF (fun (s3 : Unit) => [(0, .pointer a0), (1, Sl.val a1), (5, .int .i64 s2)]) hF ?_ ?_
      · intro s3 E0 h3 hF
        refine WP.region ?_
        refine EvK.pure (v := .int .i64 s2) (w_none rfl) rfl rfl (f_move rfl rfl) ?_
        refine EvK.pure (v := .int .i64 (IntKind.i64.wrap (s2 + 1))) (w_none rfl) rfl rfl (f_add rfl rfl rfl) ?_
        refine EvK.pure (v := .int .i64 (IntKind.i64.wrap (s2 + 1))) (w_none rfl) rfl rfl (f_assign rfl rfl) ?_
        refine EvK.nil ?_
        exact KE.mk (IntKind.i64.wrap (s2 + 1)) ⟨rfl, rfl, rfl, trivial⟩ hF
      · intro k3 hF
        refine WP.block ?_
        refine WP.seq ?_
        refine WP.region ?_
        refine EvK.pure (v := .pointer a0) (w_none rfl) rfl rfl (f_move rfl rfl) ?_
        refine EvK.pure (v := Sl.val a1) (w_none rfl) rfl rfl (f_move rfl rfl) ?_
        refine EvK.pure (v := .int .i64 s2) (w_none rfl) rfl rfl (f_move rfl rfl) ?_
        obtain ⟨q1, hq1, hF⟩ := hF
        refine EvK.pure (v := .pointer (some q1)) (w_none rfl) rfl rfl (f_indexAddr (s := a1) Try.underlying29 ty35.size rfl rfl rfl hq1) ?_
        refine EvK.pure (v := .pointer (some (q1.add 0))) (w_none rfl) rfl rfl (f_fieldAddr fd35_0 rfl rfl) ?_
        obtain ⟨x1, hx1, hF⟩ := hF
        refine EvK.read (v := .int .i64 x1) (w_none rfl) rfl rfl (f_load (kI .i64) ty3 rfl rfl hx1 rfl) ?_
        refine EvK.call (w_none rfl) rfl rfl (enterH Try.func16 rfl rfl rfl rfl (locks_Manager_Has.sound hF)) ?_
        rintro _ h4 ⟨r1, rfl, hF⟩
        refine EvK.pure (v := Sl.val r1) (w_none rfl) rfl rfl (f_assign rfl rfl) ?_
        refine EvK.nil ?_
        refine WP.seq ?_
        refine WP.joinF (fun (s4 : Bool) => [(46, .bool s4), (0, .pointer a0), (1, Sl.val a1), (5, .int .i64 s2), (6, Sl.val r1)]) hF ?_ ?_
        · intro s4 E0 h5 hF
          rcases ite_inv hF with ⟨c2, hF⟩ | ⟨c2, hF⟩
          · refine WP.cond_true _ rfl c2 ?_
            refine WP.seq ?_
            refine WP.region ?_
            refine EvK.pure (v := .bool false) (w_none rfl) rfl rfl (f_assign rfl rfl) ?_
            refine EvK.nil ?_
            refine WP.ret ?_
            exact Ret.mk (vs := [.bool false]) false ⟨rfl, trivial⟩ rfl hF
          · refine WP.cond_false _ rfl c2 ?_
            refine WP.skip ?_
            refine WP.seq ?_
            refine WP.joinF (fun (s5 : Bool) => [(62, .bool s5), (0, .pointer a0), (1, Sl.val a1), (5, .int .i64 s2), (6, Sl.val r1)]) hF ?_ ?_
            · intro s5 E0 h6 hF
              rcases ite_inv hF with ⟨c3, hF⟩ | ⟨c3, hF⟩
              · refine WP.cond_true _ rfl c3 ?_
                refine WP.seq ?_
                refine WP.region ?_
                refine EvK.pure (v := .bool false) (w_none rfl) rfl rfl (f_assign rfl rfl) ?_
                refine EvK.nil ?_
                refine WP.ret ?_
                exact Ret.mk (vs := [.bool false]) false ⟨rfl, trivial⟩ rfl hF
              · refine WP.cond_false _ rfl c3 ?_
                refine WP.skip ?_
                refine WP.seq ?_
                refine WP.region ?_
                refine EvK.pure (v := .int .i64 0) (w_none rfl) rfl rfl (f_assign rfl rfl) ?_
                refine EvK.nil ?_
                refine WP.block ?_
                refine WP.loopF (fun (s6 : Int) => [(7, .int .i64 s6), (0, .pointer a0), (1, Sl.val a1), (5, .int .i64 s2), (6, Sl.val r1)]) hF ⟨rfl, rfl, rfl, rfl, rfl, trivial⟩ ?_
                intro k6 s6 E0 h7 hF
                refine WP.seq ?_
                refine WP.seq ?_
                refine WP.region ?_
                refine EvK.pure (v := .int .i64 s6) (w_none rfl) rfl rfl (f_move rfl rfl) ?_
                refine EvK.pure (v := Sl.val r1) (w_none rfl) rfl rfl (f_move rfl rfl) ?_
                refine EvK.pure (v := .int .i64 (r1.len : Int)) (w_none rfl) rfl rfl (f_lenL (s := r1) Try.underlying30 rfl rfl) ?_
                refine EvK.pure (v := .bool (decide (s6 < (r1.len : Int)))) (w_none rfl) rfl rfl (f_lss rfl rfl rfl) ?_
                refine EvK.nil ?_
                rcases ite_inv hF with ⟨c4, hF⟩ | ⟨c4, hF⟩
                · refine WP.cond_true _ rfl c4 ?_
                  refine WP.skip ?_
                  refine WP.joinF (fun (s7 : Unit) => [(0, .pointer a0), (1, Sl.val a1), (5, .int .i64 s2), (6, Sl.val r1), (7, .int .i64 s6)]) hF ?_ ?_
                  · intro s7 E0 h8 hF
                    refine WP.region ?_
                    refine EvK.pure (v := .int .i64 s6) (w_none rfl) rfl rfl (f_move rfl rfl) ?_
                    refine EvK.pure (v := .int .i64 (IntKind.i64.wrap (s6 + 1))) (w_none rfl) rfl rfl (f_add rfl rfl rfl) ?_
                    refine EvK.pure (v := .int .i64 (IntKind.i64.wrap (s6 + 1))) (w_none rfl) rfl rfl (f_assign rfl rfl) ?_
                    refine EvK.nil ?_
                    exact KE.mk (IntKind.i64.wrap (s6 + 1)) ⟨rfl, rfl, rfl, rfl, rfl, trivial⟩ hF
                  · intro k7 hF
                    refine WP.block ?_
                    refine WP.seq ?_
                    refine WP.region ?_
                    refine EvK.pure (v := .bool false) (w_none rfl) rfl rfl (f_assign rfl rfl) ?_
                    refine EvK.nil ?_
                    refine WP.joinF (fun (s8 : Bool) => [(8, .bool s8), (0, .pointer a0), (1, Sl.val a1), (5, .int .i64 s2), (6, Sl.val r1), (7, .int .i64 s6)]) hF ?_ ?_
                    · intro s8 E0 h9 hF
                      refine WP.joinF (fun (s9 : Bool) => [(114, .bool s9), (0, .pointer a0), (1, Sl.val a1), (5, .int .i64 s2), (6, Sl.val r1), (7, .int .i64 s6)]) hF ?_ ?_
                      · intro s9 E0 h10 hF
                        rcases ite_inv hF with ⟨c5, hF⟩ | ⟨c5, hF⟩
                        · refine WP.cond_true _ rfl c5 ?_
                          refine WP.seq ?_
                          refine WP.region ?_
                          refine EvK.pure (v := .bool false) (w_none rfl) rfl rfl (f_assign rfl rfl) ?_
                          refine EvK.nil ?_
                          refine WP.ret ?_
                          exact Ret.mk (vs := [.bool false]) false ⟨rfl, trivial⟩ rfl hF
                        · refine WP.cond_false _ rfl c5 ?_
                          refine WP.skip ?_
                          exact KE.mk () ⟨rfl, rfl, rfl, rfl, rfl, trivial⟩ hF
                      · intro k9 hF
                        refine WP.draw mixed [.pure, .pure, .pure, .pure, .pure, .pure, .pure, .pure, .pure, .pure, .pure, .read, .pure, .pure, .pure, .pure, .read, .pure, .pure, .pure] [[], [0], [0, 1], [0, 1, 2], [0, 1, 2, 3], [0, 1, 2, 3, 4], [0, 1, 2, 3, 4, 5], [0, 1, 2, 3, 4, 5], [0, 1, 2, 3, 4, 5, 7], [0, 1, 2, 3, 4, 5, 6, 7, 8], [0, 1, 2, 3, 4, 5, 6, 7, 8, 9], [0, 1, 2, 3, 4, 5, 6, 7, 8, 9, 10], [0, 1, 2, 3, 4, 5], [0, 1, 2, 3, 4, 5], [0, 1, 2, 3, 4, 5, 12, 13], [0, 1, 2, 3, 4, 5, 12, 13, 14], [0, 1, 2, 3, 4, 5, 12, 13, 14, 15], [0, 1, 2, 3, 4, 5, 6, 7, 8, 9, 10, 11, 12, 13, 14, 15, 16], [0, 1, 2, 3, 4, 5, 6, 7, 8, 9, 10, 11, 12, 13, 14, 15, 16, 17], [0, 1, 2, 3, 4, 5, 6, 7, 8, 9, 10, 11, 12, 13, 14, 15, 16, 17, 18]] [0, 1, 2, 3, 4, 5, 6, 7, 8, 9, 10, 11, 12, 13, 14, 15, 16, 17, 18, 19] (by kernel_rfl) (by kernel_rfl) ?_
                        refine EvI.pure (v := .bool s8) rfl rfl (w_none rfl) rfl (f_move rfl rfl) ?_
                        refine EvI.pure (v := .bool (!s8)) rfl rfl (w_none rfl) rfl (f_not rfl rfl) ?_
                        refine EvI.pure (v := .bool (!s8)) rfl rfl (w_none rfl) rfl (f_move rfl rfl) ?_
                        rcases ite_inv hF with ⟨c6, hF⟩ | ⟨c6, hF⟩
                        · refine EvI.not rfl (w_not rfl rfl c6) rfl ?_
                          refine EvI.not rfl (w_not rfl rfl c6) rfl ?_
                          refine EvI.not rfl (w_not rfl rfl c6) rfl ?_
                          refine EvI.not rfl (w_undef rfl rfl) rfl ?_
                          refine EvI.not rfl (w_undef rfl rfl) rfl ?_
                          refine EvI.not rfl (w_undef rfl rfl) rfl ?_
                          refine EvI.not rfl (w_undef rfl rfl) rfl ?_
                          refine EvI.not rfl (w_undef rfl rfl) rfl ?_
                          refine EvI.not rfl (w_undef rfl rfl) rfl ?_
                          refine EvI.not rfl (w_undef rfl rfl) rfl ?_
                          refine EvI.not rfl (w_undef rfl rfl) rfl ?_
                          refine EvI.not rfl (w_undef rfl rfl) rfl ?_
                          refine EvI.not rfl (w_undef rfl rfl) rfl ?_
                          refine EvI.not rfl (w_undef rfl rfl) rfl ?_
                          refine EvI.not rfl (w_undef rfl rfl) rfl ?_
                          refine EvI.not rfl (w_not rfl rfl c6) rfl ?_
                          refine EvI.pure (v := .bool true) rfl rfl (w_none rfl) rfl (f_pickT rfl rfl c6 rfl) ?_
                          refine EvI.nil ?_
                          exact KE.mk true ⟨rfl, rfl, rfl, rfl, rfl, rfl, trivial⟩ hF
                        · refine EvI.pure (v := .int .i64 s6) rfl rfl (w_some rfl rfl c6) rfl (f_move rfl rfl) ?_
                          refine EvI.pure (v := .bool (decide (s6 > 0))) rfl rfl (w_some rfl rfl c6) rfl (f_gtr rfl rfl rfl) ?_
                          refine EvI.pure (v := .bool (decide (s6 > 0))) rfl rfl (w_some rfl rfl c6) rfl (f_move rfl rfl) ?_
                          rcases ite_inv hF with ⟨c7, hF⟩ | ⟨c7, hF⟩
                          · refine EvI.pure (v := Sl.val r1) rfl rfl (w_some rfl rfl c7) rfl (f_move rfl rfl) ?_
                            refine EvI.pure (v := .int .i64 s6) rfl rfl (w_some rfl rfl c7) rfl (f_move rfl rfl) ?_
                            refine EvI.pure (v := .int .i64 (IntKind.i64.wrap (s6 - 1))) rfl rfl (w_some rfl rfl c7) rfl (f_sub rfl rfl rfl) ?_
                            obtain ⟨q2, hq2, hF⟩ := hF
                            refine EvI.pure (v := .pointer (some q2)) rfl rfl (w_some rfl rfl c7) rfl (f_indexAddr (s := r1) Try.underlying30 ty32.size rfl rfl rfl hq2) ?_
                            refine EvI.pure (v := .pointer (some (q2.add 0))) rfl rfl (w_some rfl rfl c7) rfl (f_fieldAddr fd32_0 rfl rfl) ?_
                            obtain ⟨x2, hx2, hF⟩ := hF
                            refine EvI.read (v := .int .i64 x2) rfl rfl (w_some rfl rfl c7) rfl (f_load (kI .i64) ty3 rfl rfl hx2 rfl) ?_
                            refine EvI.pure (v := Sl.val r1) rfl rfl (w_some rfl rfl c7) rfl (f_move rfl rfl) ?_
                            refine EvI.pure (v := .int .i64 s6) rfl rfl (w_some rfl rfl c7) rfl (f_move rfl rfl) ?_
                            obtain ⟨q3, hq3, hF⟩ := hF
                            refine EvI.pure (v := .pointer (some q3)) rfl rfl (w_some rfl rfl c7) rfl (f_indexAddr (s := r1) Try.underlying30 ty32.size rfl rfl rfl hq3) ?_
                            refine EvI.pure (v := .pointer (some (q3.add 0))) rfl rfl (w_some rfl rfl c7) rfl (f_fieldAddr fd32_0 rfl rfl) ?_
                            obtain ⟨x3, hx3, hF⟩ := hF
                            refine EvI.read (v := .int .i64 x3) rfl rfl (w_some rfl rfl c7) rfl (f_load (kI .i64) ty3 rfl rfl hx3 rfl) ?_
                            refine EvI.pure (v := .bool (decide (x2 ≥ x3))) rfl rfl (w_some rfl rfl c7) rfl (f_geq rfl rfl rfl) ?_
                            refine EvI.pure (v := .bool (decide (x2 ≥ x3))) rfl rfl (w_some rfl rfl c6) rfl (f_pickT rfl rfl c7 rfl) ?_
                            refine EvI.pure (v := .bool (decide (x2 ≥ x3))) rfl rfl (w_none rfl) rfl (f_pickF rfl rfl c6 rfl) ?_
                            refine EvI.nil ?_
                            exact KE.mk (decide (x2 ≥ x3)) ⟨rfl, rfl, rfl, rfl, rfl, rfl, trivial⟩ hF
                          · refine EvI.not rfl (w_not rfl rfl c7) rfl ?_
                            refine EvI.not rfl (w_not rfl rfl c7) rfl ?_
                            refine EvI.not rfl (w_not rfl rfl c7) rfl ?_
                            refine EvI.not rfl (w_not rfl rfl c7) rfl ?_
                            refine EvI.not rfl (w_not rfl rfl c7) rfl ?_
                            refine EvI.not rfl (w_not rfl rfl c7) rfl ?_
                            refine EvI.not rfl (w_not rfl rfl c7) rfl ?_
                            refine EvI.not rfl (w_not rfl rfl c7) rfl ?_
                            refine EvI.not rfl (w_not rfl rfl c7) rfl ?_
                            refine EvI.not rfl (w_not rfl rfl c7) rfl ?_
                            refine EvI.not rfl (w_not rfl rfl c7) rfl ?_
                            refine EvI.not rfl (w_not rfl rfl c7) rfl ?_
                            refine EvI.pure (v := .bool false) rfl rfl (w_some rfl rfl c6) rfl (f_pickF rfl rfl c7 rfl) ?_
                            refine EvI.pure (v := .bool false) rfl rfl (w_none rfl) rfl (f_pickF rfl rfl c6 rfl) ?_
                            refine EvI.nil ?_
                            exact KE.mk false ⟨rfl, rfl, rfl, rfl, rfl, rfl, trivial⟩ hF
                    · intro k8 hF
                      refine WP.seq ?_
                      refine WP.region ?_
                      refine EvK.pure (v := .int .i64 0) (w_none rfl) rfl rfl (f_assign rfl rfl) ?_
                      refine EvK.nil ?_
                      refine WP.block ?_
                      refine WP.loopF (fun (s10 : Bool × Int) => [(8, .bool s10.1), (9, .int .i64 s10.2), (0, .pointer a0), (1, Sl.val a1), (5, .int .i64 s2), (6, Sl.val r1), (7, .int .i64 s6)]) hF ⟨rfl, rfl, rfl, rfl, rfl, rfl, rfl, trivial⟩ ?_
                      intro k10 s10 E0 h11 hF
                      refine WP.seq ?_
                      refine WP.seq ?_
                      refine WP.region ?_
                      refine EvK.pure (v := .int .i64 s10.2) (w_none rfl) rfl rfl (f_move rfl rfl) ?_
                      refine EvK.pure (v := Sl.val a1) (w_none rfl) rfl rfl (f_move rfl rfl) ?_
                      refine EvK.pure (v := .int .i64 s2) (w_none rfl) rfl rfl (f_move rfl rfl) ?_
                      obtain ⟨q4, hq4, hF⟩ := hF
                      refine EvK.pure (v := .pointer (some q4)) (w_none rfl) rfl rfl (f_indexAddr (s := a1) Try.underlying29 ty35.size rfl rfl rfl hq4) ?_
                      refine EvK.pure (v := .pointer (some (q4.add 1))) (w_none rfl) rfl rfl (f_fieldAddr fd35_1 rfl rfl) ?_
                      obtain ⟨x4, hx4, hF⟩ := hF
                      refine EvK.read (v := Sl.val x4) (w_none rfl) rfl rfl (f_load kL ty30 rfl rfl hx4 rfl) ?_
                      refine EvK.pure (v := .int .i64 (x4.len : Int)) (w_none rfl) rfl rfl (f_lenL (s := x4) Try.underlying30 rfl rfl) ?_
                      refine EvK.pure (v := .bool (decide (s10.2 < (x4.len : Int)))) (w_none rfl) rfl rfl (f_lss rfl rfl rfl) ?_
                      refine EvK.nil ?_
                      rcases ite_inv hF with ⟨c8, hF⟩ | ⟨c8, hF⟩
                      · refine WP.cond_true _ rfl c8 ?_
                        refine WP.skip ?_
                        refine WP.joinF (fun (s11 : Bool) => [(8, .bool s11), (0, .pointer a0), (1, Sl.val a1), (5, .int .i64 s2), (6, Sl.val r1), (7, .int .i64 s6), (9, .int .i64 s10.2)]) hF ?_ ?_
                        · intro s11 E0 h12 hF
                          refine WP.region ?_
                          refine EvK.pure (v := .int .i64 s10.2) (w_none rfl) rfl rfl (f_move rfl rfl) ?_
                          refine EvK.pure (v := .int .i64 (IntKind.i64.wrap (s10.2 + 1))) (w_none rfl) rfl rfl (f_add rfl rfl rfl) ?_
                          refine EvK.pure (v := .int .i64 (IntKind.i64.wrap (s10.2 + 1))) (w_none rfl) rfl rfl (f_assign rfl rfl) ?_
                          refine EvK.nil ?_
                          exact KE.mk (s11, IntKind.i64.wrap (s10.2 + 1)) ⟨rfl, rfl, rfl, rfl, rfl, rfl, rfl, trivial⟩ hF
                        · intro k11 hF
                          refine WP.block ?_
                          refine WP.draw mixed [.pure, .pure, .pure, .pure, .pure, .pure, .read, .pure, .pure, .read, .pure, .pure, .pure, .read, .pure, .pure, .pure] [[], [0], [0, 1], [0, 1], [0, 1, 2, 3], [0, 1, 2, 3, 4], [0, 1, 2, 3, 4, 5], [0, 1], [0, 1, 2, 3, 4, 5, 6, 7], [0, 1, 2, 3, 4, 5, 6, 7, 8], [0, 1], [0, 1], [0, 1, 10, 11], [0, 1, 10, 11, 12], [0, 1, 2, 3, 4, 5, 6, 7, 8, 9, 10, 11, 12, 13], [0, 1, 2, 3, 4, 5, 6, 7, 8, 9, 10, 11, 12, 13, 14], [0, 1, 2, 3, 4, 5, 6, 7, 8, 9, 10, 11, 12, 13, 14, 15]] [0, 1, 2, 3, 4, 5, 6, 7, 8, 9, 10, 11, 12, 13, 14, 15, 16] (by kernel_rfl) (by kernel_rfl) ?_
                          refine EvI.pure (v := .bool s10.1) rfl rfl (w_none rfl) rfl (f_move rfl rfl) ?_
                          refine EvI.pure (v := .bool s10.1) rfl rfl (w_none rfl) rfl (f_move rfl rfl) ?_
                          rcases ite_inv hF with ⟨c9, hF⟩ | ⟨c9, hF⟩
                          · refine EvI.not rfl (w_not rfl rfl c9) rfl ?_
                            refine EvI.not rfl (w_not rfl rfl c9) rfl ?_
                            refine EvI.not rfl (w_not rfl rfl c9) rfl ?_
                            refine EvI.not rfl (w_not rfl rfl c9) rfl ?_
                            refine EvI.not rfl (w_not rfl rfl c9) rfl ?_
                            refine EvI.not rfl (w_not rfl rfl c9) rfl ?_
                            refine EvI.not rfl (w_not rfl rfl c9) rfl ?_
                            refine EvI.not rfl (w_not rfl rfl c9) rfl ?_
                            refine EvI.not rfl (w_not rfl rfl c9) rfl ?_
                            refine EvI.not rfl (w_not rfl rfl c9) rfl ?_
                            refine EvI.not rfl (w_not rfl rfl c9) rfl ?_
                            refine EvI.not rfl (w_not rfl rfl c9) rfl ?_
                            refine EvI.not rfl (w_not rfl rfl c9) rfl ?_
                            refine EvI.pure (v := .bool true) rfl rfl (w_none rfl) rfl (f_pickT rfl rfl c9 rfl) ?_
                            refine EvI.pure (v := .bool true) rfl rfl (w_none rfl) rfl (f_assign rfl rfl) ?_
                            refine EvI.nil ?_
                            exact KE.mk true ⟨rfl, rfl, rfl, rfl, rfl, rfl, rfl, trivial⟩ hF
                          · refine EvI.pure (v := Sl.val a1) rfl rfl (w_some rfl rfl c9) rfl (f_move rfl rfl) ?_
                            refine EvI.pure (v := .int .i64 s2) rfl rfl (w_some rfl rfl c9) rfl (f_move rfl rfl) ?_
                            obtain ⟨q5, hq5, hF⟩ := hF
                            refine EvI.pure (v := .pointer (some q5)) rfl rfl (w_some rfl rfl c9) rfl (f_indexAddr (s := a1) Try.underlying29 ty35.size rfl rfl rfl hq5) ?_
                            refine EvI.pure (v := .pointer (some (q5.add 1))) rfl rfl (w_some rfl rfl c9) rfl (f_fieldAddr fd35_1 rfl rfl) ?_
                            obtain ⟨x5, hx5, hF⟩ := hF
                            refine EvI.read (v := Sl.val x5) rfl rfl (w_some rfl rfl c9) rfl (f_load kL ty30 rfl rfl hx5 rfl) ?_
                            refine EvI.pure (v := .int .i64 s10.2) rfl rfl (w_some rfl rfl c9) rfl (f_move rfl rfl) ?_
                            obtain ⟨q6, hq6, hF⟩ := hF
                            refine EvI.pure (v := .pointer (some q6)) rfl rfl (w_some rfl rfl c9) rfl (f_indexAddr (s := x5) Try.underlying30 ty32.size rfl rfl rfl hq6) ?_
                            obtain ⟨x6, hx6, hF⟩ := hF
                            refine EvI.read (v := k31.val x6) rfl rfl (w_some rfl rfl c9) rfl (f_load k31 ty32 rfl rfl hx6 rfl) ?_
                            refine EvI.pure (v := Sl.val r1) rfl rfl (w_some rfl rfl c9) rfl (f_move rfl rfl) ?_
                            refine EvI.pure (v := .int .i64 s6) rfl rfl (w_some rfl rfl c9) rfl (f_move rfl rfl) ?_
                            obtain ⟨q7, hq7, hF⟩ := hF
                            refine EvI.pure (v := .pointer (some q7)) rfl rfl (w_some rfl rfl c9) rfl (f_indexAddr (s := r1) Try.underlying30 ty32.size rfl rfl rfl hq7) ?_
                            obtain ⟨x7, hx7, hF⟩ := hF
                            refine EvI.read (v := k31.val x7) rfl rfl (w_some rfl rfl c9) rfl (f_load k31 ty32 rfl rfl hx7 rfl) ?_
                            refine EvI.pure (v := .bool (eq32 x6 x7)) rfl rfl (w_some rfl rfl c9) rfl (f_eqlOf rfl rfl rfl (guard32 _ _) rfl (eqIn32 _ _)) ?_
                            refine EvI.pure (v := .bool (eq32 x6 x7)) rfl rfl (w_none rfl) rfl (f_pickF rfl rfl c9 rfl) ?_
                            refine EvI.pure (v := .bool (eq32 x6 x7)) rfl rfl (w_none rfl) rfl (f_assign rfl rfl) ?_
                            refine EvI.nil ?_
                            exact KE.mk (eq32 x6 x7) ⟨rfl, rfl, rfl, rfl, rfl, rfl, rfl, trivial⟩ hF
                      · refine WP.cond_false _ rfl c8 ?_
                        refine WP.exit ?_
                        exact KE.mk s10.1 ⟨rfl, rfl, rfl, rfl, rfl, rfl, trivial⟩ hF
                · refine WP.cond_false _ rfl c4 ?_
                  refine WP.exit ?_
                  exact KE.mk () ⟨rfl, rfl, rfl, trivial⟩ hF
            · intro k5 hF
              refine WP.region ?_
              refine EvK.pure (v := Sl.val a1) (w_none rfl) rfl rfl (f_move rfl rfl) ?_
              refine EvK.pure (v := .int .i64 s2) (w_none rfl) rfl rfl (f_move rfl rfl) ?_
              obtain ⟨q8, hq8, hF⟩ := hF
              refine EvK.pure (v := .pointer (some q8)) (w_none rfl) rfl rfl (f_indexAddr (s := a1) Try.underlying29 ty35.size rfl rfl rfl hq8) ?_
              refine EvK.pure (v := .pointer (some (q8.add 2))) (w_none rfl) rfl rfl (f_fieldAddr fd35_2 rfl rfl) ?_
              obtain ⟨x8, hx8, hF⟩ := hF
              refine EvK.read (v := .bool x8) (w_none rfl) rfl rfl (f_load kB ty4 rfl rfl hx8 rfl) ?_
              refine EvK.pure (v := .bool x8) (w_none rfl) rfl rfl (f_move rfl rfl) ?_
              rcases ite_inv hF with ⟨c10, hF⟩ | ⟨c10, hF⟩
              · refine EvK.pure (v := Sl.val r1) (w_some rfl rfl c10) rfl rfl (f_move rfl rfl) ?_
                refine EvK.pure (v := .int .i64 (r1.len : Int)) (w_some rfl rfl c10) rfl rfl (f_lenL (s := r1) Try.underlying30 rfl rfl) ?_
                refine EvK.pure (v := Sl.val a1) (w_some rfl rfl c10) rfl rfl (f_move rfl rfl) ?_
                refine EvK.pure (v := .int .i64 s2) (w_some rfl rfl c10) rfl rfl (f_move rfl rfl) ?_
                obtain ⟨q9, hq9, hF⟩ := hF
                refine EvK.pure (v := .pointer (some q9)) (w_some rfl rfl c10) rfl rfl (f_indexAddr (s := a1) Try.underlying29 ty35.size rfl rfl rfl hq9) ?_
                refine EvK.pure (v := .pointer (some (q9.add 1))) (w_some rfl rfl c10) rfl rfl (f_fieldAddr fd35_1 rfl rfl) ?_
                obtain ⟨x9, hx9, hF⟩ := hF
                refine EvK.read (v := Sl.val x9) (w_some rfl rfl c10) rfl rfl (f_load kL ty30 rfl rfl hx9 rfl) ?_
                refine EvK.pure (v := .int .i64 (x9.len : Int)) (w_some rfl rfl c10) rfl rfl (f_lenL (s := x9) Try.underlying30 rfl rfl) ?_
                refine EvK.pure (v := .bool ((r1.len : Int) != (x9.len : Int))) (w_some rfl rfl c10) rfl rfl (f_neq rfl rfl rfl) ?_
                refine EvK.pure (v := .bool ((r1.len : Int) != (x9.len : Int))) (w_none rfl) rfl rfl (f_pickT rfl rfl c10 rfl) ?_
                refine EvK.nil ?_
                exact KE.mk ((r1.len : Int) != (x9.len : Int)) ⟨rfl, rfl, rfl, rfl, rfl, trivial⟩ hF
              · refine EvK.not (w_not rfl rfl c10) rfl rfl ?_
                refine EvK.not (w_not rfl rfl c10) rfl rfl ?_
                refine EvK.not (w_not rfl rfl c10) rfl rfl ?_
                refine EvK.not (w_not rfl rfl c10) rfl rfl ?_
                refine EvK.not (w_not rfl rfl c10) rfl rfl ?_
                refine EvK.not (w_not rfl rfl c10) rfl rfl ?_
                refine EvK.not (w_not rfl rfl c10) rfl rfl ?_
                refine EvK.not (w_not rfl rfl c10) rfl rfl ?_
                refine EvK.not (w_not rfl rfl c10) rfl rfl ?_
                refine EvK.pure (v := .bool false) (w_none rfl) rfl rfl (f_pickF rfl rfl c10 rfl) ?_
                refine EvK.nil ?_
                exact KE.mk false ⟨rfl, rfl, rfl, rfl, rfl, trivial⟩ hF
        · intro k4 hF
          refine WP.draw mixed [.pure, .pure, .pure, .pure, .pure, .read, .eff [11], .pure, .pure, .pure, .pure, .read, .pure, .pure, .pure, .pure, .pure, .pure, .pure, .pure, .pure, .read, .pure, .pure] [[], [], [], [1, 2], [1, 2, 3], [1, 2, 3, 4], [0, 1, 2, 3, 4, 5], [], [], [7, 8], [7, 8, 9], [7, 8, 9, 10], [0, 1, 2, 3, 4, 5, 6, 7, 8, 9, 10, 11], [0, 1, 2, 3, 4, 5, 6, 7, 8, 9, 10, 11, 12], [0, 1, 2, 3, 4, 5, 6, 7, 8, 9, 10, 11, 12, 13], [0, 1, 2, 3, 4, 5, 6, 7, 8, 9, 10, 11, 12, 13, 14], [0, 1, 2, 3, 4, 5, 6, 7, 8, 9, 10, 11, 12, 13, 14, 15], [0, 1, 2, 3, 4, 5, 6, 7, 8, 9, 10, 11, 12, 13], [0, 1, 2, 3, 4, 5, 6, 7, 8, 9, 10, 11, 12, 13], [0, 1, 2, 3, 4, 5, 6, 7, 8, 9, 10, 11, 12, 13, 17, 18], [0, 1, 2, 3, 4, 5, 6, 7, 8, 9, 10, 11, 12, 13, 17, 18, 19], [0, 1, 2, 3, 4, 5, 6, 7, 8, 9, 10, 11, 12, 13, 17, 18, 19, 20], [0, 1, 2, 3, 4, 5, 6, 7, 8, 9, 10, 11, 12, 13, 14, 15, 16, 17, 18, 19, 20, 21], [0, 1, 2, 3, 4, 5, 6, 7, 8, 9, 10, 11, 12, 13, 14, 15, 16, 17, 18, 19, 20, 21, 22]] [0, 1, 2, 3, 4, 5, 7, 8, 9, 10, 11, 6, 12, 13, 14, 15, 16, 17, 18, 19, 20, 21, 22, 23] (by kernel_rfl) (by kernel_rfl) ?_
          refine EvI.pure (v := .pointer a0) rfl rfl (w_none rfl) rfl (f_move rfl rfl) ?_
          refine EvI.pure (v := Sl.val a1) rfl rfl (w_none rfl) rfl (f_move rfl rfl) ?_
          refine EvI.pure (v := .int .i64 s2) rfl rfl (w_none rfl) rfl (f_move rfl rfl) ?_
          obtain ⟨q10, hq10, hF⟩ := hF
          refine EvI.pure (v := .pointer (some q10)) rfl rfl (w_none rfl) rfl (f_indexAddr (s := a1) Try.underlying29 ty35.size rfl rfl rfl hq10) ?_
          refine EvI.pure (v := .pointer (some (q10.add 0))) rfl rfl (w_none rfl) rfl (f_fieldAddr fd35_0 rfl rfl) ?_
          obtain ⟨x10, hx10, hF⟩ := hF
          refine EvI.read (v := .int .i64 x10) rfl rfl (w_none rfl) rfl (f_load (kI .i64) ty3 rfl rfl hx10 rfl) ?_
          refine EvI.pure (v := Sl.val a1) rfl rfl (w_none rfl) rfl (f_move rfl rfl) ?_
          refine EvI.pure (v := .int .i64 s2) rfl rfl (w_none rfl) rfl (f_move rfl rfl) ?_
          obtain ⟨q11, hq11, hF⟩ := hF
          refine EvI.pure (v := .pointer (some q11)) rfl rfl (w_none rfl) rfl (f_indexAddr (s := a1) Try.underlying29 ty35.size rfl rfl rfl hq11) ?_
          refine EvI.pure (v := .pointer (some (q11.add 2))) rfl rfl (w_none rfl) rfl (f_fieldAddr fd35_2 rfl rfl) ?_
          obtain ⟨x11, hx11, hF⟩ := hF
          refine EvI.read (v := .bool x11) rfl rfl (w_none rfl) rfl (f_load kB ty4 rfl rfl hx11 rfl) ?_
          refine EvI.call rfl rfl (w_none rfl) rfl (enterH Try.func32 rfl rfl rfl rfl (locks_Manager_Waits.sound hF)) ?_
          rintro _ h13 ⟨r5, rfl, hF⟩
          obtain ⟨hy1, hF⟩ := hF
          refine ⟨⟨chk_yes rfl (f_load kB ty4 rfl rfl hy1 rfl), chk_no rfl, trivial⟩, ?_⟩
          refine EvI.pure (v := .bool (r5 == x11)) rfl rfl (w_none rfl) rfl (f_beql Try.underlying4 rfl rfl rfl) ?_
          refine EvI.pure (v := .bool (r5 == x11)) rfl rfl (w_none rfl) rfl (f_move rfl rfl) ?_
          rcases ite_inv hF with ⟨c11, hF⟩ | ⟨c11, hF⟩
          · refine EvI.not rfl (w_not rfl rfl c11) rfl ?_
            refine EvI.not rfl (w_not rfl rfl c11) rfl ?_
            refine EvI.not rfl (w_not rfl rfl c11) rfl ?_
            refine EvI.not rfl (w_not rfl rfl c11) rfl ?_
            refine EvI.not rfl (w_not rfl rfl c11) rfl ?_
            refine EvI.not rfl (w_not rfl rfl c11) rfl ?_
            refine EvI.not rfl (w_not rfl rfl c11) rfl ?_
            refine EvI.not rfl (w_not rfl rfl c11) rfl ?_
            refine EvI.not rfl (w_not rfl rfl c11) rfl ?_
            refine EvI.pure (v := .bool true) rfl rfl (w_none rfl) rfl (f_pickT rfl rfl c11 rfl) ?_
            refine EvI.nil ?_
            exact KE.mk true ⟨rfl, rfl, rfl, rfl, rfl, trivial⟩ hF
          · refine EvI.pure (v := Sl.val r1) rfl rfl (w_some rfl rfl c11) rfl (f_move rfl rfl) ?_
            refine EvI.pure (v := .int .i64 (r1.len : Int)) rfl rfl (w_some rfl rfl c11) rfl (f_lenL (s := r1) Try.underlying30 rfl rfl) ?_
            refine EvI.pure (v := .bool (decide ((r1.len : Int) > 0))) rfl rfl (w_some rfl rfl c11) rfl (f_gtr rfl rfl rfl) ?_
            refine EvI.pure (v := Sl.val a1) rfl rfl (w_some rfl rfl c11) rfl (f_move rfl rfl) ?_
            refine EvI.pure (v := .int .i64 s2) rfl rfl (w_some rfl rfl c11) rfl (f_move rfl rfl) ?_
            obtain ⟨q12, hq12, hF⟩ := hF
            refine EvI.pure (v := .pointer (some q12)) rfl rfl (w_some rfl rfl c11) rfl (f_indexAddr (s := a1) Try.underlying29 ty35.size rfl rfl rfl hq12) ?_
            refine EvI.pure (v := .pointer (some (q12.add 2))) rfl rfl (w_some rfl rfl c11) rfl (f_fieldAddr fd35_2 rfl rfl) ?_
            obtain ⟨x12, hx12, hF⟩ := hF
            refine EvI.read (v := .bool x12) rfl rfl (w_some rfl rfl c11) rfl (f_load kB ty4 rfl rfl hx12 rfl) ?_
            refine EvI.pure (v := .bool (!((decide ((r1.len : Int) > 0)) == x12))) rfl rfl (w_some rfl rfl c11) rfl (f_bneq Try.underlying4 rfl rfl rfl) ?_
            refine EvI.pure (v := .bool (!((decide ((r1.len : Int) > 0)) == x12))) rfl rfl (w_none rfl) rfl (f_pickF rfl rfl c11 rfl) ?_
            refine EvI.nil ?_
            exact KE.mk (!((decide ((r1.len : Int) > 0)) == x12)) ⟨rfl, rfl, rfl, rfl, rfl, trivial⟩ hF
    · refine WP.cond_false _ rfl c1 ?_
      refine WP.exit ?_
      exact KE.mk () trivial hF
end Go.Proofs.Ytgmihbchcmjmdaa

namespace Go.Proofs.Ytgmihbchcmjmdaa
open Go Go.Tr
set_option linter.unusedVariables false
set_option maxRecDepth 100000
set_option maxHeartbeats 400000
def spatelaw11_LocksFair.b2 (p1 : Sl) (p5 : Option Addr) (p7 : Sl) (p8 : Int) (p9 : Addr) (p11 : Sl) (p12 : Bool) (s : Bool × Int) (h : H) (K : (Bool × Int) ⊕ Bool → H → Prop) : Prop :=
  if (decide (s.2 < (p7.len : Int))) = true then
    jn (fun (k8 : Bool → H → Prop) =>
      if s.1 = true then
        k8 true h
      else
        rd (ixA 3 p7 s.2) fun q3 =>
        rd (ld kL (q3.add 1) h) fun x11 =>
        spatelaw11_conflict x11 p11 h fun r11 h25 =>
        k8 r11 h25) fun s8 h24 =>
    K (.inl (s8, IntKind.i64.wrap (s.2 + 1))) h24
  else
    K (.inr s.1) h
def spatelaw11_LocksFair.b1 (p1 : Sl) (p5 : Option Addr) (s : Sl × Int) (h : H) (K : (Sl × Int) ⊕ (Unit ⊕ Bool) → H → Prop) : Prop :=
  jn (fun (k3 : Bool → H → Prop) =>
    if (decide (s.2 < (p1.len : Int))) = true then
      k3 (decide (s.2 < 300)) h
    else
      k3 false h) fun s3 h5 =>
  if s3 = true then
    jn (fun (k4 : Sl → H → Prop) =>
      rd (ixA 3 p1 s.2) fun q1 =>
      rd (ld k52 q1 h5) fun x1 =>
      al 53 (k52.enc z52) h5 fun q2 h7 =>
      rd (st k52 q2 x1 h7) fun h8 =>
      rd (ld (kI .i64) (q2.add 1) h8) fun x2 =>
      spatelaw11_find s.1 x2 h8 fun r3 h9 =>
      jn (fun (k5 : Sl → H → Prop) =>
        rd (ld (kI .i64) (q2.add 0) h9) fun x3 =>
        if (x3 == 1) = true then
          rd (ld kL (q2.add 2) h9) fun x4 =>
          spatelaw11_set x4 h9 fun r9 h17 =>
          rd (ld (kI .i64) (q2.add 1) h17) fun x5 =>
          locks_Manager_Ask p5 x5 r9 h17 fun r10 h18 =>
          if (!r10.2.isNone) = true then
            if r10.1 = true then
              K (.inr (.inr false)) h18
            else
              k4 s.1 h18
          else
            if (decide (r3 ≥ 0)) = true then
              K (.inr (.inr false)) h18
            else
              jn (fun (k7 : Bool → H → Prop) =>
                loopE (spatelaw11_LocksFair.b2 p1 p5 s.1 s.2 q2 r9 r10.1) (false, 0) h18 (fun r12 hh => k7 r12 hh)) fun s7 h19 =>
              if (r10.1 == s7) = true then
                K (.inr (.inr false)) h19
              else
                rd (ld (kI .i64) (q2.add 1) h19) fun x6 =>
                bs 32 0 ([]) h19 fun x7 h20 =>
                ap k31.n 16 32 (k31.enc z31) x7 r9 h20 fun x8 h21 =>
                ld (kI .i64) (q2.add 1) h21 = some x6 ∧
                bs 35 1 (k34.enc (S34.mk x6 x8 r10.1)) h21 fun x9 h22 =>
                ap k34.n 40 35 (k34.enc z34) s.1 x9 h22 fun x10 h23 =>
                k5 x10 h23
        else
          if (x3 == 2) = true then
            rd (ld (kI .i64) (q2.add 1) h9) fun x12 =>
            locks_Manager_Free p5 x12 h9 fun r13 h27 =>
            jn (fun (k10 : Bool → H → Prop) =>
              if (decide (r3 ≥ 0)) = true then
                rd (ixA 3 s.1 (if 0 > r3 then 0 else r3)) fun q4 =>
                rd (ld kB (q4.add 2) h27) fun x13 =>
                if (!(r13.2.isNone == x13)) = true then
                  k10 true h27
                else
                  if (!r13.2.isNone) = true then
                    k10 (decide ((r13.1.len : Int) > 0)) h27
                  else
                    k10 false h27
              else
                if (!(r13.2.isNone == false)) = true then
                  k10 true h27
                else
                  if (!r13.2.isNone) = true then
                    k10 (decide ((r13.1.len : Int) > 0)) h27
                  else
                    k10 false h27) fun s10 h28 =>
            if s10 = true then
              K (.inr (.inr false)) h28
            else
              if r13.2.isNone = true then
                spatelaw11_without s.1 r3 h28 fun r14 h29 =>
                spatelaw11_grant r14 r13.1 h29 fun r15 h30 =>
                if (!r15) = true then
                  K (.inr (.inr false)) h30
                else
                  k5 r14 h30
              else
                k5 s.1 h28
          else
            if (x3 == 3) = true then
              rd (ld (kI .i64) (q2.add 1) h9) fun x14 =>
              locks_Manager_Quit p5 x14 h9 fun r16 h31 =>
              jn (fun (k11 : Bool → H → Prop) =>
                if (decide (r3 < 0)) = true then
                  k11 (decide ((r16.len : Int) > 0)) h31
                else
                  k11 false h31) fun s11 h32 =>
              if s11 = true then
                K (.inr (.inr false)) h32
              else
                jn (fun (k12 : Sl → H → Prop) =>
                  if (decide (r3 ≥ 0)) = true then
                    spatelaw11_without s.1 r3 h32 fun r18 h35 =>
                    k12 r18 h35
                  else
                    k12 s.1 h32) fun s12 h33 =>
                spatelaw11_grant s12 r16 h33 fun r17 h34 =>
                if (!r17) = true then
                  K (.inr (.inr false)) h34
                else
                  k5 s12 h34
            else
              k5 s.1 h9) fun s5 h10 =>
      jn (fun (k6 : Bool → H → Prop) =>
        spatelaw11_fair s5 h10 fun r4 h12 =>
        if (!r4) = true then
          k6 true h12
        else
          locks_Manager_Queue p5 h12 fun r5 h13 =>
          spatelaw11_queue s5 h13 fun r6 h14 =>
          spatelaw11_SameInts r5 r6 h14 fun r7 h15 =>
          if (!r7) = true then
            k6 true h15
          else
            spatelaw11_says p5 s5 h15 fun r8 h16 =>
            k6 (!r8) h16) fun s6 h11 =>
      if s6 = true then
        K (.inr (.inr false)) h11
      else
        k4 s5 h11) fun s4 h6 =>
    K (.inl (s4, IntKind.i64.wrap (s.2 + 1))) h6
  else
    K (.inr (.inl ())) h5
/-- spate/spatelaw11.LocksFair -/
def spatelaw11_LocksFair (a0 : Int) (a1 : Sl) (h : H) (Q : Bool → H → Prop) : Prop :=
  spatelaw11_known  h fun r1 h1 =>
  if (!r1) = true then
    Q false h1
  else
    locks_New a0 h1 fun r2 h2 =>
    if (r2.2 != 0) = true then
      jn (fun (k1 : Bool → H → Prop) =>
        if (r2.2 == 1) = true then
          if (decide (a0 < 1)) = true then
            k1 true h2
          else
            k1 (decide (a0 > 1024)) h2
        else
          k1 false h2) fun s1 h3 =>
      Q s1 h3
    else
      jn (fun (k2 : Unit → H → Prop) =>
        loopE (spatelaw11_LocksFair.b1 a1 r2.1) (Sl.nil, 0) h2 (sumK (fun r19 hh => k2 r19 hh) (fun r20 hh => Q r20 hh))) fun s2 h4 =>
      Q true h4
theorem spatelaw11_LocksFair.sound {a0 : Int} {a1 : Sl} {h : H} {Q : Bool → H → Prop} (hF : spatelaw11_LocksFair a0 a1 h Q) :
    CallsH Try.prog 5 (List.toArray (α := Value) [.int .i64 a0, Sl.val a1]) h fun v h' => ∃ x : Bool, v = .bool x ∧ Q x h' := by
  refine CallsH.of_body Try.func5 rfl 184 rfl rfl ?_
  refine WP.seq ?_
  refine WP.region ?_
  refine EvK.pure (v := .bool false) (w_none rfl) rfl rfl (f_assign rfl rfl) ?_
  refine EvK.nil ?_
  refine WP.seq ?_
  refine WP.seq ?_
  refine WP.region ?_
  refine EvK.call (w_none rfl) rfl rfl (enterH Try.func10 rfl rfl rfl rfl (spatelaw11_known.sound hF)) ?_
  rintro _ h1 ⟨r1, rfl, hF⟩
  refine EvK.pure (v := .bool (!r1)) (w_none rfl) rfl rfl (f_not rfl rfl) ?_
  refine EvK.nil ?_
  rcases ite_inv hF with ⟨c1, hF⟩ | ⟨c1, hF⟩
  · refine WP.cond_true _ rfl c1 ?_
    refine WP.seq ?_
    refine WP.region ?_
    refine EvK.pure (v := .bool false) (w_none rfl) rfl rfl (f_assign rfl rfl) ?_
    refine EvK.nil ?_
    refine WP.ret ?_
    exact Ret.mk (vs := [.bool false]) false ⟨rfl, trivial⟩ rfl hF
  · refine WP.cond_false _ rfl c1 ?_
    refine WP.skip ?_
    refine WP.seq ?_
    refine WP.region ?_
    refine EvK.pure (v := .int .i64 a0) (w_none rfl) rfl rfl (f_move rfl rfl) ?_
    refine EvK.call (w_none rfl) rfl rfl (enterH Try.func12 rfl rfl rfl rfl (locks_New.sound hF)) ?_
    rintro _ h2 ⟨r2, rfl, hF⟩
    refine EvK.pure (v := .tuple #[.pointer r2.1, .int .i64 r2.2]) (w_none rfl) rfl rfl (f_move rfl rfl) ?_
    refine EvK.pure (v := .pointer r2.1) (w_none rfl) rfl rfl (f_extract (vs := #[.pointer r2.1, .int .i64 r2.2]) rfl rfl rfl) ?_
    refine EvK.pure (v := .int .i64 r2.2) (w_none rfl) rfl rfl (f_extract (vs := #[.pointer r2.1, .int .i64 r2.2]) rfl rfl rfl) ?_
    refine EvK.pure (v := .pointer r2.1) (w_none rfl) rfl rfl (f_assign rfl rfl) ?_
    refine EvK.pure (v := .int .i64 r2.2) (w_none rfl) rfl rfl (f_assign rfl rfl) ?_
    refine EvK.nil ?_
    refine WP.seq ?_
    refine WP.seq ?_
    refine WP.region ?_
    refine EvK.pure (v := .int .i64 r2.2) (w_none rfl) rfl rfl (f_move rfl rfl) ?_
    refine EvK.pure (v := .bool (r2.2 != 0)) (w_none rfl) rfl rfl (f_neq rfl rfl rfl) ?_
    refine EvK.nil ?_
    rcases ite_inv hF with ⟨c2, hF⟩ | ⟨c2, hF⟩
    · refine WP.cond_true _ rfl c2 ?_
      refine WP.joinF (fun (s1 : Bool) => [(4, .bool s1)]) hF ?_ ?_
      · intro s1 E0 h3 hF
        refine WP.ret ?_
        exact Ret.mk (vs := [.bool s1]) s1 ⟨rfl, trivial⟩ rfl hF
      · intro k1 hF
        refine WP.region ?_
        refine EvK.pure (v := .int .i64 r2.2) (w_none rfl) rfl rfl (f_move rfl rfl) ?_
        refine EvK.pure (v := .bool (r2.2 == 1)) (w_none rfl) rfl rfl (f_eql rfl rfl rfl) ?_
        refine EvK.pure (v := .bool (r2.2 == 1)) (w_none rfl) rfl rfl (f_move rfl rfl) ?_
        rcases ite_inv hF with ⟨c3, hF⟩ | ⟨c3, hF⟩
        · refine EvK.pure (v := .int .i64 a0) (w_some rfl rfl c3) rfl rfl (f_move rfl rfl) ?_
          refine EvK.pure (v := .bool (decide (a0 < 1))) (w_some rfl rfl c3) rfl rfl (f_lss rfl rfl rfl) ?_
          refine EvK.pure (v := .bool (decide (a0 < 1))) (w_some rfl rfl c3) rfl rfl (f_move rfl rfl) ?_
          rcases ite_inv hF with ⟨c4, hF⟩ | ⟨c4, hF⟩
          · refine EvK.not (w_not rfl rfl c4) rfl rfl ?_
            refine EvK.not (w_not rfl rfl c4) rfl rfl ?_
            refine EvK.pure (v := .bool true) (w_some rfl rfl c3) rfl rfl (f_pickT rfl rfl c4 rfl) ?_
            refine EvK.pure (v := .bool true) (w_none rfl) rfl rfl (f_pickT rfl rfl c3 rfl) ?_
            refine EvK.pure (v := .bool true) (w_none rfl) rfl rfl (f_assign rfl rfl) ?_
            refine EvK.nil ?_
            exact KE.mk true ⟨rfl, trivial⟩ hF
          · refine EvK.pure (v := .int .i64 a0) (w_some rfl rfl c4) rfl rfl (f_move rfl rfl) ?_
            refine EvK.pure (v := .bool (decide (a0 > 1024))) (w_some rfl rfl c4) rfl rfl (f_gtr rfl rfl rfl) ?_
            refine EvK.pure (v := .bool (decide (a0 > 1024))) (w_some rfl rfl c3) rfl rfl (f_pickF rfl rfl c4 rfl) ?_
            refine EvK.pure (v := .bool (decide (a0 > 1024))) (w_none rfl) rfl rfl (f_pickT rfl rfl c3 rfl) ?_
            refine EvK.pure (v := .bool (decide (a0 > 1024))) (w_none rfl) rfl rfl (f_assign rfl rfl) ?_
            refine EvK.nil ?_
            exact KE.mk (decide (a0 > 1024)) ⟨rfl, trivial⟩ hF
        · refine EvK.not (w_not rfl rfl c3) rfl rfl ?_
          refine EvK.not (w_not rfl rfl c3) rfl rfl ?_
          refine EvK.not (w_not rfl rfl c3) rfl rfl ?_
          refine EvK.not (w_undef rfl rfl) rfl rfl ?_
          refine EvK.not (w_undef rfl rfl) rfl rfl ?_
          refine EvK.not (w_not rfl rfl c3) rfl rfl ?_
          refine EvK.pure (v := .bool false) (w_none rfl) rfl rfl (f_pickF rfl rfl c3 rfl) ?_
          refine EvK.pure (v := .bool false) (w_none rfl) rfl rfl (f_assign rfl rfl) ?_
          refine EvK.nil ?_
          exact KE.mk false ⟨rfl, trivial⟩ hF
    · refine WP.cond_false _ rfl c2 ?_
      refine WP.skip ?_
      refine WP.seq ?_
      refine WP.region ?_
      refine EvK.pure (v := Sl.val Sl.nil) (w_none rfl) rfl rfl (f_assign rfl rfl) ?_
      refine EvK.nil ?_
      refine WP.joinF (fun (s2 : Unit) => []) hF ?_ ?_
      · intro s2 E0 h4 hF
        refine WP.seq ?_
        refine WP.region ?_
        refine EvK.pure (v := .bool true) (w_none rfl) rfl rfl (f_assign rfl rfl) ?_
        refine EvK.nil ?_
        refine WP.ret ?_
        exact Ret.mk (vs := [.bool true]) true ⟨rfl, trivial⟩ rfl hF
      · intro k2 hF
        refine WP.seq ?_
        refine WP.region ?_
        refine EvK.pure (v := .int .i64 0) (w_none rfl) rfl rfl (f_assign rfl rfl) ?_
        refine EvK.nil ?_
        refine WP.block ?_
        refine WP.loopF (fun (s3 : Sl × Int) => [(7, Sl.val s3.1), (8, .int .i64 s3.2), (1, Sl.val a1), (5, .pointer r2.1)]) hF ⟨rfl, rfl, rfl, rfl, trivial⟩ ?_
        intro k3 s3 E0 h5 hF
        refine WP.seq ?_
        refine WP.joinF (fun (s4 : Bool) => [(45, .bool s4), (1, Sl.val a1), (5, .pointer r2.1), (7, Sl.val s3.1), (8, .int .i64 s3.2)]) hF ?_ ?_
        · intro s4 E0 h6 hF
          rcases ite_inv hF with ⟨c5, hF⟩ | ⟨c5, hF⟩
          · refine WP.cond_true _ rfl c5 ?_
            refine WP.skip ?_
            refine WP.joinF (fun (s5 : Sl) => [(7, Sl.val s5), (1, Sl.val a1), (5, .pointer r2.1), (8, .int .i64 s3.2)]) hF ?_ ?_
            · intro s5 E0 h7 hF
              refine WP.region ?_
              refine EvK.pure (v := .int .i64 s3.2) (w_none rfl) rfl rfl (f_move rfl rfl) ?_
              refine EvK.pure (v := .int .i64 (IntKind.i64.wrap (s3.2 + 1))) (w_none rfl) rfl rfl (f_add rfl rfl rfl) ?_
              refine EvK.pure (v := .int .i64 (IntKind.i64.wrap (s3.2 + 1))) (w_none rfl) rfl rfl (f_assign rfl rfl) ?_
              refine EvK.nil ?_
              exact KE.mk (s5, IntKind.i64.wrap (s3.2 + 1)) ⟨rfl, rfl, rfl, rfl, trivial⟩ hF
            · intro k5 hF
              refine WP.block ?_
              refine WP.seq ?_
              refine WP.region ?_
              refine EvK.pure (v := Sl.val a1) (w_none rfl) rfl rfl (f_move rfl rfl) ?_
              refine EvK.pure (v := .int .i64 s3.2) (w_none rfl) rfl rfl (f_move rfl rfl) ?_
              obtain ⟨q1, hq1, hF⟩ := hF
              refine EvK.pure (v := .pointer (some q1)) (w_none rfl) rfl rfl (f_indexAddr (s := a1) Try.underlying47 ty53.size rfl rfl rfl hq1) ?_
              obtain ⟨x1, hx1, hF⟩ := hF
              refine EvK.read (v := k52.val x1) (w_none rfl) rfl rfl (f_load k52 ty53 rfl rfl hx1 rfl) ?_
              refine EvK.alloc (w_none rfl) rfl rfl (f_allocF zero53 rfl rfl hF) ?_
              rintro _ h8 ⟨q2, rfl, hF⟩
              obtain ⟨h9, hs1, hF⟩ := hF
              refine EvK.runN (w_none rfl) rfl (f_store k52 ty53.size (z := x1) rfl rfl rfl hs1) ?_
              rintro _ _ ⟨rfl, rfl⟩
              refine EvK.nil ?_
              refine WP.seq ?_
              refine WP.region ?_
              refine EvK.pure (v := Sl.val s3.1) (w_none rfl) rfl rfl (f_move rfl rfl) ?_
              refine EvK.pure (v := .pointer (some (q2.add 1))) (w_none rfl) rfl rfl (f_fieldAddr fd53_1 rfl rfl) ?_
              obtain ⟨x2, hx2, hF⟩ := hF
              refine EvK.read (v := .int .i64 x2) (w_none rfl) rfl rfl (f_load (kI .i64) ty3 rfl rfl hx2 rfl) ?_
              refine EvK.call (w_none rfl) rfl rfl (enterH Try.func24 rfl rfl rfl rfl (spatelaw11_find.sound hF)) ?_
              rintro _ h10 ⟨r3, rfl, hF⟩
              refine EvK.pure (v := .int .i64 r3) (w_none rfl) rfl rfl (f_assign rfl rfl) ?_
              refine EvK.nil ?_
              refine WP.joinF (fun (s6 : Sl) => [(7, Sl.val s6), (1, Sl.val a1), (5, .pointer r2.1), (8, .int .i64 s3.2)]) hF ?_ ?_
              · intro s6 E0 h11 hF
                refine WP.joinF (fun (s7 : Bool) => [(183, .bool s7), (1, Sl.val a1), (5, .pointer r2.1), (7, Sl.val s6), (8, .int .i64 s3.2)]) hF ?_ ?_
                · intro s7 E0 h12 hF
                  rcases ite_inv hF with ⟨c6, hF⟩ | ⟨c6, hF⟩
                  · refine WP.cond_true _ rfl c6 ?_
                    refine WP.seq ?_
                    refine WP.region ?_
                    refine EvK.pure (v := .bool false) (w_none rfl) rfl rfl (f_assign rfl rfl) ?_
                    refine EvK.nil ?_
                    refine WP.ret ?_
                    exact Ret.mk (vs := [.bool false]) false ⟨rfl, trivial⟩ rfl hF
                  · refine WP.cond_false _ rfl c6 ?_
                    refine WP.skip ?_
                    exact KE.mk s6 ⟨rfl, rfl, rfl, rfl, trivial⟩ hF
                · intro k7 hF
                  refine WP.region ?_
                  refine EvK.pure (v := Sl.val s6) (w_none rfl) rfl rfl (f_move rfl rfl) ?_
                  refine EvK.call (w_none rfl) rfl rfl (enterH Try.func29 rfl rfl rfl rfl (spatelaw11_fair.sound hF)) ?_
                  rintro _ h13 ⟨r4, rfl, hF⟩
                  refine EvK.pure (v := .bool (!r4)) (w_none rfl) rfl rfl (f_not rfl rfl) ?_
                  refine EvK.pure (v := .bool (!r4)) (w_none rfl) rfl rfl (f_move rfl rfl) ?_
                  rcases ite_inv hF with ⟨c7, hF⟩ | ⟨c7, hF⟩
                  · refine EvK.not (w_not rfl rfl c7) rfl rfl ?_
                    refine EvK.not (w_not rfl rfl c7) rfl rfl ?_
                    refine EvK.not (w_not rfl rfl c7) rfl rfl ?_
                    refine EvK.not (w_not rfl rfl c7) rfl rfl ?_
                    refine EvK.not (w_not rfl rfl c7) rfl rfl ?_
                    refine EvK.not (w_not rfl rfl c7) rfl rfl ?_
                    refine EvK.pure (v := .bool true) (w_none rfl) rfl rfl (f_pickT rfl rfl c7 rfl) ?_
                    refine EvK.pure (v := .bool true) (w_none rfl) rfl rfl (f_move rfl rfl) ?_
                    refine EvK.not (w_not rfl rfl rfl) rfl rfl ?_
                    refine EvK.not (w_not rfl rfl rfl) rfl rfl ?_
                    refine EvK.not (w_not rfl rfl rfl) rfl rfl ?_
                    refine EvK.not (w_not rfl rfl rfl) rfl rfl ?_
                    refine EvK.pure (v := .bool true) (w_none rfl) rfl rfl (f_pickT rfl rfl rfl rfl) ?_
                    refine EvK.nil ?_
                    exact KE.mk true ⟨rfl, rfl, rfl, rfl, rfl, trivial⟩ hF
                  · refine EvK.pure (v := .pointer r2.1) (w_some rfl rfl c7) rfl rfl (f_move rfl rfl) ?_
                    refine EvK.call (w_some rfl rfl c7) rfl rfl (enterH Try.func20 rfl rfl rfl rfl (locks_Manager_Queue.sound hF)) ?_
                    rintro _ h14 ⟨r5, rfl, hF⟩
                    refine EvK.pure (v := Sl.val s6) (w_some rfl rfl c7) rfl rfl (f_move rfl rfl) ?_
                    refine EvK.call (w_some rfl rfl c7) rfl rfl (enterH Try.func30 rfl rfl rfl rfl (spatelaw11_queue.sound hF)) ?_
                    rintro _ h15 ⟨r6, rfl, hF⟩
                    refine EvK.call (w_some rfl rfl c7) rfl rfl (enterH Try.func19 rfl rfl rfl rfl (spatelaw11_SameInts.sound hF)) ?_
                    rintro _ h16 ⟨r7, rfl, hF⟩
                    refine EvK.pure (v := .bool (!r7)) (w_some rfl rfl c7) rfl rfl (f_not rfl rfl) ?_
                    refine EvK.pure (v := .bool (!r7)) (w_none rfl) rfl rfl (f_pickF rfl rfl c7 rfl) ?_
                    refine EvK.pure (v := .bool (!r7)) (w_none rfl) rfl rfl (f_move rfl rfl) ?_
                    rcases ite_inv hF with ⟨c8, hF⟩ | ⟨c8, hF⟩
                    · refine EvK.not (w_not rfl rfl c8) rfl rfl ?_
                      refine EvK.not (w_not rfl rfl c8) rfl rfl ?_
                      refine EvK.not (w_not rfl rfl c8) rfl rfl ?_
                      refine EvK.not (w_not rfl rfl c8) rfl rfl ?_
                      refine EvK.pure (v := .bool true) (w_none rfl) rfl rfl (f_pickT rfl rfl c8 rfl) ?_
                      refine EvK.nil ?_
                      exact KE.mk true ⟨rfl, rfl, rfl, rfl, rfl, trivial⟩ hF
                    · refine EvK.pure (v := .pointer r2.1) (w_some rfl rfl c8) rfl rfl (f_move rfl rfl) ?_
                      refine EvK.pure (v := Sl.val s6) (w_some rfl rfl c8) rfl rfl (f_move rfl rfl) ?_
                      refine EvK.call (w_some rfl rfl c8) rfl rfl (enterH Try.func31 rfl rfl rfl rfl (spatelaw11_says.sound hF)) ?_
                      rintro _ h17 ⟨r8, rfl, hF⟩
                      refine EvK.pure (v := .bool (!r8)) (w_some rfl rfl c8) rfl rfl (f_not rfl rfl) ?_
                      refine EvK.pure (v := .bool (!r8)) (w_none rfl) rfl rfl (f_pickF rfl rfl c8 rfl) ?_
                      refine EvK.nil ?_
                      exact KE.mk (!r8) ⟨rfl, rfl, rfl, rfl, rfl, trivial⟩ hF
              · intro k6 hF
                refine WP.seq ?_
                refine WP.region ?_
                refine EvK.pure (v := .pointer (some (q2.add 0))) (w_none rfl) rfl rfl (f_fieldAddr fd53_0 rfl rfl) ?_
                obtain ⟨x3, hx3, hF⟩ := hF
                refine EvK.read (v := .int .i64 x3) (w_none rfl) rfl rfl (f_load (kI .i64) ty3 rfl rfl hx3 rfl) ?_
                refine EvK.nil ?_
                refine WP.block ?_
                refine WP.seq ?_
                refine WP.region ?_
                refine EvK.pure (v := .bool (x3 == 1)) (w_none rfl) rfl rfl (f_eql rfl rfl rfl) ?_
                refine EvK.pure (v := .bool (x3 == 1)) (w_none rfl) rfl rfl (f_assign rfl rfl) ?_
                refine EvK.nil ?_
                rcases ite_inv hF with ⟨c9, hF⟩ | ⟨c9, hF⟩
                · refine WP.cond_true _ rfl c9 ?_
                  refine WP.seq ?_
                  refine WP.region ?_
                  refine EvK.pure (v := .pointer (some (q2.add 2))) (w_none rfl) rfl rfl (f_fieldAddr fd53_2 rfl rfl) ?_
                  obtain ⟨x4, hx4, hF⟩ := hF
                  refine EvK.read (v := Sl.val x4) (w_none rfl) rfl rfl (f_load kL ty30 rfl rfl hx4 rfl) ?_
                  refine EvK.call (w_none rfl) rfl rfl (enterH Try.func25 rfl rfl rfl rfl (spatelaw11_set.sound hF)) ?_
                  rintro _ h18 ⟨r9, rfl, hF⟩
                  refine EvK.pure (v := Sl.val r9) (w_none rfl) rfl rfl (f_assign rfl rfl) ?_
                  refine EvK.nil ?_
                  refine WP.seq ?_
                  refine WP.region ?_
                  refine EvK.pure (v := .pointer r2.1) (w_none rfl) rfl rfl (f_move rfl rfl) ?_
                  refine EvK.pure (v := .pointer (some (q2.add 1))) (w_none rfl) rfl rfl (f_fieldAddr fd53_1 rfl rfl) ?_
                  obtain ⟨x5, hx5, hF⟩ := hF
                  refine EvK.read (v := .int .i64 x5) (w_none rfl) rfl rfl (f_load (kI .i64) ty3 rfl rfl hx5 rfl) ?_
                  refine EvK.pure (v := Sl.val r9) (w_none rfl) rfl rfl (f_move rfl rfl) ?_
                  refine EvK.call (w_none rfl) rfl rfl (enterH Try.func14 rfl rfl rfl rfl (locks_Manager_Ask.sound hF)) ?_
                  rintro _ h19 ⟨r10, rfl, hF⟩
                  refine EvK.pure (v := .tuple #[.bool r10.1, IF.val r10.2]) (w_none rfl) rfl rfl (f_move rfl rfl) ?_
                  refine EvK.pure (v := .bool r10.1) (w_none rfl) rfl rfl (f_extract (vs := #[.bool r10.1, IF.val r10.2]) rfl rfl rfl) ?_
                  refine EvK.pure (v := IF.val r10.2) (w_none rfl) rfl rfl (f_extract (vs := #[.bool r10.1, IF.val r10.2]) rfl rfl rfl) ?_
                  refine EvK.pure (v := .bool r10.1) (w_none rfl) rfl rfl (f_assign rfl rfl) ?_
                  refine EvK.pure (v := IF.val r10.2) (w_none rfl) rfl rfl (f_assign rfl rfl) ?_
                  refine EvK.nil ?_
                  refine WP.seq ?_
                  refine WP.seq ?_
                  refine WP.region ?_
                  refine EvK.pure (v := IF.val r10.2) (w_none rfl) rfl rfl (f_move rfl rfl) ?_
                  refine EvK.pure (v := .bool (!r10.2.isNone)) (w_none rfl) rfl rfl (f_ineqn (a := r10.2) Try.underlying37 rfl rfl) ?_
                  refine EvK.nil ?_
                  rcases ite_inv hF with ⟨c10, hF⟩ | ⟨c10, hF⟩
                  · refine WP.cond_true _ rfl c10 ?_
                    refine WP.seq ?_
                    refine WP.seq ?_
                    refine WP.region ?_
                    refine EvK.pure (v := .bool r10.1) (w_none rfl) rfl rfl (f_move rfl rfl) ?_
                    refine EvK.nil ?_
                    rcases ite_inv hF with ⟨c11, hF⟩ | ⟨c11, hF⟩
                    · refine WP.cond_true _ rfl c11 ?_
                      refine WP.seq ?_
                      refine WP.region ?_
                      refine EvK.pure (v := .bool false) (w_none rfl) rfl rfl (f_assign rfl rfl) ?_
                      refine EvK.nil ?_
                      refine WP.ret ?_
                      exact Ret.mk (vs := [.bool false]) false ⟨rfl, trivial⟩ rfl hF
                    · refine WP.cond_false _ rfl c11 ?_
                      refine WP.skip ?_
                      refine WP.exit ?_
                      exact KE.mk s3.1 ⟨rfl, rfl, rfl, rfl, trivial⟩ hF
                  · refine WP.cond_false _ rfl c10 ?_
                    refine WP.skip ?_
                    refine WP.seq ?_
                    refine WP.seq ?_
                    refine WP.region ?_
                    refine EvK.pure (v := .int .i64 r3) (w_none rfl) rfl rfl (f_move rfl rfl) ?_
                    refine EvK.pure (v := .bool (decide (r3 ≥ 0))) (w_none rfl) rfl rfl (f_geq rfl rfl rfl) ?_
                    refine EvK.nil ?_
                    rcases ite_inv hF with ⟨c12, hF⟩ | ⟨c12, hF⟩
                    · refine WP.cond_true _ rfl c12 ?_
                      refine WP.seq ?_
                      refine WP.region ?_
                      refine EvK.pure (v := .bool false) (w_none rfl) rfl rfl (f_assign rfl rfl) ?_
                      refine EvK.nil ?_
                      refine WP.ret ?_
                      exact Ret.mk (vs := [.bool false]) false ⟨rfl, trivial⟩ rfl hF
                    · refine WP.cond_false _ rfl c12 ?_
                      refine WP.skip ?_
                      refine WP.seq ?_
                      refine WP.region ?_
                      refine EvK.pure (v := .bool false) (w_none rfl) rfl rfl (f_assign rfl rfl) ?_
                      refine EvK.nil ?_
                      refine WP.joinF (fun (s8 : Bool) => [(14, .bool s8), (1, Sl.val a1), (5, .pointer r2.1), (7, Sl.val s3.1), (8, .int .i64 s3.2), (9, .pointer (some q2)), (11, Sl.val r9), (12, .bool r10.1)]) hF ?_ ?_
                      · intro s8 E0 h20 hF
                        refine WP.seq ?_
                        refine WP.seq ?_
                        refine WP.region ?_
                        refine EvK.pure (v := .bool r10.1) (w_none rfl) rfl rfl (f_move rfl rfl) ?_
                        refine EvK.pure (v := .bool s8) (w_none rfl) rfl rfl (f_move rfl rfl) ?_
                        refine EvK.pure (v := .bool (r10.1 == s8)) (w_none rfl) rfl rfl (f_beql Try.underlying4 rfl rfl rfl) ?_
                        refine EvK.nil ?_
                        rcases ite_inv hF with ⟨c13, hF⟩ | ⟨c13, hF⟩
                        · refine WP.cond_true _ rfl c13 ?_
                          refine WP.seq ?_
                          refine WP.region ?_
                          refine EvK.pure (v := .bool false) (w_none rfl) rfl rfl (f_assign rfl rfl) ?_
                          refine EvK.nil ?_
                          refine WP.ret ?_
                          exact Ret.mk (vs := [.bool false]) false ⟨rfl, trivial⟩ rfl hF
                        · refine WP.cond_false _ rfl c13 ?_
                          refine WP.skip ?_
                          refine WP.draw mixed [.pure, .pure, .read, .alloc, .pure, .eff [2], .pure, .pure, .alloc, .eff [], .pure] [[], [], [1], [], [], [3, 4], [], [1, 2, 3, 4, 5, 6], [1, 2, 3, 4, 5, 6, 7], [0, 1, 2, 3, 4, 5, 6, 7, 8], [0, 1, 2, 3, 4, 5, 6, 7, 8, 9]] [0, 1, 2, 4, 6, 3, 5, 7, 8, 9, 10] (by kernel_rfl) (by kernel_rfl) ?_
                          refine EvI.pure (v := Sl.val s3.1) rfl rfl (w_none rfl) rfl (f_move rfl rfl) ?_
                          refine EvI.pure (v := .pointer (some (q2.add 1))) rfl rfl (w_none rfl) rfl (f_fieldAddr fd53_1 rfl rfl) ?_
                          obtain ⟨x6, hx6, hF⟩ := hF
                          refine EvI.read (v := .int .i64 x6) rfl rfl (w_none rfl) rfl (f_load (kI .i64) ty3 rfl rfl hx6 rfl) ?_
                          refine EvI.pure (v := Sl.val r9) rfl rfl (w_none rfl) rfl (f_move rfl rfl) ?_
                          refine EvI.pure (v := .bool r10.1) rfl rfl (w_none rfl) rfl (f_move rfl rfl) ?_
                          refine EvI.alloc rfl rfl (w_none rfl) rfl (f_buildSliceF Try.underlying30 el32 (by decide) rfl rfl rfl hF) ?_
                          rintro _ h21 ⟨x7, rfl, hF⟩
                          refine EvI.run rfl rfl (w_none rfl) rfl (f_appendE (s := x7) (x := r9) Try.underlying30 el32 rfl rfl rfl hF) ?_
                          rintro _ h22 ⟨x8, rfl, hF⟩
                          obtain ⟨hy1, hF⟩ := hF
                          refine ⟨⟨chk_yes rfl (f_load (kI .i64) ty3 rfl rfl hy1 rfl), trivial⟩, ?_⟩
                          refine EvI.pure (v := k34.val (S34.mk x6 x8 r10.1)) rfl rfl (w_none rfl) rfl (f_build (cells := k34.enc (S34.mk x6 x8 r10.1)) st35 rfl rfl rfl) ?_
                          refine EvI.alloc rfl rfl (w_none rfl) rfl (f_buildSliceF Try.underlying29 el35 (by decide) rfl rfl rfl hF) ?_
                          rintro _ h23 ⟨x9, rfl, hF⟩
                          refine EvI.run rfl rfl (w_none rfl) rfl (f_appendE (s := s3.1) (x := x9) Try.underlying29 el35 rfl rfl rfl hF) ?_
                          rintro _ h24 ⟨x10, rfl, hF⟩
                          refine ⟨⟨chk_no rfl, trivial⟩, ?_⟩
                          refine EvI.pure (v := Sl.val x10) rfl rfl (w_none rfl) rfl (f_assign rfl rfl) ?_
                          refine EvI.nil ?_
                          exact KE.mk x10 ⟨rfl, rfl, rfl, rfl, trivial⟩ hF
                      · intro k8 hF
                        refine WP.seq ?_
                        refine WP.region ?_
                        refine EvK.pure (v := .int .i64 0) (w_none rfl) rfl rfl (f_assign rfl rfl) ?_
                        refine EvK.nil ?_
                        refine WP.block ?_
                        refine WP.loopF (fun (s9 : Bool × Int) => [(14, .bool s9.1), (15, .int .i64 s9.2), (1, Sl.val a1), (5, .pointer r2.1), (7, Sl.val s3.1), (8, .int .i64 s3.2), (9, .pointer (some q2)), (11, Sl.val r9), (12, .bool r10.1)]) hF ⟨rfl, rfl, rfl, rfl, rfl, rfl, rfl, rfl, rfl, trivial⟩ ?_
                        intro k9 s9 E0 h25 hF
                        refine WP.seq ?_
                        refine WP.seq ?_
                        refine WP.region ?_
                        refine EvK.pure (v := .int .i64 s9.2) (w_none rfl) rfl rfl (f_move rfl rfl) ?_
                        refine EvK.pure (v := Sl.val s3.1) (w_none rfl) rfl rfl (f_move rfl rfl) ?_
                        refine EvK.pure (v := .int .i64 (s3.1.len : Int)) (w_none rfl) rfl rfl (f_lenL (s := s3.1) Try.underlying29 rfl rfl) ?_
                        refine EvK.pure (v := .bool (decide (s9.2 < (s3.1.len : Int)))) (w_none rfl) rfl rfl (f_lss rfl rfl rfl) ?_
                        refine EvK.nil ?_
                        rcases ite_inv hF with ⟨c14, hF⟩ | ⟨c14, hF⟩
                        · refine WP.cond_true _ rfl c14 ?_
                          refine WP.skip ?_
                          refine WP.joinF (fun (s10 : Bool) => [(14, .bool s10), (1, Sl.val a1), (5, .pointer r2.1), (7, Sl.val s3.1), (8, .int .i64 s3.2), (9, .pointer (some q2)), (11, Sl.val r9), (12, .bool r10.1), (15, .int .i64 s9.2)]) hF ?_ ?_
                          · intro s10 E0 h26 hF
                            refine WP.region ?_
                            refine EvK.pure (v := .int .i64 s9.2) (w_none rfl) rfl rfl (f_move rfl rfl) ?_
                            refine EvK.pure (v := .int .i64 (IntKind.i64.wrap (s9.2 + 1))) (w_none rfl) rfl rfl (f_add rfl rfl rfl) ?_
                            refine EvK.pure (v := .int .i64 (IntKind.i64.wrap (s9.2 + 1))) (w_none rfl) rfl rfl (f_assign rfl rfl) ?_
                            refine EvK.nil ?_
                            exact KE.mk (s10, IntKind.i64.wrap (s9.2 + 1)) ⟨rfl, rfl, rfl, rfl, rfl, rfl, rfl, rfl, rfl, trivial⟩ hF
                          · intro k10 hF
                            refine WP.block ?_
                            refine WP.region ?_
                            refine EvK.pure (v := .bool s9.1) (w_none rfl) rfl rfl (f_move rfl rfl) ?_
                            refine EvK.pure (v := .bool s9.1) (w_none rfl) rfl rfl (f_move rfl rfl) ?_
                            rcases ite_inv hF with ⟨c15, hF⟩ | ⟨c15, hF⟩
                            · refine EvK.not (w_not rfl rfl c15) rfl rfl ?_
                              refine EvK.not (w_not rfl rfl c15) rfl rfl ?_
                              refine EvK.not (w_not rfl rfl c15) rfl rfl ?_
                              refine EvK.not (w_not rfl rfl c15) rfl rfl ?_
                              refine EvK.not (w_not rfl rfl c15) rfl rfl ?_
                              refine EvK.not (w_not rfl rfl c15) rfl rfl ?_
                              refine EvK.not (w_not rfl rfl c15) rfl rfl ?_
                              refine EvK.pure (v := .bool true) (w_none rfl) rfl rfl (f_pickT rfl rfl c15 rfl) ?_
                              refine EvK.pure (v := .bool true) (w_none rfl) rfl rfl (f_assign rfl rfl) ?_
                              refine EvK.nil ?_
                              exact KE.mk true ⟨rfl, rfl, rfl, rfl, rfl, rfl, rfl, rfl, rfl, trivial⟩ hF
                            · refine EvK.pure (v := Sl.val s3.1) (w_some rfl rfl c15) rfl rfl (f_move rfl rfl) ?_
                              refine EvK.pure (v := .int .i64 s9.2) (w_some rfl rfl c15) rfl rfl (f_move rfl rfl) ?_
                              obtain ⟨q3, hq2, hF⟩ := hF
                              refine EvK.pure (v := .pointer (some q3)) (w_some rfl rfl c15) rfl rfl (f_indexAddr (s := s3.1) Try.underlying29 ty35.size rfl rfl rfl hq2) ?_
                              refine EvK.pure (v := .pointer (some (q3.add 1))) (w_some rfl rfl c15) rfl rfl (f_fieldAddr fd35_1 rfl rfl) ?_
                              obtain ⟨x11, hx7, hF⟩ := hF
                              refine EvK.read (v := Sl.val x11) (w_some rfl rfl c15) rfl rfl (f_load kL ty30 rfl rfl hx7 rfl) ?_
                              refine EvK.pure (v := Sl.val r9) (w_some rfl rfl c15) rfl rfl (f_move rfl rfl) ?_
                              refine EvK.call (w_some rfl rfl c15) rfl rfl (enterH Try.func26 rfl rfl rfl rfl (spatelaw11_conflict.sound hF)) ?_
                              rintro _ h27 ⟨r11, rfl, hF⟩
                              refine EvK.pure (v := .bool r11) (w_none rfl) rfl rfl (f_pickF rfl rfl c15 rfl) ?_
                              refine EvK.pure (v := .bool r11) (w_none rfl) rfl rfl (f_assign rfl rfl) ?_
                              refine EvK.nil ?_
                              exact KE.mk r11 ⟨rfl, rfl, rfl, rfl, rfl, rfl, rfl, rfl, rfl, trivial⟩ hF
                        · refine WP.cond_false _ rfl c14 ?_
                          refine WP.exit ?_
                          exact KE.mk s9.1 ⟨rfl, rfl, rfl, rfl, rfl, rfl, rfl, rfl, trivial⟩ hF
                · refine WP.cond_false _ rfl c9 ?_
                  refine WP.seq ?_
                  refine WP.region ?_
                  refine EvK.pure (v := .bool (x3 == 2)) (w_none rfl) rfl rfl (f_eql rfl rfl rfl) ?_
                  refine EvK.pure (v := .bool (x3 == 2)) (w_none rfl) rfl rfl (f_assign rfl rfl) ?_
                  refine EvK.nil ?_
                  rcases ite_inv hF with ⟨c16, hF⟩ | ⟨c16, hF⟩
                  · refine WP.cond_true _ rfl c16 ?_
                    refine WP.seq ?_
                    refine WP.region ?_
                    refine EvK.pure (v := .pointer r2.1) (w_none rfl) rfl rfl (f_move rfl rfl) ?_
                    refine EvK.pure (v := .pointer (some (q2.add 1))) (w_none rfl) rfl rfl (f_fieldAddr fd53_1 rfl rfl) ?_
                    obtain ⟨x12, hx8, hF⟩ := hF
                    refine EvK.read (v := .int .i64 x12) (w_none rfl) rfl rfl (f_load (kI .i64) ty3 rfl rfl hx8 rfl) ?_
                    refine EvK.call (w_none rfl) rfl rfl (enterH Try.func17 rfl rfl rfl rfl (locks_Manager_Free.sound hF)) ?_
                    rintro _ h28 ⟨r13, rfl, hF⟩
                    refine EvK.pure (v := .tuple #[Sl.val r13.1, IF.val r13.2]) (w_none rfl) rfl rfl (f_move rfl rfl) ?_
                    refine EvK.pure (v := Sl.val r13.1) (w_none rfl) rfl rfl (f_extract (vs := #[Sl.val r13.1, IF.val r13.2]) rfl rfl rfl) ?_
                    refine EvK.pure (v := IF.val r13.2) (w_none rfl) rfl rfl (f_extract (vs := #[Sl.val r13.1, IF.val r13.2]) rfl rfl rfl) ?_
                    refine EvK.pure (v := Sl.val r13.1) (w_none rfl) rfl rfl (f_assign rfl rfl) ?_
                    refine EvK.pure (v := IF.val r13.2) (w_none rfl) rfl rfl (f_assign rfl rfl) ?_
                    refine EvK.nil ?_
                    refine WP.seq ?_
                    refine WP.joinF (fun (s11 : Bool) => [(135, .bool s11), (1, Sl.val a1), (5, .pointer r2.1), (7, Sl.val s3.1), (8, .int .i64 s3.2), (10, .int .i64 r3), (16, Sl.val r13.1), (17, IF.val r13.2)]) hF ?_ ?_
                    · intro s11 E0 h29 hF
                      rcases ite_inv hF with ⟨c17, hF⟩ | ⟨c17, hF⟩
                      · refine WP.cond_true _ rfl c17 ?_
                        refine WP.seq ?_
                        refine WP.region ?_
                        refine EvK.pure (v := .bool false) (w_none rfl) rfl rfl (f_assign rfl rfl) ?_
                        refine EvK.nil ?_
                        refine WP.ret ?_
                        exact Ret.mk (vs := [.bool false]) false ⟨rfl, trivial⟩ rfl hF
                      · refine WP.cond_false _ rfl c17 ?_
                        refine WP.skip ?_
                        refine WP.seq ?_
                        refine WP.region ?_
                        refine EvK.pure (v := IF.val r13.2) (w_none rfl) rfl rfl (f_move rfl rfl) ?_
                        refine EvK.pure (v := .bool r13.2.isNone) (w_none rfl) rfl rfl (f_ieqln (a := r13.2) Try.underlying37 rfl rfl) ?_
                        refine EvK.nil ?_
                        rcases ite_inv hF with ⟨c18, hF⟩ | ⟨c18, hF⟩
                        · refine WP.cond_true _ rfl c18 ?_
                          refine WP.seq ?_
                          refine WP.region ?_
                          refine EvK.pure (v := Sl.val s3.1) (w_none rfl) rfl rfl (f_move rfl rfl) ?_
                          refine EvK.pure (v := .int .i64 r3) (w_none rfl) rfl rfl (f_move rfl rfl) ?_
                          refine EvK.call (w_none rfl) rfl rfl (enterH Try.func18 rfl rfl rfl rfl (spatelaw11_without.sound hF)) ?_
                          rintro _ h30 ⟨r14, rfl, hF⟩
                          refine EvK.pure (v := Sl.val r14) (w_none rfl) rfl rfl (f_assign rfl rfl) ?_
                          refine EvK.nil ?_
                          refine WP.seq ?_
                          refine WP.region ?_
                          refine EvK.pure (v := Sl.val r14) (w_none rfl) rfl rfl (f_move rfl rfl) ?_
                          refine EvK.pure (v := Sl.val r13.1) (w_none rfl) rfl rfl (f_move rfl rfl) ?_
                          refine EvK.call (w_none rfl) rfl rfl (enterH Try.func27 rfl rfl rfl rfl (spatelaw11_grant.sound hF)) ?_
                          rintro _ h31 ⟨r15, rfl, hF⟩
                          refine EvK.pure (v := .bool (!r15)) (w_none rfl) rfl rfl (f_not rfl rfl) ?_
                          refine EvK.nil ?_
                          rcases ite_inv hF with ⟨c19, hF⟩ | ⟨c19, hF⟩
                          · refine WP.cond_true _ rfl c19 ?_
                            refine WP.seq ?_
                            refine WP.region ?_
                            refine EvK.pure (v := .bool false) (w_none rfl) rfl rfl (f_assign rfl rfl) ?_
                            refine EvK.nil ?_
                            refine WP.ret ?_
                            exact Ret.mk (vs := [.bool false]) false ⟨rfl, trivial⟩ rfl hF
                          · refine WP.cond_false _ rfl c19 ?_
                            refine WP.skip ?_
                            exact KE.mk r14 ⟨rfl, rfl, rfl, rfl, trivial⟩ hF
                        · refine WP.cond_false _ rfl c18 ?_
                          refine WP.skip ?_
                          exact KE.mk s3.1 ⟨rfl, rfl, rfl, rfl, trivial⟩ hF
                    · intro k11 hF
                      refine WP.draw mixed [.pure, .pure, .pure, .pure, .pure, .pure, .pure, .pure, .pure, .pure, .read, .pure, .pure, .pure, .pure, .pure, .pure, .pure, .pure, .pure, .pure, .pure] [[], [0], [], [2], [2, 3], [2, 3, 4], [2, 3, 4], [2, 3, 4, 6], [2, 3, 4, 5, 6, 7], [2, 3, 4, 5, 6, 7, 8], [2, 3, 4, 5, 6, 7, 8, 9], [2, 3, 4, 5, 6, 7, 8, 9, 10], [0, 1, 2, 3, 4, 5, 6, 7, 8, 9, 10, 11], [0, 1, 2, 3, 4, 5, 6, 7, 8, 9, 10, 11, 12], [0, 1, 2, 3, 4, 5, 6, 7, 8, 9, 10, 11, 12, 13], [0, 1, 2, 3, 4, 5, 6, 7, 8, 9, 10, 11, 12, 13, 14], [0, 1, 2, 3, 4, 5, 6, 7, 8, 9, 10, 11, 12, 13, 14, 15], [0, 1, 2, 3, 4, 5, 6, 7, 8, 9, 10, 11, 12, 13, 14, 15, 16], [0, 1, 2, 3, 4, 5, 6, 7, 8, 9, 10, 11, 12, 13, 14, 15, 16, 17], [0, 1, 2, 3, 4, 5, 6, 7, 8, 9, 10, 11, 12, 13, 14, 15, 16, 17, 18], [0, 1, 2, 3, 4, 5, 6, 7, 8, 9, 10, 11, 12, 13, 14, 15, 16, 17, 18, 19], [0, 1, 2, 3, 4, 5, 6, 7, 8, 9, 10, 11, 12, 13, 14, 15, 16, 17, 18, 19, 20]] [0, 1, 2, 3, 4, 5, 6, 7, 8, 9, 10, 11, 12, 13, 14, 15, 16, 17, 18, 19, 20, 21] (by kernel_rfl) (by kernel_rfl) ?_
                      refine EvI.pure (v := IF.val r13.2) rfl rfl (w_none rfl) rfl (f_move rfl rfl) ?_
                      refine EvI.pure (v := .bool r13.2.isNone) rfl rfl (w_none rfl) rfl (f_ieqln (a := r13.2) Try.underlying37 rfl rfl) ?_
                      refine EvI.pure (v := .int .i64 r3) rfl rfl (w_none rfl) rfl (f_move rfl rfl) ?_
                      refine EvI.pure (v := .bool (decide (r3 ≥ 0))) rfl rfl (w_none rfl) rfl (f_geq rfl rfl rfl) ?_
                      refine EvI.pure (v := .bool (decide (r3 ≥ 0))) rfl rfl (w_none rfl) rfl (f_move rfl rfl) ?_
                      rcases ite_inv hF with ⟨c20, hF⟩ | ⟨c20, hF⟩
                      · refine EvI.pure (v := Sl.val s3.1) rfl rfl (w_some rfl rfl c20) rfl (f_move rfl rfl) ?_
                        refine EvI.pure (v := .int .i64 r3) rfl rfl (w_some rfl rfl c20) rfl (f_move rfl rfl) ?_
                        refine EvI.pure (v := .int .i64 (if 0 > r3 then 0 else r3)) rfl rfl (w_some rfl rfl c20) rfl (f_max2 rfl rfl rfl) ?_
                        obtain ⟨q4, hq3, hF⟩ := hF
                        refine EvI.pure (v := .pointer (some q4)) rfl rfl (w_some rfl rfl c20) rfl (f_indexAddr (s := s3.1) Try.underlying29 ty35.size rfl rfl rfl hq3) ?_
                        refine EvI.pure (v := .pointer (some (q4.add 2))) rfl rfl (w_some rfl rfl c20) rfl (f_fieldAddr fd35_2 rfl rfl) ?_
                        obtain ⟨x13, hx9, hF⟩ := hF
                        refine EvI.read (v := .bool x13) rfl rfl (w_some rfl rfl c20) rfl (f_load kB ty4 rfl rfl hx9 rfl) ?_
                        refine EvI.pure (v := .bool x13) rfl rfl (w_none rfl) rfl (f_pickT rfl rfl c20 rfl) ?_
                        refine EvI.pure (v := .bool (!(r13.2.isNone == x13))) rfl rfl (w_none rfl) rfl (f_bneq Try.underlying4 rfl rfl rfl) ?_
                        refine EvI.pure (v := .bool (!(r13.2.isNone == x13))) rfl rfl (w_none rfl) rfl (f_move rfl rfl) ?_
                        rcases ite_inv hF with ⟨c21, hF⟩ | ⟨c21, hF⟩
                        · refine EvI.not rfl (w_not rfl rfl c21) rfl ?_
                          refine EvI.not rfl (w_not rfl rfl c21) rfl ?_
                          refine EvI.not rfl (w_not rfl rfl c21) rfl ?_
                          refine EvI.not rfl (w_undef rfl rfl) rfl ?_
                          refine EvI.not rfl (w_undef rfl rfl) rfl ?_
                          refine EvI.not rfl (w_undef rfl rfl) rfl ?_
                          refine EvI.not rfl (w_not rfl rfl c21) rfl ?_
                          refine EvI.pure (v := .bool true) rfl rfl (w_none rfl) rfl (f_pickT rfl rfl c21 rfl) ?_
                          refine EvI.nil ?_
                          exact KE.mk true ⟨rfl, rfl, rfl, rfl, rfl, rfl, rfl, rfl, trivial⟩ hF
                        · refine EvI.pure (v := IF.val r13.2) rfl rfl (w_some rfl rfl c21) rfl (f_move rfl rfl) ?_
                          refine EvI.pure (v := .bool (!r13.2.isNone)) rfl rfl (w_some rfl rfl c21) rfl (f_ineqn (a := r13.2) Try.underlying37 rfl rfl) ?_
                          refine EvI.pure (v := .bool (!r13.2.isNone)) rfl rfl (w_some rfl rfl c21) rfl (f_move rfl rfl) ?_
                          rcases ite_inv hF with ⟨c22, hF⟩ | ⟨c22, hF⟩
                          · refine EvI.pure (v := Sl.val r13.1) rfl rfl (w_some rfl rfl c22) rfl (f_move rfl rfl) ?_
                            refine EvI.pure (v := .int .i64 (r13.1.len : Int)) rfl rfl (w_some rfl rfl c22) rfl (f_lenL (s := r13.1) Try.underlying22 rfl rfl) ?_
                            refine EvI.pure (v := .bool (decide ((r13.1.len : Int) > 0))) rfl rfl (w_some rfl rfl c22) rfl (f_gtr rfl rfl rfl) ?_
                            refine EvI.pure (v := .bool (decide ((r13.1.len : Int) > 0))) rfl rfl (w_some rfl rfl c21) rfl (f_pickT rfl rfl c22 rfl) ?_
                            refine EvI.pure (v := .bool (decide ((r13.1.len : Int) > 0))) rfl rfl (w_none rfl) rfl (f_pickF rfl rfl c21 rfl) ?_
                            refine EvI.nil ?_
                            exact KE.mk (decide ((r13.1.len : Int) > 0)) ⟨rfl, rfl, rfl, rfl, rfl, rfl, rfl, rfl, trivial⟩ hF
                          · refine EvI.not rfl (w_not rfl rfl c22) rfl ?_
                            refine EvI.not rfl (w_not rfl rfl c22) rfl ?_
                            refine EvI.not rfl (w_not rfl rfl c22) rfl ?_
                            refine EvI.pure (v := .bool false) rfl rfl (w_some rfl rfl c21) rfl (f_pickF rfl rfl c22 rfl) ?_
                            refine EvI.pure (v := .bool false) rfl rfl (w_none rfl) rfl (f_pickF rfl rfl c21 rfl) ?_
                            refine EvI.nil ?_
                            exact KE.mk false ⟨rfl, rfl, rfl, rfl, rfl, rfl, rfl, rfl, trivial⟩ hF
                      · refine EvI.not rfl (w_not rfl rfl c20) rfl ?_
                        refine EvI.not rfl (w_not rfl rfl c20) rfl ?_
                        refine EvI.not rfl (w_not rfl rfl c20) rfl ?_
                        refine EvI.not rfl (w_not rfl rfl c20) rfl ?_
                        refine EvI.not rfl (w_not rfl rfl c20) rfl ?_
                        refine EvI.not rfl (w_not rfl rfl c20) rfl ?_
                        refine EvI.pure (v := .bool false) rfl rfl (w_none rfl) rfl (f_pickF rfl rfl c20 rfl) ?_
                        refine EvI.pure (v := .bool (!(r13.2.isNone == false))) rfl rfl (w_none rfl) rfl (f_bneq Try.underlying4 rfl rfl rfl) ?_
                        refine EvI.pure (v := .bool (!(r13.2.isNone == false))) rfl rfl (w_none rfl) rfl (f_move rfl rfl) ?_
                        rcases ite_inv hF with ⟨c23, hF⟩ | ⟨c23, hF⟩
                        · refine EvI.not rfl (w_not rfl rfl c23) rfl ?_
                          refine EvI.not rfl (w_not rfl rfl c23) rfl ?_
                          refine EvI.not rfl (w_not rfl rfl c23) rfl ?_
                          refine EvI.not rfl (w_undef rfl rfl) rfl ?_
                          refine EvI.not rfl (w_undef rfl rfl) rfl ?_
                          refine EvI.not rfl (w_undef rfl rfl) rfl ?_
                          refine EvI.not rfl (w_not rfl rfl c23) rfl ?_
                          refine EvI.pure (v := .bool true) rfl rfl (w_none rfl) rfl (f_pickT rfl rfl c23 rfl) ?_
                          refine EvI.nil ?_
                          exact KE.mk true ⟨rfl, rfl, rfl, rfl, rfl, rfl, rfl, rfl, trivial⟩ hF
                        · refine EvI.pure (v := IF.val r13.2) rfl rfl (w_some rfl rfl c23) rfl (f_move rfl rfl) ?_
                          refine EvI.pure (v := .bool (!r13.2.isNone)) rfl rfl (w_some rfl rfl c23) rfl (f_ineqn (a := r13.2) Try.underlying37 rfl rfl) ?_
                          refine EvI.pure (v := .bool (!r13.2.isNone)) rfl rfl (w_some rfl rfl c23) rfl (f_move rfl rfl) ?_
                          rcases ite_inv hF with ⟨c24, hF⟩ | ⟨c24, hF⟩
                          · refine EvI.pure (v := Sl.val r13.1) rfl rfl (w_some rfl rfl c24) rfl (f_move rfl rfl) ?_
                            refine EvI.pure (v := .int .i64 (r13.1.len : Int)) rfl rfl (w_some rfl rfl c24) rfl (f_lenL (s := r13.1) Try.underlying22 rfl rfl) ?_
                            refine EvI.pure (v := .bool (decide ((r13.1.len : Int) > 0))) rfl rfl (w_some rfl rfl c24) rfl (f_gtr rfl rfl rfl) ?_
                            refine EvI.pure (v := .bool (decide ((r13.1.len : Int) > 0))) rfl rfl (w_some rfl rfl c23) rfl (f_pickT rfl rfl c24 rfl) ?_
                            refine EvI.pure (v := .bool (decide ((r13.1.len : Int) > 0))) rfl rfl (w_none rfl) rfl (f_pickF rfl rfl c23 rfl) ?_
                            refine EvI.nil ?_
                            exact KE.mk (decide ((r13.1.len : Int) > 0)) ⟨rfl, rfl, rfl, rfl, rfl, rfl, rfl, rfl, trivial⟩ hF
                          · refine EvI.not rfl (w_not rfl rfl c24) rfl ?_
                            refine EvI.not rfl (w_not rfl rfl c24) rfl ?_
                            refine EvI.not rfl (w_not rfl rfl c24) rfl ?_
                            refine EvI.pure (v := .bool false) rfl rfl (w_some rfl rfl c23) rfl (f_pickF rfl rfl c24 rfl) ?_
                            refine EvI.pure (v := .bool false) rfl rfl (w_none rfl) rfl (f_pickF rfl rfl c23 rfl) ?_
                            refine EvI.nil ?_
                            exact KE.mk false ⟨rfl, rfl, rfl, rfl, rfl, rfl, rfl, rfl, trivial⟩ hF
                  · refine WP.cond_false _ rfl c16 ?_
                    refine WP.seq ?_
                    refine WP.region ?_
                    refine EvK.pure (v := .bool (x3 == 3)) (w_none rfl) rfl rfl (f_eql rfl rfl rfl) ?_
                    refine EvK.pure (v := .bool (x3 == 3)) (w_none rfl) rfl rfl (f_assign rfl rfl) ?_
                    refine EvK.nil ?_
                    rcases ite_inv hF with ⟨c25, hF⟩ | ⟨c25, hF⟩
                    · refine WP.cond_true _ rfl c25 ?_
                      refine WP.seq ?_
                      refine WP.region ?_
                      refine EvK.pure (v := .pointer r2.1) (w_none rfl) rfl rfl (f_move rfl rfl) ?_
                      refine EvK.pure (v := .pointer (some (q2.add 1))) (w_none rfl) rfl rfl (f_fieldAddr fd53_1 rfl rfl) ?_
                      obtain ⟨x14, hx10, hF⟩ := hF
                      refine EvK.read (v := .int .i64 x14) (w_none rfl) rfl rfl (f_load (kI .i64) ty3 rfl rfl hx10 rfl) ?_
                      refine EvK.call (w_none rfl) rfl rfl (enterH Try.func28 rfl rfl rfl rfl (locks_Manager_Quit.sound hF)) ?_
                      rintro _ h32 ⟨r16, rfl, hF⟩
                      refine EvK.pure (v := Sl.val r16) (w_none rfl) rfl rfl (f_assign rfl rfl) ?_
                      refine EvK.nil ?_
                      refine WP.seq ?_
                      refine WP.joinF (fun (s12 : Bool) => [(157, .bool s12), (1, Sl.val a1), (5, .pointer r2.1), (7, Sl.val s3.1), (8, .int .i64 s3.2), (10, .int .i64 r3), (18, Sl.val r16)]) hF ?_ ?_
                      · intro s12 E0 h33 hF
                        rcases ite_inv hF with ⟨c26, hF⟩ | ⟨c26, hF⟩
                        · refine WP.cond_true _ rfl c26 ?_
                          refine WP.seq ?_
                          refine WP.region ?_
                          refine EvK.pure (v := .bool false) (w_none rfl) rfl rfl (f_assign rfl rfl) ?_
                          refine EvK.nil ?_
                          refine WP.ret ?_
                          exact Ret.mk (vs := [.bool false]) false ⟨rfl, trivial⟩ rfl hF
                        · refine WP.cond_false _ rfl c26 ?_
                          refine WP.skip ?_
                          refine WP.joinF (fun (s13 : Sl) => [(7, Sl.val s13), (1, Sl.val a1), (5, .pointer r2.1), (8, .int .i64 s3.2), (18, Sl.val r16)]) hF ?_ ?_
                          · intro s13 E0 h34 hF
                            refine WP.seq ?_
                            refine WP.region ?_
                            refine EvK.pure (v := Sl.val s13) (w_none rfl) rfl rfl (f_move rfl rfl) ?_
                            refine EvK.pure (v := Sl.val r16) (w_none rfl) rfl rfl (f_move rfl rfl) ?_
                            refine EvK.call (w_none rfl) rfl rfl (enterH Try.func27 rfl rfl rfl rfl (spatelaw11_grant.sound hF)) ?_
                            rintro _ h35 ⟨r17, rfl, hF⟩
                            refine EvK.pure (v := .bool (!r17)) (w_none rfl) rfl rfl (f_not rfl rfl) ?_
                            refine EvK.nil ?_
                            rcases ite_inv hF with ⟨c27, hF⟩ | ⟨c27, hF⟩
                            · refine WP.cond_true _ rfl c27 ?_
                              refine WP.seq ?_
                              refine WP.region ?_
                              refine EvK.pure (v := .bool false) (w_none rfl) rfl rfl (f_assign rfl rfl) ?_
                              refine EvK.nil ?_
                              refine WP.ret ?_
                              exact Ret.mk (vs := [.bool false]) false ⟨rfl, trivial⟩ rfl hF
                            · refine WP.cond_false _ rfl c27 ?_
                              refine WP.skip ?_
                              exact KE.mk s13 ⟨rfl, rfl, rfl, rfl, trivial⟩ hF
                          · intro k13 hF
                            refine WP.seq ?_
                            refine WP.region ?_
                            refine EvK.pure (v := .int .i64 r3) (w_none rfl) rfl rfl (f_move rfl rfl) ?_
                            refine EvK.pure (v := .bool (decide (r3 ≥ 0))) (w_none rfl) rfl rfl (f_geq rfl rfl rfl) ?_
                            refine EvK.nil ?_
                            rcases ite_inv hF with ⟨c28, hF⟩ | ⟨c28, hF⟩
                            · refine WP.cond_true _ rfl c28 ?_
                              refine WP.region ?_
                              refine EvK.pure (v := Sl.val s3.1) (w_none rfl) rfl rfl (f_move rfl rfl) ?_
                              refine EvK.pure (v := .int .i64 r3) (w_none rfl) rfl rfl (f_move rfl rfl) ?_
                              refine EvK.call (w_none rfl) rfl rfl (enterH Try.func18 rfl rfl rfl rfl (spatelaw11_without.sound hF)) ?_
                              rintro _ h36 ⟨r18, rfl, hF⟩
                              refine EvK.pure (v := Sl.val r18) (w_none rfl) rfl rfl (f_assign rfl rfl) ?_
                              refine EvK.nil ?_
                              exact KE.mk r18 ⟨rfl, rfl, rfl, rfl, rfl, trivial⟩ hF
                            · refine WP.cond_false _ rfl c28 ?_
                              refine WP.skip ?_
                              exact KE.mk s3.1 ⟨rfl, rfl, rfl, rfl, rfl, trivial⟩ hF
                      · intro k12 hF
                        refine WP.region ?_
                        refine EvK.pure (v := .int .i64 r3) (w_none rfl) rfl rfl (f_move rfl rfl) ?_
                        refine EvK.pure (v := .bool (decide (r3 < 0))) (w_none rfl) rfl rfl (f_lss rfl rfl rfl) ?_
                        refine EvK.pure (v := .bool (decide (r3 < 0))) (w_none rfl) rfl rfl (f_move rfl rfl) ?_
                        rcases ite_inv hF with ⟨c29, hF⟩ | ⟨c29, hF⟩
                        · refine EvK.pure (v := Sl.val r16) (w_some rfl rfl c29) rfl rfl (f_move rfl rfl) ?_
                          refine EvK.pure (v := .int .i64 (r16.len : Int)) (w_some rfl rfl c29) rfl rfl (f_lenL (s := r16) Try.underlying22 rfl rfl) ?_
                          refine EvK.pure (v := .bool (decide ((r16.len : Int) > 0))) (w_some rfl rfl c29) rfl rfl (f_gtr rfl rfl rfl) ?_
                          refine EvK.pure (v := .bool (decide ((r16.len : Int) > 0))) (w_none rfl) rfl rfl (f_pickT rfl rfl c29 rfl) ?_
                          refine EvK.nil ?_
                          exact KE.mk (decide ((r16.len : Int) > 0)) ⟨rfl, rfl, rfl, rfl, rfl, rfl, rfl, trivial⟩ hF
                        · refine EvK.not (w_not rfl rfl c29) rfl rfl ?_
                          refine EvK.not (w_not rfl rfl c29) rfl rfl ?_
                          refine EvK.not (w_not rfl rfl c29) rfl rfl ?_
                          refine EvK.pure (v := .bool false) (w_none rfl) rfl rfl (f_pickF rfl rfl c29 rfl) ?_
                          refine EvK.nil ?_
                          exact KE.mk false ⟨rfl, rfl, rfl, rfl, rfl, rfl, rfl, trivial⟩ hF
                    · refine WP.cond_false _ rfl c25 ?_
                      refine WP.skip ?_
                      exact KE.mk s3.1 ⟨rfl, rfl, rfl, rfl, trivial⟩ hF
          · refine WP.cond_false _ rfl c5 ?_
            refine WP.exit ?_
            exact KE.mk () trivial hF
        · intro k4 hF
          refine WP.region ?_
          refine EvK.pure (v := .int .i64 s3.2) (w_none rfl) rfl rfl (f_move rfl rfl) ?_
          refine EvK.pure (v := Sl.val a1) (w_none rfl) rfl rfl (f_move rfl rfl) ?_
          refine EvK.pure (v := .int .i64 (a1.len : Int)) (w_none rfl) rfl rfl (f_lenL (s := a1) Try.underlying47 rfl rfl) ?_
          refine EvK.pure (v := .bool (decide (s3.2 < (a1.len : Int)))) (w_none rfl) rfl rfl (f_lss rfl rfl rfl) ?_
          refine EvK.pure (v := .bool (decide (s3.2 < (a1.len : Int)))) (w_none rfl) rfl rfl (f_move rfl rfl) ?_
          rcases ite_inv hF with ⟨c30, hF⟩ | ⟨c30, hF⟩
          · refine EvK.pure (v := .int .i64 s3.2) (w_some rfl rfl c30) rfl rfl (f_move rfl rfl) ?_
            refine EvK.pure (v := .bool (decide (s3.2 < 300))) (w_some rfl rfl c30) rfl rfl (f_lss rfl rfl rfl) ?_
            refine EvK.pure (v := .bool (decide (s3.2 < 300))) (w_none rfl) rfl rfl (f_pickT rfl rfl c30 rfl) ?_
            refine EvK.nil ?_
            exact KE.mk (decide (s3.2 < 300)) ⟨rfl, rfl, rfl, rfl, rfl, trivial⟩ hF
          · refine EvK.not (w_not rfl rfl c30) rfl rfl ?_
            refine EvK.not (w_not rfl rfl c30) rfl rfl ?_
            refine EvK.pure (v := .bool false) (w_none rfl) rfl rfl (f_pickF rfl rfl c30 rfl) ?_
            refine EvK.nil ?_
            exact KE.mk false ⟨rfl, rfl, rfl, rfl, rfl, trivial⟩ hF
end Go.Proofs.Ytgmihbchcmjmdaa
