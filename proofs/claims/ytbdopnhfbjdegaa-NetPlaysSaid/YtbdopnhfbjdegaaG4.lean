/- Functions as predicates over the heap, and that the code comes to them. Printed by gen.py, merged by group.py. -/
import Derived.Test.YtbdopnhfbjdegaaG3
import Derived.Test.YtbdopnhfbjdegaaTy
namespace Go.Proofs.Ytbdopnhfbjdegaa
open Go Go.Tr
set_option linter.unusedVariables false
set_option maxRecDepth 100000
set_option maxHeartbeats 400000
/-- (*spate/spateref16.Net).Open -/
def spateref16_Net_Open (a0 : Option Addr) (a1 : Int) (h : H) (Q : Int → H → Prop) : Prop :=
  spateref16_is a1 h fun r1 h1 =>
  if (!r1) = true then
    Q 1 h1
  else
    rd a0 fun q1 =>
    rd (ld kL (q1.add 2) h1) fun x1 =>
    rd (ixA 7 x1 a1) fun q2 =>
    rd (ld kB (q2.add 0) h1) fun x2 =>
    if x2 = true then
      Q 43 h1
    else
      rd a0 fun q3 =>
      rd (ld kL (q3.add 2) h1) fun x3 =>
      rd (ixA 7 x3 a1) fun q4 =>
      rd (st kB (q4.add 0) true h1) fun h2 =>
      Q 0 h2
theorem spateref16_Net_Open.sound {a0 : Option Addr} {a1 : Int} {h : H} {Q : Int → H → Prop} (hF : spateref16_Net_Open a0 a1 h Q) :
    CallsH Try.prog 33 (List.toArray (α := Value) [.pointer a0, .int .i64 a1]) h fun v h' => ∃ x : Int, v = .int .i64 x ∧ Q x h' := by
  refine CallsH.of_body Try.func33 rfl 23 rfl rfl ?_
  refine WP.seq ?_
  refine WP.region ?_
  refine EvK.pure (v := .int .i64 0) (w_none rfl) rfl rfl (f_assign rfl rfl) ?_
  refine EvK.nil ?_
  refine WP.seq ?_
  refine WP.seq ?_
  refine WP.region ?_
  refine EvK.pure (v := .int .i64 a1) (w_none rfl) rfl rfl (f_move rfl rfl) ?_
  refine EvK.call (w_none rfl) rfl rfl (enterH Try.func49 rfl rfl rfl rfl (spateref16_is.sound hF)) ?_
  rintro _ h1 ⟨r1, rfl, hF⟩
  refine EvK.pure (v := .bool (!r1)) (w_none rfl) rfl rfl (f_not rfl rfl) ?_
  refine EvK.nil ?_
  rcases ite_inv hF with ⟨c1, hF⟩ | ⟨c1, hF⟩
  · refine WP.cond_true _ rfl c1 ?_
    refine WP.seq ?_
    refine WP.region ?_
    refine EvK.pure (v := .int .i64 1) (w_none rfl) rfl rfl (f_assign rfl rfl) ?_
    refine EvK.nil ?_
    refine WP.ret ?_
    exact Ret.mk (vs := [.int .i64 1]) 1 ⟨rfl, trivial⟩ rfl hF
  · refine WP.cond_false _ rfl c1 ?_
    refine WP.skip ?_
    refine WP.seq ?_
    refine WP.seq ?_
    refine WP.region ?_
    refine EvK.pure (v := .pointer a0) (w_none rfl) rfl rfl (f_move rfl rfl) ?_
    obtain ⟨q1, hq1, hF⟩ := hF
    refine EvK.pure (v := .pointer (some q1)) (w_none rfl) rfl rfl (f_nilCheck rfl (congrArg Value.pointer hq1)) ?_
    refine EvK.pure (v := .pointer (some (q1.add 2))) (w_none rfl) rfl rfl (f_fieldAddr fd83_2 rfl rfl) ?_
    obtain ⟨x1, hx1, hF⟩ := hF
    refine EvK.read (v := Sl.val x1) (w_none rfl) rfl rfl (f_load kL ty81 rfl rfl hx1 rfl) ?_
    refine EvK.pure (v := .int .i64 a1) (w_none rfl) rfl rfl (f_move rfl rfl) ?_
    obtain ⟨q2, hq2, hF⟩ := hF
    refine EvK.pure (v := .pointer (some q2)) (w_none rfl) rfl rfl (f_indexAddr (s := x1) Try.underlying81 ty98.size rfl rfl rfl hq2) ?_
    refine EvK.pure (v := .pointer (some (q2.add 0))) (w_none rfl) rfl rfl (f_fieldAddr fd98_0 rfl rfl) ?_
    obtain ⟨x2, hx2, hF⟩ := hF
    refine EvK.read (v := .bool x2) (w_none rfl) rfl rfl (f_load kB ty4 rfl rfl hx2 rfl) ?_
    refine EvK.nil ?_
    rcases ite_inv hF with ⟨c2, hF⟩ | ⟨c2, hF⟩
    · refine WP.cond_true _ rfl c2 ?_
      refine WP.seq ?_
      refine WP.region ?_
      refine EvK.pure (v := .int .i64 43) (w_none rfl) rfl rfl (f_assign rfl rfl) ?_
      refine EvK.nil ?_
      refine WP.ret ?_
      exact Ret.mk (vs := [.int .i64 43]) 43 ⟨rfl, trivial⟩ rfl hF
    · refine WP.cond_false _ rfl c2 ?_
      refine WP.skip ?_
      refine WP.seq ?_
      refine WP.region ?_
      refine EvK.pure (v := .pointer a0) (w_none rfl) rfl rfl (f_move rfl rfl) ?_
      obtain ⟨q3, hq3, hF⟩ := hF
      refine EvK.pure (v := .pointer (some q3)) (w_none rfl) rfl rfl (f_nilCheck rfl (congrArg Value.pointer hq3)) ?_
      refine EvK.pure (v := .pointer (some (q3.add 2))) (w_none rfl) rfl rfl (f_fieldAddr fd83_2 rfl rfl) ?_
      obtain ⟨x3, hx3, hF⟩ := hF
      refine EvK.read (v := Sl.val x3) (w_none rfl) rfl rfl (f_load kL ty81 rfl rfl hx3 rfl) ?_
      refine EvK.pure (v := .int .i64 a1) (w_none rfl) rfl rfl (f_move rfl rfl) ?_
      obtain ⟨q4, hq4, hF⟩ := hF
      refine EvK.pure (v := .pointer (some q4)) (w_none rfl) rfl rfl (f_indexAddr (s := x3) Try.underlying81 ty98.size rfl rfl rfl hq4) ?_
      refine EvK.pure (v := .pointer (some (q4.add 0))) (w_none rfl) rfl rfl (f_fieldAddr fd98_0 rfl rfl) ?_
      obtain ⟨h2, hs1, hF⟩ := hF
      refine EvK.runN (w_none rfl) rfl (f_store kB ty4.size (z := true) rfl rfl rfl hs1) ?_
      rintro _ _ ⟨rfl, rfl⟩
      refine EvK.nil ?_
      refine WP.seq ?_
      refine WP.region ?_
      refine EvK.pure (v := .int .i64 0) (w_none rfl) rfl rfl (f_assign rfl rfl) ?_
      refine EvK.nil ?_
      refine WP.ret ?_
      exact Ret.mk (vs := [.int .i64 0]) 0 ⟨rfl, trivial⟩ rfl hF
end Go.Proofs.Ytbdopnhfbjdegaa

namespace Go.Proofs.Ytbdopnhfbjdegaa
open Go Go.Tr
set_option linter.unusedVariables false
set_option maxRecDepth 100000
set_option maxHeartbeats 400000
def spatelaw16_Lend.b1 (p0 : Sl) (p3 : Sl) (s : Int) (h : H) (K : Int ⊕ Unit → H → Prop) : Prop :=
  if (decide (s < (p3.len : Int))) = true then
    rd (ixA 1 p3 s) fun q1 =>
    rd (st (kI .u8) q1 169 h) fun h4 =>
    K (.inl (IntKind.i64.wrap (s + 1))) h4
  else
    K (.inr ()) h
/-- spate/spatelaw16.Lend -/
def spatelaw16_Lend (a0 : Sl) (h : H) (Q : Sl → H → Prop) : Prop :=
  mk (kI .u8).n 1 5 ((kI .u8).enc 0) (IntKind.i64.wrap ((a0.len : Int) + 9)) (IntKind.i64.wrap ((a0.len : Int) + 9)) h fun x1 h1 =>
  rd (cpy 1 x1 a0 h1) fun h2 =>
  jn (fun (k1 : Unit → H → Prop) =>
    loopE (spatelaw16_Lend.b1 a0 x1) (a0.len : Int) h2 (fun r1 hh => k1 r1 hh)) fun s1 h3 =>
  rd (slx 1 x1 none (some (a0.len : Int)) none) fun x2 =>
  Q x2 h3
theorem spatelaw16_Lend.sound {a0 : Sl} {h : H} {Q : Sl → H → Prop} (hF : spatelaw16_Lend a0 h Q) :
    CallsH Try.prog 34 (List.toArray (α := Value) [Sl.val a0]) h fun v h' => ∃ x : Sl, v = Sl.val x ∧ Q x h' := by
  refine CallsH.of_body Try.func34 rfl 27 rfl rfl ?_
  refine WP.seq ?_
  refine WP.region ?_
  refine EvK.pure (v := Sl.val Sl.nil) (w_none rfl) rfl rfl (f_assign rfl rfl) ?_
  refine EvK.nil ?_
  refine WP.seq ?_
  refine WP.region ?_
  refine EvK.pure (v := Sl.val a0) (w_none rfl) rfl rfl (f_move rfl rfl) ?_
  refine EvK.pure (v := .int .i64 (a0.len : Int)) (w_none rfl) rfl rfl (f_lenL (s := a0) Try.underlying29 rfl rfl) ?_
  refine EvK.pure (v := .int .i64 (IntKind.i64.wrap ((a0.len : Int) + 9))) (w_none rfl) rfl rfl (f_add rfl rfl rfl) ?_
  refine EvK.alloc (w_none rfl) rfl rfl (f_makeSlice Try.underlying29 el5 rfl rfl rfl hF) ?_
  rintro _ h1 ⟨x1, rfl, hF⟩
  refine EvK.pure (v := Sl.val x1) (w_none rfl) rfl rfl (f_assign rfl rfl) ?_
  refine EvK.nil ?_
  refine WP.seq ?_
  refine WP.region ?_
  refine EvK.pure (v := Sl.val x1) (w_none rfl) rfl rfl (f_move rfl rfl) ?_
  refine EvK.pure (v := Sl.val a0) (w_none rfl) rfl rfl (f_move rfl rfl) ?_
  obtain ⟨h2, hs1, hF⟩ := hF
  refine EvK.run (w_none rfl) rfl rfl (f_copy (s := x1) (r := a0) Try.underlying29 ty5.size rfl rfl rfl rfl hs1) ?_
  rintro _ _ ⟨rfl, rfl⟩
  refine EvK.nil ?_
  refine WP.joinF (fun (s1 : Unit) => [(0, Sl.val a0), (3, Sl.val x1)]) hF ?_ ?_
  · intro s1 E0 h3 hF
    refine WP.seq ?_
    refine WP.region ?_
    refine EvK.pure (v := Sl.val x1) (w_none rfl) rfl rfl (f_move rfl rfl) ?_
    refine EvK.pure (v := Sl.val a0) (w_none rfl) rfl rfl (f_move rfl rfl) ?_
    refine EvK.pure (v := .int .i64 (a0.len : Int)) (w_none rfl) rfl rfl (f_lenL (s := a0) Try.underlying29 rfl rfl) ?_
    obtain ⟨x2, hx1, hF⟩ := hF
    refine EvK.pure (v := Sl.val x2) (w_none rfl) rfl rfl (f_slice Try.underlying29 ty5.size rfl rfl bndV_none (bndV_some rfl) bndV_none hx1) ?_
    refine EvK.pure (v := Sl.val x2) (w_none rfl) rfl rfl (f_assign rfl rfl) ?_
    refine EvK.nil ?_
    refine WP.ret ?_
    exact Ret.mk (vs := [Sl.val x2]) x2 ⟨rfl, trivial⟩ rfl hF
  · intro k1 hF
    refine WP.seq ?_
    refine WP.region ?_
    refine EvK.pure (v := Sl.val a0) (w_none rfl) rfl rfl (f_move rfl rfl) ?_
    refine EvK.pure (v := .int .i64 (a0.len : Int)) (w_none rfl) rfl rfl (f_lenL (s := a0) Try.underlying29 rfl rfl) ?_
    refine EvK.pure (v := .int .i64 (a0.len : Int)) (w_none rfl) rfl rfl (f_assign rfl rfl) ?_
    refine EvK.nil ?_
    refine WP.block ?_
    refine WP.loopF (fun (s2 : Int) => [(4, .int .i64 s2), (0, Sl.val a0), (3, Sl.val x1)]) hF ⟨rfl, rfl, rfl, trivial⟩ ?_
    intro k2 s2 E0 h4 hF
    refine WP.seq ?_
    refine WP.seq ?_
    refine WP.region ?_
    refine EvK.pure (v := .int .i64 s2) (w_none rfl) rfl rfl (f_move rfl rfl) ?_
    refine EvK.pure (v := Sl.val x1) (w_none rfl) rfl rfl (f_move rfl rfl) ?_
    refine EvK.pure (v := .int .i64 (x1.len : Int)) (w_none rfl) rfl rfl (f_lenL (s := x1) Try.underlying29 rfl rfl) ?_
    refine EvK.pure (v := .bool (decide (s2 < (x1.len : Int)))) (w_none rfl) rfl rfl (f_lss rfl rfl rfl) ?_
    refine EvK.nil ?_
    rcases ite_inv hF with ⟨c1, hF⟩ | ⟨c1, hF⟩
    · refine WP.cond_true _ rfl c1 ?_
      refine WP.skip ?_
      refine WP.seq ?_
      refine WP.block ?_
      refine WP.region ?_
      refine EvK.pure (v := Sl.val x1) (w_none rfl) rfl rfl (f_move rfl rfl) ?_
      refine EvK.pure (v := .int .i64 s2) (w_none rfl) rfl rfl (f_move rfl rfl) ?_
      obtain ⟨q1, hq1, hF⟩ := hF
      refine EvK.pure (v := .pointer (some q1)) (w_none rfl) rfl rfl (f_indexAddr (s := x1) Try.underlying29 ty5.size rfl rfl rfl hq1) ?_
      obtain ⟨h5, hs2, hF⟩ := hF
      refine EvK.runN (w_none rfl) rfl (f_store (kI .u8) ty5.size (z := 169) rfl rfl rfl hs2) ?_
      rintro _ _ ⟨rfl, rfl⟩
      refine EvK.nil ?_
      refine WP.region ?_
      refine EvK.pure (v := .int .i64 s2) (w_none rfl) rfl rfl (f_move rfl rfl) ?_
      refine EvK.pure (v := .int .i64 (IntKind.i64.wrap (s2 + 1))) (w_none rfl) rfl rfl (f_add rfl rfl rfl) ?_
      refine EvK.pure (v := .int .i64 (IntKind.i64.wrap (s2 + 1))) (w_none rfl) rfl rfl (f_assign rfl rfl) ?_
      refine EvK.nil ?_
      exact KE.mk (IntKind.i64.wrap (s2 + 1)) ⟨rfl, rfl, rfl, trivial⟩ hF
    · refine WP.cond_false _ rfl c1 ?_
      refine WP.exit ?_
      exact KE.mk () ⟨rfl, rfl, trivial⟩ hF
end Go.Proofs.Ytbdopnhfbjdegaa

namespace Go.Proofs.Ytbdopnhfbjdegaa
open Go Go.Tr
set_option linter.unusedVariables false
set_option maxRecDepth 100000
set_option maxHeartbeats 400000
/-- (*spate/spateref16.Net).gone -/
def spateref16_Net_gone (a0 : Option Addr) (a1 : Int) (a2 : Bool) (h : H) (Q : Int → H → Prop) : Prop :=
  spateref16_is a1 h fun r1 h1 =>
  if (!r1) = true then
    Q 1 h1
  else
    rd a0 fun q1 =>
    rd (ld kL (q1.add 2) h1) fun x1 =>
    rd (ixA 7 x1 a1) fun q2 =>
    rd (ld k97 q2 h1) fun x2 =>
    al 98 (k97.enc z97) h1 fun q3 h2 =>
    rd (st k97 q3 x2 h2) fun h3 =>
    jn (fun (k1 : Bool → H → Prop) =>
      rd (ld kB (q3.add 0) h3) fun x3 =>
      if (!x3) = true then
        k1 true h3
      else
        if a2 = true then
          rd (ld kB (q3.add 2) h3) fun x4 =>
          if x4 = true then
            k1 true h3
          else
            rd (ld kB (q3.add 1) h3) fun x5 =>
            k1 x5 h3
        else
          k1 false h3) fun s1 h4 =>
    if s1 = true then
      Q 44 h4
    else
      Q 0 h4
theorem spateref16_Net_gone.sound {a0 : Option Addr} {a1 : Int} {a2 : Bool} {h : H} {Q : Int → H → Prop} (hF : spateref16_Net_gone a0 a1 a2 h Q) :
    CallsH Try.prog 50 (List.toArray (α := Value) [.pointer a0, .int .i64 a1, .bool a2]) h fun v h' => ∃ x : Int, v = .int .i64 x ∧ Q x h' := by
  refine CallsH.of_body Try.func50 rfl 32 rfl rfl ?_
  refine WP.seq ?_
  refine WP.region ?_
  refine EvK.pure (v := .int .i64 0) (w_none rfl) rfl rfl (f_assign rfl rfl) ?_
  refine EvK.nil ?_
  refine WP.seq ?_
  refine WP.seq ?_
  refine WP.region ?_
  refine EvK.pure (v := .int .i64 a1) (w_none rfl) rfl rfl (f_move rfl rfl) ?_
  refine EvK.call (w_none rfl) rfl rfl (enterH Try.func49 rfl rfl rfl rfl (spateref16_is.sound hF)) ?_
  rintro _ h1 ⟨r1, rfl, hF⟩
  refine EvK.pure (v := .bool (!r1)) (w_none rfl) rfl rfl (f_not rfl rfl) ?_
  refine EvK.nil ?_
  rcases ite_inv hF with ⟨c1, hF⟩ | ⟨c1, hF⟩
  · refine WP.cond_true _ rfl c1 ?_
    refine WP.seq ?_
    refine WP.region ?_
    refine EvK.pure (v := .int .i64 1) (w_none rfl) rfl rfl (f_assign rfl rfl) ?_
    refine EvK.nil ?_
    refine WP.ret ?_
    exact Ret.mk (vs := [.int .i64 1]) 1 ⟨rfl, trivial⟩ rfl hF
  · refine WP.cond_false _ rfl c1 ?_
    refine WP.skip ?_
    refine WP.seq ?_
    refine WP.region ?_
    refine EvK.pure (v := .pointer a0) (w_none rfl) rfl rfl (f_move rfl rfl) ?_
    obtain ⟨q1, hq1, hF⟩ := hF
    refine EvK.pure (v := .pointer (some q1)) (w_none rfl) rfl rfl (f_nilCheck rfl (congrArg Value.pointer hq1)) ?_
    refine EvK.pure (v := .pointer (some (q1.add 2))) (w_none rfl) rfl rfl (f_fieldAddr fd83_2 rfl rfl) ?_
    obtain ⟨x1, hx1, hF⟩ := hF
    refine EvK.read (v := Sl.val x1) (w_none rfl) rfl rfl (f_load kL ty81 rfl rfl hx1 rfl) ?_
    refine EvK.pure (v := .int .i64 a1) (w_none rfl) rfl rfl (f_move rfl rfl) ?_
    obtain ⟨q2, hq2, hF⟩ := hF
    refine EvK.pure (v := .pointer (some q2)) (w_none rfl) rfl rfl (f_indexAddr (s := x1) Try.underlying81 ty98.size rfl rfl rfl hq2) ?_
    obtain ⟨x2, hx2, hF⟩ := hF
    refine EvK.read (v := k97.val x2) (w_none rfl) rfl rfl (f_load k97 ty98 rfl rfl hx2 rfl) ?_
    refine EvK.alloc (w_none rfl) rfl rfl (f_allocF zero98 rfl rfl hF) ?_
    rintro _ h2 ⟨q3, rfl, hF⟩
    obtain ⟨h3, hs1, hF⟩ := hF
    refine EvK.runN (w_none rfl) rfl (f_store k97 ty98.size (z := x2) rfl rfl rfl hs1) ?_
    rintro _ _ ⟨rfl, rfl⟩
    refine EvK.nil ?_
    refine WP.seq ?_
    refine WP.joinF (fun (s1 : Bool) => [(31, .bool s1)]) hF ?_ ?_
    · intro s1 E0 h4 hF
      rcases ite_inv hF with ⟨c2, hF⟩ | ⟨c2, hF⟩
      · refine WP.cond_true _ rfl c2 ?_
        refine WP.seq ?_
        refine WP.region ?_
        refine EvK.pure (v := .int .i64 44) (w_none rfl) rfl rfl (f_assign rfl rfl) ?_
        refine EvK.nil ?_
        refine WP.ret ?_
        exact Ret.mk (vs := [.int .i64 44]) 44 ⟨rfl, trivial⟩ rfl hF
      · refine WP.cond_false _ rfl c2 ?_
        refine WP.skip ?_
        refine WP.seq ?_
        refine WP.region ?_
        refine EvK.pure (v := .int .i64 0) (w_none rfl) rfl rfl (f_assign rfl rfl) ?_
        refine EvK.nil ?_
        refine WP.ret ?_
        exact Ret.mk (vs := [.int .i64 0]) 0 ⟨rfl, trivial⟩ rfl hF
    · intro k1 hF
      refine WP.region ?_
      refine EvK.pure (v := .pointer (some (q3.add 0))) (w_none rfl) rfl rfl (f_fieldAddr fd98_0 rfl rfl) ?_
      obtain ⟨x3, hx3, hF⟩ := hF
      refine EvK.read (v := .bool x3) (w_none rfl) rfl rfl (f_load kB ty4 rfl rfl hx3 rfl) ?_
      refine EvK.pure (v := .bool (!x3)) (w_none rfl) rfl rfl (f_not rfl rfl) ?_
      refine EvK.pure (v := .bool (!x3)) (w_none rfl) rfl rfl (f_move rfl rfl) ?_
      rcases ite_inv hF with ⟨c3, hF⟩ | ⟨c3, hF⟩
      · refine EvK.not (w_not rfl rfl c3) rfl rfl ?_
        refine EvK.not (w_not rfl rfl c3) rfl rfl ?_
        refine EvK.not (w_undef rfl rfl) rfl rfl ?_
        refine EvK.not (w_undef rfl rfl) rfl rfl ?_
        refine EvK.not (w_undef rfl rfl) rfl rfl ?_
        refine EvK.not (w_undef rfl rfl) rfl rfl ?_
        refine EvK.not (w_undef rfl rfl) rfl rfl ?_
        refine EvK.not (w_undef rfl rfl) rfl rfl ?_
        refine EvK.not (w_not rfl rfl c3) rfl rfl ?_
        refine EvK.pure (v := .bool true) (w_none rfl) rfl rfl (f_pickT rfl rfl c3 rfl) ?_
        refine EvK.nil ?_
        exact KE.mk true ⟨rfl, trivial⟩ hF
      · refine EvK.pure (v := .bool a2) (w_some rfl rfl c3) rfl rfl (f_move rfl rfl) ?_
        refine EvK.pure (v := .bool a2) (w_some rfl rfl c3) rfl rfl (f_move rfl rfl) ?_
        rcases ite_inv hF with ⟨c4, hF⟩ | ⟨c4, hF⟩
        · refine EvK.pure (v := .pointer (some (q3.add 2))) (w_some rfl rfl c4) rfl rfl (f_fieldAddr fd98_2 rfl rfl) ?_
          obtain ⟨x4, hx4, hF⟩ := hF
          refine EvK.read (v := .bool x4) (w_some rfl rfl c4) rfl rfl (f_load kB ty4 rfl rfl hx4 rfl) ?_
          refine EvK.pure (v := .bool x4) (w_some rfl rfl c4) rfl rfl (f_move rfl rfl) ?_
          rcases ite_inv hF with ⟨c5, hF⟩ | ⟨c5, hF⟩
          · refine EvK.not (w_not rfl rfl c5) rfl rfl ?_
            refine EvK.not (w_not rfl rfl c5) rfl rfl ?_
            refine EvK.pure (v := .bool true) (w_some rfl rfl c4) rfl rfl (f_pickT rfl rfl c5 rfl) ?_
            refine EvK.pure (v := .bool true) (w_some rfl rfl c3) rfl rfl (f_pickT rfl rfl c4 rfl) ?_
            refine EvK.pure (v := .bool true) (w_none rfl) rfl rfl (f_pickF rfl rfl c3 rfl) ?_
            refine EvK.nil ?_
            exact KE.mk true ⟨rfl, trivial⟩ hF
          · refine EvK.pure (v := .pointer (some (q3.add 1))) (w_some rfl rfl c5) rfl rfl (f_fieldAddr fd98_1 rfl rfl) ?_
            obtain ⟨x5, hx5, hF⟩ := hF
            refine EvK.read (v := .bool x5) (w_some rfl rfl c5) rfl rfl (f_load kB ty4 rfl rfl hx5 rfl) ?_
            refine EvK.pure (v := .bool x5) (w_some rfl rfl c4) rfl rfl (f_pickF rfl rfl c5 rfl) ?_
            refine EvK.pure (v := .bool x5) (w_some rfl rfl c3) rfl rfl (f_pickT rfl rfl c4 rfl) ?_
            refine EvK.pure (v := .bool x5) (w_none rfl) rfl rfl (f_pickF rfl rfl c3 rfl) ?_
            refine EvK.nil ?_
            exact KE.mk x5 ⟨rfl, trivial⟩ hF
        · refine EvK.not (w_not rfl rfl c4) rfl rfl ?_
          refine EvK.not (w_not rfl rfl c4) rfl rfl ?_
          refine EvK.not (w_not rfl rfl c4) rfl rfl ?_
          refine EvK.not (w_undef rfl rfl) rfl rfl ?_
          refine EvK.not (w_undef rfl rfl) rfl rfl ?_
          refine EvK.not (w_not rfl rfl c4) rfl rfl ?_
          refine EvK.pure (v := .bool false) (w_some rfl rfl c3) rfl rfl (f_pickF rfl rfl c4 rfl) ?_
          refine EvK.pure (v := .bool false) (w_none rfl) rfl rfl (f_pickF rfl rfl c3 rfl) ?_
          refine EvK.nil ?_
          exact KE.mk false ⟨rfl, trivial⟩ hF
end Go.Proofs.Ytbdopnhfbjdegaa

namespace Go.Proofs.Ytbdopnhfbjdegaa
open Go Go.Tr
set_option linter.unusedVariables false
set_option maxRecDepth 100000
set_option maxHeartbeats 400000
/-- spate/spateref16.join -/
def spateref16_join (a0 : Sl) (a1 : Sl) (h : H) (Q : Sl → H → Prop) : Prop :=
  ap (kI .u8).n 1 5 ((kI .u8).enc 0) Sl.nil a0 h fun x1 h1 =>
  ap (kI .u8).n 1 5 ((kI .u8).enc 0) x1 a1 h1 fun x2 h2 =>
  Q x2 h2
theorem spateref16_join.sound {a0 : Sl} {a1 : Sl} {h : H} {Q : Sl → H → Prop} (hF : spateref16_join a0 a1 h Q) :
    CallsH Try.prog 51 (List.toArray (α := Value) [Sl.val a0, Sl.val a1]) h fun v h' => ∃ x : Sl, v = Sl.val x ∧ Q x h' := by
  refine CallsH.of_body Try.func51 rfl 12 rfl rfl ?_
  refine WP.seq ?_
  refine WP.region ?_
  refine EvK.pure (v := Sl.val Sl.nil) (w_none rfl) rfl rfl (f_assign rfl rfl) ?_
  refine EvK.nil ?_
  refine WP.seq ?_
  refine WP.region ?_
  refine EvK.pure (v := Sl.val Sl.nil) (w_none rfl) rfl rfl (f_assign rfl rfl) ?_
  refine EvK.nil ?_
  refine WP.seq ?_
  refine WP.region ?_
  refine EvK.pure (v := Sl.val Sl.nil) (w_none rfl) rfl rfl (f_move rfl rfl) ?_
  refine EvK.pure (v := Sl.val a0) (w_none rfl) rfl rfl (f_move rfl rfl) ?_
  refine EvK.run (w_none rfl) rfl rfl (f_appendE (s := Sl.nil) (x := a0) Try.underlying29 el5 rfl rfl rfl hF) ?_
  rintro _ h1 ⟨x1, rfl, hF⟩
  refine EvK.pure (v := Sl.val x1) (w_none rfl) rfl rfl (f_assign rfl rfl) ?_
  refine EvK.nil ?_
  refine WP.seq ?_
  refine WP.region ?_
  refine EvK.pure (v := Sl.val x1) (w_none rfl) rfl rfl (f_move rfl rfl) ?_
  refine EvK.pure (v := Sl.val a1) (w_none rfl) rfl rfl (f_move rfl rfl) ?_
  refine EvK.run (w_none rfl) rfl rfl (f_appendE (s := x1) (x := a1) Try.underlying29 el5 rfl rfl rfl hF) ?_
  rintro _ h2 ⟨x2, rfl, hF⟩
  refine EvK.pure (v := Sl.val x2) (w_none rfl) rfl rfl (f_assign rfl rfl) ?_
  refine EvK.nil ?_
  refine WP.ret ?_
  exact Ret.mk (vs := [Sl.val x2]) x2 ⟨rfl, trivial⟩ rfl hF
end Go.Proofs.Ytbdopnhfbjdegaa

namespace Go.Proofs.Ytbdopnhfbjdegaa
open Go Go.Tr
set_option linter.unusedVariables false
set_option maxRecDepth 100000
set_option maxHeartbeats 400000
/-- (*spate/spateref16.Net).Send -/
def spateref16_Net_Send (a0 : Option Addr) (a1 : Int) (a2 : Sl) (h : H) (Q : Int → H → Prop) : Prop :=
  spateref16_Net_gone a0 a1 true h fun r1 h1 =>
  if (r1 != 0) = true then
    Q r1 h1
  else
    rd a0 fun q1 =>
    rd (ld kL (q1.add 2) h1) fun x1 =>
    rd (ixA 7 x1 a1) fun q2 =>
    rd (ld kL (q2.add 3) h1) fun x2 =>
    if (decide ((IntKind.i64.wrap ((x2.len : Int) + (a2.len : Int))) > 1048576)) = true then
      Q 2 h1
    else
      rd a0 fun q3 =>
      rd (ld kL (q3.add 2) h1) fun x3 =>
      rd a0 fun q4 =>
      rd (ld kL (q4.add 2) h1) fun x4 =>
      rd (ixA 7 x4 a1) fun q5 =>
      rd (ld kL (q5.add 3) h1) fun x5 =>
      spateref16_join x5 a2 h1 fun r2 h2 =>
      ld kL (q3.add 2) h2 = some x3 ∧
      rd (ixA 7 x3 a1) fun q6 =>
      rd (st kL (q6.add 3) r2 h2) fun h3 =>
      Q 0 h3
theorem spateref16_Net_Send.sound {a0 : Option Addr} {a1 : Int} {a2 : Sl} {h : H} {Q : Int → H → Prop} (hF : spateref16_Net_Send a0 a1 a2 h Q) :
    CallsH Try.prog 35 (List.toArray (α := Value) [.pointer a0, .int .i64 a1, Sl.val a2]) h fun v h' => ∃ x : Int, v = .int .i64 x ∧ Q x h' := by
  refine CallsH.of_body Try.func35 rfl 44 rfl rfl ?_
  refine WP.seq ?_
  refine WP.region ?_
  refine EvK.pure (v := .int .i64 0) (w_none rfl) rfl rfl (f_assign rfl rfl) ?_
  refine EvK.nil ?_
  refine WP.seq ?_
  refine WP.region ?_
  refine EvK.pure (v := .pointer a0) (w_none rfl) rfl rfl (f_move rfl rfl) ?_
  refine EvK.pure (v := .int .i64 a1) (w_none rfl) rfl rfl (f_move rfl rfl) ?_
  refine EvK.call (w_none rfl) rfl rfl (enterH Try.func50 rfl rfl rfl rfl (spateref16_Net_gone.sound hF)) ?_
  rintro _ h1 ⟨r1, rfl, hF⟩
  refine EvK.pure (v := .int .i64 r1) (w_none rfl) rfl rfl (f_assign rfl rfl) ?_
  refine EvK.nil ?_
  refine WP.seq ?_
  refine WP.seq ?_
  refine WP.region ?_
  refine EvK.pure (v := .int .i64 r1) (w_none rfl) rfl rfl (f_move rfl rfl) ?_
  refine EvK.pure (v := .bool (r1 != 0)) (w_none rfl) rfl rfl (f_neq rfl rfl rfl) ?_
  refine EvK.nil ?_
  rcases ite_inv hF with ⟨c1, hF⟩ | ⟨c1, hF⟩
  · refine WP.cond_true _ rfl c1 ?_
    refine WP.seq ?_
    refine WP.region ?_
    refine EvK.pure (v := .int .i64 r1) (w_none rfl) rfl rfl (f_move rfl rfl) ?_
    refine EvK.pure (v := .int .i64 r1) (w_none rfl) rfl rfl (f_assign rfl rfl) ?_
    refine EvK.nil ?_
    refine WP.ret ?_
    exact Ret.mk (vs := [.int .i64 r1]) r1 ⟨rfl, trivial⟩ rfl hF
  · refine WP.cond_false _ rfl c1 ?_
    refine WP.skip ?_
    refine WP.seq ?_
    refine WP.seq ?_
    refine WP.region ?_
    refine EvK.pure (v := .pointer a0) (w_none rfl) rfl rfl (f_move rfl rfl) ?_
    obtain ⟨q1, hq1, hF⟩ := hF
    refine EvK.pure (v := .pointer (some q1)) (w_none rfl) rfl rfl (f_nilCheck rfl (congrArg Value.pointer hq1)) ?_
    refine EvK.pure (v := .pointer (some (q1.add 2))) (w_none rfl) rfl rfl (f_fieldAddr fd83_2 rfl rfl) ?_
    obtain ⟨x1, hx1, hF⟩ := hF
    refine EvK.read (v := Sl.val x1) (w_none rfl) rfl rfl (f_load kL ty81 rfl rfl hx1 rfl) ?_
    refine EvK.pure (v := .int .i64 a1) (w_none rfl) rfl rfl (f_move rfl rfl) ?_
    obtain ⟨q2, hq2, hF⟩ := hF
    refine EvK.pure (v := .pointer (some q2)) (w_none rfl) rfl rfl (f_indexAddr (s := x1) Try.underlying81 ty98.size rfl rfl rfl hq2) ?_
    refine EvK.pure (v := .pointer (some (q2.add 3))) (w_none rfl) rfl rfl (f_fieldAddr fd98_3 rfl rfl) ?_
    obtain ⟨x2, hx2, hF⟩ := hF
    refine EvK.read (v := Sl.val x2) (w_none rfl) rfl rfl (f_load kL ty29 rfl rfl hx2 rfl) ?_
    refine EvK.pure (v := .int .i64 (x2.len : Int)) (w_none rfl) rfl rfl (f_lenL (s := x2) Try.underlying29 rfl rfl) ?_
    refine EvK.pure (v := Sl.val a2) (w_none rfl) rfl rfl (f_move rfl rfl) ?_
    refine EvK.pure (v := .int .i64 (a2.len : Int)) (w_none rfl) rfl rfl (f_lenL (s := a2) Try.underlying29 rfl rfl) ?_
    refine EvK.pure (v := .int .i64 (IntKind.i64.wrap ((x2.len : Int) + (a2.len : Int)))) (w_none rfl) rfl rfl (f_add rfl rfl rfl) ?_
    refine EvK.pure (v := .bool (decide ((IntKind.i64.wrap ((x2.len : Int) + (a2.len : Int))) > 1048576))) (w_none rfl) rfl rfl (f_gtr rfl rfl rfl) ?_
    refine EvK.nil ?_
    rcases ite_inv hF with ⟨c2, hF⟩ | ⟨c2, hF⟩
    · refine WP.cond_true _ rfl c2 ?_
      refine WP.seq ?_
      refine WP.region ?_
      refine EvK.pure (v := .int .i64 2) (w_none rfl) rfl rfl (f_assign rfl rfl) ?_
      refine EvK.nil ?_
      refine WP.ret ?_
      exact Ret.mk (vs := [.int .i64 2]) 2 ⟨rfl, trivial⟩ rfl hF
    · refine WP.cond_false _ rfl c2 ?_
      refine WP.skip ?_
      refine WP.seq ?_
      refine WP.draw mixed [.pure, .pure, .pure, .read, .pure, .pure, .pure, .pure, .read, .pure, .pure, .pure, .read, .pure, .eff [3], .pure, .pure, .eff []] [[], [0], [0, 1], [0, 1, 2], [], [], [5], [5, 6], [5, 6, 7], [], [5, 6, 7, 8, 9], [5, 6, 7, 8, 9, 10], [5, 6, 7, 8, 9, 10, 11], [], [5, 6, 7, 8, 9, 10, 11, 12, 13], [0, 1, 2, 3, 4, 5, 6, 7, 8, 9, 10, 11, 12, 13, 14], [0, 1, 2, 3, 4, 5, 6, 7, 8, 9, 10, 11, 12, 13, 14, 15], [0, 1, 2, 3, 4, 5, 6, 7, 8, 9, 10, 11, 12, 13, 14, 15, 16]] [0, 1, 2, 3, 4, 5, 6, 7, 8, 9, 10, 11, 12, 13, 14, 15, 16, 17] (by kernel_rfl) (by kernel_rfl) ?_
      refine EvI.pure (v := .pointer a0) rfl rfl (w_none rfl) rfl (f_move rfl rfl) ?_
      obtain ⟨q3, hq3, hF⟩ := hF
      refine EvI.pure (v := .pointer (some q3)) rfl rfl (w_none rfl) rfl (f_nilCheck rfl (congrArg Value.pointer hq3)) ?_
      refine EvI.pure (v := .pointer (some (q3.add 2))) rfl rfl (w_none rfl) rfl (f_fieldAddr fd83_2 rfl rfl) ?_
      obtain ⟨x3, hx3, hF⟩ := hF
      refine EvI.read (v := Sl.val x3) rfl rfl (w_none rfl) rfl (f_load kL ty81 rfl rfl hx3 rfl) ?_
      refine EvI.pure (v := .int .i64 a1) rfl rfl (w_none rfl) rfl (f_move rfl rfl) ?_
      refine EvI.pure (v := .pointer a0) rfl rfl (w_none rfl) rfl (f_move rfl rfl) ?_
      obtain ⟨q4, hq4, hF⟩ := hF
      refine EvI.pure (v := .pointer (some q4)) rfl rfl (w_none rfl) rfl (f_nilCheck rfl (congrArg Value.pointer hq4)) ?_
      refine EvI.pure (v := .pointer (some (q4.add 2))) rfl rfl (w_none rfl) rfl (f_fieldAddr fd83_2 rfl rfl) ?_
      obtain ⟨x4, hx4, hF⟩ := hF
      refine EvI.read (v := Sl.val x4) rfl rfl (w_none rfl) rfl (f_load kL ty81 rfl rfl hx4 rfl) ?_
      refine EvI.pure (v := .int .i64 a1) rfl rfl (w_none rfl) rfl (f_move rfl rfl) ?_
      obtain ⟨q5, hq5, hF⟩ := hF
      refine EvI.pure (v := .pointer (some q5)) rfl rfl (w_none rfl) rfl (f_indexAddr (s := x4) Try.underlying81 ty98.size rfl rfl rfl hq5) ?_
      refine EvI.pure (v := .pointer (some (q5.add 3))) rfl rfl (w_none rfl) rfl (f_fieldAddr fd98_3 rfl rfl) ?_
      obtain ⟨x5, hx5, hF⟩ := hF
      refine EvI.read (v := Sl.val x5) rfl rfl (w_none rfl) rfl (f_load kL ty29 rfl rfl hx5 rfl) ?_
      refine EvI.pure (v := Sl.val a2) rfl rfl (w_none rfl) rfl (f_move rfl rfl) ?_
      refine EvI.call rfl rfl (w_none rfl) rfl (enterH Try.func51 rfl rfl rfl rfl (spateref16_join.sound hF)) ?_
      rintro _ h2 ⟨r2, rfl, hF⟩
      obtain ⟨hy1, hF⟩ := hF
      refine ⟨⟨chk_no rfl, chk_no rfl, chk_yes rfl (f_load kL ty81 rfl rfl hy1 rfl), trivial⟩, ?_⟩
      obtain ⟨q6, hq6, hF⟩ := hF
      refine EvI.pure (v := .pointer (some q6)) rfl rfl (w_none rfl) rfl (f_indexAddr (s := x3) Try.underlying81 ty98.size rfl rfl rfl hq6) ?_
      refine EvI.pure (v := .pointer (some (q6.add 3))) rfl rfl (w_none rfl) rfl (f_fieldAddr fd98_3 rfl rfl) ?_
      obtain ⟨h3, hs1, hF⟩ := hF
      refine EvI.runN rfl rfl (w_none rfl) rfl (f_store kL ty29.size (z := r2) rfl rfl rfl hs1) ?_
      rintro _ _ ⟨rfl, rfl⟩
      refine ⟨⟨chk_no rfl, chk_no rfl, chk_no rfl, trivial⟩, ?_⟩
      refine EvI.nil ?_
      refine WP.seq ?_
      refine WP.region ?_
      refine EvK.pure (v := .int .i64 0) (w_none rfl) rfl rfl (f_assign rfl rfl) ?_
      refine EvK.nil ?_
      refine WP.ret ?_
      exact Ret.mk (vs := [.int .i64 0]) 0 ⟨rfl, trivial⟩ rfl hF
end Go.Proofs.Ytbdopnhfbjdegaa

namespace Go.Proofs.Ytbdopnhfbjdegaa
open Go Go.Tr
set_option linter.unusedVariables false
set_option maxRecDepth 100000
set_option maxHeartbeats 400000
def spatelaw16_Back.b1 (p5 : Bool) (p6 : Sl) (s : Int) (h : H) (K : Int ⊕ Unit → H → Prop) : Prop :=
  if (decide (s < (p6.len : Int))) = true then
    rd (ixA 1 p6 s) fun q1 =>
    rd (st (kI .u8) q1 94 h) fun h3 =>
    K (.inl (IntKind.i64.wrap (s + 1))) h3
  else
    K (.inr ()) h
def spatelaw16_Back.b2 (p6 : Sl) (s : Bool × Int) (h : H) (K : (Bool × Int) ⊕ Bool → H → Prop) : Prop :=
  if (decide (s.2 < (p6.len : Int))) = true then
    jn (fun (k4 : Bool → H → Prop) =>
      if s.1 = true then
        rd (ixA 1 p6 s.2) fun q2 =>
        rd (ld (kI .u8) q2 h) fun x4 =>
        k4 (x4 == 169) h
      else
        k4 false h) fun s4 h5 =>
    K (.inl (s4, IntKind.i64.wrap (s.2 + 1))) h5
  else
    K (.inr s.1) h
/-- spate/spatelaw16.Back -/
def spatelaw16_Back (a0 : Sl) (a1 : Sl) (h : H) (Q : Bool → H → Prop) : Prop :=
  rd (b2s a0 h) fun x1 =>
  rd (b2s a1 h) fun x2 =>
  rd (slx 1 a0 none (some (IntKind.i64.wrap ((a0.len : Int) + 9))) none) fun x3 =>
  jn (fun (k1 : Bool → H → Prop) =>
    loopE (spatelaw16_Back.b2 x3) ((x1.toList == x2.toList), (a0.len : Int)) h (fun r2 hh => k1 r2 hh)) fun s1 h1 =>
  jn (fun (k2 : Unit → H → Prop) =>
    loopE (spatelaw16_Back.b1 s1 x3) 0 h1 (fun r1 hh => k2 r1 hh)) fun s2 h2 =>
  Q s1 h2
theorem spatelaw16_Back.sound {a0 : Sl} {a1 : Sl} {h : H} {Q : Bool → H → Prop} (hF : spatelaw16_Back a0 a1 h Q) :
    CallsH Try.prog 36 (List.toArray (α := Value) [Sl.val a0, Sl.val a1]) h fun v h' => ∃ x : Bool, v = .bool x ∧ Q x h' := by
  refine CallsH.of_body Try.func36 rfl 45 rfl rfl ?_
  refine WP.seq ?_
  refine WP.region ?_
  refine EvK.pure (v := .bool false) (w_none rfl) rfl rfl (f_assign rfl rfl) ?_
  refine EvK.nil ?_
  refine WP.seq ?_
  refine WP.region ?_
  refine EvK.pure (v := Sl.val a0) (w_none rfl) rfl rfl (f_move rfl rfl) ?_
  obtain ⟨x1, hx1, hF⟩ := hF
  refine EvK.read (v := .string x1) (w_none rfl) rfl rfl (f_b2s Try.underlying29 Try.underlying9 Try.underlying5 rfl rfl hx1) ?_
  refine EvK.pure (v := Sl.val a1) (w_none rfl) rfl rfl (f_move rfl rfl) ?_
  obtain ⟨x2, hx2, hF⟩ := hF
  refine EvK.read (v := .string x2) (w_none rfl) rfl rfl (f_b2s Try.underlying29 Try.underlying9 Try.underlying5 rfl rfl hx2) ?_
  refine EvK.pure (v := .bool (x1.toList == x2.toList)) (w_none rfl) rfl rfl (f_seql rfl rfl rfl) ?_
  refine EvK.pure (v := .bool (x1.toList == x2.toList)) (w_none rfl) rfl rfl (f_assign rfl rfl) ?_
  refine EvK.nil ?_
  refine WP.seq ?_
  refine WP.region ?_
  refine EvK.pure (v := Sl.val a0) (w_none rfl) rfl rfl (f_move rfl rfl) ?_
  refine EvK.pure (v := Sl.val a0) (w_none rfl) rfl rfl (f_move rfl rfl) ?_
  refine EvK.pure (v := .int .i64 (a0.len : Int)) (w_none rfl) rfl rfl (f_lenL (s := a0) Try.underlying29 rfl rfl) ?_
  refine EvK.pure (v := .int .i64 (IntKind.i64.wrap ((a0.len : Int) + 9))) (w_none rfl) rfl rfl (f_add rfl rfl rfl) ?_
  obtain ⟨x3, hx3, hF⟩ := hF
  refine EvK.pure (v := Sl.val x3) (w_none rfl) rfl rfl (f_slice Try.underlying29 ty5.size rfl rfl bndV_none (bndV_some rfl) bndV_none hx3) ?_
  refine EvK.pure (v := Sl.val x3) (w_none rfl) rfl rfl (f_assign rfl rfl) ?_
  refine EvK.nil ?_
  refine WP.joinF (fun (s1 : Bool) => [(5, .bool s1), (6, Sl.val x3)]) hF ?_ ?_
  · intro s1 E0 h1 hF
    refine WP.joinF (fun (s2 : Unit) => [(5, .bool s1)]) hF ?_ ?_
    · intro s2 E0 h2 hF
      refine WP.seq ?_
      refine WP.region ?_
      refine EvK.pure (v := .bool s1) (w_none rfl) rfl rfl (f_move rfl rfl) ?_
      refine EvK.pure (v := .bool s1) (w_none rfl) rfl rfl (f_assign rfl rfl) ?_
      refine EvK.nil ?_
      refine WP.ret ?_
      exact Ret.mk (vs := [.bool s1]) s1 ⟨rfl, trivial⟩ rfl hF
    · intro k2 hF
      refine WP.seq ?_
      refine WP.region ?_
      refine EvK.pure (v := .int .i64 0) (w_none rfl) rfl rfl (f_assign rfl rfl) ?_
      refine EvK.nil ?_
      refine WP.block ?_
      refine WP.loopF (fun (s3 : Int) => [(8, .int .i64 s3), (5, .bool s1), (6, Sl.val x3)]) hF ⟨rfl, rfl, rfl, trivial⟩ ?_
      intro k3 s3 E0 h3 hF
      refine WP.seq ?_
      refine WP.seq ?_
      refine WP.region ?_
      refine EvK.pure (v := .int .i64 s3) (w_none rfl) rfl rfl (f_move rfl rfl) ?_
      refine EvK.pure (v := Sl.val x3) (w_none rfl) rfl rfl (f_move rfl rfl) ?_
      refine EvK.pure (v := .int .i64 (x3.len : Int)) (w_none rfl) rfl rfl (f_lenL (s := x3) Try.underlying29 rfl rfl) ?_
      refine EvK.pure (v := .bool (decide (s3 < (x3.len : Int)))) (w_none rfl) rfl rfl (f_lss rfl rfl rfl) ?_
      refine EvK.nil ?_
      rcases ite_inv hF with ⟨c1, hF⟩ | ⟨c1, hF⟩
      · refine WP.cond_true _ rfl c1 ?_
        refine WP.skip ?_
        refine WP.seq ?_
        refine WP.block ?_
        refine WP.region ?_
        refine EvK.pure (v := Sl.val x3) (w_none rfl) rfl rfl (f_move rfl rfl) ?_
        refine EvK.pure (v := .int .i64 s3) (w_none rfl) rfl rfl (f_move rfl rfl) ?_
        obtain ⟨q1, hq1, hF⟩ := hF
        refine EvK.pure (v := .pointer (some q1)) (w_none rfl) rfl rfl (f_indexAddr (s := x3) Try.underlying29 ty5.size rfl rfl rfl hq1) ?_
        obtain ⟨h4, hs1, hF⟩ := hF
        refine EvK.runN (w_none rfl) rfl (f_store (kI .u8) ty5.size (z := 94) rfl rfl rfl hs1) ?_
        rintro _ _ ⟨rfl, rfl⟩
        refine EvK.nil ?_
        refine WP.region ?_
        refine EvK.pure (v := .int .i64 s3) (w_none rfl) rfl rfl (f_move rfl rfl) ?_
        refine EvK.pure (v := .int .i64 (IntKind.i64.wrap (s3 + 1))) (w_none rfl) rfl rfl (f_add rfl rfl rfl) ?_
        refine EvK.pure (v := .int .i64 (IntKind.i64.wrap (s3 + 1))) (w_none rfl) rfl rfl (f_assign rfl rfl) ?_
        refine EvK.nil ?_
        exact KE.mk (IntKind.i64.wrap (s3 + 1)) ⟨rfl, rfl, rfl, trivial⟩ hF
      · refine WP.cond_false _ rfl c1 ?_
        refine WP.exit ?_
        exact KE.mk () ⟨rfl, trivial⟩ hF
  · intro k1 hF
    refine WP.seq ?_
    refine WP.region ?_
    refine EvK.pure (v := Sl.val a0) (w_none rfl) rfl rfl (f_move rfl rfl) ?_
    refine EvK.pure (v := .int .i64 (a0.len : Int)) (w_none rfl) rfl rfl (f_lenL (s := a0) Try.underlying29 rfl rfl) ?_
    refine EvK.pure (v := .int .i64 (a0.len : Int)) (w_none rfl) rfl rfl (f_assign rfl rfl) ?_
    refine EvK.nil ?_
    refine WP.block ?_
    refine WP.loopF (fun (s4 : Bool × Int) => [(5, .bool s4.1), (7, .int .i64 s4.2), (6, Sl.val x3)]) hF ⟨rfl, rfl, rfl, trivial⟩ ?_
    intro k4 s4 E0 h5 hF
    refine WP.seq ?_
    refine WP.seq ?_
    refine WP.region ?_
    refine EvK.pure (v := .int .i64 s4.2) (w_none rfl) rfl rfl (f_move rfl rfl) ?_
    refine EvK.pure (v := Sl.val x3) (w_none rfl) rfl rfl (f_move rfl rfl) ?_
    refine EvK.pure (v := .int .i64 (x3.len : Int)) (w_none rfl) rfl rfl (f_lenL (s := x3) Try.underlying29 rfl rfl) ?_
    refine EvK.pure (v := .bool (decide (s4.2 < (x3.len : Int)))) (w_none rfl) rfl rfl (f_lss rfl rfl rfl) ?_
    refine EvK.nil ?_
    rcases ite_inv hF with ⟨c2, hF⟩ | ⟨c2, hF⟩
    · refine WP.cond_true _ rfl c2 ?_
      refine WP.skip ?_
      refine WP.joinF (fun (s5 : Bool) => [(5, .bool s5), (6, Sl.val x3), (7, .int .i64 s4.2)]) hF ?_ ?_
      · intro s5 E0 h6 hF
        refine WP.region ?_
        refine EvK.pure (v := .int .i64 s4.2) (w_none rfl) rfl rfl (f_move rfl rfl) ?_
        refine EvK.pure (v := .int .i64 (IntKind.i64.wrap (s4.2 + 1))) (w_none rfl) rfl rfl (f_add rfl rfl rfl) ?_
        refine EvK.pure (v := .int .i64 (IntKind.i64.wrap (s4.2 + 1))) (w_none rfl) rfl rfl (f_assign rfl rfl) ?_
        refine EvK.nil ?_
        exact KE.mk (s5, IntKind.i64.wrap (s4.2 + 1)) ⟨rfl, rfl, rfl, trivial⟩ hF
      · intro k5 hF
        refine WP.block ?_
        refine WP.region ?_
        refine EvK.pure (v := .bool s4.1) (w_none rfl) rfl rfl (f_move rfl rfl) ?_
        refine EvK.pure (v := .bool s4.1) (w_none rfl) rfl rfl (f_move rfl rfl) ?_
        rcases ite_inv hF with ⟨c3, hF⟩ | ⟨c3, hF⟩
        · refine EvK.pure (v := Sl.val x3) (w_some rfl rfl c3) rfl rfl (f_move rfl rfl) ?_
          refine EvK.pure (v := .int .i64 s4.2) (w_some rfl rfl c3) rfl rfl (f_move rfl rfl) ?_
          obtain ⟨q2, hq2, hF⟩ := hF
          refine EvK.pure (v := .pointer (some q2)) (w_some rfl rfl c3) rfl rfl (f_indexAddr (s := x3) Try.underlying29 ty5.size rfl rfl rfl hq2) ?_
          obtain ⟨x4, hx4, hF⟩ := hF
          refine EvK.read (v := .int .u8 x4) (w_some rfl rfl c3) rfl rfl (f_load (kI .u8) ty5 rfl rfl hx4 rfl) ?_
          refine EvK.pure (v := .bool (x4 == 169)) (w_some rfl rfl c3) rfl rfl (f_eql rfl rfl rfl) ?_
          refine EvK.pure (v := .bool (x4 == 169)) (w_none rfl) rfl rfl (f_pickT rfl rfl c3 rfl) ?_
          refine EvK.pure (v := .bool (x4 == 169)) (w_none rfl) rfl rfl (f_assign rfl rfl) ?_
          refine EvK.nil ?_
          exact KE.mk (x4 == 169) ⟨rfl, rfl, rfl, trivial⟩ hF
        · refine EvK.not (w_not rfl rfl c3) rfl rfl ?_
          refine EvK.not (w_not rfl rfl c3) rfl rfl ?_
          refine EvK.not (w_not rfl rfl c3) rfl rfl ?_
          refine EvK.not (w_not rfl rfl c3) rfl rfl ?_
          refine EvK.not (w_not rfl rfl c3) rfl rfl ?_
          refine EvK.pure (v := .bool false) (w_none rfl) rfl rfl (f_pickF rfl rfl c3 rfl) ?_
          refine EvK.pure (v := .bool false) (w_none rfl) rfl rfl (f_assign rfl rfl) ?_
          refine EvK.nil ?_
          exact KE.mk false ⟨rfl, rfl, rfl, trivial⟩ hF
    · refine WP.cond_false _ rfl c2 ?_
      refine WP.exit ?_
      exact KE.mk s4.1 ⟨rfl, rfl, trivial⟩ hF
end Go.Proofs.Ytbdopnhfbjdegaa
