/- spate/spatelaw12.spoilt, as a predicate over the heap, and that the code comes to it. Printed by gen.py. -/
import Derived.Test.YtomngllmnhdmlaaB0
namespace Go.Proofs.Ytomngllmnhdmlaa
open Go Go.Tr
set_option linter.unusedVariables false
set_option maxRecDepth 100000
set_option maxHeartbeats 400000
def spatelaw12_spoilt.b2 (p0 : Option Addr) (p2 : Int) (s : Int) (h : H) (K : Int ⊕ Unit → H → Prop) : Prop :=
  rd p0 fun q1 =>
  rd (ld kL (q1.add 0) h) fun x1 =>
  rd (ixA 4 x1 p2) fun q2 =>
  rd (ld kL (q2.add 3) h) fun x2 =>
  if (decide (s < (x2.len : Int))) = true then
    rd p0 fun q3 =>
    rd (ld kL (q3.add 0) h) fun x3 =>
    rd (ixA 4 x3 p2) fun q4 =>
    rd (ld kL (q4.add 3) h) fun x4 =>
    rd (ixA 1 x4 s) fun q5 =>
    rd (st (kI .i64) q5 (-3) h) fun h4 =>
    K (.inl (IntKind.i64.wrap (s + 1))) h4
  else
    K (.inr ()) h
def spatelaw12_spoilt.b3 (p0 : Option Addr) (p2 : Int) (s : Int) (h : H) (K : Int ⊕ Unit → H → Prop) : Prop :=
  rd p0 fun q6 =>
  rd (ld kL (q6.add 0) h) fun x5 =>
  rd (ixA 4 x5 p2) fun q7 =>
  rd (ld kL (q7.add 1) h) fun x6 =>
  if (decide (s < (x6.len : Int))) = true then
    rd p0 fun q8 =>
    rd (ld kL (q8.add 0) h) fun x7 =>
    rd (ixA 4 x7 p2) fun q9 =>
    rd (ld kL (q9.add 1) h) fun x8 =>
    rd (ixA 2 x8 s) fun q10 =>
    rd (st k44 q10 (S44.mk (-3) false) h) fun h6 =>
    K (.inl (IntKind.i64.wrap (s + 1))) h6
  else
    K (.inr ()) h
def spatelaw12_spoilt.b1 (p0 : Option Addr) (s : Int) (h : H) (K : Int ⊕ Unit → H → Prop) : Prop :=
  jn (fun (k1 : Bool → H → Prop) =>
    rd p0 fun q11 =>
    rd (ld (kI .i64) (q11.add 1) h) fun x9 =>
    if (decide (s < x9)) = true then
      rd p0 fun q12 =>
      rd (ld kL (q12.add 0) h) fun x10 =>
      k1 (decide (s < (x10.len : Int))) h
    else
      k1 false h) fun s1 h1 =>
  if s1 = true then
    jn (fun (k2 : Unit → H → Prop) =>
      jn (fun (k3 : Unit → H → Prop) =>
        loopE (spatelaw12_spoilt.b3 p0 s) 0 h1 (fun r2 hh => k3 r2 hh)) fun s3 h3 =>
      loopE (spatelaw12_spoilt.b2 p0 s) 0 h3 (fun r1 hh => k2 r1 hh)) fun s2 h2 =>
    K (.inl (IntKind.i64.wrap (s + 1))) h2
  else
    K (.inr ()) h1
/-- spate/spatelaw12.spoilt -/
def spatelaw12_spoilt (a0 : Option Addr) (h : H) (Q : Unit → H → Prop) : Prop :=
  loopE (spatelaw12_spoilt.b1 a0) 0 h (fun r3 hh => Q r3 hh)
theorem spatelaw12_spoilt.sound {a0 : Option Addr} {h : H} {Q : Unit → H → Prop} (hF : spatelaw12_spoilt a0 h Q) :
    CallsH Try.prog 23 (List.toArray (α := Value) [.pointer a0]) h fun v h' => ∃ x : Unit, v = .tuple #[] ∧ Q x h' := by
  refine CallsH.of_body Try.func23 rfl 69 rfl rfl ?_
  refine WP.seq ?_
  refine WP.region ?_
  refine EvK.pure (v := .int .i64 0) (w_none rfl) rfl rfl (f_assign rfl rfl) ?_
  refine EvK.nil ?_
  refine WP.block ?_
  refine WP.loopF (fun (s1 : Int) => [(2, .int .i64 s1), (0, .pointer a0)]) hF ⟨rfl, rfl, trivial⟩ ?_
  intro k1 s1 E0 h1 hF
  refine WP.seq ?_
  refine WP.joinF (fun (s2 : Bool) => [(19, .bool s2), (0, .pointer a0), (2, .int .i64 s1)]) hF ?_ ?_
  · intro s2 E0 h2 hF
    rcases ite_inv hF with ⟨c1, hF⟩ | ⟨c1, hF⟩
    · refine WP.cond_true _ rfl c1 ?_
      refine WP.skip ?_
      refine WP.joinF (fun (s3 : Unit) => [(0, .pointer a0), (2, .int .i64 s1)]) hF ?_ ?_
      · intro s3 E0 h3 hF
        refine WP.region ?_
        refine EvK.pure (v := .int .i64 s1) (w_none rfl) rfl rfl (f_move rfl rfl) ?_
        refine EvK.pure (v := .int .i64 (IntKind.i64.wrap (s1 + 1))) (w_none rfl) rfl rfl (f_add rfl rfl rfl) ?_
        refine EvK.pure (v := .int .i64 (IntKind.i64.wrap (s1 + 1))) (w_none rfl) rfl rfl (f_assign rfl rfl) ?_
        refine EvK.nil ?_
        exact KE.mk (IntKind.i64.wrap (s1 + 1)) ⟨rfl, rfl, trivial⟩ hF
      · intro k3 hF
        refine WP.block ?_
        refine WP.joinF (fun (s4 : Unit) => [(0, .pointer a0), (2, .int .i64 s1)]) hF ?_ ?_
        · intro s4 E0 h4 hF
          refine WP.seq ?_
          refine WP.region ?_
          refine EvK.pure (v := .int .i64 0) (w_none rfl) rfl rfl (f_assign rfl rfl) ?_
          refine EvK.nil ?_
          refine WP.block ?_
          refine WP.loopF (fun (s5 : Int) => [(4, .int .i64 s5), (0, .pointer a0), (2, .int .i64 s1)]) hF ⟨rfl, rfl, rfl, trivial⟩ ?_
          intro k5 s5 E0 h5 hF
          refine WP.seq ?_
          refine WP.seq ?_
          refine WP.region ?_
          refine EvK.pure (v := .int .i64 s5) (w_none rfl) rfl rfl (f_move rfl rfl) ?_
          refine EvK.pure (v := .pointer a0) (w_none rfl) rfl rfl (f_move rfl rfl) ?_
          obtain ⟨q1, hq1, hF⟩ := hF
          refine EvK.pure (v := .pointer (some q1)) (w_none rfl) rfl rfl (f_nilCheck rfl (congrArg Value.pointer hq1)) ?_
          refine EvK.pure (v := .pointer (some (q1.add 0))) (w_none rfl) rfl rfl (f_fieldAddr fd34_0 rfl rfl) ?_
          obtain ⟨x1, hx1, hF⟩ := hF
          refine EvK.read (v := Sl.val x1) (w_none rfl) rfl rfl (f_load kL ty31 rfl rfl hx1 rfl) ?_
          refine EvK.pure (v := .int .i64 s1) (w_none rfl) rfl rfl (f_move rfl rfl) ?_
          obtain ⟨q2, hq2, hF⟩ := hF
          refine EvK.pure (v := .pointer (some q2)) (w_none rfl) rfl rfl (f_indexAddr (s := x1) Try.underlying31 ty48.size rfl rfl rfl hq2) ?_
          refine EvK.pure (v := .pointer (some (q2.add 3))) (w_none rfl) rfl rfl (f_fieldAddr fd48_3 rfl rfl) ?_
          obtain ⟨x2, hx2, hF⟩ := hF
          refine EvK.read (v := Sl.val x2) (w_none rfl) rfl rfl (f_load kL ty38 rfl rfl hx2 rfl) ?_
          refine EvK.pure (v := .int .i64 (x2.len : Int)) (w_none rfl) rfl rfl (f_lenL (s := x2) Try.underlying38 rfl rfl) ?_
          refine EvK.pure (v := .bool (decide (s5 < (x2.len : Int)))) (w_none rfl) rfl rfl (f_lss rfl rfl rfl) ?_
          refine EvK.nil ?_
          rcases ite_inv hF with ⟨c2, hF⟩ | ⟨c2, hF⟩
          · refine WP.cond_true _ rfl c2 ?_
            refine WP.skip ?_
            refine WP.seq ?_
            refine WP.block ?_
            refine WP.region ?_
            refine EvK.pure (v := .pointer a0) (w_none rfl) rfl rfl (f_move rfl rfl) ?_
            obtain ⟨q3, hq3, hF⟩ := hF
            refine EvK.pure (v := .pointer (some q3)) (w_none rfl) rfl rfl (f_nilCheck rfl (congrArg Value.pointer hq3)) ?_
            refine EvK.pure (v := .pointer (some (q3.add 0))) (w_none rfl) rfl rfl (f_fieldAddr fd34_0 rfl rfl) ?_
            obtain ⟨x3, hx3, hF⟩ := hF
            refine EvK.read (v := Sl.val x3) (w_none rfl) rfl rfl (f_load kL ty31 rfl rfl hx3 rfl) ?_
            refine EvK.pure (v := .int .i64 s1) (w_none rfl) rfl rfl (f_move rfl rfl) ?_
            obtain ⟨q4, hq4, hF⟩ := hF
            refine EvK.pure (v := .pointer (some q4)) (w_none rfl) rfl rfl (f_indexAddr (s := x3) Try.underlying31 ty48.size rfl rfl rfl hq4) ?_
            refine EvK.pure (v := .pointer (some (q4.add 3))) (w_none rfl) rfl rfl (f_fieldAddr fd48_3 rfl rfl) ?_
            obtain ⟨x4, hx4, hF⟩ := hF
            refine EvK.read (v := Sl.val x4) (w_none rfl) rfl rfl (f_load kL ty38 rfl rfl hx4 rfl) ?_
            refine EvK.pure (v := .int .i64 s5) (w_none rfl) rfl rfl (f_move rfl rfl) ?_
            obtain ⟨q5, hq5, hF⟩ := hF
            refine EvK.pure (v := .pointer (some q5)) (w_none rfl) rfl rfl (f_indexAddr (s := x4) Try.underlying38 ty3.size rfl rfl rfl hq5) ?_
            obtain ⟨h6, hs1, hF⟩ := hF
            refine EvK.runN (w_none rfl) rfl (f_store (kI .i64) ty3.size (z := (-3)) rfl rfl rfl hs1) ?_
            rintro _ _ ⟨rfl, rfl⟩
            refine EvK.nil ?_
            refine WP.region ?_
            refine EvK.pure (v := .int .i64 s5) (w_none rfl) rfl rfl (f_move rfl rfl) ?_
            refine EvK.pure (v := .int .i64 (IntKind.i64.wrap (s5 + 1))) (w_none rfl) rfl rfl (f_add rfl rfl rfl) ?_
            refine EvK.pure (v := .int .i64 (IntKind.i64.wrap (s5 + 1))) (w_none rfl) rfl rfl (f_assign rfl rfl) ?_
            refine EvK.nil ?_
            exact KE.mk (IntKind.i64.wrap (s5 + 1)) ⟨rfl, rfl, rfl, trivial⟩ hF
          · refine WP.cond_false _ rfl c2 ?_
            refine WP.exit ?_
            exact KE.mk () ⟨rfl, rfl, trivial⟩ hF
        · intro k4 hF
          refine WP.seq ?_
          refine WP.region ?_
          refine EvK.pure (v := .int .i64 0) (w_none rfl) rfl rfl (f_assign rfl rfl) ?_
          refine EvK.nil ?_
          refine WP.block ?_
          refine WP.loopF (fun (s6 : Int) => [(3, .int .i64 s6), (0, .pointer a0), (2, .int .i64 s1)]) hF ⟨rfl, rfl, rfl, trivial⟩ ?_
          intro k6 s6 E0 h7 hF
          refine WP.seq ?_
          refine WP.seq ?_
          refine WP.region ?_
          refine EvK.pure (v := .int .i64 s6) (w_none rfl) rfl rfl (f_move rfl rfl) ?_
          refine EvK.pure (v := .pointer a0) (w_none rfl) rfl rfl (f_move rfl rfl) ?_
          obtain ⟨q6, hq6, hF⟩ := hF
          refine EvK.pure (v := .pointer (some q6)) (w_none rfl) rfl rfl (f_nilCheck rfl (congrArg Value.pointer hq6)) ?_
          refine EvK.pure (v := .pointer (some (q6.add 0))) (w_none rfl) rfl rfl (f_fieldAddr fd34_0 rfl rfl) ?_
          obtain ⟨x5, hx5, hF⟩ := hF
          refine EvK.read (v := Sl.val x5) (w_none rfl) rfl rfl (f_load kL ty31 rfl rfl hx5 rfl) ?_
          refine EvK.pure (v := .int .i64 s1) (w_none rfl) rfl rfl (f_move rfl rfl) ?_
          obtain ⟨q7, hq7, hF⟩ := hF
          refine EvK.pure (v := .pointer (some q7)) (w_none rfl) rfl rfl (f_indexAddr (s := x5) Try.underlying31 ty48.size rfl rfl rfl hq7) ?_
          refine EvK.pure (v := .pointer (some (q7.add 1))) (w_none rfl) rfl rfl (f_fieldAddr fd48_1 rfl rfl) ?_
          obtain ⟨x6, hx6, hF⟩ := hF
          refine EvK.read (v := Sl.val x6) (w_none rfl) rfl rfl (f_load kL ty46 rfl rfl hx6 rfl) ?_
          refine EvK.pure (v := .int .i64 (x6.len : Int)) (w_none rfl) rfl rfl (f_lenL (s := x6) Try.underlying46 rfl rfl) ?_
          refine EvK.pure (v := .bool (decide (s6 < (x6.len : Int)))) (w_none rfl) rfl rfl (f_lss rfl rfl rfl) ?_
          refine EvK.nil ?_
          rcases ite_inv hF with ⟨c3, hF⟩ | ⟨c3, hF⟩
          · refine WP.cond_true _ rfl c3 ?_
            refine WP.skip ?_
            refine WP.seq ?_
            refine WP.block ?_
            refine WP.region ?_
            refine EvK.pure (v := .pointer a0) (w_none rfl) rfl rfl (f_move rfl rfl) ?_
            obtain ⟨q8, hq8, hF⟩ := hF
            refine EvK.pure (v := .pointer (some q8)) (w_none rfl) rfl rfl (f_nilCheck rfl (congrArg Value.pointer hq8)) ?_
            refine EvK.pure (v := .pointer (some (q8.add 0))) (w_none rfl) rfl rfl (f_fieldAddr fd34_0 rfl rfl) ?_
            obtain ⟨x7, hx7, hF⟩ := hF
            refine EvK.read (v := Sl.val x7) (w_none rfl) rfl rfl (f_load kL ty31 rfl rfl hx7 rfl) ?_
            refine EvK.pure (v := .int .i64 s1) (w_none rfl) rfl rfl (f_move rfl rfl) ?_
            obtain ⟨q9, hq9, hF⟩ := hF
            refine EvK.pure (v := .pointer (some q9)) (w_none rfl) rfl rfl (f_indexAddr (s := x7) Try.underlying31 ty48.size rfl rfl rfl hq9) ?_
            refine EvK.pure (v := .pointer (some (q9.add 1))) (w_none rfl) rfl rfl (f_fieldAddr fd48_1 rfl rfl) ?_
            obtain ⟨x8, hx8, hF⟩ := hF
            refine EvK.read (v := Sl.val x8) (w_none rfl) rfl rfl (f_load kL ty46 rfl rfl hx8 rfl) ?_
            refine EvK.pure (v := .int .i64 s6) (w_none rfl) rfl rfl (f_move rfl rfl) ?_
            refine EvK.pure (v := k44.val (S44.mk (-3) false)) (w_none rfl) rfl rfl (f_build (cells := k44.enc (S44.mk (-3) false)) st45 rfl rfl rfl) ?_
            obtain ⟨q10, hq10, hF⟩ := hF
            refine EvK.pure (v := .pointer (some q10)) (w_none rfl) rfl rfl (f_indexAddr (s := x8) Try.underlying46 ty45.size rfl rfl rfl hq10) ?_
            obtain ⟨h8, hs2, hF⟩ := hF
            refine EvK.runN (w_none rfl) rfl (f_store k44 ty45.size (z := (S44.mk (-3) false)) rfl rfl rfl hs2) ?_
            rintro _ _ ⟨rfl, rfl⟩
            refine EvK.nil ?_
            refine WP.region ?_
            refine EvK.pure (v := .int .i64 s6) (w_none rfl) rfl rfl (f_move rfl rfl) ?_
            refine EvK.pure (v := .int .i64 (IntKind.i64.wrap (s6 + 1))) (w_none rfl) rfl rfl (f_add rfl rfl rfl) ?_
            refine EvK.pure (v := .int .i64 (IntKind.i64.wrap (s6 + 1))) (w_none rfl) rfl rfl (f_assign rfl rfl) ?_
            refine EvK.nil ?_
            exact KE.mk (IntKind.i64.wrap (s6 + 1)) ⟨rfl, rfl, rfl, trivial⟩ hF
          · refine WP.cond_false _ rfl c3 ?_
            refine WP.exit ?_
            exact KE.mk () ⟨rfl, rfl, trivial⟩ hF
    · refine WP.cond_false _ rfl c1 ?_
      refine WP.exit ?_
      exact Ret.mk (vs := []) () trivial rfl hF
  · intro k2 hF
    refine WP.region ?_
    refine EvK.pure (v := .int .i64 s1) (w_none rfl) rfl rfl (f_move rfl rfl) ?_
    refine EvK.pure (v := .pointer a0) (w_none rfl) rfl rfl (f_move rfl rfl) ?_
    obtain ⟨q11, hq11, hF⟩ := hF
    refine EvK.pure (v := .pointer (some q11)) (w_none rfl) rfl rfl (f_nilCheck rfl (congrArg Value.pointer hq11)) ?_
    refine EvK.pure (v := .pointer (some (q11.add 1))) (w_none rfl) rfl rfl (f_fieldAddr fd34_1 rfl rfl) ?_
    obtain ⟨x9, hx9, hF⟩ := hF
    refine EvK.read (v := .int .i64 x9) (w_none rfl) rfl rfl (f_load (kI .i64) ty3 rfl rfl hx9 rfl) ?_
    refine EvK.pure (v := .bool (decide (s1 < x9))) (w_none rfl) rfl rfl (f_lss rfl rfl rfl) ?_
    refine EvK.pure (v := .bool (decide (s1 < x9))) (w_none rfl) rfl rfl (f_move rfl rfl) ?_
    rcases ite_inv hF with ⟨c4, hF⟩ | ⟨c4, hF⟩
    · refine EvK.pure (v := .int .i64 s1) (w_some rfl rfl c4) rfl rfl (f_move rfl rfl) ?_
      refine EvK.pure (v := .pointer a0) (w_some rfl rfl c4) rfl rfl (f_move rfl rfl) ?_
      obtain ⟨q12, hq12, hF⟩ := hF
      refine EvK.pure (v := .pointer (some q12)) (w_some rfl rfl c4) rfl rfl (f_nilCheck rfl (congrArg Value.pointer hq12)) ?_
      refine EvK.pure (v := .pointer (some (q12.add 0))) (w_some rfl rfl c4) rfl rfl (f_fieldAddr fd34_0 rfl rfl) ?_
      obtain ⟨x10, hx10, hF⟩ := hF
      refine EvK.read (v := Sl.val x10) (w_some rfl rfl c4) rfl rfl (f_load kL ty31 rfl rfl hx10 rfl) ?_
      refine EvK.pure (v := .int .i64 (x10.len : Int)) (w_some rfl rfl c4) rfl rfl (f_lenL (s := x10) Try.underlying31 rfl rfl) ?_
      refine EvK.pure (v := .bool (decide (s1 < (x10.len : Int)))) (w_some rfl rfl c4) rfl rfl (f_lss rfl rfl rfl) ?_
      refine EvK.pure (v := .bool (decide (s1 < (x10.len : Int)))) (w_none rfl) rfl rfl (f_pickT rfl rfl c4 rfl) ?_
      refine EvK.nil ?_
      exact KE.mk (decide (s1 < (x10.len : Int))) ⟨rfl, rfl, rfl, trivial⟩ hF
    · refine EvK.not (w_not rfl rfl c4) rfl rfl ?_
      refine EvK.not (w_not rfl rfl c4) rfl rfl ?_
      refine EvK.not (w_not rfl rfl c4) rfl rfl ?_
      refine EvK.not (w_not rfl rfl c4) rfl rfl ?_
      refine EvK.not (w_not rfl rfl c4) rfl rfl ?_
      refine EvK.not (w_not rfl rfl c4) rfl rfl ?_
      refine EvK.not (w_not rfl rfl c4) rfl rfl ?_
      refine EvK.pure (v := .bool false) (w_none rfl) rfl rfl (f_pickF rfl rfl c4 rfl) ?_
      refine EvK.nil ?_
      exact KE.mk false ⟨rfl, rfl, rfl, trivial⟩ hF
end Go.Proofs.Ytomngllmnhdmlaa
