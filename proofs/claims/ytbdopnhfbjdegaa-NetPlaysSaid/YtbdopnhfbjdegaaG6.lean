/- Functions as predicates over the heap, and that the code comes to them. Printed by gen.py, merged by group.py. -/
import Derived.Test.YtbdopnhfbjdegaaG0
import Derived.Test.YtbdopnhfbjdegaaG1
import Derived.Test.YtbdopnhfbjdegaaG2
import Derived.Test.YtbdopnhfbjdegaaG3
import Derived.Test.YtbdopnhfbjdegaaG4
import Derived.Test.YtbdopnhfbjdegaaG5
import Derived.Test.YtbdopnhfbjdegaaTy
namespace Go.Proofs.Ytbdopnhfbjdegaa
open Go Go.Tr
set_option linter.unusedVariables false
set_option maxRecDepth 100000
set_option maxHeartbeats 400000
/-- (*spate/spateref16.Net).Cut -/
def spateref16_Net_Cut (a0 : Option Addr) (a1 : Int) (h : H) (Q : Int → H → Prop) : Prop :=
  spateref16_Net_gone a0 a1 false h fun r1 h1 =>
  if (r1 != 0) = true then
    Q r1 h1
  else
    rd a0 fun q1 =>
    rd (ld kL (q1.add 2) h1) fun x1 =>
    rd (ixA 7 x1 a1) fun q2 =>
    rd (ld kB (q2.add 2) h1) fun x2 =>
    if x2 = true then
      Q 44 h1
    else
      rd a0 fun q3 =>
      rd (ld kL (q3.add 2) h1) fun x3 =>
      rd (ixA 7 x3 a1) fun q4 =>
      rd (st kB (q4.add 2) true h1) fun h2 =>
      rd a0 fun q5 =>
      rd (ld kL (q5.add 2) h2) fun x4 =>
      rd (ixA 7 x4 a1) fun q6 =>
      rd (st kL (q6.add 3) Sl.nil h2) fun h3 =>
      rd a0 fun q7 =>
      rd (ld kL (q7.add 2) h3) fun x5 =>
      rd (ixA 7 x5 a1) fun q8 =>
      rd (st kL (q8.add 4) Sl.nil h3) fun h4 =>
      rd a0 fun q9 =>
      rd (ld kL (q9.add 2) h4) fun x6 =>
      rd (ixA 7 x6 a1) fun q10 =>
      rd (st kL (q10.add 5) Sl.nil h4) fun h5 =>
      Q 0 h5
theorem spateref16_Net_Cut.sound {a0 : Option Addr} {a1 : Int} {h : H} {Q : Int → H → Prop} (hF : spateref16_Net_Cut a0 a1 h Q) :
    CallsH Try.prog 42 (List.toArray (α := Value) [.pointer a0, .int .i64 a1]) h fun v h' => ∃ x : Int, v = .int .i64 x ∧ Q x h' := by
  refine CallsH.of_body Try.func42 rfl 48 rfl rfl ?_
  refine WP.seq ?_
  refine WP.region ?_
  refine EvK.pure (v := .int .i64 0) (w_none rfl) rfl rfl (f_assign rfl rfl) ?_
  refine EvK.nil ?_
  refine WP.seq ?_
  refine WP.region ?_
  refine EvK.pure (v := .pointer a0) (w_none rfl) rfl rfl (f_move rfl rfl) ?_
  refine EvK.pure (v := .int .i64 a1) (w_none rfl) rfl rfl (f_move rfl rfl) ?_
  refine EvK.call (w_none rfl) rfl rfl (enterH Try.func50 rfl rfl rfl rfl (spateref16_Net_gone.sound hF)) ?_
  rintro _ h1 ⟨r1, rfl, hF⟩
  refine EvK.pure (v := .int .i64 r1) (w_none rfl) rfl rfl (f_assign rfl rfl) ?_
  refine EvK.nil ?_
  refine WP.seq ?_
  refine WP.seq ?_
  refine WP.region ?_
  refine EvK.pure (v := .int .i64 r1) (w_none rfl) rfl rfl (f_move rfl rfl) ?_
  refine EvK.pure (v := .bool (r1 != 0)) (w_none rfl) rfl rfl (f_neq rfl rfl rfl) ?_
  refine EvK.nil ?_
  rcases ite_inv hF with ⟨c1, hF⟩ | ⟨c1, hF⟩
  · refine WP.cond_true _ rfl c1 ?_
    refine WP.seq ?_
    refine WP.region ?_
    refine EvK.pure (v := .int .i64 r1) (w_none rfl) rfl rfl (f_move rfl rfl) ?_
    refine EvK.pure (v := .int .i64 r1) (w_none rfl) rfl rfl (f_assign rfl rfl) ?_
    refine EvK.nil ?_
    refine WP.ret ?_
    exact Ret.mk (vs := [.int .i64 r1]) r1 ⟨rfl, trivial⟩ rfl hF
  · refine WP.cond_false _ rfl c1 ?_
    refine WP.skip ?_
    refine WP.seq ?_
    refine WP.seq ?_
    refine WP.region ?_
    refine EvK.pure (v := .pointer a0) (w_none rfl) rfl rfl (f_move rfl rfl) ?_
    obtain ⟨q1, hq1, hF⟩ := hF
    refine EvK.pure (v := .pointer (some q1)) (w_none rfl) rfl rfl (f_nilCheck rfl (congrArg Value.pointer hq1)) ?_
    refine EvK.pure (v := .pointer (some (q1.add 2))) (w_none rfl) rfl rfl (f_fieldAddr fd83_2 rfl rfl) ?_
    obtain ⟨x1, hx1, hF⟩ := hF
    refine EvK.read (v := Sl.val x1) (w_none rfl) rfl rfl (f_load kL ty81 rfl rfl hx1 rfl) ?_
    refine EvK.pure (v := .int .i64 a1) (w_none rfl) rfl rfl (f_move rfl rfl) ?_
    obtain ⟨q2, hq2, hF⟩ := hF
    refine EvK.pure (v := .pointer (some q2)) (w_none rfl) rfl rfl (f_indexAddr (s := x1) Try.underlying81 ty98.size rfl rfl rfl hq2) ?_
    refine EvK.pure (v := .pointer (some (q2.add 2))) (w_none rfl) rfl rfl (f_fieldAddr fd98_2 rfl rfl) ?_
    obtain ⟨x2, hx2, hF⟩ := hF
    refine EvK.read (v := .bool x2) (w_none rfl) rfl rfl (f_load kB ty4 rfl rfl hx2 rfl) ?_
    refine EvK.nil ?_
    rcases ite_inv hF with ⟨c2, hF⟩ | ⟨c2, hF⟩
    · refine WP.cond_true _ rfl c2 ?_
      refine WP.seq ?_
      refine WP.region ?_
      refine EvK.pure (v := .int .i64 44) (w_none rfl) rfl rfl (f_assign rfl rfl) ?_
      refine EvK.nil ?_
      refine WP.ret ?_
      exact Ret.mk (vs := [.int .i64 44]) 44 ⟨rfl, trivial⟩ rfl hF
    · refine WP.cond_false _ rfl c2 ?_
      refine WP.skip ?_
      refine WP.seq ?_
      refine WP.region ?_
      refine EvK.pure (v := .pointer a0) (w_none rfl) rfl rfl (f_move rfl rfl) ?_
      obtain ⟨q3, hq3, hF⟩ := hF
      refine EvK.pure (v := .pointer (some q3)) (w_none rfl) rfl rfl (f_nilCheck rfl (congrArg Value.pointer hq3)) ?_
      refine EvK.pure (v := .pointer (some (q3.add 2))) (w_none rfl) rfl rfl (f_fieldAddr fd83_2 rfl rfl) ?_
      obtain ⟨x3, hx3, hF⟩ := hF
      refine EvK.read (v := Sl.val x3) (w_none rfl) rfl rfl (f_load kL ty81 rfl rfl hx3 rfl) ?_
      refine EvK.pure (v := .int .i64 a1) (w_none rfl) rfl rfl (f_move rfl rfl) ?_
      obtain ⟨q4, hq4, hF⟩ := hF
      refine EvK.pure (v := .pointer (some q4)) (w_none rfl) rfl rfl (f_indexAddr (s := x3) Try.underlying81 ty98.size rfl rfl rfl hq4) ?_
      refine EvK.pure (v := .pointer (some (q4.add 2))) (w_none rfl) rfl rfl (f_fieldAddr fd98_2 rfl rfl) ?_
      obtain ⟨h2, hs1, hF⟩ := hF
      refine EvK.runN (w_none rfl) rfl (f_store kB ty4.size (z := true) rfl rfl rfl hs1) ?_
      rintro _ _ ⟨rfl, rfl⟩
      refine EvK.nil ?_
      refine WP.seq ?_
      refine WP.region ?_
      refine EvK.pure (v := .pointer a0) (w_none rfl) rfl rfl (f_move rfl rfl) ?_
      obtain ⟨q5, hq5, hF⟩ := hF
      refine EvK.pure (v := .pointer (some q5)) (w_none rfl) rfl rfl (f_nilCheck rfl (congrArg Value.pointer hq5)) ?_
      refine EvK.pure (v := .pointer (some (q5.add 2))) (w_none rfl) rfl rfl (f_fieldAddr fd83_2 rfl rfl) ?_
      obtain ⟨x4, hx4, hF⟩ := hF
      refine EvK.read (v := Sl.val x4) (w_none rfl) rfl rfl (f_load kL ty81 rfl rfl hx4 rfl) ?_
      refine EvK.pure (v := .int .i64 a1) (w_none rfl) rfl rfl (f_move rfl rfl) ?_
      obtain ⟨q6, hq6, hF⟩ := hF
      refine EvK.pure (v := .pointer (some q6)) (w_none rfl) rfl rfl (f_indexAddr (s := x4) Try.underlying81 ty98.size rfl rfl rfl hq6) ?_
      refine EvK.pure (v := .pointer (some (q6.add 3))) (w_none rfl) rfl rfl (f_fieldAddr fd98_3 rfl rfl) ?_
      obtain ⟨h3, hs2, hF⟩ := hF
      refine EvK.runN (w_none rfl) rfl (f_store kL ty29.size (z := Sl.nil) rfl rfl rfl hs2) ?_
      rintro _ _ ⟨rfl, rfl⟩
      refine EvK.nil ?_
      refine WP.seq ?_
      refine WP.region ?_
      refine EvK.pure (v := .pointer a0) (w_none rfl) rfl rfl (f_move rfl rfl) ?_
      obtain ⟨q7, hq7, hF⟩ := hF
      refine EvK.pure (v := .pointer (some q7)) (w_none rfl) rfl rfl (f_nilCheck rfl (congrArg Value.pointer hq7)) ?_
      refine EvK.pure (v := .pointer (some (q7.add 2))) (w_none rfl) rfl rfl (f_fieldAddr fd83_2 rfl rfl) ?_
      obtain ⟨x5, hx5, hF⟩ := hF
      refine EvK.read (v := Sl.val x5) (w_none rfl) rfl rfl (f_load kL ty81 rfl rfl hx5 rfl) ?_
      refine EvK.pure (v := .int .i64 a1) (w_none rfl) rfl rfl (f_move rfl rfl) ?_
      obtain ⟨q8, hq8, hF⟩ := hF
      refine EvK.pure (v := .pointer (some q8)) (w_none rfl) rfl rfl (f_indexAddr (s := x5) Try.underlying81 ty98.size rfl rfl rfl hq8) ?_
      refine EvK.pure (v := .pointer (some (q8.add 4))) (w_none rfl) rfl rfl (f_fieldAddr fd98_4 rfl rfl) ?_
      obtain ⟨h4, hs3, hF⟩ := hF
      refine EvK.runN (w_none rfl) rfl (f_store kL ty29.size (z := Sl.nil) rfl rfl rfl hs3) ?_
      rintro _ _ ⟨rfl, rfl⟩
      refine EvK.nil ?_
      refine WP.seq ?_
      refine WP.region ?_
      refine EvK.pure (v := .pointer a0) (w_none rfl) rfl rfl (f_move rfl rfl) ?_
      obtain ⟨q9, hq9, hF⟩ := hF
      refine EvK.pure (v := .pointer (some q9)) (w_none rfl) rfl rfl (f_nilCheck rfl (congrArg Value.pointer hq9)) ?_
      refine EvK.pure (v := .pointer (some (q9.add 2))) (w_none rfl) rfl rfl (f_fieldAddr fd83_2 rfl rfl) ?_
      obtain ⟨x6, hx6, hF⟩ := hF
      refine EvK.read (v := Sl.val x6) (w_none rfl) rfl rfl (f_load kL ty81 rfl rfl hx6 rfl) ?_
      refine EvK.pure (v := .int .i64 a1) (w_none rfl) rfl rfl (f_move rfl rfl) ?_
      obtain ⟨q10, hq10, hF⟩ := hF
      refine EvK.pure (v := .pointer (some q10)) (w_none rfl) rfl rfl (f_indexAddr (s := x6) Try.underlying81 ty98.size rfl rfl rfl hq10) ?_
      refine EvK.pure (v := .pointer (some (q10.add 5))) (w_none rfl) rfl rfl (f_fieldAddr fd98_5 rfl rfl) ?_
      obtain ⟨h5, hs4, hF⟩ := hF
      refine EvK.runN (w_none rfl) rfl (f_store kL ty29.size (z := Sl.nil) rfl rfl rfl hs4) ?_
      rintro _ _ ⟨rfl, rfl⟩
      refine EvK.nil ?_
      refine WP.seq ?_
      refine WP.region ?_
      refine EvK.pure (v := .int .i64 0) (w_none rfl) rfl rfl (f_assign rfl rfl) ?_
      refine EvK.nil ?_
      refine WP.ret ?_
      exact Ret.mk (vs := [.int .i64 0]) 0 ⟨rfl, trivial⟩ rfl hF
end Go.Proofs.Ytbdopnhfbjdegaa

namespace Go.Proofs.Ytbdopnhfbjdegaa
open Go Go.Tr
set_option linter.unusedVariables false
set_option maxRecDepth 100000
set_option maxHeartbeats 400000
/-- spate/spatelaw16.asked -/
def spatelaw16_asked (a0 : Option Addr) (a1 : Option Addr) (a2 : S48) (h : H) (Q : Bool → H → Prop) : Prop :=
  al 49 (k48.enc a2) h fun q1 h1 =>
  rd (ld (kI .i64) (q1.add 0) h1) fun x1 =>
  if (x1 == 1) = true then
    rd (ld (kI .i64) (q1.add 1) h1) fun x2 =>
    rd (ld (kI .i64) (q1.add 1) h1) fun x3 =>
    net_Net_Open a0 x2 h1 fun r1 h2 =>
    ld (kI .i64) (q1.add 1) h2 = some x3 ∧
    spateref16_Net_Open a1 x3 h2 fun r2 h3 =>
    Q (r1 == r2) h3
  else
    if (x1 == 2) = true then
      rd (ld kL (q1.add 2) h1) fun x4 =>
      spatelaw16_Lend x4 h1 fun r3 h4 =>
      jn (fun (k1 : Bool → H → Prop) =>
        rd (ld (kI .i64) (q1.add 1) h4) fun x5 =>
        rd (ld (kI .i64) (q1.add 1) h4) fun x6 =>
        rd (ld kL (q1.add 2) h4) fun x7 =>
        net_Net_Send a0 x5 r3 h4 fun r4 h6 =>
        ld kL (q1.add 2) h6 = some x7 ∧ ld (kI .i64) (q1.add 1) h6 = some x6 ∧
        spateref16_Net_Send a1 x6 x7 h6 fun r5 h7 =>
        if (r4 == r5) = true then
          rd (ld kL (q1.add 2) h7) fun x8 =>
          spatelaw16_Back r3 x8 h7 fun r6 h8 =>
          k1 r6 h8
        else
          k1 false h7) fun s1 h5 =>
      Q s1 h5
    else
      if (x1 == 3) = true then
        rd (ld (kI .i64) (q1.add 1) h1) fun x9 =>
        rd (ld (kI .i64) (q1.add 3) h1) fun x10 =>
        net_Net_Bring a0 x9 x10 h1 fun r7 h9 =>
        rd (ld (kI .i64) (q1.add 1) h9) fun x11 =>
        rd (ld (kI .i64) (q1.add 3) h9) fun x12 =>
        spateref16_Net_Bring a1 x11 x12 h9 fun r8 h10 =>
        jn (fun (k2 : Bool → H → Prop) =>
          if (r7.1 == r8.1) = true then
            k2 (r7.2 == r8.2) h10
          else
            k2 false h10) fun s2 h11 =>
        Q s2 h11
      else
        if (x1 == 4) = true then
          rd (ld (kI .i64) (q1.add 1) h1) fun x13 =>
          net_Net_Take a0 x13 h1 fun r9 h12 =>
          rd (ld (kI .i64) (q1.add 1) h12) fun x14 =>
          spateref16_Net_Take a1 x14 h12 fun r10 h13 =>
          jn (fun (k3 : Bool → H → Prop) =>
            rd (b2s r9.1 h13) fun x15 =>
            rd (b2s r10.1 h13) fun x16 =>
            if (x15.toList == x16.toList) = true then
              k3 (r9.2 == r10.2) h13
            else
              k3 false h13) fun s3 h14 =>
          Q s3 h14
        else
          if (x1 == 5) = true then
            rd (ld kL (q1.add 2) h1) fun x17 =>
            spatelaw16_Lend x17 h1 fun r11 h15 =>
            rd (ld (kI .i64) (q1.add 1) h15) fun x18 =>
            net_Net_Write a0 x18 r11 h15 fun r12 h16 =>
            rd (ld (kI .i64) (q1.add 1) h16) fun x19 =>
            rd (ld kL (q1.add 2) h16) fun x20 =>
            spateref16_Net_Write a1 x19 x20 h16 fun r13 h17 =>
            jn (fun (k4 : Bool → H → Prop) =>
              if (r12.1 == r13.1) = true then
                if (r12.2 == r13.2) = true then
                  rd (ld kL (q1.add 2) h17) fun x21 =>
                  spatelaw16_Back r11 x21 h17 fun r14 h19 =>
                  k4 r14 h19
                else
                  k4 false h17
              else
                k4 false h17) fun s4 h18 =>
            Q s4 h18
          else
            if (x1 == 6) = true then
              rd (ld (kI .i64) (q1.add 1) h1) fun x22 =>
              rd (ld (kI .i64) (q1.add 3) h1) fun x23 =>
              net_Net_Fetch a0 x22 x23 h1 fun r15 h20 =>
              rd (ld (kI .i64) (q1.add 1) h20) fun x24 =>
              rd (ld (kI .i64) (q1.add 3) h20) fun x25 =>
              spateref16_Net_Fetch a1 x24 x25 h20 fun r16 h21 =>
              jn (fun (k5 : Bool → H → Prop) =>
                if (r15.1 == r16.1) = true then
                  k5 (r15.2 == r16.2) h21
                else
                  k5 false h21) fun s5 h22 =>
              Q s5 h22
            else
              if (x1 == 7) = true then
                rd (ld (kI .i64) (q1.add 1) h1) fun x26 =>
                rd (ld (kI .i64) (q1.add 1) h1) fun x27 =>
                net_Net_Close a0 x26 h1 fun r17 h23 =>
                ld (kI .i64) (q1.add 1) h23 = some x27 ∧
                spateref16_Net_Close a1 x27 h23 fun r18 h24 =>
                Q (r17 == r18) h24
              else
                if (x1 == 8) = true then
                  rd (ld (kI .i64) (q1.add 1) h1) fun x28 =>
                  rd (ld (kI .i64) (q1.add 1) h1) fun x29 =>
                  net_Net_Cut a0 x28 h1 fun r19 h25 =>
                  ld (kI .i64) (q1.add 1) h25 = some x29 ∧
                  spateref16_Net_Cut a1 x29 h25 fun r20 h26 =>
                  Q (r19 == r20) h26
                else
                  Q true h1
theorem spatelaw16_asked.sound {a0 : Option Addr} {a1 : Option Addr} {a2 : S48} {h : H} {Q : Bool → H → Prop} (hF : spatelaw16_asked a0 a1 a2 h Q) :
    CallsH Try.prog 21 (List.toArray (α := Value) [.pointer a0, .pointer a1, k48.val a2]) h fun v h' => ∃ x : Bool, v = .bool x ∧ Q x h' := by
  refine CallsH.of_body Try.func21 rfl 201 rfl rfl ?_
  refine WP.seq ?_
  refine WP.region ?_
  refine EvK.alloc (w_none rfl) rfl rfl (f_boxF (v := k48.val a2) rfl rfl rfl hF) ?_
  rintro _ h1 ⟨q1, rfl, hF⟩
  refine EvK.pure (v := .bool false) (w_none rfl) rfl rfl (f_assign rfl rfl) ?_
  refine EvK.nil ?_
  refine WP.seq ?_
  refine WP.seq ?_
  refine WP.region ?_
  refine EvK.pure (v := .pointer (some (q1.add 0))) (w_none rfl) rfl rfl (f_fieldAddr fd49_0 rfl rfl) ?_
  obtain ⟨x1, hx1, hF⟩ := hF
  refine EvK.read (v := .int .i64 x1) (w_none rfl) rfl rfl (f_load (kI .i64) ty3 rfl rfl hx1 rfl) ?_
  refine EvK.nil ?_
  refine WP.block ?_
  refine WP.seq ?_
  refine WP.region ?_
  refine EvK.pure (v := .bool (x1 == 1)) (w_none rfl) rfl rfl (f_eql rfl rfl rfl) ?_
  refine EvK.pure (v := .bool (x1 == 1)) (w_none rfl) rfl rfl (f_assign rfl rfl) ?_
  refine EvK.nil ?_
  rcases ite_inv hF with ⟨c1, hF⟩ | ⟨c1, hF⟩
  · refine WP.cond_true _ rfl c1 ?_
    refine WP.seq ?_
    refine WP.draw mixed [.pure, .pure, .read, .eff [6], .pure, .pure, .read, .eff [], .pure, .pure] [[], [], [1], [0, 1, 2], [], [], [5], [0, 1, 2, 3, 4, 5, 6], [0, 1, 2, 3, 4, 5, 6, 7], [0, 1, 2, 3, 4, 5, 6, 7, 8]] [0, 1, 2, 4, 5, 6, 3, 7, 8, 9] (by kernel_rfl) (by kernel_rfl) ?_
    refine EvI.pure (v := .pointer a0) rfl rfl (w_none rfl) rfl (f_move rfl rfl) ?_
    refine EvI.pure (v := .pointer (some (q1.add 1))) rfl rfl (w_none rfl) rfl (f_fieldAddr fd49_1 rfl rfl) ?_
    obtain ⟨x2, hx2, hF⟩ := hF
    refine EvI.read (v := .int .i64 x2) rfl rfl (w_none rfl) rfl (f_load (kI .i64) ty3 rfl rfl hx2 rfl) ?_
    refine EvI.pure (v := .pointer a1) rfl rfl (w_none rfl) rfl (f_move rfl rfl) ?_
    refine EvI.pure (v := .pointer (some (q1.add 1))) rfl rfl (w_none rfl) rfl (f_fieldAddr fd49_1 rfl rfl) ?_
    obtain ⟨x3, hx3, hF⟩ := hF
    refine EvI.read (v := .int .i64 x3) rfl rfl (w_none rfl) rfl (f_load (kI .i64) ty3 rfl rfl hx3 rfl) ?_
    refine EvI.call rfl rfl (w_none rfl) rfl (enterH Try.func8 rfl rfl rfl rfl (net_Net_Open.sound hF)) ?_
    rintro _ h2 ⟨r1, rfl, hF⟩
    obtain ⟨hy1, hF⟩ := hF
    refine ⟨⟨chk_yes rfl (f_load (kI .i64) ty3 rfl rfl hy1 rfl), chk_no rfl, trivial⟩, ?_⟩
    refine EvI.call rfl rfl (w_none rfl) rfl (enterH Try.func33 rfl rfl rfl rfl (spateref16_Net_Open.sound hF)) ?_
    rintro _ h3 ⟨r2, rfl, hF⟩
    refine ⟨⟨chk_no rfl, chk_no rfl, trivial⟩, ?_⟩
    refine EvI.pure (v := .bool (r1 == r2)) rfl rfl (w_none rfl) rfl (f_eql rfl rfl rfl) ?_
    refine EvI.pure (v := .bool (r1 == r2)) rfl rfl (w_none rfl) rfl (f_assign rfl rfl) ?_
    refine EvI.nil ?_
    refine WP.ret ?_
    exact Ret.mk (vs := [.bool (r1 == r2)]) (r1 == r2) ⟨rfl, trivial⟩ rfl hF
  · refine WP.cond_false _ rfl c1 ?_
    refine WP.seq ?_
    refine WP.region ?_
    refine EvK.pure (v := .bool (x1 == 2)) (w_none rfl) rfl rfl (f_eql rfl rfl rfl) ?_
    refine EvK.pure (v := .bool (x1 == 2)) (w_none rfl) rfl rfl (f_assign rfl rfl) ?_
    refine EvK.nil ?_
    rcases ite_inv hF with ⟨c2, hF⟩ | ⟨c2, hF⟩
    · refine WP.cond_true _ rfl c2 ?_
      refine WP.seq ?_
      refine WP.region ?_
      refine EvK.pure (v := .pointer (some (q1.add 2))) (w_none rfl) rfl rfl (f_fieldAddr fd49_2 rfl rfl) ?_
      obtain ⟨x4, hx4, hF⟩ := hF
      refine EvK.read (v := Sl.val x4) (w_none rfl) rfl rfl (f_load kL ty29 rfl rfl hx4 rfl) ?_
      refine EvK.call (w_none rfl) rfl rfl (enterH Try.func34 rfl rfl rfl rfl (spatelaw16_Lend.sound hF)) ?_
      rintro _ h4 ⟨r3, rfl, hF⟩
      refine EvK.pure (v := Sl.val r3) (w_none rfl) rfl rfl (f_assign rfl rfl) ?_
      refine EvK.nil ?_
      refine WP.joinF (fun (s1 : Bool) => [(6, .bool s1)]) hF ?_ ?_
      · intro s1 E0 h5 hF
        refine WP.ret ?_
        exact Ret.mk (vs := [.bool s1]) s1 ⟨rfl, trivial⟩ rfl hF
      · intro k1 hF
        refine WP.draw mixed [.pure, .pure, .read, .pure, .eff [7, 9], .pure, .pure, .read, .pure, .read, .eff [], .pure, .pure, .pure, .pure, .read, .eff [], .pure, .pure] [[], [], [1], [], [0, 1, 2, 3], [], [], [6], [], [8], [0, 1, 2, 3, 4, 5, 6, 7, 8, 9], [0, 1, 2, 3, 4, 5, 6, 7, 8, 9, 10], [0, 1, 2, 3, 4, 5, 6, 7, 8, 9, 10, 11], [0, 1, 2, 3, 4, 5, 6, 7, 8, 9, 10, 11, 12], [0, 1, 2, 3, 4, 5, 6, 7, 8, 9, 10, 11, 12], [0, 1, 2, 3, 4, 5, 6, 7, 8, 9, 10, 11, 12, 14], [0, 1, 2, 3, 4, 5, 6, 7, 8, 9, 10, 11, 12, 13, 14, 15], [0, 1, 2, 3, 4, 5, 6, 7, 8, 9, 10, 11, 12, 13, 14, 15, 16], [0, 1, 2, 3, 4, 5, 6, 7, 8, 9, 10, 11, 12, 13, 14, 15, 16, 17]] [0, 1, 2, 3, 5, 6, 7, 8, 9, 4, 10, 11, 12, 13, 14, 15, 16, 17, 18] (by kernel_rfl) (by kernel_rfl) ?_
        refine EvI.pure (v := .pointer a0) rfl rfl (w_none rfl) rfl (f_move rfl rfl) ?_
        refine EvI.pure (v := .pointer (some (q1.add 1))) rfl rfl (w_none rfl) rfl (f_fieldAddr fd49_1 rfl rfl) ?_
        obtain ⟨x5, hx5, hF⟩ := hF
        refine EvI.read (v := .int .i64 x5) rfl rfl (w_none rfl) rfl (f_load (kI .i64) ty3 rfl rfl hx5 rfl) ?_
        refine EvI.pure (v := Sl.val r3) rfl rfl (w_none rfl) rfl (f_move rfl rfl) ?_
        refine EvI.pure (v := .pointer a1) rfl rfl (w_none rfl) rfl (f_move rfl rfl) ?_
        refine EvI.pure (v := .pointer (some (q1.add 1))) rfl rfl (w_none rfl) rfl (f_fieldAddr fd49_1 rfl rfl) ?_
        obtain ⟨x6, hx6, hF⟩ := hF
        refine EvI.read (v := .int .i64 x6) rfl rfl (w_none rfl) rfl (f_load (kI .i64) ty3 rfl rfl hx6 rfl) ?_
        refine EvI.pure (v := .pointer (some (q1.add 2))) rfl rfl (w_none rfl) rfl (f_fieldAddr fd49_2 rfl rfl) ?_
        obtain ⟨x7, hx7, hF⟩ := hF
        refine EvI.read (v := Sl.val x7) rfl rfl (w_none rfl) rfl (f_load kL ty29 rfl rfl hx7 rfl) ?_
        refine EvI.call rfl rfl (w_none rfl) rfl (enterH Try.func9 rfl rfl rfl rfl (net_Net_Send.sound hF)) ?_
        rintro _ h6 ⟨r4, rfl, hF⟩
        obtain ⟨hy2, hF⟩ := hF
        obtain ⟨hy3, hF⟩ := hF
        refine ⟨⟨chk_yes rfl (f_load kL ty29 rfl rfl hy2 rfl), chk_yes rfl (f_load (kI .i64) ty3 rfl rfl hy3 rfl), chk_no rfl, trivial⟩, ?_⟩
        refine EvI.call rfl rfl (w_none rfl) rfl (enterH Try.func35 rfl rfl rfl rfl (spateref16_Net_Send.sound hF)) ?_
        rintro _ h7 ⟨r5, rfl, hF⟩
        refine ⟨⟨chk_no rfl, chk_no rfl, chk_no rfl, trivial⟩, ?_⟩
        refine EvI.pure (v := .bool (r4 == r5)) rfl rfl (w_none rfl) rfl (f_eql rfl rfl rfl) ?_
        refine EvI.pure (v := .bool (r4 == r5)) rfl rfl (w_none rfl) rfl (f_move rfl rfl) ?_
        rcases ite_inv hF with ⟨c3, hF⟩ | ⟨c3, hF⟩
        · refine EvI.pure (v := Sl.val r3) rfl rfl (w_some rfl rfl c3) rfl (f_move rfl rfl) ?_
          refine EvI.pure (v := .pointer (some (q1.add 2))) rfl rfl (w_some rfl rfl c3) rfl (f_fieldAddr fd49_2 rfl rfl) ?_
          obtain ⟨x8, hx8, hF⟩ := hF
          refine EvI.read (v := Sl.val x8) rfl rfl (w_some rfl rfl c3) rfl (f_load kL ty29 rfl rfl hx8 rfl) ?_
          refine EvI.call rfl rfl (w_some rfl rfl c3) rfl (enterH Try.func36 rfl rfl rfl rfl (spatelaw16_Back.sound hF)) ?_
          rintro _ h8 ⟨r6, rfl, hF⟩
          refine ⟨⟨chk_no rfl, chk_no rfl, chk_no rfl, chk_no rfl, trivial⟩, ?_⟩
          refine EvI.pure (v := .bool r6) rfl rfl (w_none rfl) rfl (f_pickT rfl rfl c3 rfl) ?_
          refine EvI.pure (v := .bool r6) rfl rfl (w_none rfl) rfl (f_assign rfl rfl) ?_
          refine EvI.nil ?_
          exact KE.mk r6 ⟨rfl, trivial⟩ hF
        · refine EvI.not rfl (w_not rfl rfl c3) rfl ?_
          refine EvI.not rfl (w_not rfl rfl c3) rfl ?_
          refine EvI.not rfl (w_not rfl rfl c3) rfl ?_
          refine EvI.not rfl (w_not rfl rfl c3) rfl ?_
          refine EvI.pure (v := .bool false) rfl rfl (w_none rfl) rfl (f_pickF rfl rfl c3 rfl) ?_
          refine EvI.pure (v := .bool false) rfl rfl (w_none rfl) rfl (f_assign rfl rfl) ?_
          refine EvI.nil ?_
          exact KE.mk false ⟨rfl, trivial⟩ hF
    · refine WP.cond_false _ rfl c2 ?_
      refine WP.seq ?_
      refine WP.region ?_
      refine EvK.pure (v := .bool (x1 == 3)) (w_none rfl) rfl rfl (f_eql rfl rfl rfl) ?_
      refine EvK.pure (v := .bool (x1 == 3)) (w_none rfl) rfl rfl (f_assign rfl rfl) ?_
      refine EvK.nil ?_
      rcases ite_inv hF with ⟨c4, hF⟩ | ⟨c4, hF⟩
      · refine WP.cond_true _ rfl c4 ?_
        refine WP.seq ?_
        refine WP.region ?_
        refine EvK.pure (v := .pointer a0) (w_none rfl) rfl rfl (f_move rfl rfl) ?_
        refine EvK.pure (v := .pointer (some (q1.add 1))) (w_none rfl) rfl rfl (f_fieldAddr fd49_1 rfl rfl) ?_
        obtain ⟨x9, hx9, hF⟩ := hF
        refine EvK.read (v := .int .i64 x9) (w_none rfl) rfl rfl (f_load (kI .i64) ty3 rfl rfl hx9 rfl) ?_
        refine EvK.pure (v := .pointer (some (q1.add 3))) (w_none rfl) rfl rfl (f_fieldAddr fd49_3 rfl rfl) ?_
        obtain ⟨x10, hx10, hF⟩ := hF
        refine EvK.read (v := .int .i64 x10) (w_none rfl) rfl rfl (f_load (kI .i64) ty3 rfl rfl hx10 rfl) ?_
        refine EvK.call (w_none rfl) rfl rfl (enterH Try.func11 rfl rfl rfl rfl (net_Net_Bring.sound hF)) ?_
        rintro _ h9 ⟨r7, rfl, hF⟩
        refine EvK.pure (v := .tuple #[.int .i64 r7.1, .int .i64 r7.2]) (w_none rfl) rfl rfl (f_move rfl rfl) ?_
        refine EvK.pure (v := .int .i64 r7.1) (w_none rfl) rfl rfl (f_extract (vs := #[.int .i64 r7.1, .int .i64 r7.2]) rfl rfl rfl) ?_
        refine EvK.pure (v := .int .i64 r7.2) (w_none rfl) rfl rfl (f_extract (vs := #[.int .i64 r7.1, .int .i64 r7.2]) rfl rfl rfl) ?_
        refine EvK.pure (v := .int .i64 r7.1) (w_none rfl) rfl rfl (f_assign rfl rfl) ?_
        refine EvK.pure (v := .int .i64 r7.2) (w_none rfl) rfl rfl (f_assign rfl rfl) ?_
        refine EvK.nil ?_
        refine WP.seq ?_
        refine WP.region ?_
        refine EvK.pure (v := .pointer a1) (w_none rfl) rfl rfl (f_move rfl rfl) ?_
        refine EvK.pure (v := .pointer (some (q1.add 1))) (w_none rfl) rfl rfl (f_fieldAddr fd49_1 rfl rfl) ?_
        obtain ⟨x11, hx11, hF⟩ := hF
        refine EvK.read (v := .int .i64 x11) (w_none rfl) rfl rfl (f_load (kI .i64) ty3 rfl rfl hx11 rfl) ?_
        refine EvK.pure (v := .pointer (some (q1.add 3))) (w_none rfl) rfl rfl (f_fieldAddr fd49_3 rfl rfl) ?_
        obtain ⟨x12, hx12, hF⟩ := hF
        refine EvK.read (v := .int .i64 x12) (w_none rfl) rfl rfl (f_load (kI .i64) ty3 rfl rfl hx12 rfl) ?_
        refine EvK.call (w_none rfl) rfl rfl (enterH Try.func37 rfl rfl rfl rfl (spateref16_Net_Bring.sound hF)) ?_
        rintro _ h10 ⟨r8, rfl, hF⟩
        refine EvK.pure (v := .tuple #[.int .i64 r8.1, .int .i64 r8.2]) (w_none rfl) rfl rfl (f_move rfl rfl) ?_
        refine EvK.pure (v := .int .i64 r8.1) (w_none rfl) rfl rfl (f_extract (vs := #[.int .i64 r8.1, .int .i64 r8.2]) rfl rfl rfl) ?_
        refine EvK.pure (v := .int .i64 r8.2) (w_none rfl) rfl rfl (f_extract (vs := #[.int .i64 r8.1, .int .i64 r8.2]) rfl rfl rfl) ?_
        refine EvK.pure (v := .int .i64 r8.1) (w_none rfl) rfl rfl (f_assign rfl rfl) ?_
        refine EvK.pure (v := .int .i64 r8.2) (w_none rfl) rfl rfl (f_assign rfl rfl) ?_
        refine EvK.nil ?_
        refine WP.joinF (fun (s2 : Bool) => [(6, .bool s2)]) hF ?_ ?_
        · intro s2 E0 h11 hF
          refine WP.ret ?_
          exact Ret.mk (vs := [.bool s2]) s2 ⟨rfl, trivial⟩ rfl hF
        · intro k2 hF
          refine WP.region ?_
          refine EvK.pure (v := .int .i64 r7.1) (w_none rfl) rfl rfl (f_move rfl rfl) ?_
          refine EvK.pure (v := .int .i64 r8.1) (w_none rfl) rfl rfl (f_move rfl rfl) ?_
          refine EvK.pure (v := .bool (r7.1 == r8.1)) (w_none rfl) rfl rfl (f_eql rfl rfl rfl) ?_
          refine EvK.pure (v := .bool (r7.1 == r8.1)) (w_none rfl) rfl rfl (f_move rfl rfl) ?_
          rcases ite_inv hF with ⟨c5, hF⟩ | ⟨c5, hF⟩
          · refine EvK.pure (v := .int .i64 r7.2) (w_some rfl rfl c5) rfl rfl (f_move rfl rfl) ?_
            refine EvK.pure (v := .int .i64 r8.2) (w_some rfl rfl c5) rfl rfl (f_move rfl rfl) ?_
            refine EvK.pure (v := .bool (r7.2 == r8.2)) (w_some rfl rfl c5) rfl rfl (f_eql rfl rfl rfl) ?_
            refine EvK.pure (v := .bool (r7.2 == r8.2)) (w_none rfl) rfl rfl (f_pickT rfl rfl c5 rfl) ?_
            refine EvK.pure (v := .bool (r7.2 == r8.2)) (w_none rfl) rfl rfl (f_assign rfl rfl) ?_
            refine EvK.nil ?_
            exact KE.mk (r7.2 == r8.2) ⟨rfl, trivial⟩ hF
          · refine EvK.not (w_not rfl rfl c5) rfl rfl ?_
            refine EvK.not (w_not rfl rfl c5) rfl rfl ?_
            refine EvK.not (w_not rfl rfl c5) rfl rfl ?_
            refine EvK.pure (v := .bool false) (w_none rfl) rfl rfl (f_pickF rfl rfl c5 rfl) ?_
            refine EvK.pure (v := .bool false) (w_none rfl) rfl rfl (f_assign rfl rfl) ?_
            refine EvK.nil ?_
            exact KE.mk false ⟨rfl, trivial⟩ hF
      · refine WP.cond_false _ rfl c4 ?_
        refine WP.seq ?_
        refine WP.region ?_
        refine EvK.pure (v := .bool (x1 == 4)) (w_none rfl) rfl rfl (f_eql rfl rfl rfl) ?_
        refine EvK.pure (v := .bool (x1 == 4)) (w_none rfl) rfl rfl (f_assign rfl rfl) ?_
        refine EvK.nil ?_
        rcases ite_inv hF with ⟨c6, hF⟩ | ⟨c6, hF⟩
        · refine WP.cond_true _ rfl c6 ?_
          refine WP.seq ?_
          refine WP.region ?_
          refine EvK.pure (v := .pointer a0) (w_none rfl) rfl rfl (f_move rfl rfl) ?_
          refine EvK.pure (v := .pointer (some (q1.add 1))) (w_none rfl) rfl rfl (f_fieldAddr fd49_1 rfl rfl) ?_
          obtain ⟨x13, hx13, hF⟩ := hF
          refine EvK.read (v := .int .i64 x13) (w_none rfl) rfl rfl (f_load (kI .i64) ty3 rfl rfl hx13 rfl) ?_
          refine EvK.call (w_none rfl) rfl rfl (enterH Try.func12 rfl rfl rfl rfl (net_Net_Take.sound hF)) ?_
          rintro _ h12 ⟨r9, rfl, hF⟩
          refine EvK.pure (v := .tuple #[Sl.val r9.1, .int .i64 r9.2]) (w_none rfl) rfl rfl (f_move rfl rfl) ?_
          refine EvK.pure (v := Sl.val r9.1) (w_none rfl) rfl rfl (f_extract (vs := #[Sl.val r9.1, .int .i64 r9.2]) rfl rfl rfl) ?_
          refine EvK.pure (v := .int .i64 r9.2) (w_none rfl) rfl rfl (f_extract (vs := #[Sl.val r9.1, .int .i64 r9.2]) rfl rfl rfl) ?_
          refine EvK.pure (v := Sl.val r9.1) (w_none rfl) rfl rfl (f_assign rfl rfl) ?_
          refine EvK.pure (v := .int .i64 r9.2) (w_none rfl) rfl rfl (f_assign rfl rfl) ?_
          refine EvK.nil ?_
          refine WP.seq ?_
          refine WP.region ?_
          refine EvK.pure (v := .pointer a1) (w_none rfl) rfl rfl (f_move rfl rfl) ?_
          refine EvK.pure (v := .pointer (some (q1.add 1))) (w_none rfl) rfl rfl (f_fieldAddr fd49_1 rfl rfl) ?_
          obtain ⟨x14, hx14, hF⟩ := hF
          refine EvK.read (v := .int .i64 x14) (w_none rfl) rfl rfl (f_load (kI .i64) ty3 rfl rfl hx14 rfl) ?_
          refine EvK.call (w_none rfl) rfl rfl (enterH Try.func38 rfl rfl rfl rfl (spateref16_Net_Take.sound hF)) ?_
          rintro _ h13 ⟨r10, rfl, hF⟩
          refine EvK.pure (v := .tuple #[Sl.val r10.1, .int .i64 r10.2]) (w_none rfl) rfl rfl (f_move rfl rfl) ?_
          refine EvK.pure (v := Sl.val r10.1) (w_none rfl) rfl rfl (f_extract (vs := #[Sl.val r10.1, .int .i64 r10.2]) rfl rfl rfl) ?_
          refine EvK.pure (v := .int .i64 r10.2) (w_none rfl) rfl rfl (f_extract (vs := #[Sl.val r10.1, .int .i64 r10.2]) rfl rfl rfl) ?_
          refine EvK.pure (v := Sl.val r10.1) (w_none rfl) rfl rfl (f_assign rfl rfl) ?_
          refine EvK.pure (v := .int .i64 r10.2) (w_none rfl) rfl rfl (f_assign rfl rfl) ?_
          refine EvK.nil ?_
          refine WP.joinF (fun (s3 : Bool) => [(6, .bool s3)]) hF ?_ ?_
          · intro s3 E0 h14 hF
            refine WP.ret ?_
            exact Ret.mk (vs := [.bool s3]) s3 ⟨rfl, trivial⟩ rfl hF
          · intro k3 hF
            refine WP.region ?_
            refine EvK.pure (v := Sl.val r9.1) (w_none rfl) rfl rfl (f_move rfl rfl) ?_
            obtain ⟨x15, hx15, hF⟩ := hF
            refine EvK.read (v := .string x15) (w_none rfl) rfl rfl (f_b2s Try.underlying29 Try.underlying9 Try.underlying5 rfl rfl hx15) ?_
            refine EvK.pure (v := Sl.val r10.1) (w_none rfl) rfl rfl (f_move rfl rfl) ?_
            obtain ⟨x16, hx16, hF⟩ := hF
            refine EvK.read (v := .string x16) (w_none rfl) rfl rfl (f_b2s Try.underlying29 Try.underlying9 Try.underlying5 rfl rfl hx16) ?_
            refine EvK.pure (v := .bool (x15.toList == x16.toList)) (w_none rfl) rfl rfl (f_seql rfl rfl rfl) ?_
            refine EvK.pure (v := .bool (x15.toList == x16.toList)) (w_none rfl) rfl rfl (f_move rfl rfl) ?_
            rcases ite_inv hF with ⟨c7, hF⟩ | ⟨c7, hF⟩
            · refine EvK.pure (v := .int .i64 r9.2) (w_some rfl rfl c7) rfl rfl (f_move rfl rfl) ?_
              refine EvK.pure (v := .int .i64 r10.2) (w_some rfl rfl c7) rfl rfl (f_move rfl rfl) ?_
              refine EvK.pure (v := .bool (r9.2 == r10.2)) (w_some rfl rfl c7) rfl rfl (f_eql rfl rfl rfl) ?_
              refine EvK.pure (v := .bool (r9.2 == r10.2)) (w_none rfl) rfl rfl (f_pickT rfl rfl c7 rfl) ?_
              refine EvK.pure (v := .bool (r9.2 == r10.2)) (w_none rfl) rfl rfl (f_assign rfl rfl) ?_
              refine EvK.nil ?_
              exact KE.mk (r9.2 == r10.2) ⟨rfl, trivial⟩ hF
            · refine EvK.not (w_not rfl rfl c7) rfl rfl ?_
              refine EvK.not (w_not rfl rfl c7) rfl rfl ?_
              refine EvK.not (w_not rfl rfl c7) rfl rfl ?_
              refine EvK.pure (v := .bool false) (w_none rfl) rfl rfl (f_pickF rfl rfl c7 rfl) ?_
              refine EvK.pure (v := .bool false) (w_none rfl) rfl rfl (f_assign rfl rfl) ?_
              refine EvK.nil ?_
              exact KE.mk false ⟨rfl, trivial⟩ hF
        · refine WP.cond_false _ rfl c6 ?_
          refine WP.seq ?_
          refine WP.region ?_
          refine EvK.pure (v := .bool (x1 == 5)) (w_none rfl) rfl rfl (f_eql rfl rfl rfl) ?_
          refine EvK.pure (v := .bool (x1 == 5)) (w_none rfl) rfl rfl (f_assign rfl rfl) ?_
          refine EvK.nil ?_
          rcases ite_inv hF with ⟨c8, hF⟩ | ⟨c8, hF⟩
          · refine WP.cond_true _ rfl c8 ?_
            refine WP.seq ?_
            refine WP.region ?_
            refine EvK.pure (v := .pointer (some (q1.add 2))) (w_none rfl) rfl rfl (f_fieldAddr fd49_2 rfl rfl) ?_
            obtain ⟨x17, hx17, hF⟩ := hF
            refine EvK.read (v := Sl.val x17) (w_none rfl) rfl rfl (f_load kL ty29 rfl rfl hx17 rfl) ?_
            refine EvK.call (w_none rfl) rfl rfl (enterH Try.func34 rfl rfl rfl rfl (spatelaw16_Lend.sound hF)) ?_
            rintro _ h15 ⟨r11, rfl, hF⟩
            refine EvK.pure (v := Sl.val r11) (w_none rfl) rfl rfl (f_assign rfl rfl) ?_
            refine EvK.nil ?_
            refine WP.seq ?_
            refine WP.region ?_
            refine EvK.pure (v := .pointer a0) (w_none rfl) rfl rfl (f_move rfl rfl) ?_
            refine EvK.pure (v := .pointer (some (q1.add 1))) (w_none rfl) rfl rfl (f_fieldAddr fd49_1 rfl rfl) ?_
            obtain ⟨x18, hx18, hF⟩ := hF
            refine EvK.read (v := .int .i64 x18) (w_none rfl) rfl rfl (f_load (kI .i64) ty3 rfl rfl hx18 rfl) ?_
            refine EvK.pure (v := Sl.val r11) (w_none rfl) rfl rfl (f_move rfl rfl) ?_
            refine EvK.call (w_none rfl) rfl rfl (enterH Try.func13 rfl rfl rfl rfl (net_Net_Write.sound hF)) ?_
            rintro _ h16 ⟨r12, rfl, hF⟩
            refine EvK.pure (v := .tuple #[.int .i64 r12.1, .int .i64 r12.2]) (w_none rfl) rfl rfl (f_move rfl rfl) ?_
            refine EvK.pure (v := .int .i64 r12.1) (w_none rfl) rfl rfl (f_extract (vs := #[.int .i64 r12.1, .int .i64 r12.2]) rfl rfl rfl) ?_
            refine EvK.pure (v := .int .i64 r12.2) (w_none rfl) rfl rfl (f_extract (vs := #[.int .i64 r12.1, .int .i64 r12.2]) rfl rfl rfl) ?_
            refine EvK.pure (v := .int .i64 r12.1) (w_none rfl) rfl rfl (f_assign rfl rfl) ?_
            refine EvK.pure (v := .int .i64 r12.2) (w_none rfl) rfl rfl (f_assign rfl rfl) ?_
            refine EvK.nil ?_
            refine WP.seq ?_
            refine WP.region ?_
            refine EvK.pure (v := .pointer a1) (w_none rfl) rfl rfl (f_move rfl rfl) ?_
            refine EvK.pure (v := .pointer (some (q1.add 1))) (w_none rfl) rfl rfl (f_fieldAddr fd49_1 rfl rfl) ?_
            obtain ⟨x19, hx19, hF⟩ := hF
            refine EvK.read (v := .int .i64 x19) (w_none rfl) rfl rfl (f_load (kI .i64) ty3 rfl rfl hx19 rfl) ?_
            refine EvK.pure (v := .pointer (some (q1.add 2))) (w_none rfl) rfl rfl (f_fieldAddr fd49_2 rfl rfl) ?_
            obtain ⟨x20, hx20, hF⟩ := hF
            refine EvK.read (v := Sl.val x20) (w_none rfl) rfl rfl (f_load kL ty29 rfl rfl hx20 rfl) ?_
            refine EvK.call (w_none rfl) rfl rfl (enterH Try.func39 rfl rfl rfl rfl (spateref16_Net_Write.sound hF)) ?_
            rintro _ h17 ⟨r13, rfl, hF⟩
            refine EvK.pure (v := .tuple #[.int .i64 r13.1, .int .i64 r13.2]) (w_none rfl) rfl rfl (f_move rfl rfl) ?_
            refine EvK.pure (v := .int .i64 r13.1) (w_none rfl) rfl rfl (f_extract (vs := #[.int .i64 r13.1, .int .i64 r13.2]) rfl rfl rfl) ?_
            refine EvK.pure (v := .int .i64 r13.2) (w_none rfl) rfl rfl (f_extract (vs := #[.int .i64 r13.1, .int .i64 r13.2]) rfl rfl rfl) ?_
            refine EvK.pure (v := .int .i64 r13.1) (w_none rfl) rfl rfl (f_assign rfl rfl) ?_
            refine EvK.pure (v := .int .i64 r13.2) (w_none rfl) rfl rfl (f_assign rfl rfl) ?_
            refine EvK.nil ?_
            refine WP.joinF (fun (s4 : Bool) => [(6, .bool s4)]) hF ?_ ?_
            · intro s4 E0 h18 hF
              refine WP.ret ?_
              exact Ret.mk (vs := [.bool s4]) s4 ⟨rfl, trivial⟩ rfl hF
            · intro k4 hF
              refine WP.region ?_
              refine EvK.pure (v := .int .i64 r12.1) (w_none rfl) rfl rfl (f_move rfl rfl) ?_
              refine EvK.pure (v := .int .i64 r13.1) (w_none rfl) rfl rfl (f_move rfl rfl) ?_
              refine EvK.pure (v := .bool (r12.1 == r13.1)) (w_none rfl) rfl rfl (f_eql rfl rfl rfl) ?_
              refine EvK.pure (v := .bool (r12.1 == r13.1)) (w_none rfl) rfl rfl (f_move rfl rfl) ?_
              rcases ite_inv hF with ⟨c9, hF⟩ | ⟨c9, hF⟩
              · refine EvK.pure (v := .int .i64 r12.2) (w_some rfl rfl c9) rfl rfl (f_move rfl rfl) ?_
                refine EvK.pure (v := .int .i64 r13.2) (w_some rfl rfl c9) rfl rfl (f_move rfl rfl) ?_
                refine EvK.pure (v := .bool (r12.2 == r13.2)) (w_some rfl rfl c9) rfl rfl (f_eql rfl rfl rfl) ?_
                refine EvK.pure (v := .bool (r12.2 == r13.2)) (w_none rfl) rfl rfl (f_pickT rfl rfl c9 rfl) ?_
                refine EvK.pure (v := .bool (r12.2 == r13.2)) (w_none rfl) rfl rfl (f_move rfl rfl) ?_
                rcases ite_inv hF with ⟨c10, hF⟩ | ⟨c10, hF⟩
                · refine EvK.pure (v := Sl.val r11) (w_some rfl rfl c10) rfl rfl (f_move rfl rfl) ?_
                  refine EvK.pure (v := .pointer (some (q1.add 2))) (w_some rfl rfl c10) rfl rfl (f_fieldAddr fd49_2 rfl rfl) ?_
                  obtain ⟨x21, hx21, hF⟩ := hF
                  refine EvK.read (v := Sl.val x21) (w_some rfl rfl c10) rfl rfl (f_load kL ty29 rfl rfl hx21 rfl) ?_
                  refine EvK.call (w_some rfl rfl c10) rfl rfl (enterH Try.func36 rfl rfl rfl rfl (spatelaw16_Back.sound hF)) ?_
                  rintro _ h19 ⟨r14, rfl, hF⟩
                  refine EvK.pure (v := .bool r14) (w_none rfl) rfl rfl (f_pickT rfl rfl c10 rfl) ?_
                  refine EvK.pure (v := .bool r14) (w_none rfl) rfl rfl (f_assign rfl rfl) ?_
                  refine EvK.nil ?_
                  exact KE.mk r14 ⟨rfl, trivial⟩ hF
                · refine EvK.not (w_not rfl rfl c10) rfl rfl ?_
                  refine EvK.not (w_not rfl rfl c10) rfl rfl ?_
                  refine EvK.not (w_not rfl rfl c10) rfl rfl ?_
                  refine EvK.not (w_not rfl rfl c10) rfl rfl ?_
                  refine EvK.pure (v := .bool false) (w_none rfl) rfl rfl (f_pickF rfl rfl c10 rfl) ?_
                  refine EvK.pure (v := .bool false) (w_none rfl) rfl rfl (f_assign rfl rfl) ?_
                  refine EvK.nil ?_
                  exact KE.mk false ⟨rfl, trivial⟩ hF
              · refine EvK.not (w_not rfl rfl c9) rfl rfl ?_
                refine EvK.not (w_not rfl rfl c9) rfl rfl ?_
                refine EvK.not (w_not rfl rfl c9) rfl rfl ?_
                refine EvK.pure (v := .bool false) (w_none rfl) rfl rfl (f_pickF rfl rfl c9 rfl) ?_
                refine EvK.pure (v := .bool false) (w_none rfl) rfl rfl (f_move rfl rfl) ?_
                refine EvK.not (w_not rfl rfl rfl) rfl rfl ?_
                refine EvK.not (w_not rfl rfl rfl) rfl rfl ?_
                refine EvK.not (w_not rfl rfl rfl) rfl rfl ?_
                refine EvK.not (w_not rfl rfl rfl) rfl rfl ?_
                refine EvK.pure (v := .bool false) (w_none rfl) rfl rfl (f_pickF rfl rfl rfl rfl) ?_
                refine EvK.pure (v := .bool false) (w_none rfl) rfl rfl (f_assign rfl rfl) ?_
                refine EvK.nil ?_
                exact KE.mk false ⟨rfl, trivial⟩ hF
          · refine WP.cond_false _ rfl c8 ?_
            refine WP.seq ?_
            refine WP.region ?_
            refine EvK.pure (v := .bool (x1 == 6)) (w_none rfl) rfl rfl (f_eql rfl rfl rfl) ?_
            refine EvK.pure (v := .bool (x1 == 6)) (w_none rfl) rfl rfl (f_assign rfl rfl) ?_
            refine EvK.nil ?_
            rcases ite_inv hF with ⟨c11, hF⟩ | ⟨c11, hF⟩
            · refine WP.cond_true _ rfl c11 ?_
              refine WP.seq ?_
              refine WP.region ?_
              refine EvK.pure (v := .pointer a0) (w_none rfl) rfl rfl (f_move rfl rfl) ?_
              refine EvK.pure (v := .pointer (some (q1.add 1))) (w_none rfl) rfl rfl (f_fieldAddr fd49_1 rfl rfl) ?_
              obtain ⟨x22, hx22, hF⟩ := hF
              refine EvK.read (v := .int .i64 x22) (w_none rfl) rfl rfl (f_load (kI .i64) ty3 rfl rfl hx22 rfl) ?_
              refine EvK.pure (v := .pointer (some (q1.add 3))) (w_none rfl) rfl rfl (f_fieldAddr fd49_3 rfl rfl) ?_
              obtain ⟨x23, hx23, hF⟩ := hF
              refine EvK.read (v := .int .i64 x23) (w_none rfl) rfl rfl (f_load (kI .i64) ty3 rfl rfl hx23 rfl) ?_
              refine EvK.call (w_none rfl) rfl rfl (enterH Try.func14 rfl rfl rfl rfl (net_Net_Fetch.sound hF)) ?_
              rintro _ h20 ⟨r15, rfl, hF⟩
              refine EvK.pure (v := .tuple #[.int .i64 r15.1, .int .i64 r15.2]) (w_none rfl) rfl rfl (f_move rfl rfl) ?_
              refine EvK.pure (v := .int .i64 r15.1) (w_none rfl) rfl rfl (f_extract (vs := #[.int .i64 r15.1, .int .i64 r15.2]) rfl rfl rfl) ?_
              refine EvK.pure (v := .int .i64 r15.2) (w_none rfl) rfl rfl (f_extract (vs := #[.int .i64 r15.1, .int .i64 r15.2]) rfl rfl rfl) ?_
              refine EvK.pure (v := .int .i64 r15.1) (w_none rfl) rfl rfl (f_assign rfl rfl) ?_
              refine EvK.pure (v := .int .i64 r15.2) (w_none rfl) rfl rfl (f_assign rfl rfl) ?_
              refine EvK.nil ?_
              refine WP.seq ?_
              refine WP.region ?_
              refine EvK.pure (v := .pointer a1) (w_none rfl) rfl rfl (f_move rfl rfl) ?_
              refine EvK.pure (v := .pointer (some (q1.add 1))) (w_none rfl) rfl rfl (f_fieldAddr fd49_1 rfl rfl) ?_
              obtain ⟨x24, hx24, hF⟩ := hF
              refine EvK.read (v := .int .i64 x24) (w_none rfl) rfl rfl (f_load (kI .i64) ty3 rfl rfl hx24 rfl) ?_
              refine EvK.pure (v := .pointer (some (q1.add 3))) (w_none rfl) rfl rfl (f_fieldAddr fd49_3 rfl rfl) ?_
              obtain ⟨x25, hx25, hF⟩ := hF
              refine EvK.read (v := .int .i64 x25) (w_none rfl) rfl rfl (f_load (kI .i64) ty3 rfl rfl hx25 rfl) ?_
              refine EvK.call (w_none rfl) rfl rfl (enterH Try.func40 rfl rfl rfl rfl (spateref16_Net_Fetch.sound hF)) ?_
              rintro _ h21 ⟨r16, rfl, hF⟩
              refine EvK.pure (v := .tuple #[.int .i64 r16.1, .int .i64 r16.2]) (w_none rfl) rfl rfl (f_move rfl rfl) ?_
              refine EvK.pure (v := .int .i64 r16.1) (w_none rfl) rfl rfl (f_extract (vs := #[.int .i64 r16.1, .int .i64 r16.2]) rfl rfl rfl) ?_
              refine EvK.pure (v := .int .i64 r16.2) (w_none rfl) rfl rfl (f_extract (vs := #[.int .i64 r16.1, .int .i64 r16.2]) rfl rfl rfl) ?_
              refine EvK.pure (v := .int .i64 r16.1) (w_none rfl) rfl rfl (f_assign rfl rfl) ?_
              refine EvK.pure (v := .int .i64 r16.2) (w_none rfl) rfl rfl (f_assign rfl rfl) ?_
              refine EvK.nil ?_
              refine WP.joinF (fun (s5 : Bool) => [(6, .bool s5)]) hF ?_ ?_
              · intro s5 E0 h22 hF
                refine WP.ret ?_
                exact Ret.mk (vs := [.bool s5]) s5 ⟨rfl, trivial⟩ rfl hF
              · intro k5 hF
                refine WP.region ?_
                refine EvK.pure (v := .int .i64 r15.1) (w_none rfl) rfl rfl (f_move rfl rfl) ?_
                refine EvK.pure (v := .int .i64 r16.1) (w_none rfl) rfl rfl (f_move rfl rfl) ?_
                refine EvK.pure (v := .bool (r15.1 == r16.1)) (w_none rfl) rfl rfl (f_eql rfl rfl rfl) ?_
                refine EvK.pure (v := .bool (r15.1 == r16.1)) (w_none rfl) rfl rfl (f_move rfl rfl) ?_
                rcases ite_inv hF with ⟨c12, hF⟩ | ⟨c12, hF⟩
                · refine EvK.pure (v := .int .i64 r15.2) (w_some rfl rfl c12) rfl rfl (f_move rfl rfl) ?_
                  refine EvK.pure (v := .int .i64 r16.2) (w_some rfl rfl c12) rfl rfl (f_move rfl rfl) ?_
                  refine EvK.pure (v := .bool (r15.2 == r16.2)) (w_some rfl rfl c12) rfl rfl (f_eql rfl rfl rfl) ?_
                  refine EvK.pure (v := .bool (r15.2 == r16.2)) (w_none rfl) rfl rfl (f_pickT rfl rfl c12 rfl) ?_
                  refine EvK.pure (v := .bool (r15.2 == r16.2)) (w_none rfl) rfl rfl (f_assign rfl rfl) ?_
                  refine EvK.nil ?_
                  exact KE.mk (r15.2 == r16.2) ⟨rfl, trivial⟩ hF
                · refine EvK.not (w_not rfl rfl c12) rfl rfl ?_
                  refine EvK.not (w_not rfl rfl c12) rfl rfl ?_
                  refine EvK.not (w_not rfl rfl c12) rfl rfl ?_
                  refine EvK.pure (v := .bool false) (w_none rfl) rfl rfl (f_pickF rfl rfl c12 rfl) ?_
                  refine EvK.pure (v := .bool false) (w_none rfl) rfl rfl (f_assign rfl rfl) ?_
                  refine EvK.nil ?_
                  exact KE.mk false ⟨rfl, trivial⟩ hF
            · refine WP.cond_false _ rfl c11 ?_
              refine WP.seq ?_
              refine WP.region ?_
              refine EvK.pure (v := .bool (x1 == 7)) (w_none rfl) rfl rfl (f_eql rfl rfl rfl) ?_
              refine EvK.pure (v := .bool (x1 == 7)) (w_none rfl) rfl rfl (f_assign rfl rfl) ?_
              refine EvK.nil ?_
              rcases ite_inv hF with ⟨c13, hF⟩ | ⟨c13, hF⟩
              · refine WP.cond_true _ rfl c13 ?_
                refine WP.seq ?_
                refine WP.draw mixed [.pure, .pure, .read, .eff [6], .pure, .pure, .read, .eff [], .pure, .pure] [[], [], [1], [0, 1, 2], [], [], [5], [0, 1, 2, 3, 4, 5, 6], [0, 1, 2, 3, 4, 5, 6, 7], [0, 1, 2, 3, 4, 5, 6, 7, 8]] [0, 1, 2, 4, 5, 6, 3, 7, 8, 9] (by kernel_rfl) (by kernel_rfl) ?_
                refine EvI.pure (v := .pointer a0) rfl rfl (w_none rfl) rfl (f_move rfl rfl) ?_
                refine EvI.pure (v := .pointer (some (q1.add 1))) rfl rfl (w_none rfl) rfl (f_fieldAddr fd49_1 rfl rfl) ?_
                obtain ⟨x26, hx26, hF⟩ := hF
                refine EvI.read (v := .int .i64 x26) rfl rfl (w_none rfl) rfl (f_load (kI .i64) ty3 rfl rfl hx26 rfl) ?_
                refine EvI.pure (v := .pointer a1) rfl rfl (w_none rfl) rfl (f_move rfl rfl) ?_
                refine EvI.pure (v := .pointer (some (q1.add 1))) rfl rfl (w_none rfl) rfl (f_fieldAddr fd49_1 rfl rfl) ?_
                obtain ⟨x27, hx27, hF⟩ := hF
                refine EvI.read (v := .int .i64 x27) rfl rfl (w_none rfl) rfl (f_load (kI .i64) ty3 rfl rfl hx27 rfl) ?_
                refine EvI.call rfl rfl (w_none rfl) rfl (enterH Try.func17 rfl rfl rfl rfl (net_Net_Close.sound hF)) ?_
                rintro _ h23 ⟨r17, rfl, hF⟩
                obtain ⟨hy4, hF⟩ := hF
                refine ⟨⟨chk_yes rfl (f_load (kI .i64) ty3 rfl rfl hy4 rfl), chk_no rfl, trivial⟩, ?_⟩
                refine EvI.call rfl rfl (w_none rfl) rfl (enterH Try.func41 rfl rfl rfl rfl (spateref16_Net_Close.sound hF)) ?_
                rintro _ h24 ⟨r18, rfl, hF⟩
                refine ⟨⟨chk_no rfl, chk_no rfl, trivial⟩, ?_⟩
                refine EvI.pure (v := .bool (r17 == r18)) rfl rfl (w_none rfl) rfl (f_eql rfl rfl rfl) ?_
                refine EvI.pure (v := .bool (r17 == r18)) rfl rfl (w_none rfl) rfl (f_assign rfl rfl) ?_
                refine EvI.nil ?_
                refine WP.ret ?_
                exact Ret.mk (vs := [.bool (r17 == r18)]) (r17 == r18) ⟨rfl, trivial⟩ rfl hF
              · refine WP.cond_false _ rfl c13 ?_
                refine WP.seq ?_
                refine WP.region ?_
                refine EvK.pure (v := .bool (x1 == 8)) (w_none rfl) rfl rfl (f_eql rfl rfl rfl) ?_
                refine EvK.pure (v := .bool (x1 == 8)) (w_none rfl) rfl rfl (f_assign rfl rfl) ?_
                refine EvK.nil ?_
                rcases ite_inv hF with ⟨c14, hF⟩ | ⟨c14, hF⟩
                · refine WP.cond_true _ rfl c14 ?_
                  refine WP.seq ?_
                  refine WP.draw mixed [.pure, .pure, .read, .eff [6], .pure, .pure, .read, .eff [], .pure, .pure] [[], [], [1], [0, 1, 2], [], [], [5], [0, 1, 2, 3, 4, 5, 6], [0, 1, 2, 3, 4, 5, 6, 7], [0, 1, 2, 3, 4, 5, 6, 7, 8]] [0, 1, 2, 4, 5, 6, 3, 7, 8, 9] (by kernel_rfl) (by kernel_rfl) ?_
                  refine EvI.pure (v := .pointer a0) rfl rfl (w_none rfl) rfl (f_move rfl rfl) ?_
                  refine EvI.pure (v := .pointer (some (q1.add 1))) rfl rfl (w_none rfl) rfl (f_fieldAddr fd49_1 rfl rfl) ?_
                  obtain ⟨x28, hx28, hF⟩ := hF
                  refine EvI.read (v := .int .i64 x28) rfl rfl (w_none rfl) rfl (f_load (kI .i64) ty3 rfl rfl hx28 rfl) ?_
                  refine EvI.pure (v := .pointer a1) rfl rfl (w_none rfl) rfl (f_move rfl rfl) ?_
                  refine EvI.pure (v := .pointer (some (q1.add 1))) rfl rfl (w_none rfl) rfl (f_fieldAddr fd49_1 rfl rfl) ?_
                  obtain ⟨x29, hx29, hF⟩ := hF
                  refine EvI.read (v := .int .i64 x29) rfl rfl (w_none rfl) rfl (f_load (kI .i64) ty3 rfl rfl hx29 rfl) ?_
                  refine EvI.call rfl rfl (w_none rfl) rfl (enterH Try.func18 rfl rfl rfl rfl (net_Net_Cut.sound hF)) ?_
                  rintro _ h25 ⟨r19, rfl, hF⟩
                  obtain ⟨hy5, hF⟩ := hF
                  refine ⟨⟨chk_yes rfl (f_load (kI .i64) ty3 rfl rfl hy5 rfl), chk_no rfl, trivial⟩, ?_⟩
                  refine EvI.call rfl rfl (w_none rfl) rfl (enterH Try.func42 rfl rfl rfl rfl (spateref16_Net_Cut.sound hF)) ?_
                  rintro _ h26 ⟨r20, rfl, hF⟩
                  refine ⟨⟨chk_no rfl, chk_no rfl, trivial⟩, ?_⟩
                  refine EvI.pure (v := .bool (r19 == r20)) rfl rfl (w_none rfl) rfl (f_eql rfl rfl rfl) ?_
                  refine EvI.pure (v := .bool (r19 == r20)) rfl rfl (w_none rfl) rfl (f_assign rfl rfl) ?_
                  refine EvI.nil ?_
                  refine WP.ret ?_
                  exact Ret.mk (vs := [.bool (r19 == r20)]) (r19 == r20) ⟨rfl, trivial⟩ rfl hF
                · refine WP.cond_false _ rfl c14 ?_
                  refine WP.skip ?_
                  refine WP.seq ?_
                  refine WP.region ?_
                  refine EvK.pure (v := .bool true) (w_none rfl) rfl rfl (f_assign rfl rfl) ?_
                  refine EvK.nil ?_
                  refine WP.ret ?_
                  exact Ret.mk (vs := [.bool true]) true ⟨rfl, trivial⟩ rfl hF
end Go.Proofs.Ytbdopnhfbjdegaa

namespace Go.Proofs.Ytbdopnhfbjdegaa
open Go Go.Tr
set_option linter.unusedVariables false
set_option maxRecDepth 100000
set_option maxHeartbeats 400000
/-- (*spate/net.Net).Is -/
def net_Net_Is (a0 : Option Addr) (a1 : Int) (h : H) (Q : (Bool × Bool) → H → Prop) : Prop :=
  net_Net_get a0 a1 h fun r1 h1 =>
  if (r1.2 != 0) = true then
    Q (false, false) h1
  else
    jn (fun (k1 : (Bool × Bool) → H → Prop) =>
      rd r1.1 fun q1 =>
      rd (ld kB (q1.add 8) h1) fun x1 =>
      if (!x1) = true then
        rd r1.1 fun q2 =>
        rd (ld kB (q2.add 7) h1) fun x2 =>
        rd r1.1 fun q3 =>
        rd (ld kB (q3.add 8) h1) fun x3 =>
        k1 (!x2, x3) h1
      else
        rd r1.1 fun q4 =>
        rd (ld kB (q4.add 8) h1) fun x4 =>
        k1 (false, x4) h1) fun s1 h2 =>
    Q (s1.1, s1.2) h2
theorem net_Net_Is.sound {a0 : Option Addr} {a1 : Int} {h : H} {Q : (Bool × Bool) → H → Prop} (hF : net_Net_Is a0 a1 h Q) :
    CallsH Try.prog 24 (List.toArray (α := Value) [.pointer a0, .int .i64 a1]) h fun v h' => ∃ x : Bool × Bool, v = .tuple #[.bool x.1, .bool x.2] ∧ Q x h' := by
  refine CallsH.of_body Try.func24 rfl 32 rfl rfl ?_
  refine WP.seq ?_
  refine WP.region ?_
  refine EvK.pure (v := .bool false) (w_none rfl) rfl rfl (f_assign rfl rfl) ?_
  refine EvK.pure (v := .bool false) (w_none rfl) rfl rfl (f_assign rfl rfl) ?_
  refine EvK.nil ?_
  refine WP.seq ?_
  refine WP.region ?_
  refine EvK.pure (v := .pointer a0) (w_none rfl) rfl rfl (f_move rfl rfl) ?_
  refine EvK.pure (v := .int .i64 a1) (w_none rfl) rfl rfl (f_move rfl rfl) ?_
  refine EvK.call (w_none rfl) rfl rfl (enterH Try.func26 rfl rfl rfl rfl (net_Net_get.sound hF)) ?_
  rintro _ h1 ⟨r1, rfl, hF⟩
  refine EvK.pure (v := .tuple #[.pointer r1.1, .int .i64 r1.2]) (w_none rfl) rfl rfl (f_move rfl rfl) ?_
  refine EvK.pure (v := .pointer r1.1) (w_none rfl) rfl rfl (f_extract (vs := #[.pointer r1.1, .int .i64 r1.2]) rfl rfl rfl) ?_
  refine EvK.pure (v := .int .i64 r1.2) (w_none rfl) rfl rfl (f_extract (vs := #[.pointer r1.1, .int .i64 r1.2]) rfl rfl rfl) ?_
  refine EvK.pure (v := .pointer r1.1) (w_none rfl) rfl rfl (f_assign rfl rfl) ?_
  refine EvK.pure (v := .int .i64 r1.2) (w_none rfl) rfl rfl (f_assign rfl rfl) ?_
  refine EvK.nil ?_
  refine WP.seq ?_
  refine WP.seq ?_
  refine WP.region ?_
  refine EvK.pure (v := .int .i64 r1.2) (w_none rfl) rfl rfl (f_move rfl rfl) ?_
  refine EvK.pure (v := .bool (r1.2 != 0)) (w_none rfl) rfl rfl (f_neq rfl rfl rfl) ?_
  refine EvK.nil ?_
  rcases ite_inv hF with ⟨c1, hF⟩ | ⟨c1, hF⟩
  · refine WP.cond_true _ rfl c1 ?_
    refine WP.seq ?_
    refine WP.region ?_
    refine EvK.pure (v := .bool false) (w_none rfl) rfl rfl (f_assign rfl rfl) ?_
    refine EvK.pure (v := .bool false) (w_none rfl) rfl rfl (f_assign rfl rfl) ?_
    refine EvK.nil ?_
    refine WP.ret ?_
    exact Ret.mk (vs := [.bool false, .bool false]) (false, false) ⟨rfl, rfl, trivial⟩ rfl hF
  · refine WP.cond_false _ rfl c1 ?_
    refine WP.skip ?_
    refine WP.joinF (fun (s1 : Bool × Bool) => [(4, .bool s1.1), (5, .bool s1.2)]) hF ?_ ?_
    · intro s1 E0 h2 hF
      refine WP.ret ?_
      exact Ret.mk (vs := [.bool s1.1, .bool s1.2]) (s1.1, s1.2) ⟨rfl, rfl, trivial⟩ rfl hF
    · intro k1 hF
      refine WP.draw mixed [.pure, .pure, .pure, .read, .pure, .pure, .pure, .pure, .pure, .read, .pure, .pure, .pure, .pure, .pure, .read, .pure, .pure] [[], [0], [0, 1], [0, 1, 2], [0, 1, 2, 3], [0, 1, 2, 3, 4], [0, 1, 2, 3, 4, 5], [0, 1, 2, 3, 4, 5, 6], [0, 1, 2, 3, 4, 5, 6, 7], [0, 1, 2, 3, 4, 5, 6, 7, 8], [0, 1, 2, 3, 4, 5, 6, 7, 8, 9], [0, 1, 2, 3, 4, 5, 6, 7, 8, 9, 10], [], [12], [12, 13], [12, 13, 14], [0, 1, 2, 3, 4, 5, 6, 7, 8, 9, 10, 11], [0, 1, 2, 3, 4, 5, 6, 7, 8, 9, 10, 11, 12, 13, 14, 15, 16]] [0, 1, 2, 3, 4, 5, 6, 7, 8, 9, 10, 11, 12, 13, 14, 15, 16, 17] (by kernel_rfl) (by kernel_rfl) ?_
      refine EvI.pure (v := .pointer r1.1) rfl rfl (w_none rfl) rfl (f_move rfl rfl) ?_
      obtain ⟨q1, hq1, hF⟩ := hF
      refine EvI.pure (v := .pointer (some q1)) rfl rfl (w_none rfl) rfl (f_nilCheck rfl (congrArg Value.pointer hq1)) ?_
      refine EvI.pure (v := .pointer (some (q1.add 8))) rfl rfl (w_none rfl) rfl (f_fieldAddr fd75_4 rfl rfl) ?_
      obtain ⟨x1, hx1, hF⟩ := hF
      refine EvI.read (v := .bool x1) rfl rfl (w_none rfl) rfl (f_load kB ty4 rfl rfl hx1 rfl) ?_
      refine EvI.pure (v := .bool (!x1)) rfl rfl (w_none rfl) rfl (f_not rfl rfl) ?_
      refine EvI.pure (v := .bool (!x1)) rfl rfl (w_none rfl) rfl (f_move rfl rfl) ?_
      rcases ite_inv hF with ⟨c2, hF⟩ | ⟨c2, hF⟩
      · refine EvI.pure (v := .pointer r1.1) rfl rfl (w_some rfl rfl c2) rfl (f_move rfl rfl) ?_
        obtain ⟨q2, hq2, hF⟩ := hF
        refine EvI.pure (v := .pointer (some q2)) rfl rfl (w_some rfl rfl c2) rfl (f_nilCheck rfl (congrArg Value.pointer hq2)) ?_
        refine EvI.pure (v := .pointer (some (q2.add 7))) rfl rfl (w_some rfl rfl c2) rfl (f_fieldAddr fd75_3 rfl rfl) ?_
        obtain ⟨x2, hx2, hF⟩ := hF
        refine EvI.read (v := .bool x2) rfl rfl (w_some rfl rfl c2) rfl (f_load kB ty4 rfl rfl hx2 rfl) ?_
        refine EvI.pure (v := .bool (!x2)) rfl rfl (w_some rfl rfl c2) rfl (f_not rfl rfl) ?_
        refine EvI.pure (v := .bool (!x2)) rfl rfl (w_none rfl) rfl (f_pickT rfl rfl c2 rfl) ?_
        refine EvI.pure (v := .pointer r1.1) rfl rfl (w_none rfl) rfl (f_move rfl rfl) ?_
        obtain ⟨q3, hq3, hF⟩ := hF
        refine EvI.pure (v := .pointer (some q3)) rfl rfl (w_none rfl) rfl (f_nilCheck rfl (congrArg Value.pointer hq3)) ?_
        refine EvI.pure (v := .pointer (some (q3.add 8))) rfl rfl (w_none rfl) rfl (f_fieldAddr fd75_4 rfl rfl) ?_
        obtain ⟨x3, hx3, hF⟩ := hF
        refine EvI.read (v := .bool x3) rfl rfl (w_none rfl) rfl (f_load kB ty4 rfl rfl hx3 rfl) ?_
        refine EvI.pure (v := .bool (!x2)) rfl rfl (w_none rfl) rfl (f_assign rfl rfl) ?_
        refine EvI.pure (v := .bool x3) rfl rfl (w_none rfl) rfl (f_assign rfl rfl) ?_
        refine EvI.nil ?_
        exact KE.mk (!x2, x3) ⟨rfl, rfl, trivial⟩ hF
      · refine EvI.not rfl (w_not rfl rfl c2) rfl ?_
        refine EvI.not rfl (w_not rfl rfl c2) rfl ?_
        refine EvI.not rfl (w_not rfl rfl c2) rfl ?_
        refine EvI.not rfl (w_not rfl rfl c2) rfl ?_
        refine EvI.not rfl (w_not rfl rfl c2) rfl ?_
        refine EvI.pure (v := .bool false) rfl rfl (w_none rfl) rfl (f_pickF rfl rfl c2 rfl) ?_
        refine EvI.pure (v := .pointer r1.1) rfl rfl (w_none rfl) rfl (f_move rfl rfl) ?_
        obtain ⟨q4, hq4, hF⟩ := hF
        refine EvI.pure (v := .pointer (some q4)) rfl rfl (w_none rfl) rfl (f_nilCheck rfl (congrArg Value.pointer hq4)) ?_
        refine EvI.pure (v := .pointer (some (q4.add 8))) rfl rfl (w_none rfl) rfl (f_fieldAddr fd75_4 rfl rfl) ?_
        obtain ⟨x4, hx4, hF⟩ := hF
        refine EvI.read (v := .bool x4) rfl rfl (w_none rfl) rfl (f_load kB ty4 rfl rfl hx4 rfl) ?_
        refine EvI.pure (v := .bool false) rfl rfl (w_none rfl) rfl (f_assign rfl rfl) ?_
        refine EvI.pure (v := .bool x4) rfl rfl (w_none rfl) rfl (f_assign rfl rfl) ?_
        refine EvI.nil ?_
        exact KE.mk (false, x4) ⟨rfl, rfl, trivial⟩ hF
end Go.Proofs.Ytbdopnhfbjdegaa

namespace Go.Proofs.Ytbdopnhfbjdegaa
open Go Go.Tr
set_option linter.unusedVariables false
set_option maxRecDepth 100000
set_option maxHeartbeats 400000
/-- (*spate/net.inward).under -/
def net_inward_under (a0 : Option Addr) (h : H) (Q : Int → H → Prop) : Prop :=
  rd a0 fun q1 =>
  rd (ld kL ((q1.add 0).add 0) h) fun x1 =>
  rd a0 fun q2 =>
  rd (ld kL ((q2.add 2).add 0) h) fun x2 =>
  Q (IntKind.i64.wrap ((x1.len : Int) + (x2.len : Int))) h
theorem net_inward_under.sound {a0 : Option Addr} {h : H} {Q : Int → H → Prop} (hF : net_inward_under a0 h Q) :
    CallsH Try.prog 46 (List.toArray (α := Value) [.pointer a0]) h fun v h' => ∃ x : Int, v = .int .i64 x ∧ Q x h' := by
  refine CallsH.of_body Try.func46 rfl 16 rfl rfl ?_
  refine WP.seq ?_
  refine WP.region ?_
  refine EvK.pure (v := .int .i64 0) (w_none rfl) rfl rfl (f_assign rfl rfl) ?_
  refine EvK.nil ?_
  refine WP.seq ?_
  refine WP.draw mixed [.pure, .pure, .pure, .pure, .read, .pure, .pure, .pure, .pure, .pure, .read, .pure, .pure, .pure] [[], [0], [0, 1], [0, 1, 2], [0, 1, 2, 3], [0, 1, 2, 3, 4], [], [6], [6, 7], [6, 7, 8], [6, 7, 8, 9], [6, 7, 8, 9, 10], [0, 1, 2, 3, 4, 5, 6, 7, 8, 9, 10, 11], [0, 1, 2, 3, 4, 5, 6, 7, 8, 9, 10, 11, 12]] [0, 1, 2, 3, 4, 5, 6, 7, 8, 9, 10, 11, 12, 13] (by kernel_rfl) (by kernel_rfl) ?_
  refine EvI.pure (v := .pointer a0) rfl rfl (w_none rfl) rfl (f_move rfl rfl) ?_
  obtain ⟨q1, hq1, hF⟩ := hF
  refine EvI.pure (v := .pointer (some q1)) rfl rfl (w_none rfl) rfl (f_nilCheck rfl (congrArg Value.pointer hq1)) ?_
  refine EvI.pure (v := .pointer (some (q1.add 0))) rfl rfl (w_none rfl) rfl (f_fieldAddr fd73_0 rfl rfl) ?_
  refine EvI.pure (v := .pointer (some ((q1.add 0).add 0))) rfl rfl (w_none rfl) rfl (f_fieldAddr fd71_0 rfl rfl) ?_
  obtain ⟨x1, hx1, hF⟩ := hF
  refine EvI.read (v := Sl.val x1) rfl rfl (w_none rfl) rfl (f_load kL ty29 rfl rfl hx1 rfl) ?_
  refine EvI.pure (v := .int .i64 (x1.len : Int)) rfl rfl (w_none rfl) rfl (f_lenL (s := x1) Try.underlying29 rfl rfl) ?_
  refine EvI.pure (v := .pointer a0) rfl rfl (w_none rfl) rfl (f_move rfl rfl) ?_
  obtain ⟨q2, hq2, hF⟩ := hF
  refine EvI.pure (v := .pointer (some q2)) rfl rfl (w_none rfl) rfl (f_nilCheck rfl (congrArg Value.pointer hq2)) ?_
  refine EvI.pure (v := .pointer (some (q2.add 2))) rfl rfl (w_none rfl) rfl (f_fieldAddr fd73_1 rfl rfl) ?_
  refine EvI.pure (v := .pointer (some ((q2.add 2).add 0))) rfl rfl (w_none rfl) rfl (f_fieldAddr fd71_0 rfl rfl) ?_
  obtain ⟨x2, hx2, hF⟩ := hF
  refine EvI.read (v := Sl.val x2) rfl rfl (w_none rfl) rfl (f_load kL ty29 rfl rfl hx2 rfl) ?_
  refine EvI.pure (v := .int .i64 (x2.len : Int)) rfl rfl (w_none rfl) rfl (f_lenL (s := x2) Try.underlying29 rfl rfl) ?_
  refine EvI.pure (v := .int .i64 (IntKind.i64.wrap ((x1.len : Int) + (x2.len : Int)))) rfl rfl (w_none rfl) rfl (f_add rfl rfl rfl) ?_
  refine EvI.pure (v := .int .i64 (IntKind.i64.wrap ((x1.len : Int) + (x2.len : Int)))) rfl rfl (w_none rfl) rfl (f_assign rfl rfl) ?_
  refine EvI.nil ?_
  refine WP.ret ?_
  exact Ret.mk (vs := [.int .i64 (IntKind.i64.wrap ((x1.len : Int) + (x2.len : Int)))]) (IntKind.i64.wrap ((x1.len : Int) + (x2.len : Int))) ⟨rfl, trivial⟩ rfl hF
end Go.Proofs.Ytbdopnhfbjdegaa

namespace Go.Proofs.Ytbdopnhfbjdegaa
open Go Go.Tr
set_option linter.unusedVariables false
set_option maxRecDepth 100000
set_option maxHeartbeats 400000
/-- (*spate/net.Net).Under -/
def net_Net_Under (a0 : Option Addr) (a1 : Int) (h : H) (Q : (Int × Int) → H → Prop) : Prop :=
  net_Net_get a0 a1 h fun r1 h1 =>
  if (r1.2 != 0) = true then
    Q (0, 0) h1
  else
    rd r1.1 fun q1 =>
    rd r1.1 fun q2 =>
    rd (ld kL ((q2.add 4).add 0) h1) fun x1 =>
    net_inward_under (some (q1.add 0)) h1 fun r2 h2 =>
    ld kL ((q2.add 4).add 0) h2 = some x1 ∧
    Q (r2, (x1.len : Int)) h2
theorem net_Net_Under.sound {a0 : Option Addr} {a1 : Int} {h : H} {Q : (Int × Int) → H → Prop} (hF : net_Net_Under a0 a1 h Q) :
    CallsH Try.prog 25 (List.toArray (α := Value) [.pointer a0, .int .i64 a1]) h fun v h' => ∃ x : Int × Int, v = .tuple #[.int .i64 x.1, .int .i64 x.2] ∧ Q x h' := by
  refine CallsH.of_body Try.func25 rfl 26 rfl rfl ?_
  refine WP.seq ?_
  refine WP.region ?_
  refine EvK.pure (v := .int .i64 0) (w_none rfl) rfl rfl (f_assign rfl rfl) ?_
  refine EvK.pure (v := .int .i64 0) (w_none rfl) rfl rfl (f_assign rfl rfl) ?_
  refine EvK.nil ?_
  refine WP.seq ?_
  refine WP.region ?_
  refine EvK.pure (v := .pointer a0) (w_none rfl) rfl rfl (f_move rfl rfl) ?_
  refine EvK.pure (v := .int .i64 a1) (w_none rfl) rfl rfl (f_move rfl rfl) ?_
  refine EvK.call (w_none rfl) rfl rfl (enterH Try.func26 rfl rfl rfl rfl (net_Net_get.sound hF)) ?_
  rintro _ h1 ⟨r1, rfl, hF⟩
  refine EvK.pure (v := .tuple #[.pointer r1.1, .int .i64 r1.2]) (w_none rfl) rfl rfl (f_move rfl rfl) ?_
  refine EvK.pure (v := .pointer r1.1) (w_none rfl) rfl rfl (f_extract (vs := #[.pointer r1.1, .int .i64 r1.2]) rfl rfl rfl) ?_
  refine EvK.pure (v := .int .i64 r1.2) (w_none rfl) rfl rfl (f_extract (vs := #[.pointer r1.1, .int .i64 r1.2]) rfl rfl rfl) ?_
  refine EvK.pure (v := .pointer r1.1) (w_none rfl) rfl rfl (f_assign rfl rfl) ?_
  refine EvK.pure (v := .int .i64 r1.2) (w_none rfl) rfl rfl (f_assign rfl rfl) ?_
  refine EvK.nil ?_
  refine WP.seq ?_
  refine WP.seq ?_
  refine WP.region ?_
  refine EvK.pure (v := .int .i64 r1.2) (w_none rfl) rfl rfl (f_move rfl rfl) ?_
  refine EvK.pure (v := .bool (r1.2 != 0)) (w_none rfl) rfl rfl (f_neq rfl rfl rfl) ?_
  refine EvK.nil ?_
  rcases ite_inv hF with ⟨c1, hF⟩ | ⟨c1, hF⟩
  · refine WP.cond_true _ rfl c1 ?_
    refine WP.seq ?_
    refine WP.region ?_
    refine EvK.pure (v := .int .i64 0) (w_none rfl) rfl rfl (f_assign rfl rfl) ?_
    refine EvK.pure (v := .int .i64 0) (w_none rfl) rfl rfl (f_assign rfl rfl) ?_
    refine EvK.nil ?_
    refine WP.ret ?_
    exact Ret.mk (vs := [.int .i64 0, .int .i64 0]) (0, 0) ⟨rfl, rfl, trivial⟩ rfl hF
  · refine WP.cond_false _ rfl c1 ?_
    refine WP.skip ?_
    refine WP.seq ?_
    refine WP.draw mixed [.pure, .pure, .pure, .eff [8], .pure, .pure, .pure, .pure, .read, .pure, .pure, .pure] [[], [0], [0, 1], [0, 1, 2], [], [4], [4, 5], [4, 5, 6], [4, 5, 6, 7], [4, 5, 6, 7, 8], [0, 1, 2, 3], [0, 1, 2, 3, 4, 5, 6, 7, 8, 9, 10]] [0, 1, 2, 4, 5, 6, 7, 8, 9, 3, 10, 11] (by kernel_rfl) (by kernel_rfl) ?_
    refine EvI.pure (v := .pointer r1.1) rfl rfl (w_none rfl) rfl (f_move rfl rfl) ?_
    obtain ⟨q1, hq1, hF⟩ := hF
    refine EvI.pure (v := .pointer (some q1)) rfl rfl (w_none rfl) rfl (f_nilCheck rfl (congrArg Value.pointer hq1)) ?_
    refine EvI.pure (v := .pointer (some (q1.add 0))) rfl rfl (w_none rfl) rfl (f_fieldAddr fd75_0 rfl rfl) ?_
    refine EvI.pure (v := .pointer r1.1) rfl rfl (w_none rfl) rfl (f_move rfl rfl) ?_
    obtain ⟨q2, hq2, hF⟩ := hF
    refine EvI.pure (v := .pointer (some q2)) rfl rfl (w_none rfl) rfl (f_nilCheck rfl (congrArg Value.pointer hq2)) ?_
    refine EvI.pure (v := .pointer (some (q2.add 4))) rfl rfl (w_none rfl) rfl (f_fieldAddr fd75_1 rfl rfl) ?_
    refine EvI.pure (v := .pointer (some ((q2.add 4).add 0))) rfl rfl (w_none rfl) rfl (f_fieldAddr fd71_0 rfl rfl) ?_
    obtain ⟨x1, hx1, hF⟩ := hF
    refine EvI.read (v := Sl.val x1) rfl rfl (w_none rfl) rfl (f_load kL ty29 rfl rfl hx1 rfl) ?_
    refine EvI.pure (v := .int .i64 (x1.len : Int)) rfl rfl (w_none rfl) rfl (f_lenL (s := x1) Try.underlying29 rfl rfl) ?_
    refine EvI.call rfl rfl (w_none rfl) rfl (enterH Try.func46 rfl rfl rfl rfl (net_inward_under.sound hF)) ?_
    rintro _ h2 ⟨r2, rfl, hF⟩
    obtain ⟨hy1, hF⟩ := hF
    refine ⟨⟨chk_yes rfl (f_load kL ty29 rfl rfl hy1 rfl), trivial⟩, ?_⟩
    refine EvI.pure (v := .int .i64 r2) rfl rfl (w_none rfl) rfl (f_assign rfl rfl) ?_
    refine EvI.pure (v := .int .i64 (x1.len : Int)) rfl rfl (w_none rfl) rfl (f_assign rfl rfl) ?_
    refine EvI.nil ?_
    refine WP.ret ?_
    exact Ret.mk (vs := [.int .i64 r2, .int .i64 (x1.len : Int)]) (r2, (x1.len : Int)) ⟨rfl, rfl, trivial⟩ rfl hF
end Go.Proofs.Ytbdopnhfbjdegaa

namespace Go.Proofs.Ytbdopnhfbjdegaa
open Go Go.Tr
set_option linter.unusedVariables false
set_option maxRecDepth 100000
set_option maxHeartbeats 400000
/-- (*spate/spateref16.Net).Heard -/
def spateref16_Net_Heard (a0 : Option Addr) (a1 : Int) (h : H) (Q : (Sl × Bool) → H → Prop) : Prop :=
  jn (fun (k1 : Bool → H → Prop) =>
    spateref16_is a1 h fun r2 h6 =>
    if (!r2) = true then
      k1 true h6
    else
      rd a0 fun q4 =>
      rd (ld kL (q4.add 2) h6) fun x7 =>
      rd (ixA 7 x7 a1) fun q5 =>
      rd (ld kB (q5.add 0) h6) fun x8 =>
      k1 (!x8) h6) fun s1 h1 =>
  if s1 = true then
    Q (Sl.nil, false) h1
  else
    rd a0 fun q1 =>
    rd (ld kL (q1.add 2) h1) fun x1 =>
    rd (ixA 7 x1 a1) fun q2 =>
    rd (ld k97 q2 h1) fun x2 =>
    al 98 (k97.enc z97) h1 fun q3 h2 =>
    rd (st k97 q3 x2 h2) fun h3 =>
    jn (fun (k2 : (Sl × Bool) → H → Prop) =>
      rd (ld kL (q3.add 6) h3) fun x3 =>
      rd (ld kB (q3.add 2) h3) fun x4 =>
      spateref16_join x3 Sl.nil h3 fun r1 h5 =>
      ld kB (q3.add 2) h5 = some x4 ∧
      if x4 = true then
        k2 (r1, true) h5
      else
        rd (ld kB (q3.add 1) h5) fun x5 =>
        if x5 = true then
          rd (ld kL (q3.add 5) h5) fun x6 =>
          k2 (r1, ((x6.len : Int) == 0)) h5
        else
          k2 (r1, false) h5) fun s2 h4 =>
    Q (s2.1, s2.2) h4
theorem spateref16_Net_Heard.sound {a0 : Option Addr} {a1 : Int} {h : H} {Q : (Sl × Bool) → H → Prop} (hF : spateref16_Net_Heard a0 a1 h Q) :
    CallsH Try.prog 43 (List.toArray (α := Value) [.pointer a0, .int .i64 a1]) h fun v h' => ∃ x : Sl × Bool, v = .tuple #[Sl.val x.1, .bool x.2] ∧ Q x h' := by
  refine CallsH.of_body Try.func43 rfl 43 rfl rfl ?_
  refine WP.seq ?_
  refine WP.region ?_
  refine EvK.pure (v := Sl.val Sl.nil) (w_none rfl) rfl rfl (f_assign rfl rfl) ?_
  refine EvK.pure (v := .bool false) (w_none rfl) rfl rfl (f_assign rfl rfl) ?_
  refine EvK.nil ?_
  refine WP.seq ?_
  refine WP.joinF (fun (s1 : Bool) => [(20, .bool s1), (0, .pointer a0), (1, .int .i64 a1)]) hF ?_ ?_
  · intro s1 E0 h1 hF
    rcases ite_inv hF with ⟨c1, hF⟩ | ⟨c1, hF⟩
    · refine WP.cond_true _ rfl c1 ?_
      refine WP.seq ?_
      refine WP.region ?_
      refine EvK.pure (v := Sl.val Sl.nil) (w_none rfl) rfl rfl (f_assign rfl rfl) ?_
      refine EvK.pure (v := .bool false) (w_none rfl) rfl rfl (f_assign rfl rfl) ?_
      refine EvK.nil ?_
      refine WP.ret ?_
      exact Ret.mk (vs := [Sl.val Sl.nil, .bool false]) (Sl.nil, false) ⟨rfl, rfl, trivial⟩ rfl hF
    · refine WP.cond_false _ rfl c1 ?_
      refine WP.skip ?_
      refine WP.seq ?_
      refine WP.region ?_
      refine EvK.pure (v := .pointer a0) (w_none rfl) rfl rfl (f_move rfl rfl) ?_
      obtain ⟨q1, hq1, hF⟩ := hF
      refine EvK.pure (v := .pointer (some q1)) (w_none rfl) rfl rfl (f_nilCheck rfl (congrArg Value.pointer hq1)) ?_
      refine EvK.pure (v := .pointer (some (q1.add 2))) (w_none rfl) rfl rfl (f_fieldAddr fd83_2 rfl rfl) ?_
      obtain ⟨x1, hx1, hF⟩ := hF
      refine EvK.read (v := Sl.val x1) (w_none rfl) rfl rfl (f_load kL ty81 rfl rfl hx1 rfl) ?_
      refine EvK.pure (v := .int .i64 a1) (w_none rfl) rfl rfl (f_move rfl rfl) ?_
      obtain ⟨q2, hq2, hF⟩ := hF
      refine EvK.pure (v := .pointer (some q2)) (w_none rfl) rfl rfl (f_indexAddr (s := x1) Try.underlying81 ty98.size rfl rfl rfl hq2) ?_
      obtain ⟨x2, hx2, hF⟩ := hF
      refine EvK.read (v := k97.val x2) (w_none rfl) rfl rfl (f_load k97 ty98 rfl rfl hx2 rfl) ?_
      refine EvK.alloc (w_none rfl) rfl rfl (f_allocF zero98 rfl rfl hF) ?_
      rintro _ h2 ⟨q3, rfl, hF⟩
      obtain ⟨h3, hs1, hF⟩ := hF
      refine EvK.runN (w_none rfl) rfl (f_store k97 ty98.size (z := x2) rfl rfl rfl hs1) ?_
      rintro _ _ ⟨rfl, rfl⟩
      refine EvK.nil ?_
      refine WP.joinF (fun (s2 : Sl × Bool) => [(4, Sl.val s2.1), (5, .bool s2.2)]) hF ?_ ?_
      · intro s2 E0 h4 hF
        refine WP.ret ?_
        exact Ret.mk (vs := [Sl.val s2.1, .bool s2.2]) (s2.1, s2.2) ⟨rfl, rfl, trivial⟩ rfl hF
      · intro k2 hF
        refine WP.draw mixed [.pure, .read, .eff [4], .pure, .read, .pure, .pure, .read, .pure, .pure, .read, .pure, .pure, .pure, .pure, .pure, .pure] [[], [0], [0, 1], [], [3], [0, 1, 2, 3, 4], [0, 1, 2, 3, 4, 5], [0, 1, 2, 3, 4, 5, 6], [0, 1, 2, 3, 4, 5, 6, 7], [0, 1, 2, 3, 4, 5, 6, 7, 8], [0, 1, 2, 3, 4, 5, 6, 7, 8, 9], [0, 1, 2, 3, 4, 5, 6, 7, 8, 9, 10], [0, 1, 2, 3, 4, 5, 6, 7, 8, 9, 10, 11], [0, 1, 2, 3, 4, 5, 6, 7, 8, 9, 10, 11, 12], [0, 1, 2, 3, 4, 5, 6, 7, 8, 9, 10, 11, 12, 13], [0, 1, 2, 3, 4, 5, 6, 7, 8], [0, 1, 2, 3, 4, 5, 6, 7, 8, 9, 10, 11, 12, 13, 14, 15]] [0, 1, 3, 4, 2, 5, 6, 7, 8, 9, 10, 11, 12, 13, 14, 15, 16] (by kernel_rfl) (by kernel_rfl) ?_
        refine EvI.pure (v := .pointer (some (q3.add 6))) rfl rfl (w_none rfl) rfl (f_fieldAddr fd98_6 rfl rfl) ?_
        obtain ⟨x3, hx3, hF⟩ := hF
        refine EvI.read (v := Sl.val x3) rfl rfl (w_none rfl) rfl (f_load kL ty29 rfl rfl hx3 rfl) ?_
        refine EvI.pure (v := .pointer (some (q3.add 2))) rfl rfl (w_none rfl) rfl (f_fieldAddr fd98_2 rfl rfl) ?_
        obtain ⟨x4, hx4, hF⟩ := hF
        refine EvI.read (v := .bool x4) rfl rfl (w_none rfl) rfl (f_load kB ty4 rfl rfl hx4 rfl) ?_
        refine EvI.call rfl rfl (w_none rfl) rfl (enterH (vs := [Sl.val x3, Sl.val Sl.nil]) Try.func51 rfl rfl rfl rfl (spateref16_join.sound hF)) ?_
        rintro _ h5 ⟨r1, rfl, hF⟩
        obtain ⟨hy1, hF⟩ := hF
        refine ⟨⟨chk_yes rfl (f_load kB ty4 rfl rfl hy1 rfl), chk_no rfl, trivial⟩, ?_⟩
        refine EvI.pure (v := .bool x4) rfl rfl (w_none rfl) rfl (f_move rfl rfl) ?_
        rcases ite_inv hF with ⟨c2, hF⟩ | ⟨c2, hF⟩
        · refine EvI.not rfl (w_not rfl rfl c2) rfl ?_
          refine EvI.not rfl (w_not rfl rfl c2) rfl ?_
          refine EvI.not rfl (w_not rfl rfl c2) rfl ?_
          refine EvI.not rfl (w_undef rfl rfl) rfl ?_
          refine EvI.not rfl (w_undef rfl rfl) rfl ?_
          refine EvI.not rfl (w_undef rfl rfl) rfl ?_
          refine EvI.not rfl (w_undef rfl rfl) rfl ?_
          refine EvI.not rfl (w_not rfl rfl c2) rfl ?_
          refine EvI.pure (v := .bool true) rfl rfl (w_none rfl) rfl (f_pickT rfl rfl c2 rfl) ?_
          refine EvI.pure (v := Sl.val r1) rfl rfl (w_none rfl) rfl (f_assign rfl rfl) ?_
          refine EvI.pure (v := .bool true) rfl rfl (w_none rfl) rfl (f_assign rfl rfl) ?_
          refine EvI.nil ?_
          exact KE.mk (r1, true) ⟨rfl, rfl, trivial⟩ hF
        · refine EvI.pure (v := .pointer (some (q3.add 1))) rfl rfl (w_some rfl rfl c2) rfl (f_fieldAddr fd98_1 rfl rfl) ?_
          obtain ⟨x5, hx5, hF⟩ := hF
          refine EvI.read (v := .bool x5) rfl rfl (w_some rfl rfl c2) rfl (f_load kB ty4 rfl rfl hx5 rfl) ?_
          refine EvI.pure (v := .bool x5) rfl rfl (w_some rfl rfl c2) rfl (f_move rfl rfl) ?_
          rcases ite_inv hF with ⟨c3, hF⟩ | ⟨c3, hF⟩
          · refine EvI.pure (v := .pointer (some (q3.add 5))) rfl rfl (w_some rfl rfl c3) rfl (f_fieldAddr fd98_5 rfl rfl) ?_
            obtain ⟨x6, hx6, hF⟩ := hF
            refine EvI.read (v := Sl.val x6) rfl rfl (w_some rfl rfl c3) rfl (f_load kL ty29 rfl rfl hx6 rfl) ?_
            refine EvI.pure (v := .int .i64 (x6.len : Int)) rfl rfl (w_some rfl rfl c3) rfl (f_lenL (s := x6) Try.underlying29 rfl rfl) ?_
            refine EvI.pure (v := .bool ((x6.len : Int) == 0)) rfl rfl (w_some rfl rfl c3) rfl (f_eql rfl rfl rfl) ?_
            refine EvI.pure (v := .bool ((x6.len : Int) == 0)) rfl rfl (w_some rfl rfl c2) rfl (f_pickT rfl rfl c3 rfl) ?_
            refine EvI.pure (v := .bool ((x6.len : Int) == 0)) rfl rfl (w_none rfl) rfl (f_pickF rfl rfl c2 rfl) ?_
            refine EvI.pure (v := Sl.val r1) rfl rfl (w_none rfl) rfl (f_assign rfl rfl) ?_
            refine EvI.pure (v := .bool ((x6.len : Int) == 0)) rfl rfl (w_none rfl) rfl (f_assign rfl rfl) ?_
            refine EvI.nil ?_
            exact KE.mk (r1, ((x6.len : Int) == 0)) ⟨rfl, rfl, trivial⟩ hF
          · refine EvI.not rfl (w_not rfl rfl c3) rfl ?_
            refine EvI.not rfl (w_not rfl rfl c3) rfl ?_
            refine EvI.not rfl (w_not rfl rfl c3) rfl ?_
            refine EvI.not rfl (w_not rfl rfl c3) rfl ?_
            refine EvI.pure (v := .bool false) rfl rfl (w_some rfl rfl c2) rfl (f_pickF rfl rfl c3 rfl) ?_
            refine EvI.pure (v := .bool false) rfl rfl (w_none rfl) rfl (f_pickF rfl rfl c2 rfl) ?_
            refine EvI.pure (v := Sl.val r1) rfl rfl (w_none rfl) rfl (f_assign rfl rfl) ?_
            refine EvI.pure (v := .bool false) rfl rfl (w_none rfl) rfl (f_assign rfl rfl) ?_
            refine EvI.nil ?_
            exact KE.mk (r1, false) ⟨rfl, rfl, trivial⟩ hF
  · intro k1 hF
    refine WP.region ?_
    refine EvK.pure (v := .int .i64 a1) (w_none rfl) rfl rfl (f_move rfl rfl) ?_
    refine EvK.call (w_none rfl) rfl rfl (enterH Try.func49 rfl rfl rfl rfl (spateref16_is.sound hF)) ?_
    rintro _ h6 ⟨r2, rfl, hF⟩
    refine EvK.pure (v := .bool (!r2)) (w_none rfl) rfl rfl (f_not rfl rfl) ?_
    refine EvK.pure (v := .bool (!r2)) (w_none rfl) rfl rfl (f_move rfl rfl) ?_
    rcases ite_inv hF with ⟨c4, hF⟩ | ⟨c4, hF⟩
    · refine EvK.not (w_not rfl rfl c4) rfl rfl ?_
      refine EvK.not (w_not rfl rfl c4) rfl rfl ?_
      refine EvK.not (w_not rfl rfl c4) rfl rfl ?_
      refine EvK.not (w_not rfl rfl c4) rfl rfl ?_
      refine EvK.not (w_not rfl rfl c4) rfl rfl ?_
      refine EvK.not (w_not rfl rfl c4) rfl rfl ?_
      refine EvK.not (w_not rfl rfl c4) rfl rfl ?_
      refine EvK.not (w_not rfl rfl c4) rfl rfl ?_
      refine EvK.not (w_not rfl rfl c4) rfl rfl ?_
      refine EvK.pure (v := .bool true) (w_none rfl) rfl rfl (f_pickT rfl rfl c4 rfl) ?_
      refine EvK.nil ?_
      exact KE.mk true ⟨rfl, rfl, rfl, trivial⟩ hF
    · refine EvK.pure (v := .pointer a0) (w_some rfl rfl c4) rfl rfl (f_move rfl rfl) ?_
      obtain ⟨q4, hq3, hF⟩ := hF
      refine EvK.pure (v := .pointer (some q4)) (w_some rfl rfl c4) rfl rfl (f_nilCheck rfl (congrArg Value.pointer hq3)) ?_
      refine EvK.pure (v := .pointer (some (q4.add 2))) (w_some rfl rfl c4) rfl rfl (f_fieldAddr fd83_2 rfl rfl) ?_
      obtain ⟨x7, hx7, hF⟩ := hF
      refine EvK.read (v := Sl.val x7) (w_some rfl rfl c4) rfl rfl (f_load kL ty81 rfl rfl hx7 rfl) ?_
      refine EvK.pure (v := .int .i64 a1) (w_some rfl rfl c4) rfl rfl (f_move rfl rfl) ?_
      obtain ⟨q5, hq4, hF⟩ := hF
      refine EvK.pure (v := .pointer (some q5)) (w_some rfl rfl c4) rfl rfl (f_indexAddr (s := x7) Try.underlying81 ty98.size rfl rfl rfl hq4) ?_
      refine EvK.pure (v := .pointer (some (q5.add 0))) (w_some rfl rfl c4) rfl rfl (f_fieldAddr fd98_0 rfl rfl) ?_
      obtain ⟨x8, hx8, hF⟩ := hF
      refine EvK.read (v := .bool x8) (w_some rfl rfl c4) rfl rfl (f_load kB ty4 rfl rfl hx8 rfl) ?_
      refine EvK.pure (v := .bool (!x8)) (w_some rfl rfl c4) rfl rfl (f_not rfl rfl) ?_
      refine EvK.pure (v := .bool (!x8)) (w_none rfl) rfl rfl (f_pickF rfl rfl c4 rfl) ?_
      refine EvK.nil ?_
      exact KE.mk (!x8) ⟨rfl, rfl, rfl, trivial⟩ hF
end Go.Proofs.Ytbdopnhfbjdegaa
