/- Functions as predicates over the heap, and that the code comes to them. Printed by gen.py, merged by group.py. -/
import Derived.Test.YtanpaamamfabkaaG0
import Derived.Test.YtanpaamamfabkaaG1
import Derived.Test.YtanpaamamfabkaaG3
import Derived.Test.YtanpaamamfabkaaTy
namespace Go.Proofs.Ytanpaamamfabkaa
open Go Go.Tr
set_option linter.unusedVariables false
set_option maxRecDepth 100000
set_option maxHeartbeats 400000
/-- (*spate/spateref15.Flow).Pass -/
def spateref15_Flow_Pass (a0 : Option Addr) (a1 : Int) (h : H) (Q : (Int × Int) → H → Prop) : Prop :=
  spateref15_Flow_Toward a0 a1 h fun r1 h1 =>
  if (r1.2 != 0) = true then
    Q (0, r1.2) h1
  else
    rd a0 fun q1 =>
    rd (ld kL (q1.add 2) h1) fun x1 =>
    rd (ixA 1 x1 r1.1) fun q2 =>
    rd (ld kL q2 h1) fun x2 =>
    rd a0 fun q3 =>
    rd (ld (kI .i64) (q3.add 0) h1) fun x3 =>
    if (decide ((x2.len : Int) ≥ x3)) = true then
      Q (0, 45) h1
    else
      rd a0 fun q4 =>
      rd (ld kL (q4.add 1) h1) fun x4 =>
      rd (ixA 1 x4 a1) fun q5 =>
      rd (ld kL q5 h1) fun x5 =>
      rd (ixA 4 x5 0) fun q6 =>
      rd (ld k32 q6 h1) fun x6 =>
      al 33 (k32.enc z32) h1 fun q7 h2 =>
      rd (st k32 q7 x6 h2) fun h3 =>
      rd a0 fun q8 =>
      rd (ld kL (q8.add 2) h3) fun x7 =>
      rd a0 fun q9 =>
      rd (ld kL (q9.add 2) h3) fun x8 =>
      rd (ixA 1 x8 r1.1) fun q10 =>
      rd (ld kL q10 h3) fun x9 =>
      rd (ld k32 q7 h3) fun x10 =>
      bs 87 1 (k51.enc (S51.mk a1 x10)) h3 fun x11 h4 =>
      ap k51.n 48 87 (k51.enc z51) x9 x11 h4 fun x12 h5 =>
      ld kL (q8.add 2) h5 = some x7 ∧
      rd (ixA 1 x7 r1.1) fun q11 =>
      rd (st kL q11 x12 h5) fun h6 =>
      jn (fun (k1 : Unit → H → Prop) =>
        rd (ld kB (q7.add 0) h6) fun x19 =>
        if x19 = true then
          rd a0 fun q16 =>
          rd (ld kL (q16.add 3) h6) fun x20 =>
          rd (ixA 1 x20 a1) fun q17 =>
          rd (ld (kI .i64) q17 h6) fun x21 =>
          rd (ixA 1 x20 a1) fun q18 =>
          rd (st (kI .i64) q18 (IntKind.i64.wrap (x21 + 1)) h6) fun h11 =>
          rd a0 fun q19 =>
          rd (ld kL (q19.add 3) h11) fun x22 =>
          rd (ixA 1 x22 a1) fun q20 =>
          rd (ld (kI .i64) q20 h11) fun x23 =>
          rd a0 fun q21 =>
          rd (ld kL (q21.add 2) h11) fun x24 =>
          if (decide (x23 < (x24.len : Int))) = true then
            Q (r1.1, 0) h11
          else
            rd a0 fun q22 =>
            rd (ld kL (q22.add 3) h11) fun x25 =>
            rd (ixA 1 x25 a1) fun q23 =>
            rd (st (kI .i64) q23 0 h11) fun h12 =>
            k1 () h12
        else
          k1 () h6) fun s1 h7 =>
      rd a0 fun q12 =>
      rd (ld kL (q12.add 1) h7) fun x13 =>
      rd a0 fun q13 =>
      rd (ld kL (q13.add 1) h7) fun x14 =>
      rd (ixA 1 x14 a1) fun q14 =>
      rd (ld kL q14 h7) fun x15 =>
      rd (slx 4 x15 (some 1) none none) fun x16 =>
      bs 33 0 ([]) h7 fun x17 h8 =>
      ap k32.n 40 33 (k32.enc z32) x17 x16 h8 fun x18 h9 =>
      ld kL (q12.add 1) h9 = some x13 ∧
      rd (ixA 1 x13 a1) fun q15 =>
      rd (st kL q15 x18 h9) fun h10 =>
      Q (r1.1, 0) h10
theorem spateref15_Flow_Pass.sound {a0 : Option Addr} {a1 : Int} {h : H} {Q : (Int × Int) → H → Prop} (hF : spateref15_Flow_Pass a0 a1 h Q) :
    CallsH Try.prog 25 (List.toArray (α := Value) [.pointer a0, .int .i64 a1]) h fun v h' => ∃ x : Int × Int, v = .tuple #[.int .i64 x.1, .int .i64 x.2] ∧ Q x h' := by
  refine CallsH.of_body Try.func25 rfl 106 rfl rfl ?_
  refine WP.seq ?_
  refine WP.region ?_
  refine EvK.pure (v := .int .i64 0) (w_none rfl) rfl rfl (f_assign rfl rfl) ?_
  refine EvK.pure (v := .int .i64 0) (w_none rfl) rfl rfl (f_assign rfl rfl) ?_
  refine EvK.nil ?_
  refine WP.seq ?_
  refine WP.region ?_
  refine EvK.pure (v := .pointer a0) (w_none rfl) rfl rfl (f_move rfl rfl) ?_
  refine EvK.pure (v := .int .i64 a1) (w_none rfl) rfl rfl (f_move rfl rfl) ?_
  refine EvK.call (w_none rfl) rfl rfl (enterH Try.func27 rfl rfl rfl rfl (spateref15_Flow_Toward.sound hF)) ?_
  rintro _ h1 ⟨r1, rfl, hF⟩
  refine EvK.pure (v := .tuple #[.int .i64 r1.1, .int .i64 r1.2]) (w_none rfl) rfl rfl (f_move rfl rfl) ?_
  refine EvK.pure (v := .int .i64 r1.1) (w_none rfl) rfl rfl (f_extract (vs := #[.int .i64 r1.1, .int .i64 r1.2]) rfl rfl rfl) ?_
  refine EvK.pure (v := .int .i64 r1.2) (w_none rfl) rfl rfl (f_extract (vs := #[.int .i64 r1.1, .int .i64 r1.2]) rfl rfl rfl) ?_
  refine EvK.pure (v := .int .i64 r1.1) (w_none rfl) rfl rfl (f_assign rfl rfl) ?_
  refine EvK.pure (v := .int .i64 r1.2) (w_none rfl) rfl rfl (f_assign rfl rfl) ?_
  refine EvK.nil ?_
  refine WP.seq ?_
  refine WP.seq ?_
  refine WP.region ?_
  refine EvK.pure (v := .int .i64 r1.2) (w_none rfl) rfl rfl (f_move rfl rfl) ?_
  refine EvK.pure (v := .bool (r1.2 != 0)) (w_none rfl) rfl rfl (f_neq rfl rfl rfl) ?_
  refine EvK.nil ?_
  rcases ite_inv hF with ⟨c1, hF⟩ | ⟨c1, hF⟩
  · refine WP.cond_true _ rfl c1 ?_
    refine WP.seq ?_
    refine WP.region ?_
    refine EvK.pure (v := .int .i64 r1.2) (w_none rfl) rfl rfl (f_move rfl rfl) ?_
    refine EvK.pure (v := .int .i64 0) (w_none rfl) rfl rfl (f_assign rfl rfl) ?_
    refine EvK.pure (v := .int .i64 r1.2) (w_none rfl) rfl rfl (f_assign rfl rfl) ?_
    refine EvK.nil ?_
    refine WP.ret ?_
    exact Ret.mk (vs := [.int .i64 0, .int .i64 r1.2]) (0, r1.2) ⟨rfl, rfl, trivial⟩ rfl hF
  · refine WP.cond_false _ rfl c1 ?_
    refine WP.skip ?_
    refine WP.seq ?_
    refine WP.seq ?_
    refine WP.draw mixed [.pure, .pure, .pure, .read, .pure, .pure, .read, .pure, .pure, .pure, .pure, .read, .pure] [[], [0], [0, 1], [0, 1, 2], [], [0, 1, 2, 3, 4], [0, 1, 2, 3, 4, 5], [0, 1, 2, 3, 4, 5, 6], [], [8], [8, 9], [8, 9, 10], [0, 1, 2, 3, 4, 5, 6, 7, 8, 9, 10, 11]] [0, 1, 2, 3, 4, 5, 6, 7, 8, 9, 10, 11, 12] (by kernel_rfl) (by kernel_rfl) ?_
    refine EvI.pure (v := .pointer a0) rfl rfl (w_none rfl) rfl (f_move rfl rfl) ?_
    obtain ⟨q1, hq1, hF⟩ := hF
    refine EvI.pure (v := .pointer (some q1)) rfl rfl (w_none rfl) rfl (f_nilCheck rfl (congrArg Value.pointer hq1)) ?_
    refine EvI.pure (v := .pointer (some (q1.add 2))) rfl rfl (w_none rfl) rfl (f_fieldAddr fd66_2 rfl rfl) ?_
    obtain ⟨x1, hx1, hF⟩ := hF
    refine EvI.read (v := Sl.val x1) rfl rfl (w_none rfl) rfl (f_load kL ty63 rfl rfl hx1 rfl) ?_
    refine EvI.pure (v := .int .i64 r1.1) rfl rfl (w_none rfl) rfl (f_move rfl rfl) ?_
    obtain ⟨q2, hq2, hF⟩ := hF
    refine EvI.pure (v := .pointer (some q2)) rfl rfl (w_none rfl) rfl (f_indexAddr (s := x1) Try.underlying63 ty86.size rfl rfl rfl hq2) ?_
    obtain ⟨x2, hx2, hF⟩ := hF
    refine EvI.read (v := Sl.val x2) rfl rfl (w_none rfl) rfl (f_load kL ty86 rfl rfl hx2 rfl) ?_
    refine EvI.pure (v := .int .i64 (x2.len : Int)) rfl rfl (w_none rfl) rfl (f_lenL (s := x2) Try.underlying86 rfl rfl) ?_
    refine EvI.pure (v := .pointer a0) rfl rfl (w_none rfl) rfl (f_move rfl rfl) ?_
    obtain ⟨q3, hq3, hF⟩ := hF
    refine EvI.pure (v := .pointer (some q3)) rfl rfl (w_none rfl) rfl (f_nilCheck rfl (congrArg Value.pointer hq3)) ?_
    refine EvI.pure (v := .pointer (some (q3.add 0))) rfl rfl (w_none rfl) rfl (f_fieldAddr fd66_0 rfl rfl) ?_
    obtain ⟨x3, hx3, hF⟩ := hF
    refine EvI.read (v := .int .i64 x3) rfl rfl (w_none rfl) rfl (f_load (kI .i64) ty3 rfl rfl hx3 rfl) ?_
    refine EvI.pure (v := .bool (decide ((x2.len : Int) ≥ x3))) rfl rfl (w_none rfl) rfl (f_geq rfl rfl rfl) ?_
    refine EvI.nil ?_
    rcases ite_inv hF with ⟨c2, hF⟩ | ⟨c2, hF⟩
    · refine WP.cond_true _ rfl c2 ?_
      refine WP.seq ?_
      refine WP.region ?_
      refine EvK.pure (v := .int .i64 0) (w_none rfl) rfl rfl (f_assign rfl rfl) ?_
      refine EvK.pure (v := .int .i64 45) (w_none rfl) rfl rfl (f_assign rfl rfl) ?_
      refine EvK.nil ?_
      refine WP.ret ?_
      exact Ret.mk (vs := [.int .i64 0, .int .i64 45]) (0, 45) ⟨rfl, rfl, trivial⟩ rfl hF
    · refine WP.cond_false _ rfl c2 ?_
      refine WP.skip ?_
      refine WP.seq ?_
      refine WP.region ?_
      refine EvK.pure (v := .pointer a0) (w_none rfl) rfl rfl (f_move rfl rfl) ?_
      obtain ⟨q4, hq4, hF⟩ := hF
      refine EvK.pure (v := .pointer (some q4)) (w_none rfl) rfl rfl (f_nilCheck rfl (congrArg Value.pointer hq4)) ?_
      refine EvK.pure (v := .pointer (some (q4.add 1))) (w_none rfl) rfl rfl (f_fieldAddr fd66_1 rfl rfl) ?_
      obtain ⟨x4, hx4, hF⟩ := hF
      refine EvK.read (v := Sl.val x4) (w_none rfl) rfl rfl (f_load kL ty42 rfl rfl hx4 rfl) ?_
      refine EvK.pure (v := .int .i64 a1) (w_none rfl) rfl rfl (f_move rfl rfl) ?_
      obtain ⟨q5, hq5, hF⟩ := hF
      refine EvK.pure (v := .pointer (some q5)) (w_none rfl) rfl rfl (f_indexAddr (s := x4) Try.underlying42 ty45.size rfl rfl rfl hq5) ?_
      obtain ⟨x5, hx5, hF⟩ := hF
      refine EvK.read (v := Sl.val x5) (w_none rfl) rfl rfl (f_load kL ty45 rfl rfl hx5 rfl) ?_
      obtain ⟨q6, hq6, hF⟩ := hF
      refine EvK.pure (v := .pointer (some q6)) (w_none rfl) rfl rfl (f_indexAddr (s := x5) Try.underlying45 ty33.size rfl rfl rfl hq6) ?_
      obtain ⟨x6, hx6, hF⟩ := hF
      refine EvK.read (v := k32.val x6) (w_none rfl) rfl rfl (f_load k32 ty33 rfl rfl hx6 rfl) ?_
      refine EvK.alloc (w_none rfl) rfl rfl (f_allocF zero33 rfl rfl hF) ?_
      rintro _ h2 ⟨q7, rfl, hF⟩
      obtain ⟨h3, hs1, hF⟩ := hF
      refine EvK.runN (w_none rfl) rfl (f_store k32 ty33.size (z := x6) rfl rfl rfl hs1) ?_
      rintro _ _ ⟨rfl, rfl⟩
      refine EvK.nil ?_
      refine WP.seq ?_
      refine WP.draw mixed [.pure, .pure, .pure, .read, .pure, .pure, .pure, .pure, .read, .pure, .pure, .read, .pure, .read, .pure, .alloc, .eff [3], .pure, .eff []] [[], [0], [0, 1], [0, 1, 2], [], [], [5], [5, 6], [5, 6, 7], [], [5, 6, 7, 8, 9], [5, 6, 7, 8, 9, 10], [], [], [12, 13], [12, 13, 14], [5, 6, 7, 8, 9, 10, 11, 12, 13, 14, 15], [0, 1, 2, 3, 4, 5, 6, 7, 8, 9, 10, 11, 12, 13, 14, 15, 16], [0, 1, 2, 3, 4, 5, 6, 7, 8, 9, 10, 11, 12, 13, 14, 15, 16, 17]] [0, 1, 2, 3, 4, 5, 6, 7, 8, 9, 10, 11, 12, 13, 14, 15, 16, 17, 18] (by kernel_rfl) (by kernel_rfl) ?_
      refine EvI.pure (v := .pointer a0) rfl rfl (w_none rfl) rfl (f_move rfl rfl) ?_
      obtain ⟨q8, hq7, hF⟩ := hF
      refine EvI.pure (v := .pointer (some q8)) rfl rfl (w_none rfl) rfl (f_nilCheck rfl (congrArg Value.pointer hq7)) ?_
      refine EvI.pure (v := .pointer (some (q8.add 2))) rfl rfl (w_none rfl) rfl (f_fieldAddr fd66_2 rfl rfl) ?_
      obtain ⟨x7, hx7, hF⟩ := hF
      refine EvI.read (v := Sl.val x7) rfl rfl (w_none rfl) rfl (f_load kL ty63 rfl rfl hx7 rfl) ?_
      refine EvI.pure (v := .int .i64 r1.1) rfl rfl (w_none rfl) rfl (f_move rfl rfl) ?_
      refine EvI.pure (v := .pointer a0) rfl rfl (w_none rfl) rfl (f_move rfl rfl) ?_
      obtain ⟨q9, hq8, hF⟩ := hF
      refine EvI.pure (v := .pointer (some q9)) rfl rfl (w_none rfl) rfl (f_nilCheck rfl (congrArg Value.pointer hq8)) ?_
      refine EvI.pure (v := .pointer (some (q9.add 2))) rfl rfl (w_none rfl) rfl (f_fieldAddr fd66_2 rfl rfl) ?_
      obtain ⟨x8, hx8, hF⟩ := hF
      refine EvI.read (v := Sl.val x8) rfl rfl (w_none rfl) rfl (f_load kL ty63 rfl rfl hx8 rfl) ?_
      refine EvI.pure (v := .int .i64 r1.1) rfl rfl (w_none rfl) rfl (f_move rfl rfl) ?_
      obtain ⟨q10, hq9, hF⟩ := hF
      refine EvI.pure (v := .pointer (some q10)) rfl rfl (w_none rfl) rfl (f_indexAddr (s := x8) Try.underlying63 ty86.size rfl rfl rfl hq9) ?_
      obtain ⟨x9, hx9, hF⟩ := hF
      refine EvI.read (v := Sl.val x9) rfl rfl (w_none rfl) rfl (f_load kL ty86 rfl rfl hx9 rfl) ?_
      refine EvI.pure (v := .int .i64 a1) rfl rfl (w_none rfl) rfl (f_move rfl rfl) ?_
      obtain ⟨x10, hx10, hF⟩ := hF
      refine EvI.read (v := k32.val x10) rfl rfl (w_none rfl) rfl (f_load k32 ty33 rfl rfl hx10 rfl) ?_
      refine EvI.pure (v := k51.val (S51.mk a1 x10)) rfl rfl (w_none rfl) rfl (f_build (cells := k51.enc (S51.mk a1 x10)) st87 rfl rfl rfl) ?_
      refine EvI.alloc rfl rfl (w_none rfl) rfl (f_buildSliceF Try.underlying86 el87 (by decide) rfl rfl rfl hF) ?_
      rintro _ h4 ⟨x11, rfl, hF⟩
      refine EvI.run rfl rfl (w_none rfl) rfl (f_appendE (s := x9) (x := x11) Try.underlying86 el87 rfl rfl rfl hF) ?_
      rintro _ h5 ⟨x12, rfl, hF⟩
      obtain ⟨hy1, hF⟩ := hF
      refine ⟨⟨chk_no rfl, chk_no rfl, chk_no rfl, chk_yes rfl (f_load kL ty63 rfl rfl hy1 rfl), trivial⟩, ?_⟩
      obtain ⟨q11, hq10, hF⟩ := hF
      refine EvI.pure (v := .pointer (some q11)) rfl rfl (w_none rfl) rfl (f_indexAddr (s := x7) Try.underlying63 ty86.size rfl rfl rfl hq10) ?_
      obtain ⟨h6, hs2, hF⟩ := hF
      refine EvI.runN rfl rfl (w_none rfl) rfl (f_store kL ty86.size (z := x12) rfl rfl rfl hs2) ?_
      rintro _ _ ⟨rfl, rfl⟩
      refine ⟨⟨chk_no rfl, chk_no rfl, chk_no rfl, chk_no rfl, trivial⟩, ?_⟩
      refine EvI.nil ?_
      refine WP.joinF (fun (s1 : Unit) => [(0, .pointer a0), (1, .int .i64 a1), (6, .int .i64 r1.1)]) hF ?_ ?_
      · intro s1 E0 h7 hF
        refine WP.seq ?_
        refine WP.draw mixed [.pure, .pure, .pure, .read, .pure, .alloc, .pure, .pure, .pure, .read, .pure, .pure, .read, .pure, .eff [3], .pure, .eff []] [[], [0], [0, 1], [0, 1, 2], [], [], [], [6], [6, 7], [6, 7, 8], [], [6, 7, 8, 9, 10], [6, 7, 8, 9, 10, 11], [6, 7, 8, 9, 10, 11, 12], [5, 6, 7, 8, 9, 10, 11, 12, 13], [0, 1, 2, 3, 4, 5, 6, 7, 8, 9, 10, 11, 12, 13, 14], [0, 1, 2, 3, 4, 5, 6, 7, 8, 9, 10, 11, 12, 13, 14, 15]] [0, 1, 2, 3, 4, 6, 7, 8, 9, 10, 11, 12, 13, 5, 14, 15, 16] (by kernel_rfl) (by kernel_rfl) ?_
        refine EvI.pure (v := .pointer a0) rfl rfl (w_none rfl) rfl (f_move rfl rfl) ?_
        obtain ⟨q12, hq11, hF⟩ := hF
        refine EvI.pure (v := .pointer (some q12)) rfl rfl (w_none rfl) rfl (f_nilCheck rfl (congrArg Value.pointer hq11)) ?_
        refine EvI.pure (v := .pointer (some (q12.add 1))) rfl rfl (w_none rfl) rfl (f_fieldAddr fd66_1 rfl rfl) ?_
        obtain ⟨x13, hx11, hF⟩ := hF
        refine EvI.read (v := Sl.val x13) rfl rfl (w_none rfl) rfl (f_load kL ty42 rfl rfl hx11 rfl) ?_
        refine EvI.pure (v := .int .i64 a1) rfl rfl (w_none rfl) rfl (f_move rfl rfl) ?_
        refine EvI.pure (v := .pointer a0) rfl rfl (w_none rfl) rfl (f_move rfl rfl) ?_
        obtain ⟨q13, hq12, hF⟩ := hF
        refine EvI.pure (v := .pointer (some q13)) rfl rfl (w_none rfl) rfl (f_nilCheck rfl (congrArg Value.pointer hq12)) ?_
        refine EvI.pure (v := .pointer (some (q13.add 1))) rfl rfl (w_none rfl) rfl (f_fieldAddr fd66_1 rfl rfl) ?_
        obtain ⟨x14, hx12, hF⟩ := hF
        refine EvI.read (v := Sl.val x14) rfl rfl (w_none rfl) rfl (f_load kL ty42 rfl rfl hx12 rfl) ?_
        refine EvI.pure (v := .int .i64 a1) rfl rfl (w_none rfl) rfl (f_move rfl rfl) ?_
        obtain ⟨q14, hq13, hF⟩ := hF
        refine EvI.pure (v := .pointer (some q14)) rfl rfl (w_none rfl) rfl (f_indexAddr (s := x14) Try.underlying42 ty45.size rfl rfl rfl hq13) ?_
        obtain ⟨x15, hx13, hF⟩ := hF
        refine EvI.read (v := Sl.val x15) rfl rfl (w_none rfl) rfl (f_load kL ty45 rfl rfl hx13 rfl) ?_
        obtain ⟨x16, hx14, hF⟩ := hF
        refine EvI.pure (v := Sl.val x16) rfl rfl (w_none rfl) rfl (f_slice Try.underlying45 ty33.size rfl rfl (bndV_some rfl) bndV_none bndV_none hx14) ?_
        refine EvI.alloc rfl rfl (w_none rfl) rfl (f_buildSliceF Try.underlying45 el33 (by decide) rfl rfl rfl hF) ?_
        rintro _ h8 ⟨x17, rfl, hF⟩
        refine EvI.run rfl rfl (w_none rfl) rfl (f_appendE (s := x17) (x := x16) Try.underlying45 el33 rfl rfl rfl hF) ?_
        rintro _ h9 ⟨x18, rfl, hF⟩
        obtain ⟨hy2, hF⟩ := hF
        refine ⟨⟨chk_no rfl, chk_no rfl, chk_yes rfl (f_load kL ty42 rfl rfl hy2 rfl), trivial⟩, ?_⟩
        obtain ⟨q15, hq14, hF⟩ := hF
        refine EvI.pure (v := .pointer (some q15)) rfl rfl (w_none rfl) rfl (f_indexAddr (s := x13) Try.underlying42 ty45.size rfl rfl rfl hq14) ?_
        obtain ⟨h10, hs3, hF⟩ := hF
        refine EvI.runN rfl rfl (w_none rfl) rfl (f_store kL ty45.size (z := x18) rfl rfl rfl hs3) ?_
        rintro _ _ ⟨rfl, rfl⟩
        refine ⟨⟨chk_no rfl, chk_no rfl, chk_no rfl, trivial⟩, ?_⟩
        refine EvI.nil ?_
        refine WP.seq ?_
        refine WP.region ?_
        refine EvK.pure (v := .int .i64 r1.1) (w_none rfl) rfl rfl (f_move rfl rfl) ?_
        refine EvK.pure (v := .int .i64 r1.1) (w_none rfl) rfl rfl (f_assign rfl rfl) ?_
        refine EvK.pure (v := .int .i64 0) (w_none rfl) rfl rfl (f_assign rfl rfl) ?_
        refine EvK.nil ?_
        refine WP.ret ?_
        exact Ret.mk (vs := [.int .i64 r1.1, .int .i64 0]) (r1.1, 0) ⟨rfl, rfl, trivial⟩ rfl hF
      · intro k1 hF
        refine WP.seq ?_
        refine WP.region ?_
        refine EvK.pure (v := .pointer (some (q7.add 0))) (w_none rfl) rfl rfl (f_fieldAddr fd33_0 rfl rfl) ?_
        obtain ⟨x19, hx15, hF⟩ := hF
        refine EvK.read (v := .bool x19) (w_none rfl) rfl rfl (f_load kB ty4 rfl rfl hx15 rfl) ?_
        refine EvK.nil ?_
        rcases ite_inv hF with ⟨c3, hF⟩ | ⟨c3, hF⟩
        · refine WP.cond_true _ rfl c3 ?_
          refine WP.seq ?_
          refine WP.region ?_
          refine EvK.pure (v := .pointer a0) (w_none rfl) rfl rfl (f_move rfl rfl) ?_
          obtain ⟨q16, hq15, hF⟩ := hF
          refine EvK.pure (v := .pointer (some q16)) (w_none rfl) rfl rfl (f_nilCheck rfl (congrArg Value.pointer hq15)) ?_
          refine EvK.pure (v := .pointer (some (q16.add 3))) (w_none rfl) rfl rfl (f_fieldAddr fd66_3 rfl rfl) ?_
          obtain ⟨x20, hx16, hF⟩ := hF
          refine EvK.read (v := Sl.val x20) (w_none rfl) rfl rfl (f_load kL ty64 rfl rfl hx16 rfl) ?_
          refine EvK.pure (v := .int .i64 a1) (w_none rfl) rfl rfl (f_move rfl rfl) ?_
          obtain ⟨q17, hq16, hF⟩ := hF
          refine EvK.pure (v := .pointer (some q17)) (w_none rfl) rfl rfl (f_indexAddr (s := x20) Try.underlying64 ty3.size rfl rfl rfl hq16) ?_
          obtain ⟨x21, hx17, hF⟩ := hF
          refine EvK.read (v := .int .i64 x21) (w_none rfl) rfl rfl (f_load (kI .i64) ty3 rfl rfl hx17 rfl) ?_
          refine EvK.pure (v := .int .i64 (IntKind.i64.wrap (x21 + 1))) (w_none rfl) rfl rfl (f_add rfl rfl rfl) ?_
          obtain ⟨q18, hq17, hF⟩ := hF
          refine EvK.pure (v := .pointer (some q18)) (w_none rfl) rfl rfl (f_indexAddr (s := x20) Try.underlying64 ty3.size rfl rfl rfl hq17) ?_
          obtain ⟨h11, hs4, hF⟩ := hF
          refine EvK.runN (w_none rfl) rfl (f_store (kI .i64) ty3.size (z := IntKind.i64.wrap (x21 + 1)) rfl rfl rfl hs4) ?_
          rintro _ _ ⟨rfl, rfl⟩
          refine EvK.nil ?_
          refine WP.seq ?_
          refine WP.seq ?_
          refine WP.draw mixed [.pure, .pure, .pure, .read, .pure, .pure, .read, .pure, .pure, .pure, .read, .pure, .pure] [[], [0], [0, 1], [0, 1, 2], [], [0, 1, 2, 3, 4], [0, 1, 2, 3, 4, 5], [], [7], [7, 8], [7, 8, 9], [7, 8, 9, 10], [0, 1, 2, 3, 4, 5, 6, 7, 8, 9, 10, 11]] [0, 1, 2, 3, 4, 5, 6, 7, 8, 9, 10, 11, 12] (by kernel_rfl) (by kernel_rfl) ?_
          refine EvI.pure (v := .pointer a0) rfl rfl (w_none rfl) rfl (f_move rfl rfl) ?_
          obtain ⟨q19, hq18, hF⟩ := hF
          refine EvI.pure (v := .pointer (some q19)) rfl rfl (w_none rfl) rfl (f_nilCheck rfl (congrArg Value.pointer hq18)) ?_
          refine EvI.pure (v := .pointer (some (q19.add 3))) rfl rfl (w_none rfl) rfl (f_fieldAddr fd66_3 rfl rfl) ?_
          obtain ⟨x22, hx18, hF⟩ := hF
          refine EvI.read (v := Sl.val x22) rfl rfl (w_none rfl) rfl (f_load kL ty64 rfl rfl hx18 rfl) ?_
          refine EvI.pure (v := .int .i64 a1) rfl rfl (w_none rfl) rfl (f_move rfl rfl) ?_
          obtain ⟨q20, hq19, hF⟩ := hF
          refine EvI.pure (v := .pointer (some q20)) rfl rfl (w_none rfl) rfl (f_indexAddr (s := x22) Try.underlying64 ty3.size rfl rfl rfl hq19) ?_
          obtain ⟨x23, hx19, hF⟩ := hF
          refine EvI.read (v := .int .i64 x23) rfl rfl (w_none rfl) rfl (f_load (kI .i64) ty3 rfl rfl hx19 rfl) ?_
          refine EvI.pure (v := .pointer a0) rfl rfl (w_none rfl) rfl (f_move rfl rfl) ?_
          obtain ⟨q21, hq20, hF⟩ := hF
          refine EvI.pure (v := .pointer (some q21)) rfl rfl (w_none rfl) rfl (f_nilCheck rfl (congrArg Value.pointer hq20)) ?_
          refine EvI.pure (v := .pointer (some (q21.add 2))) rfl rfl (w_none rfl) rfl (f_fieldAddr fd66_2 rfl rfl) ?_
          obtain ⟨x24, hx20, hF⟩ := hF
          refine EvI.read (v := Sl.val x24) rfl rfl (w_none rfl) rfl (f_load kL ty63 rfl rfl hx20 rfl) ?_
          refine EvI.pure (v := .int .i64 (x24.len : Int)) rfl rfl (w_none rfl) rfl (f_lenL (s := x24) Try.underlying63 rfl rfl) ?_
          refine EvI.pure (v := .bool (decide (x23 < (x24.len : Int)))) rfl rfl (w_none rfl) rfl (f_lss rfl rfl rfl) ?_
          refine EvI.nil ?_
          rcases ite_inv hF with ⟨c4, hF⟩ | ⟨c4, hF⟩
          · refine WP.cond_true _ rfl c4 ?_
            refine WP.seq ?_
            refine WP.region ?_
            refine EvK.pure (v := .int .i64 r1.1) (w_none rfl) rfl rfl (f_move rfl rfl) ?_
            refine EvK.pure (v := .int .i64 r1.1) (w_none rfl) rfl rfl (f_assign rfl rfl) ?_
            refine EvK.pure (v := .int .i64 0) (w_none rfl) rfl rfl (f_assign rfl rfl) ?_
            refine EvK.nil ?_
            refine WP.ret ?_
            exact Ret.mk (vs := [.int .i64 r1.1, .int .i64 0]) (r1.1, 0) ⟨rfl, rfl, trivial⟩ rfl hF
          · refine WP.cond_false _ rfl c4 ?_
            refine WP.skip ?_
            refine WP.region ?_
            refine EvK.pure (v := .pointer a0) (w_none rfl) rfl rfl (f_move rfl rfl) ?_
            obtain ⟨q22, hq21, hF⟩ := hF
            refine EvK.pure (v := .pointer (some q22)) (w_none rfl) rfl rfl (f_nilCheck rfl (congrArg Value.pointer hq21)) ?_
            refine EvK.pure (v := .pointer (some (q22.add 3))) (w_none rfl) rfl rfl (f_fieldAddr fd66_3 rfl rfl) ?_
            obtain ⟨x25, hx21, hF⟩ := hF
            refine EvK.read (v := Sl.val x25) (w_none rfl) rfl rfl (f_load kL ty64 rfl rfl hx21 rfl) ?_
            refine EvK.pure (v := .int .i64 a1) (w_none rfl) rfl rfl (f_move rfl rfl) ?_
            obtain ⟨q23, hq22, hF⟩ := hF
            refine EvK.pure (v := .pointer (some q23)) (w_none rfl) rfl rfl (f_indexAddr (s := x25) Try.underlying64 ty3.size rfl rfl rfl hq22) ?_
            obtain ⟨h12, hs5, hF⟩ := hF
            refine EvK.runN (w_none rfl) rfl (f_store (kI .i64) ty3.size (z := 0) rfl rfl rfl hs5) ?_
            rintro _ _ ⟨rfl, rfl⟩
            refine EvK.nil ?_
            exact KE.mk () ⟨rfl, rfl, rfl, trivial⟩ hF
        · refine WP.cond_false _ rfl c3 ?_
          refine WP.skip ?_
          exact KE.mk () ⟨rfl, rfl, rfl, trivial⟩ hF
end Go.Proofs.Ytanpaamamfabkaa

namespace Go.Proofs.Ytanpaamamfabkaa
open Go Go.Tr
set_option linter.unusedVariables false
set_option maxRecDepth 100000
set_option maxHeartbeats 400000
/-- (*spate/spateref15.Flow).Take -/
def spateref15_Flow_Take (a0 : Option Addr) (a1 : Int) (h : H) (Q : (Int × S32 × Int) → H → Prop) : Prop :=
  al 33 (k32.enc z32) h fun q1 h1 =>
  jn (fun (k1 : Bool → H → Prop) =>
    if (decide (a1 < 0)) = true then
      k1 true h1
    else
      rd a0 fun q12 =>
      rd (ld kL (q12.add 2) h1) fun x17 =>
      k1 (decide (a1 ≥ (x17.len : Int))) h1) fun s1 h2 =>
  if s1 = true then
    rd (st k32 q1 (S32.mk false ⟨#[]⟩ 0 0) h2) fun h3 =>
    rd (ld k32 q1 h3) fun x1 =>
    Q (0, x1, 1) h3
  else
    rd a0 fun q2 =>
    rd (ld kL (q2.add 2) h2) fun x2 =>
    rd (ixA 1 x2 a1) fun q3 =>
    rd (ld kL q3 h2) fun x3 =>
    if ((x3.len : Int) == 0) = true then
      rd (st k32 q1 (S32.mk false ⟨#[]⟩ 0 0) h2) fun h4 =>
      rd (ld k32 q1 h4) fun x4 =>
      Q (0, x4, 44) h4
    else
      rd a0 fun q4 =>
      rd (ld kL (q4.add 2) h2) fun x5 =>
      rd (ixA 1 x5 a1) fun q5 =>
      rd (ld kL q5 h2) fun x6 =>
      rd (ixA 5 x6 0) fun q6 =>
      rd (ld k51 q6 h2) fun x7 =>
      al 87 (k51.enc z51) h2 fun q7 h5 =>
      rd (st k51 q7 x7 h5) fun h6 =>
      rd a0 fun q8 =>
      rd (ld kL (q8.add 2) h6) fun x8 =>
      rd a0 fun q9 =>
      rd (ld kL (q9.add 2) h6) fun x9 =>
      rd (ixA 1 x9 a1) fun q10 =>
      rd (ld kL q10 h6) fun x10 =>
      rd (slx 5 x10 (some 1) none none) fun x11 =>
      bs 87 0 ([]) h6 fun x12 h7 =>
      ap k51.n 48 87 (k51.enc z51) x12 x11 h7 fun x13 h8 =>
      ld kL (q8.add 2) h8 = some x8 ∧
      rd (ixA 1 x8 a1) fun q11 =>
      rd (st kL q11 x13 h8) fun h9 =>
      rd (ld (kI .i64) (q7.add 0) h9) fun x14 =>
      rd (ld k32 (q7.add 1) h9) fun x15 =>
      rd (st k32 q1 x15 h9) fun h10 =>
      rd (ld k32 q1 h10) fun x16 =>
      Q (x14, x16, 0) h10
theorem spateref15_Flow_Take.sound {a0 : Option Addr} {a1 : Int} {h : H} {Q : (Int × S32 × Int) → H → Prop} (hF : spateref15_Flow_Take a0 a1 h Q) :
    CallsH Try.prog 26 (List.toArray (α := Value) [.pointer a0, .int .i64 a1]) h fun v h' => ∃ x : Int × S32 × Int, v = .tuple #[.int .i64 x.1, k32.val x.2.1, .int .i64 x.2.2] ∧ Q x h' := by
  refine CallsH.of_body Try.func26 rfl 59 rfl rfl ?_
  refine WP.seq ?_
  refine WP.region ?_
  refine EvK.pure (v := .int .i64 0) (w_none rfl) rfl rfl (f_assign rfl rfl) ?_
  refine EvK.alloc (w_none rfl) rfl rfl (f_allocF zero33 rfl rfl hF) ?_
  rintro _ h1 ⟨q1, rfl, hF⟩
  refine EvK.pure (v := .int .i64 0) (w_none rfl) rfl rfl (f_assign rfl rfl) ?_
  refine EvK.nil ?_
  refine WP.seq ?_
  refine WP.joinF (fun (s1 : Bool) => [(18, .bool s1), (0, .pointer a0), (1, .int .i64 a1), (5, .pointer (some q1))]) hF ?_ ?_
  · intro s1 E0 h2 hF
    rcases ite_inv hF with ⟨c1, hF⟩ | ⟨c1, hF⟩
    · refine WP.cond_true _ rfl c1 ?_
      refine WP.seq ?_
      refine WP.region ?_
      refine EvK.pure (v := k32.val (S32.mk false ⟨#[]⟩ 0 0)) (w_none rfl) rfl rfl (f_build (cells := k32.enc (S32.mk false ⟨#[]⟩ 0 0)) st33 rfl rfl rfl) ?_
      refine EvK.pure (v := .int .i64 0) (w_none rfl) rfl rfl (f_assign rfl rfl) ?_
      obtain ⟨h3, hs1, hF⟩ := hF
      refine EvK.runN (w_none rfl) rfl (f_store k32 ty33.size (z := (S32.mk false ⟨#[]⟩ 0 0)) rfl rfl rfl hs1) ?_
      rintro _ _ ⟨rfl, rfl⟩
      refine EvK.pure (v := .int .i64 1) (w_none rfl) rfl rfl (f_assign rfl rfl) ?_
      refine EvK.nil ?_
      refine WP.ret ?_
      obtain ⟨x1, hx1, hF⟩ := hF
      exact Ret.mk (vs := [.int .i64 0, k32.val x1, .int .i64 1]) (0, x1, 1) ⟨rfl, ⟨_, rfl, fun c d => run_loadVar k32 ty33 hx1 c d⟩, rfl, trivial⟩ rfl hF
    · refine WP.cond_false _ rfl c1 ?_
      refine WP.skip ?_
      refine WP.seq ?_
      refine WP.seq ?_
      refine WP.region ?_
      refine EvK.pure (v := .pointer a0) (w_none rfl) rfl rfl (f_move rfl rfl) ?_
      obtain ⟨q2, hq1, hF⟩ := hF
      refine EvK.pure (v := .pointer (some q2)) (w_none rfl) rfl rfl (f_nilCheck rfl (congrArg Value.pointer hq1)) ?_
      refine EvK.pure (v := .pointer (some (q2.add 2))) (w_none rfl) rfl rfl (f_fieldAddr fd66_2 rfl rfl) ?_
      obtain ⟨x2, hx2, hF⟩ := hF
      refine EvK.read (v := Sl.val x2) (w_none rfl) rfl rfl (f_load kL ty63 rfl rfl hx2 rfl) ?_
      refine EvK.pure (v := .int .i64 a1) (w_none rfl) rfl rfl (f_move rfl rfl) ?_
      obtain ⟨q3, hq2, hF⟩ := hF
      refine EvK.pure (v := .pointer (some q3)) (w_none rfl) rfl rfl (f_indexAddr (s := x2) Try.underlying63 ty86.size rfl rfl rfl hq2) ?_
      obtain ⟨x3, hx3, hF⟩ := hF
      refine EvK.read (v := Sl.val x3) (w_none rfl) rfl rfl (f_load kL ty86 rfl rfl hx3 rfl) ?_
      refine EvK.pure (v := .int .i64 (x3.len : Int)) (w_none rfl) rfl rfl (f_lenL (s := x3) Try.underlying86 rfl rfl) ?_
      refine EvK.pure (v := .bool ((x3.len : Int) == 0)) (w_none rfl) rfl rfl (f_eql rfl rfl rfl) ?_
      refine EvK.nil ?_
      rcases ite_inv hF with ⟨c2, hF⟩ | ⟨c2, hF⟩
      · refine WP.cond_true _ rfl c2 ?_
        refine WP.seq ?_
        refine WP.region ?_
        refine EvK.pure (v := k32.val (S32.mk false ⟨#[]⟩ 0 0)) (w_none rfl) rfl rfl (f_build (cells := k32.enc (S32.mk false ⟨#[]⟩ 0 0)) st33 rfl rfl rfl) ?_
        refine EvK.pure (v := .int .i64 0) (w_none rfl) rfl rfl (f_assign rfl rfl) ?_
        obtain ⟨h4, hs2, hF⟩ := hF
        refine EvK.runN (w_none rfl) rfl (f_store k32 ty33.size (z := (S32.mk false ⟨#[]⟩ 0 0)) rfl rfl rfl hs2) ?_
        rintro _ _ ⟨rfl, rfl⟩
        refine EvK.pure (v := .int .i64 44) (w_none rfl) rfl rfl (f_assign rfl rfl) ?_
        refine EvK.nil ?_
        refine WP.ret ?_
        obtain ⟨x4, hx4, hF⟩ := hF
        exact Ret.mk (vs := [.int .i64 0, k32.val x4, .int .i64 44]) (0, x4, 44) ⟨rfl, ⟨_, rfl, fun c d => run_loadVar k32 ty33 hx4 c d⟩, rfl, trivial⟩ rfl hF
      · refine WP.cond_false _ rfl c2 ?_
        refine WP.skip ?_
        refine WP.seq ?_
        refine WP.region ?_
        refine EvK.pure (v := .pointer a0) (w_none rfl) rfl rfl (f_move rfl rfl) ?_
        obtain ⟨q4, hq3, hF⟩ := hF
        refine EvK.pure (v := .pointer (some q4)) (w_none rfl) rfl rfl (f_nilCheck rfl (congrArg Value.pointer hq3)) ?_
        refine EvK.pure (v := .pointer (some (q4.add 2))) (w_none rfl) rfl rfl (f_fieldAddr fd66_2 rfl rfl) ?_
        obtain ⟨x5, hx5, hF⟩ := hF
        refine EvK.read (v := Sl.val x5) (w_none rfl) rfl rfl (f_load kL ty63 rfl rfl hx5 rfl) ?_
        refine EvK.pure (v := .int .i64 a1) (w_none rfl) rfl rfl (f_move rfl rfl) ?_
        obtain ⟨q5, hq4, hF⟩ := hF
        refine EvK.pure (v := .pointer (some q5)) (w_none rfl) rfl rfl (f_indexAddr (s := x5) Try.underlying63 ty86.size rfl rfl rfl hq4) ?_
        obtain ⟨x6, hx6, hF⟩ := hF
        refine EvK.read (v := Sl.val x6) (w_none rfl) rfl rfl (f_load kL ty86 rfl rfl hx6 rfl) ?_
        obtain ⟨q6, hq5, hF⟩ := hF
        refine EvK.pure (v := .pointer (some q6)) (w_none rfl) rfl rfl (f_indexAddr (s := x6) Try.underlying86 ty87.size rfl rfl rfl hq5) ?_
        obtain ⟨x7, hx7, hF⟩ := hF
        refine EvK.read (v := k51.val x7) (w_none rfl) rfl rfl (f_load k51 ty87 rfl rfl hx7 rfl) ?_
        refine EvK.alloc (w_none rfl) rfl rfl (f_allocF zero87 rfl rfl hF) ?_
        rintro _ h5 ⟨q7, rfl, hF⟩
        obtain ⟨h6, hs3, hF⟩ := hF
        refine EvK.runN (w_none rfl) rfl (f_store k51 ty87.size (z := x7) rfl rfl rfl hs3) ?_
        rintro _ _ ⟨rfl, rfl⟩
        refine EvK.nil ?_
        refine WP.seq ?_
        refine WP.draw mixed [.pure, .pure, .pure, .read, .pure, .alloc, .pure, .pure, .pure, .read, .pure, .pure, .read, .pure, .eff [3], .pure, .eff []] [[], [0], [0, 1], [0, 1, 2], [], [], [], [6], [6, 7], [6, 7, 8], [], [6, 7, 8, 9, 10], [6, 7, 8, 9, 10, 11], [6, 7, 8, 9, 10, 11, 12], [5, 6, 7, 8, 9, 10, 11, 12, 13], [0, 1, 2, 3, 4, 5, 6, 7, 8, 9, 10, 11, 12, 13, 14], [0, 1, 2, 3, 4, 5, 6, 7, 8, 9, 10, 11, 12, 13, 14, 15]] [0, 1, 2, 3, 4, 6, 7, 8, 9, 10, 11, 12, 13, 5, 14, 15, 16] (by kernel_rfl) (by kernel_rfl) ?_
        refine EvI.pure (v := .pointer a0) rfl rfl (w_none rfl) rfl (f_move rfl rfl) ?_
        obtain ⟨q8, hq6, hF⟩ := hF
        refine EvI.pure (v := .pointer (some q8)) rfl rfl (w_none rfl) rfl (f_nilCheck rfl (congrArg Value.pointer hq6)) ?_
        refine EvI.pure (v := .pointer (some (q8.add 2))) rfl rfl (w_none rfl) rfl (f_fieldAddr fd66_2 rfl rfl) ?_
        obtain ⟨x8, hx8, hF⟩ := hF
        refine EvI.read (v := Sl.val x8) rfl rfl (w_none rfl) rfl (f_load kL ty63 rfl rfl hx8 rfl) ?_
        refine EvI.pure (v := .int .i64 a1) rfl rfl (w_none rfl) rfl (f_move rfl rfl) ?_
        refine EvI.pure (v := .pointer a0) rfl rfl (w_none rfl) rfl (f_move rfl rfl) ?_
        obtain ⟨q9, hq7, hF⟩ := hF
        refine EvI.pure (v := .pointer (some q9)) rfl rfl (w_none rfl) rfl (f_nilCheck rfl (congrArg Value.pointer hq7)) ?_
        refine EvI.pure (v := .pointer (some (q9.add 2))) rfl rfl (w_none rfl) rfl (f_fieldAddr fd66_2 rfl rfl) ?_
        obtain ⟨x9, hx9, hF⟩ := hF
        refine EvI.read (v := Sl.val x9) rfl rfl (w_none rfl) rfl (f_load kL ty63 rfl rfl hx9 rfl) ?_
        refine EvI.pure (v := .int .i64 a1) rfl rfl (w_none rfl) rfl (f_move rfl rfl) ?_
        obtain ⟨q10, hq8, hF⟩ := hF
        refine EvI.pure (v := .pointer (some q10)) rfl rfl (w_none rfl) rfl (f_indexAddr (s := x9) Try.underlying63 ty86.size rfl rfl rfl hq8) ?_
        obtain ⟨x10, hx10, hF⟩ := hF
        refine EvI.read (v := Sl.val x10) rfl rfl (w_none rfl) rfl (f_load kL ty86 rfl rfl hx10 rfl) ?_
        obtain ⟨x11, hx11, hF⟩ := hF
        refine EvI.pure (v := Sl.val x11) rfl rfl (w_none rfl) rfl (f_slice Try.underlying86 ty87.size rfl rfl (bndV_some rfl) bndV_none bndV_none hx11) ?_
        refine EvI.alloc rfl rfl (w_none rfl) rfl (f_buildSliceF Try.underlying86 el87 (by decide) rfl rfl rfl hF) ?_
        rintro _ h7 ⟨x12, rfl, hF⟩
        refine EvI.run rfl rfl (w_none rfl) rfl (f_appendE (s := x12) (x := x11) Try.underlying86 el87 rfl rfl rfl hF) ?_
        rintro _ h8 ⟨x13, rfl, hF⟩
        obtain ⟨hy1, hF⟩ := hF
        refine ⟨⟨chk_no rfl, chk_no rfl, chk_yes rfl (f_load kL ty63 rfl rfl hy1 rfl), trivial⟩, ?_⟩
        obtain ⟨q11, hq9, hF⟩ := hF
        refine EvI.pure (v := .pointer (some q11)) rfl rfl (w_none rfl) rfl (f_indexAddr (s := x8) Try.underlying63 ty86.size rfl rfl rfl hq9) ?_
        obtain ⟨h9, hs4, hF⟩ := hF
        refine EvI.runN rfl rfl (w_none rfl) rfl (f_store kL ty86.size (z := x13) rfl rfl rfl hs4) ?_
        rintro _ _ ⟨rfl, rfl⟩
        refine ⟨⟨chk_no rfl, chk_no rfl, chk_no rfl, trivial⟩, ?_⟩
        refine EvI.nil ?_
        refine WP.seq ?_
        refine WP.draw mixed [.pure, .read, .pure, .read, .pure, .eff [], .pure] [[], [0], [], [2], [0, 1], [0, 1, 2, 3, 4], [0, 1, 2, 3, 4, 5]] [0, 1, 2, 3, 4, 5, 6] (by kernel_rfl) (by kernel_rfl) ?_
        refine EvI.pure (v := .pointer (some (q7.add 0))) rfl rfl (w_none rfl) rfl (f_fieldAddr fd87_0 rfl rfl) ?_
        obtain ⟨x14, hx12, hF⟩ := hF
        refine EvI.read (v := .int .i64 x14) rfl rfl (w_none rfl) rfl (f_load (kI .i64) ty3 rfl rfl hx12 rfl) ?_
        refine EvI.pure (v := .pointer (some (q7.add 1))) rfl rfl (w_none rfl) rfl (f_fieldAddr fd87_1 rfl rfl) ?_
        obtain ⟨x15, hx13, hF⟩ := hF
        refine EvI.read (v := k32.val x15) rfl rfl (w_none rfl) rfl (f_load k32 ty33 rfl rfl hx13 rfl) ?_
        refine EvI.pure (v := .int .i64 x14) rfl rfl (w_none rfl) rfl (f_assign rfl rfl) ?_
        obtain ⟨h10, hs5, hF⟩ := hF
        refine EvI.runN rfl rfl (w_none rfl) rfl (f_store k32 ty33.size (z := x15) rfl rfl rfl hs5) ?_
        rintro _ _ ⟨rfl, rfl⟩
        refine ⟨⟨chk_no rfl, chk_no rfl, trivial⟩, ?_⟩
        refine EvI.pure (v := .int .i64 0) rfl rfl (w_none rfl) rfl (f_assign rfl rfl) ?_
        refine EvI.nil ?_
        refine WP.ret ?_
        obtain ⟨x16, hx14, hF⟩ := hF
        exact Ret.mk (vs := [.int .i64 x14, k32.val x16, .int .i64 0]) (x14, x16, 0) ⟨rfl, ⟨_, rfl, fun c d => run_loadVar k32 ty33 hx14 c d⟩, rfl, trivial⟩ rfl hF
  · intro k1 hF
    refine WP.region ?_
    refine EvK.pure (v := .int .i64 a1) (w_none rfl) rfl rfl (f_move rfl rfl) ?_
    refine EvK.pure (v := .bool (decide (a1 < 0))) (w_none rfl) rfl rfl (f_lss rfl rfl rfl) ?_
    refine EvK.pure (v := .bool (decide (a1 < 0))) (w_none rfl) rfl rfl (f_move rfl rfl) ?_
    rcases ite_inv hF with ⟨c3, hF⟩ | ⟨c3, hF⟩
    · refine EvK.not (w_not rfl rfl c3) rfl rfl ?_
      refine EvK.not (w_not rfl rfl c3) rfl rfl ?_
      refine EvK.not (w_not rfl rfl c3) rfl rfl ?_
      refine EvK.not (w_not rfl rfl c3) rfl rfl ?_
      refine EvK.not (w_not rfl rfl c3) rfl rfl ?_
      refine EvK.not (w_not rfl rfl c3) rfl rfl ?_
      refine EvK.not (w_not rfl rfl c3) rfl rfl ?_
      refine EvK.pure (v := .bool true) (w_none rfl) rfl rfl (f_pickT rfl rfl c3 rfl) ?_
      refine EvK.nil ?_
      exact KE.mk true ⟨rfl, rfl, rfl, rfl, trivial⟩ hF
    · refine EvK.pure (v := .int .i64 a1) (w_some rfl rfl c3) rfl rfl (f_move rfl rfl) ?_
      refine EvK.pure (v := .pointer a0) (w_some rfl rfl c3) rfl rfl (f_move rfl rfl) ?_
      obtain ⟨q12, hq10, hF⟩ := hF
      refine EvK.pure (v := .pointer (some q12)) (w_some rfl rfl c3) rfl rfl (f_nilCheck rfl (congrArg Value.pointer hq10)) ?_
      refine EvK.pure (v := .pointer (some (q12.add 2))) (w_some rfl rfl c3) rfl rfl (f_fieldAddr fd66_2 rfl rfl) ?_
      obtain ⟨x17, hx15, hF⟩ := hF
      refine EvK.read (v := Sl.val x17) (w_some rfl rfl c3) rfl rfl (f_load kL ty63 rfl rfl hx15 rfl) ?_
      refine EvK.pure (v := .int .i64 (x17.len : Int)) (w_some rfl rfl c3) rfl rfl (f_lenL (s := x17) Try.underlying63 rfl rfl) ?_
      refine EvK.pure (v := .bool (decide (a1 ≥ (x17.len : Int)))) (w_some rfl rfl c3) rfl rfl (f_geq rfl rfl rfl) ?_
      refine EvK.pure (v := .bool (decide (a1 ≥ (x17.len : Int)))) (w_none rfl) rfl rfl (f_pickF rfl rfl c3 rfl) ?_
      refine EvK.nil ?_
      exact KE.mk (decide (a1 ≥ (x17.len : Int))) ⟨rfl, rfl, rfl, rfl, trivial⟩ hF
end Go.Proofs.Ytanpaamamfabkaa

namespace Go.Proofs.Ytanpaamamfabkaa
open Go Go.Tr
set_option linter.unusedVariables false
set_option maxRecDepth 100000
set_option maxHeartbeats 400000
/-- spate/spatelaw15.told -/
def spatelaw15_told (a0 : Option Addr) (a1 : Option Addr) (a2 : S34) (h : H) (Q : Bool → H → Prop) : Prop :=
  al 35 (k34.enc a2) h fun q1 h1 =>
  rd (ld (kI .i64) (q1.add 0) h1) fun x1 =>
  if (x1 == 1) = true then
    rd (ld (kI .i64) (q1.add 1) h1) fun x2 =>
    rd (ld k32 (q1.add 2) h1) fun x3 =>
    rd (ld (kI .i64) (q1.add 1) h1) fun x4 =>
    rd (ld k32 (q1.add 2) h1) fun x5 =>
    flow_Flow_Put a0 x2 x3 h1 fun r1 h2 =>
    ld k32 (q1.add 2) h2 = some x5 ∧ ld (kI .i64) (q1.add 1) h2 = some x4 ∧
    spateref15_Flow_Put a1 x4 x5 h2 fun r2 h3 =>
    Q (r1 == r2) h3
  else
    if (x1 == 2) = true then
      rd (ld (kI .i64) (q1.add 1) h1) fun x6 =>
      flow_Flow_Pass a0 x6 h1 fun r3 h4 =>
      rd (ld (kI .i64) (q1.add 1) h4) fun x7 =>
      spateref15_Flow_Pass a1 x7 h4 fun r4 h5 =>
      jn (fun (k1 : Bool → H → Prop) =>
        if (r3.1 == r4.1) = true then
          k1 (r3.2 == r4.2) h5
        else
          k1 false h5) fun s1 h6 =>
      Q s1 h6
    else
      if (x1 == 3) = true then
        rd (ld (kI .i64) (q1.add 1) h1) fun x8 =>
        flow_Flow_Take a0 x8 h1 fun r5 h7 =>
        al 33 (k32.enc z32) h7 fun q2 h8 =>
        rd (st k32 q2 r5.2.1 h8) fun h9 =>
        rd (ld (kI .i64) (q1.add 1) h9) fun x9 =>
        spateref15_Flow_Take a1 x9 h9 fun r6 h10 =>
        al 33 (k32.enc z32) h10 fun q3 h11 =>
        rd (st k32 q3 r6.2.1 h11) fun h12 =>
        jn (fun (k2 : Bool → H → Prop) =>
          if (r5.1 == r6.1) = true then
            rd (ld k32 q2 h12) fun x10 =>
            rd (ld k32 q3 h12) fun x11 =>
            if (eq33 x10 x11) = true then
              k2 (r5.2.2 == r6.2.2) h12
            else
              k2 false h12
          else
            k2 false h12) fun s2 h13 =>
        Q s2 h13
      else
        if (x1 == 4) = true then
          rd (ld (kI .i64) (q1.add 1) h1) fun x12 =>
          flow_Flow_Toward a0 x12 h1 fun r7 h14 =>
          rd (ld (kI .i64) (q1.add 1) h14) fun x13 =>
          spateref15_Flow_Toward a1 x13 h14 fun r8 h15 =>
          jn (fun (k3 : Bool → H → Prop) =>
            if (r7.1 == r8.1) = true then
              k3 (r7.2 == r8.2) h15
            else
              k3 false h15) fun s3 h16 =>
          Q s3 h16
        else
          Q true h1
theorem spatelaw15_told.sound {a0 : Option Addr} {a1 : Option Addr} {a2 : S34} {h : H} {Q : Bool → H → Prop} (hF : spatelaw15_told a0 a1 a2 h Q) :
    CallsH Try.prog 11 (List.toArray (α := Value) [.pointer a0, .pointer a1, k34.val a2]) h fun v h' => ∃ x : Bool, v = .bool x ∧ Q x h' := by
  refine CallsH.of_body Try.func11 rfl 117 rfl rfl ?_
  refine WP.seq ?_
  refine WP.region ?_
  refine EvK.alloc (w_none rfl) rfl rfl (f_boxF (v := k34.val a2) rfl rfl rfl hF) ?_
  rintro _ h1 ⟨q1, rfl, hF⟩
  refine EvK.pure (v := .bool false) (w_none rfl) rfl rfl (f_assign rfl rfl) ?_
  refine EvK.nil ?_
  refine WP.seq ?_
  refine WP.seq ?_
  refine WP.region ?_
  refine EvK.pure (v := .pointer (some (q1.add 0))) (w_none rfl) rfl rfl (f_fieldAddr fd35_0 rfl rfl) ?_
  obtain ⟨x1, hx1, hF⟩ := hF
  refine EvK.read (v := .int .i64 x1) (w_none rfl) rfl rfl (f_load (kI .i64) ty3 rfl rfl hx1 rfl) ?_
  refine EvK.nil ?_
  refine WP.block ?_
  refine WP.seq ?_
  refine WP.region ?_
  refine EvK.pure (v := .bool (x1 == 1)) (w_none rfl) rfl rfl (f_eql rfl rfl rfl) ?_
  refine EvK.pure (v := .bool (x1 == 1)) (w_none rfl) rfl rfl (f_assign rfl rfl) ?_
  refine EvK.nil ?_
  rcases ite_inv hF with ⟨c1, hF⟩ | ⟨c1, hF⟩
  · refine WP.cond_true _ rfl c1 ?_
    refine WP.seq ?_
    refine WP.draw mixed [.pure, .pure, .read, .pure, .read, .eff [8, 10], .pure, .pure, .read, .pure, .read, .eff [], .pure, .pure] [[], [], [1], [], [3], [0, 1, 2, 3, 4], [], [], [7], [], [9], [0, 1, 2, 3, 4, 5, 6, 7, 8, 9, 10], [0, 1, 2, 3, 4, 5, 6, 7, 8, 9, 10, 11], [0, 1, 2, 3, 4, 5, 6, 7, 8, 9, 10, 11, 12]] [0, 1, 2, 3, 4, 6, 7, 8, 9, 10, 5, 11, 12, 13] (by kernel_rfl) (by kernel_rfl) ?_
    refine EvI.pure (v := .pointer a0) rfl rfl (w_none rfl) rfl (f_move rfl rfl) ?_
    refine EvI.pure (v := .pointer (some (q1.add 1))) rfl rfl (w_none rfl) rfl (f_fieldAddr fd35_1 rfl rfl) ?_
    obtain ⟨x2, hx2, hF⟩ := hF
    refine EvI.read (v := .int .i64 x2) rfl rfl (w_none rfl) rfl (f_load (kI .i64) ty3 rfl rfl hx2 rfl) ?_
    refine EvI.pure (v := .pointer (some (q1.add 2))) rfl rfl (w_none rfl) rfl (f_fieldAddr fd35_2 rfl rfl) ?_
    obtain ⟨x3, hx3, hF⟩ := hF
    refine EvI.read (v := k32.val x3) rfl rfl (w_none rfl) rfl (f_load k32 ty33 rfl rfl hx3 rfl) ?_
    refine EvI.pure (v := .pointer a1) rfl rfl (w_none rfl) rfl (f_move rfl rfl) ?_
    refine EvI.pure (v := .pointer (some (q1.add 1))) rfl rfl (w_none rfl) rfl (f_fieldAddr fd35_1 rfl rfl) ?_
    obtain ⟨x4, hx4, hF⟩ := hF
    refine EvI.read (v := .int .i64 x4) rfl rfl (w_none rfl) rfl (f_load (kI .i64) ty3 rfl rfl hx4 rfl) ?_
    refine EvI.pure (v := .pointer (some (q1.add 2))) rfl rfl (w_none rfl) rfl (f_fieldAddr fd35_2 rfl rfl) ?_
    obtain ⟨x5, hx5, hF⟩ := hF
    refine EvI.read (v := k32.val x5) rfl rfl (w_none rfl) rfl (f_load k32 ty33 rfl rfl hx5 rfl) ?_
    refine EvI.call rfl rfl (w_none rfl) rfl (enterH Try.func16 rfl rfl rfl rfl (flow_Flow_Put.sound hF)) ?_
    rintro _ h2 ⟨r1, rfl, hF⟩
    obtain ⟨hy1, hF⟩ := hF
    obtain ⟨hy2, hF⟩ := hF
    refine ⟨⟨chk_yes rfl (f_load k32 ty33 rfl rfl hy1 rfl), chk_yes rfl (f_load (kI .i64) ty3 rfl rfl hy2 rfl), chk_no rfl, chk_no rfl, trivial⟩, ?_⟩
    refine EvI.call rfl rfl (w_none rfl) rfl (enterH Try.func24 rfl rfl rfl rfl (spateref15_Flow_Put.sound hF)) ?_
    rintro _ h3 ⟨r2, rfl, hF⟩
    refine ⟨⟨chk_no rfl, chk_no rfl, chk_no rfl, chk_no rfl, trivial⟩, ?_⟩
    refine EvI.pure (v := .bool (r1 == r2)) rfl rfl (w_none rfl) rfl (f_eql rfl rfl rfl) ?_
    refine EvI.pure (v := .bool (r1 == r2)) rfl rfl (w_none rfl) rfl (f_assign rfl rfl) ?_
    refine EvI.nil ?_
    refine WP.ret ?_
    exact Ret.mk (vs := [.bool (r1 == r2)]) (r1 == r2) ⟨rfl, trivial⟩ rfl hF
  · refine WP.cond_false _ rfl c1 ?_
    refine WP.seq ?_
    refine WP.region ?_
    refine EvK.pure (v := .bool (x1 == 2)) (w_none rfl) rfl rfl (f_eql rfl rfl rfl) ?_
    refine EvK.pure (v := .bool (x1 == 2)) (w_none rfl) rfl rfl (f_assign rfl rfl) ?_
    refine EvK.nil ?_
    rcases ite_inv hF with ⟨c2, hF⟩ | ⟨c2, hF⟩
    · refine WP.cond_true _ rfl c2 ?_
      refine WP.seq ?_
      refine WP.region ?_
      refine EvK.pure (v := .pointer a0) (w_none rfl) rfl rfl (f_move rfl rfl) ?_
      refine EvK.pure (v := .pointer (some (q1.add 1))) (w_none rfl) rfl rfl (f_fieldAddr fd35_1 rfl rfl) ?_
      obtain ⟨x6, hx6, hF⟩ := hF
      refine EvK.read (v := .int .i64 x6) (w_none rfl) rfl rfl (f_load (kI .i64) ty3 rfl rfl hx6 rfl) ?_
      refine EvK.call (w_none rfl) rfl rfl (enterH Try.func17 rfl rfl rfl rfl (flow_Flow_Pass.sound hF)) ?_
      rintro _ h4 ⟨r3, rfl, hF⟩
      refine EvK.pure (v := .tuple #[.int .i64 r3.1, .int .i64 r3.2]) (w_none rfl) rfl rfl (f_move rfl rfl) ?_
      refine EvK.pure (v := .int .i64 r3.1) (w_none rfl) rfl rfl (f_extract (vs := #[.int .i64 r3.1, .int .i64 r3.2]) rfl rfl rfl) ?_
      refine EvK.pure (v := .int .i64 r3.2) (w_none rfl) rfl rfl (f_extract (vs := #[.int .i64 r3.1, .int .i64 r3.2]) rfl rfl rfl) ?_
      refine EvK.pure (v := .int .i64 r3.1) (w_none rfl) rfl rfl (f_assign rfl rfl) ?_
      refine EvK.pure (v := .int .i64 r3.2) (w_none rfl) rfl rfl (f_assign rfl rfl) ?_
      refine EvK.nil ?_
      refine WP.seq ?_
      refine WP.region ?_
      refine EvK.pure (v := .pointer a1) (w_none rfl) rfl rfl (f_move rfl rfl) ?_
      refine EvK.pure (v := .pointer (some (q1.add 1))) (w_none rfl) rfl rfl (f_fieldAddr fd35_1 rfl rfl) ?_
      obtain ⟨x7, hx7, hF⟩ := hF
      refine EvK.read (v := .int .i64 x7) (w_none rfl) rfl rfl (f_load (kI .i64) ty3 rfl rfl hx7 rfl) ?_
      refine EvK.call (w_none rfl) rfl rfl (enterH Try.func25 rfl rfl rfl rfl (spateref15_Flow_Pass.sound hF)) ?_
      rintro _ h5 ⟨r4, rfl, hF⟩
      refine EvK.pure (v := .tuple #[.int .i64 r4.1, .int .i64 r4.2]) (w_none rfl) rfl rfl (f_move rfl rfl) ?_
      refine EvK.pure (v := .int .i64 r4.1) (w_none rfl) rfl rfl (f_extract (vs := #[.int .i64 r4.1, .int .i64 r4.2]) rfl rfl rfl) ?_
      refine EvK.pure (v := .int .i64 r4.2) (w_none rfl) rfl rfl (f_extract (vs := #[.int .i64 r4.1, .int .i64 r4.2]) rfl rfl rfl) ?_
      refine EvK.pure (v := .int .i64 r4.1) (w_none rfl) rfl rfl (f_assign rfl rfl) ?_
      refine EvK.pure (v := .int .i64 r4.2) (w_none rfl) rfl rfl (f_assign rfl rfl) ?_
      refine EvK.nil ?_
      refine WP.joinF (fun (s1 : Bool) => [(6, .bool s1)]) hF ?_ ?_
      · intro s1 E0 h6 hF
        refine WP.ret ?_
        exact Ret.mk (vs := [.bool s1]) s1 ⟨rfl, trivial⟩ rfl hF
      · intro k1 hF
        refine WP.region ?_
        refine EvK.pure (v := .int .i64 r3.1) (w_none rfl) rfl rfl (f_move rfl rfl) ?_
        refine EvK.pure (v := .int .i64 r4.1) (w_none rfl) rfl rfl (f_move rfl rfl) ?_
        refine EvK.pure (v := .bool (r3.1 == r4.1)) (w_none rfl) rfl rfl (f_eql rfl rfl rfl) ?_
        refine EvK.pure (v := .bool (r3.1 == r4.1)) (w_none rfl) rfl rfl (f_move rfl rfl) ?_
        rcases ite_inv hF with ⟨c3, hF⟩ | ⟨c3, hF⟩
        · refine EvK.pure (v := .int .i64 r3.2) (w_some rfl rfl c3) rfl rfl (f_move rfl rfl) ?_
          refine EvK.pure (v := .int .i64 r4.2) (w_some rfl rfl c3) rfl rfl (f_move rfl rfl) ?_
          refine EvK.pure (v := .bool (r3.2 == r4.2)) (w_some rfl rfl c3) rfl rfl (f_eql rfl rfl rfl) ?_
          refine EvK.pure (v := .bool (r3.2 == r4.2)) (w_none rfl) rfl rfl (f_pickT rfl rfl c3 rfl) ?_
          refine EvK.pure (v := .bool (r3.2 == r4.2)) (w_none rfl) rfl rfl (f_assign rfl rfl) ?_
          refine EvK.nil ?_
          exact KE.mk (r3.2 == r4.2) ⟨rfl, trivial⟩ hF
        · refine EvK.not (w_not rfl rfl c3) rfl rfl ?_
          refine EvK.not (w_not rfl rfl c3) rfl rfl ?_
          refine EvK.not (w_not rfl rfl c3) rfl rfl ?_
          refine EvK.pure (v := .bool false) (w_none rfl) rfl rfl (f_pickF rfl rfl c3 rfl) ?_
          refine EvK.pure (v := .bool false) (w_none rfl) rfl rfl (f_assign rfl rfl) ?_
          refine EvK.nil ?_
          exact KE.mk false ⟨rfl, trivial⟩ hF
    · refine WP.cond_false _ rfl c2 ?_
      refine WP.seq ?_
      refine WP.region ?_
      refine EvK.pure (v := .bool (x1 == 3)) (w_none rfl) rfl rfl (f_eql rfl rfl rfl) ?_
      refine EvK.pure (v := .bool (x1 == 3)) (w_none rfl) rfl rfl (f_assign rfl rfl) ?_
      refine EvK.nil ?_
      rcases ite_inv hF with ⟨c4, hF⟩ | ⟨c4, hF⟩
      · refine WP.cond_true _ rfl c4 ?_
        refine WP.seq ?_
        refine WP.region ?_
        refine EvK.pure (v := .pointer a0) (w_none rfl) rfl rfl (f_move rfl rfl) ?_
        refine EvK.pure (v := .pointer (some (q1.add 1))) (w_none rfl) rfl rfl (f_fieldAddr fd35_1 rfl rfl) ?_
        obtain ⟨x8, hx8, hF⟩ := hF
        refine EvK.read (v := .int .i64 x8) (w_none rfl) rfl rfl (f_load (kI .i64) ty3 rfl rfl hx8 rfl) ?_
        refine EvK.call (w_none rfl) rfl rfl (enterH Try.func18 rfl rfl rfl rfl (flow_Flow_Take.sound hF)) ?_
        rintro _ h7 ⟨r5, rfl, hF⟩
        refine EvK.pure (v := .tuple #[.int .i64 r5.1, k32.val r5.2.1, .int .i64 r5.2.2]) (w_none rfl) rfl rfl (f_move rfl rfl) ?_
        refine EvK.pure (v := .int .i64 r5.1) (w_none rfl) rfl rfl (f_extract (vs := #[.int .i64 r5.1, k32.val r5.2.1, .int .i64 r5.2.2]) rfl rfl rfl) ?_
        refine EvK.pure (v := k32.val r5.2.1) (w_none rfl) rfl rfl (f_extract (vs := #[.int .i64 r5.1, k32.val r5.2.1, .int .i64 r5.2.2]) rfl rfl rfl) ?_
        refine EvK.pure (v := .int .i64 r5.2.2) (w_none rfl) rfl rfl (f_extract (vs := #[.int .i64 r5.1, k32.val r5.2.1, .int .i64 r5.2.2]) rfl rfl rfl) ?_
        refine EvK.alloc (w_none rfl) rfl rfl (f_allocF zero33 rfl rfl hF) ?_
        rintro _ h8 ⟨q2, rfl, hF⟩
        refine EvK.pure (v := .int .i64 r5.1) (w_none rfl) rfl rfl (f_assign rfl rfl) ?_
        obtain ⟨h9, hs1, hF⟩ := hF
        refine EvK.runN (w_none rfl) rfl (f_store k32 ty33.size (z := r5.2.1) rfl rfl rfl hs1) ?_
        rintro _ _ ⟨rfl, rfl⟩
        refine EvK.pure (v := .int .i64 r5.2.2) (w_none rfl) rfl rfl (f_assign rfl rfl) ?_
        refine EvK.nil ?_
        refine WP.seq ?_
        refine WP.region ?_
        refine EvK.pure (v := .pointer a1) (w_none rfl) rfl rfl (f_move rfl rfl) ?_
        refine EvK.pure (v := .pointer (some (q1.add 1))) (w_none rfl) rfl rfl (f_fieldAddr fd35_1 rfl rfl) ?_
        obtain ⟨x9, hx9, hF⟩ := hF
        refine EvK.read (v := .int .i64 x9) (w_none rfl) rfl rfl (f_load (kI .i64) ty3 rfl rfl hx9 rfl) ?_
        refine EvK.call (w_none rfl) rfl rfl (enterH Try.func26 rfl rfl rfl rfl (spateref15_Flow_Take.sound hF)) ?_
        rintro _ h10 ⟨r6, rfl, hF⟩
        refine EvK.pure (v := .tuple #[.int .i64 r6.1, k32.val r6.2.1, .int .i64 r6.2.2]) (w_none rfl) rfl rfl (f_move rfl rfl) ?_
        refine EvK.pure (v := .int .i64 r6.1) (w_none rfl) rfl rfl (f_extract (vs := #[.int .i64 r6.1, k32.val r6.2.1, .int .i64 r6.2.2]) rfl rfl rfl) ?_
        refine EvK.pure (v := k32.val r6.2.1) (w_none rfl) rfl rfl (f_extract (vs := #[.int .i64 r6.1, k32.val r6.2.1, .int .i64 r6.2.2]) rfl rfl rfl) ?_
        refine EvK.pure (v := .int .i64 r6.2.2) (w_none rfl) rfl rfl (f_extract (vs := #[.int .i64 r6.1, k32.val r6.2.1, .int .i64 r6.2.2]) rfl rfl rfl) ?_
        refine EvK.alloc (w_none rfl) rfl rfl (f_allocF zero33 rfl rfl hF) ?_
        rintro _ h11 ⟨q3, rfl, hF⟩
        refine EvK.pure (v := .int .i64 r6.1) (w_none rfl) rfl rfl (f_assign rfl rfl) ?_
        obtain ⟨h12, hs2, hF⟩ := hF
        refine EvK.runN (w_none rfl) rfl (f_store k32 ty33.size (z := r6.2.1) rfl rfl rfl hs2) ?_
        rintro _ _ ⟨rfl, rfl⟩
        refine EvK.pure (v := .int .i64 r6.2.2) (w_none rfl) rfl rfl (f_assign rfl rfl) ?_
        refine EvK.nil ?_
        refine WP.joinF (fun (s2 : Bool) => [(6, .bool s2)]) hF ?_ ?_
        · intro s2 E0 h13 hF
          refine WP.ret ?_
          exact Ret.mk (vs := [.bool s2]) s2 ⟨rfl, trivial⟩ rfl hF
        · intro k2 hF
          refine WP.region ?_
          refine EvK.pure (v := .int .i64 r5.1) (w_none rfl) rfl rfl (f_move rfl rfl) ?_
          refine EvK.pure (v := .int .i64 r6.1) (w_none rfl) rfl rfl (f_move rfl rfl) ?_
          refine EvK.pure (v := .bool (r5.1 == r6.1)) (w_none rfl) rfl rfl (f_eql rfl rfl rfl) ?_
          refine EvK.pure (v := .bool (r5.1 == r6.1)) (w_none rfl) rfl rfl (f_move rfl rfl) ?_
          rcases ite_inv hF with ⟨c5, hF⟩ | ⟨c5, hF⟩
          · obtain ⟨x10, hx10, hF⟩ := hF
            refine EvK.read (v := k32.val x10) (w_some rfl rfl c5) rfl rfl (f_load k32 ty33 rfl rfl hx10 rfl) ?_
            obtain ⟨x11, hx11, hF⟩ := hF
            refine EvK.read (v := k32.val x11) (w_some rfl rfl c5) rfl rfl (f_load k32 ty33 rfl rfl hx11 rfl) ?_
            refine EvK.pure (v := .bool (eq33 x10 x11)) (w_some rfl rfl c5) rfl rfl (f_eqlOf rfl rfl rfl (guard33 _ _) rfl (eqIn33 _ _)) ?_
            refine EvK.pure (v := .bool (eq33 x10 x11)) (w_none rfl) rfl rfl (f_pickT rfl rfl c5 rfl) ?_
            refine EvK.pure (v := .bool (eq33 x10 x11)) (w_none rfl) rfl rfl (f_move rfl rfl) ?_
            rcases ite_inv hF with ⟨c6, hF⟩ | ⟨c6, hF⟩
            · refine EvK.pure (v := .int .i64 r5.2.2) (w_some rfl rfl c6) rfl rfl (f_move rfl rfl) ?_
              refine EvK.pure (v := .int .i64 r6.2.2) (w_some rfl rfl c6) rfl rfl (f_move rfl rfl) ?_
              refine EvK.pure (v := .bool (r5.2.2 == r6.2.2)) (w_some rfl rfl c6) rfl rfl (f_eql rfl rfl rfl) ?_
              refine EvK.pure (v := .bool (r5.2.2 == r6.2.2)) (w_none rfl) rfl rfl (f_pickT rfl rfl c6 rfl) ?_
              refine EvK.pure (v := .bool (r5.2.2 == r6.2.2)) (w_none rfl) rfl rfl (f_assign rfl rfl) ?_
              refine EvK.nil ?_
              exact KE.mk (r5.2.2 == r6.2.2) ⟨rfl, trivial⟩ hF
            · refine EvK.not (w_not rfl rfl c6) rfl rfl ?_
              refine EvK.not (w_not rfl rfl c6) rfl rfl ?_
              refine EvK.not (w_not rfl rfl c6) rfl rfl ?_
              refine EvK.pure (v := .bool false) (w_none rfl) rfl rfl (f_pickF rfl rfl c6 rfl) ?_
              refine EvK.pure (v := .bool false) (w_none rfl) rfl rfl (f_assign rfl rfl) ?_
              refine EvK.nil ?_
              exact KE.mk false ⟨rfl, trivial⟩ hF
          · refine EvK.not (w_not rfl rfl c5) rfl rfl ?_
            refine EvK.not (w_not rfl rfl c5) rfl rfl ?_
            refine EvK.not (w_not rfl rfl c5) rfl rfl ?_
            refine EvK.pure (v := .bool false) (w_none rfl) rfl rfl (f_pickF rfl rfl c5 rfl) ?_
            refine EvK.pure (v := .bool false) (w_none rfl) rfl rfl (f_move rfl rfl) ?_
            refine EvK.not (w_not rfl rfl rfl) rfl rfl ?_
            refine EvK.not (w_not rfl rfl rfl) rfl rfl ?_
            refine EvK.not (w_not rfl rfl rfl) rfl rfl ?_
            refine EvK.pure (v := .bool false) (w_none rfl) rfl rfl (f_pickF rfl rfl rfl rfl) ?_
            refine EvK.pure (v := .bool false) (w_none rfl) rfl rfl (f_assign rfl rfl) ?_
            refine EvK.nil ?_
            exact KE.mk false ⟨rfl, trivial⟩ hF
      · refine WP.cond_false _ rfl c4 ?_
        refine WP.seq ?_
        refine WP.region ?_
        refine EvK.pure (v := .bool (x1 == 4)) (w_none rfl) rfl rfl (f_eql rfl rfl rfl) ?_
        refine EvK.pure (v := .bool (x1 == 4)) (w_none rfl) rfl rfl (f_assign rfl rfl) ?_
        refine EvK.nil ?_
        rcases ite_inv hF with ⟨c7, hF⟩ | ⟨c7, hF⟩
        · refine WP.cond_true _ rfl c7 ?_
          refine WP.seq ?_
          refine WP.region ?_
          refine EvK.pure (v := .pointer a0) (w_none rfl) rfl rfl (f_move rfl rfl) ?_
          refine EvK.pure (v := .pointer (some (q1.add 1))) (w_none rfl) rfl rfl (f_fieldAddr fd35_1 rfl rfl) ?_
          obtain ⟨x12, hx12, hF⟩ := hF
          refine EvK.read (v := .int .i64 x12) (w_none rfl) rfl rfl (f_load (kI .i64) ty3 rfl rfl hx12 rfl) ?_
          refine EvK.call (w_none rfl) rfl rfl (enterH Try.func22 rfl rfl rfl rfl (flow_Flow_Toward.sound hF)) ?_
          rintro _ h14 ⟨r7, rfl, hF⟩
          refine EvK.pure (v := .tuple #[.int .i64 r7.1, .int .i64 r7.2]) (w_none rfl) rfl rfl (f_move rfl rfl) ?_
          refine EvK.pure (v := .int .i64 r7.1) (w_none rfl) rfl rfl (f_extract (vs := #[.int .i64 r7.1, .int .i64 r7.2]) rfl rfl rfl) ?_
          refine EvK.pure (v := .int .i64 r7.2) (w_none rfl) rfl rfl (f_extract (vs := #[.int .i64 r7.1, .int .i64 r7.2]) rfl rfl rfl) ?_
          refine EvK.pure (v := .int .i64 r7.1) (w_none rfl) rfl rfl (f_assign rfl rfl) ?_
          refine EvK.pure (v := .int .i64 r7.2) (w_none rfl) rfl rfl (f_assign rfl rfl) ?_
          refine EvK.nil ?_
          refine WP.seq ?_
          refine WP.region ?_
          refine EvK.pure (v := .pointer a1) (w_none rfl) rfl rfl (f_move rfl rfl) ?_
          refine EvK.pure (v := .pointer (some (q1.add 1))) (w_none rfl) rfl rfl (f_fieldAddr fd35_1 rfl rfl) ?_
          obtain ⟨x13, hx13, hF⟩ := hF
          refine EvK.read (v := .int .i64 x13) (w_none rfl) rfl rfl (f_load (kI .i64) ty3 rfl rfl hx13 rfl) ?_
          refine EvK.call (w_none rfl) rfl rfl (enterH Try.func27 rfl rfl rfl rfl (spateref15_Flow_Toward.sound hF)) ?_
          rintro _ h15 ⟨r8, rfl, hF⟩
          refine EvK.pure (v := .tuple #[.int .i64 r8.1, .int .i64 r8.2]) (w_none rfl) rfl rfl (f_move rfl rfl) ?_
          refine EvK.pure (v := .int .i64 r8.1) (w_none rfl) rfl rfl (f_extract (vs := #[.int .i64 r8.1, .int .i64 r8.2]) rfl rfl rfl) ?_
          refine EvK.pure (v := .int .i64 r8.2) (w_none rfl) rfl rfl (f_extract (vs := #[.int .i64 r8.1, .int .i64 r8.2]) rfl rfl rfl) ?_
          refine EvK.pure (v := .int .i64 r8.1) (w_none rfl) rfl rfl (f_assign rfl rfl) ?_
          refine EvK.pure (v := .int .i64 r8.2) (w_none rfl) rfl rfl (f_assign rfl rfl) ?_
          refine EvK.nil ?_
          refine WP.joinF (fun (s3 : Bool) => [(6, .bool s3)]) hF ?_ ?_
          · intro s3 E0 h16 hF
            refine WP.ret ?_
            exact Ret.mk (vs := [.bool s3]) s3 ⟨rfl, trivial⟩ rfl hF
          · intro k3 hF
            refine WP.region ?_
            refine EvK.pure (v := .int .i64 r7.1) (w_none rfl) rfl rfl (f_move rfl rfl) ?_
            refine EvK.pure (v := .int .i64 r8.1) (w_none rfl) rfl rfl (f_move rfl rfl) ?_
            refine EvK.pure (v := .bool (r7.1 == r8.1)) (w_none rfl) rfl rfl (f_eql rfl rfl rfl) ?_
            refine EvK.pure (v := .bool (r7.1 == r8.1)) (w_none rfl) rfl rfl (f_move rfl rfl) ?_
            rcases ite_inv hF with ⟨c8, hF⟩ | ⟨c8, hF⟩
            · refine EvK.pure (v := .int .i64 r7.2) (w_some rfl rfl c8) rfl rfl (f_move rfl rfl) ?_
              refine EvK.pure (v := .int .i64 r8.2) (w_some rfl rfl c8) rfl rfl (f_move rfl rfl) ?_
              refine EvK.pure (v := .bool (r7.2 == r8.2)) (w_some rfl rfl c8) rfl rfl (f_eql rfl rfl rfl) ?_
              refine EvK.pure (v := .bool (r7.2 == r8.2)) (w_none rfl) rfl rfl (f_pickT rfl rfl c8 rfl) ?_
              refine EvK.pure (v := .bool (r7.2 == r8.2)) (w_none rfl) rfl rfl (f_assign rfl rfl) ?_
              refine EvK.nil ?_
              exact KE.mk (r7.2 == r8.2) ⟨rfl, trivial⟩ hF
            · refine EvK.not (w_not rfl rfl c8) rfl rfl ?_
              refine EvK.not (w_not rfl rfl c8) rfl rfl ?_
              refine EvK.not (w_not rfl rfl c8) rfl rfl ?_
              refine EvK.pure (v := .bool false) (w_none rfl) rfl rfl (f_pickF rfl rfl c8 rfl) ?_
              refine EvK.pure (v := .bool false) (w_none rfl) rfl rfl (f_assign rfl rfl) ?_
              refine EvK.nil ?_
              exact KE.mk false ⟨rfl, trivial⟩ hF
        · refine WP.cond_false _ rfl c7 ?_
          refine WP.skip ?_
          refine WP.seq ?_
          refine WP.region ?_
          refine EvK.pure (v := .bool true) (w_none rfl) rfl rfl (f_assign rfl rfl) ?_
          refine EvK.nil ?_
          refine WP.ret ?_
          exact Ret.mk (vs := [.bool true]) true ⟨rfl, trivial⟩ rfl hF
end Go.Proofs.Ytanpaamamfabkaa

namespace Go.Proofs.Ytanpaamamfabkaa
open Go Go.Tr
set_option linter.unusedVariables false
set_option maxRecDepth 100000
set_option maxHeartbeats 400000
/-- (*spate/spateref15.Flow).Queued -/
def spateref15_Flow_Queued (a0 : Option Addr) (a1 : Int) (h : H) (Q : Int → H → Prop) : Prop :=
  jn (fun (k1 : Bool → H → Prop) =>
    if (decide (a1 < 0)) = true then
      k1 true h
    else
      rd a0 fun q3 =>
      rd (ld kL (q3.add 1) h) fun x3 =>
      k1 (decide (a1 ≥ (x3.len : Int))) h) fun s1 h1 =>
  if s1 = true then
    Q 0 h1
  else
    rd a0 fun q1 =>
    rd (ld kL (q1.add 1) h1) fun x1 =>
    rd (ixA 1 x1 a1) fun q2 =>
    rd (ld kL q2 h1) fun x2 =>
    Q (x2.len : Int) h1
theorem spateref15_Flow_Queued.sound {a0 : Option Addr} {a1 : Int} {h : H} {Q : Int → H → Prop} (hF : spateref15_Flow_Queued a0 a1 h Q) :
    CallsH Try.prog 28 (List.toArray (α := Value) [.pointer a0, .int .i64 a1]) h fun v h' => ∃ x : Int, v = .int .i64 x ∧ Q x h' := by
  refine CallsH.of_body Try.func28 rfl 24 rfl rfl ?_
  refine WP.seq ?_
  refine WP.region ?_
  refine EvK.pure (v := .int .i64 0) (w_none rfl) rfl rfl (f_assign rfl rfl) ?_
  refine EvK.nil ?_
  refine WP.seq ?_
  refine WP.joinF (fun (s1 : Bool) => [(15, .bool s1), (0, .pointer a0), (1, .int .i64 a1)]) hF ?_ ?_
  · intro s1 E0 h1 hF
    rcases ite_inv hF with ⟨c1, hF⟩ | ⟨c1, hF⟩
    · refine WP.cond_true _ rfl c1 ?_
      refine WP.seq ?_
      refine WP.region ?_
      refine EvK.pure (v := .int .i64 0) (w_none rfl) rfl rfl (f_assign rfl rfl) ?_
      refine EvK.nil ?_
      refine WP.ret ?_
      exact Ret.mk (vs := [.int .i64 0]) 0 ⟨rfl, trivial⟩ rfl hF
    · refine WP.cond_false _ rfl c1 ?_
      refine WP.skip ?_
      refine WP.seq ?_
      refine WP.region ?_
      refine EvK.pure (v := .pointer a0) (w_none rfl) rfl rfl (f_move rfl rfl) ?_
      obtain ⟨q1, hq1, hF⟩ := hF
      refine EvK.pure (v := .pointer (some q1)) (w_none rfl) rfl rfl (f_nilCheck rfl (congrArg Value.pointer hq1)) ?_
      refine EvK.pure (v := .pointer (some (q1.add 1))) (w_none rfl) rfl rfl (f_fieldAddr fd66_1 rfl rfl) ?_
      obtain ⟨x1, hx1, hF⟩ := hF
      refine EvK.read (v := Sl.val x1) (w_none rfl) rfl rfl (f_load kL ty42 rfl rfl hx1 rfl) ?_
      refine EvK.pure (v := .int .i64 a1) (w_none rfl) rfl rfl (f_move rfl rfl) ?_
      obtain ⟨q2, hq2, hF⟩ := hF
      refine EvK.pure (v := .pointer (some q2)) (w_none rfl) rfl rfl (f_indexAddr (s := x1) Try.underlying42 ty45.size rfl rfl rfl hq2) ?_
      obtain ⟨x2, hx2, hF⟩ := hF
      refine EvK.read (v := Sl.val x2) (w_none rfl) rfl rfl (f_load kL ty45 rfl rfl hx2 rfl) ?_
      refine EvK.pure (v := .int .i64 (x2.len : Int)) (w_none rfl) rfl rfl (f_lenL (s := x2) Try.underlying45 rfl rfl) ?_
      refine EvK.pure (v := .int .i64 (x2.len : Int)) (w_none rfl) rfl rfl (f_assign rfl rfl) ?_
      refine EvK.nil ?_
      refine WP.ret ?_
      exact Ret.mk (vs := [.int .i64 (x2.len : Int)]) (x2.len : Int) ⟨rfl, trivial⟩ rfl hF
  · intro k1 hF
    refine WP.region ?_
    refine EvK.pure (v := .int .i64 a1) (w_none rfl) rfl rfl (f_move rfl rfl) ?_
    refine EvK.pure (v := .bool (decide (a1 < 0))) (w_none rfl) rfl rfl (f_lss rfl rfl rfl) ?_
    refine EvK.pure (v := .bool (decide (a1 < 0))) (w_none rfl) rfl rfl (f_move rfl rfl) ?_
    rcases ite_inv hF with ⟨c2, hF⟩ | ⟨c2, hF⟩
    · refine EvK.not (w_not rfl rfl c2) rfl rfl ?_
      refine EvK.not (w_not rfl rfl c2) rfl rfl ?_
      refine EvK.not (w_not rfl rfl c2) rfl rfl ?_
      refine EvK.not (w_not rfl rfl c2) rfl rfl ?_
      refine EvK.not (w_not rfl rfl c2) rfl rfl ?_
      refine EvK.not (w_not rfl rfl c2) rfl rfl ?_
      refine EvK.not (w_not rfl rfl c2) rfl rfl ?_
      refine EvK.pure (v := .bool true) (w_none rfl) rfl rfl (f_pickT rfl rfl c2 rfl) ?_
      refine EvK.nil ?_
      exact KE.mk true ⟨rfl, rfl, rfl, trivial⟩ hF
    · refine EvK.pure (v := .int .i64 a1) (w_some rfl rfl c2) rfl rfl (f_move rfl rfl) ?_
      refine EvK.pure (v := .pointer a0) (w_some rfl rfl c2) rfl rfl (f_move rfl rfl) ?_
      obtain ⟨q3, hq3, hF⟩ := hF
      refine EvK.pure (v := .pointer (some q3)) (w_some rfl rfl c2) rfl rfl (f_nilCheck rfl (congrArg Value.pointer hq3)) ?_
      refine EvK.pure (v := .pointer (some (q3.add 1))) (w_some rfl rfl c2) rfl rfl (f_fieldAddr fd66_1 rfl rfl) ?_
      obtain ⟨x3, hx3, hF⟩ := hF
      refine EvK.read (v := Sl.val x3) (w_some rfl rfl c2) rfl rfl (f_load kL ty42 rfl rfl hx3 rfl) ?_
      refine EvK.pure (v := .int .i64 (x3.len : Int)) (w_some rfl rfl c2) rfl rfl (f_lenL (s := x3) Try.underlying42 rfl rfl) ?_
      refine EvK.pure (v := .bool (decide (a1 ≥ (x3.len : Int)))) (w_some rfl rfl c2) rfl rfl (f_geq rfl rfl rfl) ?_
      refine EvK.pure (v := .bool (decide (a1 ≥ (x3.len : Int)))) (w_none rfl) rfl rfl (f_pickF rfl rfl c2 rfl) ?_
      refine EvK.nil ?_
      exact KE.mk (decide (a1 ≥ (x3.len : Int))) ⟨rfl, rfl, rfl, trivial⟩ hF
end Go.Proofs.Ytanpaamamfabkaa

namespace Go.Proofs.Ytanpaamamfabkaa
open Go Go.Tr
set_option linter.unusedVariables false
set_option maxRecDepth 100000
set_option maxHeartbeats 400000
/-- (*spate/spateref15.Flow).Boxed -/
def spateref15_Flow_Boxed (a0 : Option Addr) (a1 : Int) (h : H) (Q : Int → H → Prop) : Prop :=
  jn (fun (k1 : Bool → H → Prop) =>
    if (decide (a1 < 0)) = true then
      k1 true h
    else
      rd a0 fun q3 =>
      rd (ld kL (q3.add 2) h) fun x3 =>
      k1 (decide (a1 ≥ (x3.len : Int))) h) fun s1 h1 =>
  if s1 = true then
    Q 0 h1
  else
    rd a0 fun q1 =>
    rd (ld kL (q1.add 2) h1) fun x1 =>
    rd (ixA 1 x1 a1) fun q2 =>
    rd (ld kL q2 h1) fun x2 =>
    Q (x2.len : Int) h1
theorem spateref15_Flow_Boxed.sound {a0 : Option Addr} {a1 : Int} {h : H} {Q : Int → H → Prop} (hF : spateref15_Flow_Boxed a0 a1 h Q) :
    CallsH Try.prog 29 (List.toArray (α := Value) [.pointer a0, .int .i64 a1]) h fun v h' => ∃ x : Int, v = .int .i64 x ∧ Q x h' := by
  refine CallsH.of_body Try.func29 rfl 24 rfl rfl ?_
  refine WP.seq ?_
  refine WP.region ?_
  refine EvK.pure (v := .int .i64 0) (w_none rfl) rfl rfl (f_assign rfl rfl) ?_
  refine EvK.nil ?_
  refine WP.seq ?_
  refine WP.joinF (fun (s1 : Bool) => [(15, .bool s1), (0, .pointer a0), (1, .int .i64 a1)]) hF ?_ ?_
  · intro s1 E0 h1 hF
    rcases ite_inv hF with ⟨c1, hF⟩ | ⟨c1, hF⟩
    · refine WP.cond_true _ rfl c1 ?_
      refine WP.seq ?_
      refine WP.region ?_
      refine EvK.pure (v := .int .i64 0) (w_none rfl) rfl rfl (f_assign rfl rfl) ?_
      refine EvK.nil ?_
      refine WP.ret ?_
      exact Ret.mk (vs := [.int .i64 0]) 0 ⟨rfl, trivial⟩ rfl hF
    · refine WP.cond_false _ rfl c1 ?_
      refine WP.skip ?_
      refine WP.seq ?_
      refine WP.region ?_
      refine EvK.pure (v := .pointer a0) (w_none rfl) rfl rfl (f_move rfl rfl) ?_
      obtain ⟨q1, hq1, hF⟩ := hF
      refine EvK.pure (v := .pointer (some q1)) (w_none rfl) rfl rfl (f_nilCheck rfl (congrArg Value.pointer hq1)) ?_
      refine EvK.pure (v := .pointer (some (q1.add 2))) (w_none rfl) rfl rfl (f_fieldAddr fd66_2 rfl rfl) ?_
      obtain ⟨x1, hx1, hF⟩ := hF
      refine EvK.read (v := Sl.val x1) (w_none rfl) rfl rfl (f_load kL ty63 rfl rfl hx1 rfl) ?_
      refine EvK.pure (v := .int .i64 a1) (w_none rfl) rfl rfl (f_move rfl rfl) ?_
      obtain ⟨q2, hq2, hF⟩ := hF
      refine EvK.pure (v := .pointer (some q2)) (w_none rfl) rfl rfl (f_indexAddr (s := x1) Try.underlying63 ty86.size rfl rfl rfl hq2) ?_
      obtain ⟨x2, hx2, hF⟩ := hF
      refine EvK.read (v := Sl.val x2) (w_none rfl) rfl rfl (f_load kL ty86 rfl rfl hx2 rfl) ?_
      refine EvK.pure (v := .int .i64 (x2.len : Int)) (w_none rfl) rfl rfl (f_lenL (s := x2) Try.underlying86 rfl rfl) ?_
      refine EvK.pure (v := .int .i64 (x2.len : Int)) (w_none rfl) rfl rfl (f_assign rfl rfl) ?_
      refine EvK.nil ?_
      refine WP.ret ?_
      exact Ret.mk (vs := [.int .i64 (x2.len : Int)]) (x2.len : Int) ⟨rfl, trivial⟩ rfl hF
  · intro k1 hF
    refine WP.region ?_
    refine EvK.pure (v := .int .i64 a1) (w_none rfl) rfl rfl (f_move rfl rfl) ?_
    refine EvK.pure (v := .bool (decide (a1 < 0))) (w_none rfl) rfl rfl (f_lss rfl rfl rfl) ?_
    refine EvK.pure (v := .bool (decide (a1 < 0))) (w_none rfl) rfl rfl (f_move rfl rfl) ?_
    rcases ite_inv hF with ⟨c2, hF⟩ | ⟨c2, hF⟩
    · refine EvK.not (w_not rfl rfl c2) rfl rfl ?_
      refine EvK.not (w_not rfl rfl c2) rfl rfl ?_
      refine EvK.not (w_not rfl rfl c2) rfl rfl ?_
      refine EvK.not (w_not rfl rfl c2) rfl rfl ?_
      refine EvK.not (w_not rfl rfl c2) rfl rfl ?_
      refine EvK.not (w_not rfl rfl c2) rfl rfl ?_
      refine EvK.not (w_not rfl rfl c2) rfl rfl ?_
      refine EvK.pure (v := .bool true) (w_none rfl) rfl rfl (f_pickT rfl rfl c2 rfl) ?_
      refine EvK.nil ?_
      exact KE.mk true ⟨rfl, rfl, rfl, trivial⟩ hF
    · refine EvK.pure (v := .int .i64 a1) (w_some rfl rfl c2) rfl rfl (f_move rfl rfl) ?_
      refine EvK.pure (v := .pointer a0) (w_some rfl rfl c2) rfl rfl (f_move rfl rfl) ?_
      obtain ⟨q3, hq3, hF⟩ := hF
      refine EvK.pure (v := .pointer (some q3)) (w_some rfl rfl c2) rfl rfl (f_nilCheck rfl (congrArg Value.pointer hq3)) ?_
      refine EvK.pure (v := .pointer (some (q3.add 2))) (w_some rfl rfl c2) rfl rfl (f_fieldAddr fd66_2 rfl rfl) ?_
      obtain ⟨x3, hx3, hF⟩ := hF
      refine EvK.read (v := Sl.val x3) (w_some rfl rfl c2) rfl rfl (f_load kL ty63 rfl rfl hx3 rfl) ?_
      refine EvK.pure (v := .int .i64 (x3.len : Int)) (w_some rfl rfl c2) rfl rfl (f_lenL (s := x3) Try.underlying63 rfl rfl) ?_
      refine EvK.pure (v := .bool (decide (a1 ≥ (x3.len : Int)))) (w_some rfl rfl c2) rfl rfl (f_geq rfl rfl rfl) ?_
      refine EvK.pure (v := .bool (decide (a1 ≥ (x3.len : Int)))) (w_none rfl) rfl rfl (f_pickF rfl rfl c2 rfl) ?_
      refine EvK.nil ?_
      exact KE.mk (decide (a1 ≥ (x3.len : Int))) ⟨rfl, rfl, rfl, trivial⟩ hF
end Go.Proofs.Ytanpaamamfabkaa

namespace Go.Proofs.Ytanpaamamfabkaa
open Go Go.Tr
set_option linter.unusedVariables false
set_option maxRecDepth 100000
set_option maxHeartbeats 400000
def spateref15_Flow_Empty.b1 (p0 : Option Addr) (s : Int) (h : H) (K : Int ⊕ (Unit ⊕ Bool) → H → Prop) : Prop :=
  rd p0 fun q1 =>
  rd (ld kL (q1.add 2) h) fun x1 =>
  if (decide (s < (x1.len : Int))) = true then
    rd p0 fun q2 =>
    rd (ld kL (q2.add 2) h) fun x2 =>
    rd (ixA 1 x2 s) fun q3 =>
    rd (ld kL q3 h) fun x3 =>
    if (decide ((x3.len : Int) > 0)) = true then
      K (.inr (.inr false)) h
    else
      K (.inl (IntKind.i64.wrap (s + 1))) h
  else
    K (.inr (.inl ())) h
def spateref15_Flow_Empty.b2 (p0 : Option Addr) (s : Int) (h : H) (K : Int ⊕ (Unit ⊕ Bool) → H → Prop) : Prop :=
  rd p0 fun q4 =>
  rd (ld kL (q4.add 1) h) fun x4 =>
  if (decide (s < (x4.len : Int))) = true then
    rd p0 fun q5 =>
    rd (ld kL (q5.add 1) h) fun x5 =>
    rd (ixA 1 x5 s) fun q6 =>
    rd (ld kL q6 h) fun x6 =>
    if (decide ((x6.len : Int) > 0)) = true then
      K (.inr (.inr false)) h
    else
      K (.inl (IntKind.i64.wrap (s + 1))) h
  else
    K (.inr (.inl ())) h
/-- (*spate/spateref15.Flow).Empty -/
def spateref15_Flow_Empty (a0 : Option Addr) (h : H) (Q : Bool → H → Prop) : Prop :=
  jn (fun (k1 : Unit → H → Prop) =>
    loopE (spateref15_Flow_Empty.b2 a0) 0 h (sumK (fun r3 hh => k1 r3 hh) (fun r4 hh => Q r4 hh))) fun s1 h1 =>
  jn (fun (k2 : Unit → H → Prop) =>
    loopE (spateref15_Flow_Empty.b1 a0) 0 h1 (sumK (fun r1 hh => k2 r1 hh) (fun r2 hh => Q r2 hh))) fun s2 h2 =>
  Q true h2
theorem spateref15_Flow_Empty.sound {a0 : Option Addr} {h : H} {Q : Bool → H → Prop} (hF : spateref15_Flow_Empty a0 h Q) :
    CallsH Try.prog 30 (List.toArray (α := Value) [.pointer a0]) h fun v h' => ∃ x : Bool, v = .bool x ∧ Q x h' := by
  refine CallsH.of_body Try.func30 rfl 41 rfl rfl ?_
  refine WP.seq ?_
  refine WP.region ?_
  refine EvK.pure (v := .bool false) (w_none rfl) rfl rfl (f_assign rfl rfl) ?_
  refine EvK.nil ?_
  refine WP.joinF (fun (s1 : Unit) => [(0, .pointer a0)]) hF ?_ ?_
  · intro s1 E0 h1 hF
    refine WP.joinF (fun (s2 : Unit) => []) hF ?_ ?_
    · intro s2 E0 h2 hF
      refine WP.seq ?_
      refine WP.region ?_
      refine EvK.pure (v := .bool true) (w_none rfl) rfl rfl (f_assign rfl rfl) ?_
      refine EvK.nil ?_
      refine WP.ret ?_
      exact Ret.mk (vs := [.bool true]) true ⟨rfl, trivial⟩ rfl hF
    · intro k2 hF
      refine WP.seq ?_
      refine WP.region ?_
      refine EvK.pure (v := .int .i64 0) (w_none rfl) rfl rfl (f_assign rfl rfl) ?_
      refine EvK.nil ?_
      refine WP.block ?_
      refine WP.loopF (fun (s3 : Int) => [(4, .int .i64 s3), (0, .pointer a0)]) hF ⟨rfl, rfl, trivial⟩ ?_
      intro k3 s3 E0 h3 hF
      refine WP.seq ?_
      refine WP.seq ?_
      refine WP.region ?_
      refine EvK.pure (v := .int .i64 s3) (w_none rfl) rfl rfl (f_move rfl rfl) ?_
      refine EvK.pure (v := .pointer a0) (w_none rfl) rfl rfl (f_move rfl rfl) ?_
      obtain ⟨q1, hq1, hF⟩ := hF
      refine EvK.pure (v := .pointer (some q1)) (w_none rfl) rfl rfl (f_nilCheck rfl (congrArg Value.pointer hq1)) ?_
      refine EvK.pure (v := .pointer (some (q1.add 2))) (w_none rfl) rfl rfl (f_fieldAddr fd66_2 rfl rfl) ?_
      obtain ⟨x1, hx1, hF⟩ := hF
      refine EvK.read (v := Sl.val x1) (w_none rfl) rfl rfl (f_load kL ty63 rfl rfl hx1 rfl) ?_
      refine EvK.pure (v := .int .i64 (x1.len : Int)) (w_none rfl) rfl rfl (f_lenL (s := x1) Try.underlying63 rfl rfl) ?_
      refine EvK.pure (v := .bool (decide (s3 < (x1.len : Int)))) (w_none rfl) rfl rfl (f_lss rfl rfl rfl) ?_
      refine EvK.nil ?_
      rcases ite_inv hF with ⟨c1, hF⟩ | ⟨c1, hF⟩
      · refine WP.cond_true _ rfl c1 ?_
        refine WP.skip ?_
        refine WP.seq ?_
        refine WP.block ?_
        refine WP.seq ?_
        refine WP.region ?_
        refine EvK.pure (v := .pointer a0) (w_none rfl) rfl rfl (f_move rfl rfl) ?_
        obtain ⟨q2, hq2, hF⟩ := hF
        refine EvK.pure (v := .pointer (some q2)) (w_none rfl) rfl rfl (f_nilCheck rfl (congrArg Value.pointer hq2)) ?_
        refine EvK.pure (v := .pointer (some (q2.add 2))) (w_none rfl) rfl rfl (f_fieldAddr fd66_2 rfl rfl) ?_
        obtain ⟨x2, hx2, hF⟩ := hF
        refine EvK.read (v := Sl.val x2) (w_none rfl) rfl rfl (f_load kL ty63 rfl rfl hx2 rfl) ?_
        refine EvK.pure (v := .int .i64 s3) (w_none rfl) rfl rfl (f_move rfl rfl) ?_
        obtain ⟨q3, hq3, hF⟩ := hF
        refine EvK.pure (v := .pointer (some q3)) (w_none rfl) rfl rfl (f_indexAddr (s := x2) Try.underlying63 ty86.size rfl rfl rfl hq3) ?_
        obtain ⟨x3, hx3, hF⟩ := hF
        refine EvK.read (v := Sl.val x3) (w_none rfl) rfl rfl (f_load kL ty86 rfl rfl hx3 rfl) ?_
        refine EvK.pure (v := .int .i64 (x3.len : Int)) (w_none rfl) rfl rfl (f_lenL (s := x3) Try.underlying86 rfl rfl) ?_
        refine EvK.pure (v := .bool (decide ((x3.len : Int) > 0))) (w_none rfl) rfl rfl (f_gtr rfl rfl rfl) ?_
        refine EvK.nil ?_
        rcases ite_inv hF with ⟨c2, hF⟩ | ⟨c2, hF⟩
        · refine WP.cond_true _ rfl c2 ?_
          refine WP.seq ?_
          refine WP.region ?_
          refine EvK.pure (v := .bool false) (w_none rfl) rfl rfl (f_assign rfl rfl) ?_
          refine EvK.nil ?_
          refine WP.ret ?_
          exact Ret.mk (vs := [.bool false]) false ⟨rfl, trivial⟩ rfl hF
        · refine WP.cond_false _ rfl c2 ?_
          refine WP.skip ?_
          refine WP.region ?_
          refine EvK.pure (v := .int .i64 s3) (w_none rfl) rfl rfl (f_move rfl rfl) ?_
          refine EvK.pure (v := .int .i64 (IntKind.i64.wrap (s3 + 1))) (w_none rfl) rfl rfl (f_add rfl rfl rfl) ?_
          refine EvK.pure (v := .int .i64 (IntKind.i64.wrap (s3 + 1))) (w_none rfl) rfl rfl (f_assign rfl rfl) ?_
          refine EvK.nil ?_
          exact KE.mk (IntKind.i64.wrap (s3 + 1)) ⟨rfl, rfl, trivial⟩ hF
      · refine WP.cond_false _ rfl c1 ?_
        refine WP.exit ?_
        exact KE.mk () trivial hF
  · intro k1 hF
    refine WP.seq ?_
    refine WP.region ?_
    refine EvK.pure (v := .int .i64 0) (w_none rfl) rfl rfl (f_assign rfl rfl) ?_
    refine EvK.nil ?_
    refine WP.block ?_
    refine WP.loopF (fun (s4 : Int) => [(3, .int .i64 s4), (0, .pointer a0)]) hF ⟨rfl, rfl, trivial⟩ ?_
    intro k4 s4 E0 h4 hF
    refine WP.seq ?_
    refine WP.seq ?_
    refine WP.region ?_
    refine EvK.pure (v := .int .i64 s4) (w_none rfl) rfl rfl (f_move rfl rfl) ?_
    refine EvK.pure (v := .pointer a0) (w_none rfl) rfl rfl (f_move rfl rfl) ?_
    obtain ⟨q4, hq4, hF⟩ := hF
    refine EvK.pure (v := .pointer (some q4)) (w_none rfl) rfl rfl (f_nilCheck rfl (congrArg Value.pointer hq4)) ?_
    refine EvK.pure (v := .pointer (some (q4.add 1))) (w_none rfl) rfl rfl (f_fieldAddr fd66_1 rfl rfl) ?_
    obtain ⟨x4, hx4, hF⟩ := hF
    refine EvK.read (v := Sl.val x4) (w_none rfl) rfl rfl (f_load kL ty42 rfl rfl hx4 rfl) ?_
    refine EvK.pure (v := .int .i64 (x4.len : Int)) (w_none rfl) rfl rfl (f_lenL (s := x4) Try.underlying42 rfl rfl) ?_
    refine EvK.pure (v := .bool (decide (s4 < (x4.len : Int)))) (w_none rfl) rfl rfl (f_lss rfl rfl rfl) ?_
    refine EvK.nil ?_
    rcases ite_inv hF with ⟨c3, hF⟩ | ⟨c3, hF⟩
    · refine WP.cond_true _ rfl c3 ?_
      refine WP.skip ?_
      refine WP.seq ?_
      refine WP.block ?_
      refine WP.seq ?_
      refine WP.region ?_
      refine EvK.pure (v := .pointer a0) (w_none rfl) rfl rfl (f_move rfl rfl) ?_
      obtain ⟨q5, hq5, hF⟩ := hF
      refine EvK.pure (v := .pointer (some q5)) (w_none rfl) rfl rfl (f_nilCheck rfl (congrArg Value.pointer hq5)) ?_
      refine EvK.pure (v := .pointer (some (q5.add 1))) (w_none rfl) rfl rfl (f_fieldAddr fd66_1 rfl rfl) ?_
      obtain ⟨x5, hx5, hF⟩ := hF
      refine EvK.read (v := Sl.val x5) (w_none rfl) rfl rfl (f_load kL ty42 rfl rfl hx5 rfl) ?_
      refine EvK.pure (v := .int .i64 s4) (w_none rfl) rfl rfl (f_move rfl rfl) ?_
      obtain ⟨q6, hq6, hF⟩ := hF
      refine EvK.pure (v := .pointer (some q6)) (w_none rfl) rfl rfl (f_indexAddr (s := x5) Try.underlying42 ty45.size rfl rfl rfl hq6) ?_
      obtain ⟨x6, hx6, hF⟩ := hF
      refine EvK.read (v := Sl.val x6) (w_none rfl) rfl rfl (f_load kL ty45 rfl rfl hx6 rfl) ?_
      refine EvK.pure (v := .int .i64 (x6.len : Int)) (w_none rfl) rfl rfl (f_lenL (s := x6) Try.underlying45 rfl rfl) ?_
      refine EvK.pure (v := .bool (decide ((x6.len : Int) > 0))) (w_none rfl) rfl rfl (f_gtr rfl rfl rfl) ?_
      refine EvK.nil ?_
      rcases ite_inv hF with ⟨c4, hF⟩ | ⟨c4, hF⟩
      · refine WP.cond_true _ rfl c4 ?_
        refine WP.seq ?_
        refine WP.region ?_
        refine EvK.pure (v := .bool false) (w_none rfl) rfl rfl (f_assign rfl rfl) ?_
        refine EvK.nil ?_
        refine WP.ret ?_
        exact Ret.mk (vs := [.bool false]) false ⟨rfl, trivial⟩ rfl hF
      · refine WP.cond_false _ rfl c4 ?_
        refine WP.skip ?_
        refine WP.region ?_
        refine EvK.pure (v := .int .i64 s4) (w_none rfl) rfl rfl (f_move rfl rfl) ?_
        refine EvK.pure (v := .int .i64 (IntKind.i64.wrap (s4 + 1))) (w_none rfl) rfl rfl (f_add rfl rfl rfl) ?_
        refine EvK.pure (v := .int .i64 (IntKind.i64.wrap (s4 + 1))) (w_none rfl) rfl rfl (f_assign rfl rfl) ?_
        refine EvK.nil ?_
        exact KE.mk (IntKind.i64.wrap (s4 + 1)) ⟨rfl, rfl, trivial⟩ hF
    · refine WP.cond_false _ rfl c3 ?_
      refine WP.exit ?_
      exact KE.mk () ⟨rfl, trivial⟩ hF
end Go.Proofs.Ytanpaamamfabkaa
