/- Functions as predicates over the heap, and that the code comes to them. Printed by gen.py, merged by group.py. -/
import Derived.Test.YtgmihbchcmjmdaaHand
import Derived.Test.YtgmihbchcmjmdaaTy
namespace Go.Proofs.Ytgmihbchcmjmdaa
open Go Go.Tr
set_option linter.unusedVariables false
set_option maxRecDepth 100000
set_option maxHeartbeats 400000
/-- spate/locks.New -/
def locks_New (a0 : Int) (h : H) (Q : ((Option Addr) × Int) → H → Prop) : Prop :=
  jn (fun (k1 : Bool → H → Prop) =>
    if (decide (a0 < 1)) = true then
      k1 true h
    else
      k1 (decide (a0 > 1024)) h) fun s1 h1 =>
  if s1 = true then
    Q (none, 1) h1
  else
    al 77 (k76.enc (S76.mk a0 Sl.nil Sl.nil)) h1 fun q1 h2 =>
    Q ((some q1), 0) h2
theorem locks_New.sound {a0 : Int} {h : H} {Q : ((Option Addr) × Int) → H → Prop} (hF : locks_New a0 h Q) :
    CallsH Try.prog 12 (List.toArray (α := Value) [.int .i64 a0]) h fun v h' => ∃ x : (Option Addr) × Int, v = .tuple #[.pointer x.1, .int .i64 x.2] ∧ Q x h' := by
  refine CallsH.of_body Try.func12 rfl 13 rfl rfl ?_
  refine WP.seq ?_
  refine WP.region ?_
  refine EvK.pure (v := .pointer none) (w_none rfl) rfl rfl (f_assign rfl rfl) ?_
  refine EvK.pure (v := .int .i64 0) (w_none rfl) rfl rfl (f_assign rfl rfl) ?_
  refine EvK.nil ?_
  refine WP.seq ?_
  refine WP.joinF (fun (s1 : Bool) => [(9, .bool s1), (0, .int .i64 a0)]) hF ?_ ?_
  · intro s1 E0 h1 hF
    rcases ite_inv hF with ⟨c1, hF⟩ | ⟨c1, hF⟩
    · refine WP.cond_true _ rfl c1 ?_
      refine WP.seq ?_
      refine WP.region ?_
      refine EvK.pure (v := .pointer none) (w_none rfl) rfl rfl (f_assign rfl rfl) ?_
      refine EvK.pure (v := .int .i64 1) (w_none rfl) rfl rfl (f_assign rfl rfl) ?_
      refine EvK.nil ?_
      refine WP.ret ?_
      exact Ret.mk (vs := [.pointer none, .int .i64 1]) (none, 1) ⟨rfl, rfl, trivial⟩ rfl hF
    · refine WP.cond_false _ rfl c1 ?_
      refine WP.skip ?_
      refine WP.seq ?_
      refine WP.region ?_
      refine EvK.pure (v := .int .i64 a0) (w_none rfl) rfl rfl (f_move rfl rfl) ?_
      refine EvK.pure (v := k76.val (S76.mk a0 Sl.nil Sl.nil)) (w_none rfl) rfl rfl (f_build (cells := k76.enc (S76.mk a0 Sl.nil Sl.nil)) st77 rfl rfl rfl) ?_
      refine EvK.alloc (w_none rfl) rfl rfl (f_boxF (v := k76.val (S76.mk a0 Sl.nil Sl.nil)) rfl rfl rfl hF) ?_
      rintro _ h2 ⟨q1, rfl, hF⟩
      refine EvK.pure (v := .pointer (some q1)) (w_none rfl) rfl rfl (f_assign rfl rfl) ?_
      refine EvK.pure (v := .int .i64 0) (w_none rfl) rfl rfl (f_assign rfl rfl) ?_
      refine EvK.nil ?_
      refine WP.ret ?_
      exact Ret.mk (vs := [.pointer (some q1), .int .i64 0]) ((some q1), 0) ⟨rfl, rfl, trivial⟩ rfl hF
  · intro k1 hF
    refine WP.region ?_
    refine EvK.pure (v := .int .i64 a0) (w_none rfl) rfl rfl (f_move rfl rfl) ?_
    refine EvK.pure (v := .bool (decide (a0 < 1))) (w_none rfl) rfl rfl (f_lss rfl rfl rfl) ?_
    refine EvK.pure (v := .bool (decide (a0 < 1))) (w_none rfl) rfl rfl (f_move rfl rfl) ?_
    rcases ite_inv hF with ⟨c2, hF⟩ | ⟨c2, hF⟩
    · refine EvK.not (w_not rfl rfl c2) rfl rfl ?_
      refine EvK.not (w_not rfl rfl c2) rfl rfl ?_
      refine EvK.pure (v := .bool true) (w_none rfl) rfl rfl (f_pickT rfl rfl c2 rfl) ?_
      refine EvK.nil ?_
      exact KE.mk true ⟨rfl, rfl, trivial⟩ hF
    · refine EvK.pure (v := .int .i64 a0) (w_some rfl rfl c2) rfl rfl (f_move rfl rfl) ?_
      refine EvK.pure (v := .bool (decide (a0 > 1024))) (w_some rfl rfl c2) rfl rfl (f_gtr rfl rfl rfl) ?_
      refine EvK.pure (v := .bool (decide (a0 > 1024))) (w_none rfl) rfl rfl (f_pickF rfl rfl c2 rfl) ?_
      refine EvK.nil ?_
      exact KE.mk (decide (a0 > 1024)) ⟨rfl, rfl, trivial⟩ hF
end Go.Proofs.Ytgmihbchcmjmdaa

namespace Go.Proofs.Ytgmihbchcmjmdaa
open Go Go.Tr
set_option linter.unusedVariables false
set_option maxRecDepth 100000
set_option maxHeartbeats 400000
def locks_Manager_set.b1 (p0 : Option Addr) (p6 : Option Nat) (p10 : Sl) (p11 : Int) (s : Int) (h : H) (K : Int ⊕ (Unit ⊕ ((Option Nat) × IF)) → H → Prop) : Prop :=
  if (decide (s < p11)) = true then
    jn (fun (k2 : Unit → H → Prop) =>
      rd (ixA 2 p10 s) fun q1 =>
      rd (ld k31 q1 h) fun x3 =>
      al 32 (k31.enc z31) h fun q2 h4 =>
      rd (st k31 q2 x3 h4) fun h5 =>
      jn (fun (k3 : Bool → H → Prop) =>
        rd (ld (kI .i64) (q2.add 0) h5) fun x7 =>
        if (decide (x7 < 0)) = true then
          k3 true h5
        else
          rd (ld (kI .i64) (q2.add 0) h5) fun x8 =>
          rd p0 fun q3 =>
          rd (ld (kI .i64) (q3.add 0) h5) fun x9 =>
          if (decide (x8 ≥ x9)) = true then
            k3 true h5
          else
            rd (ld (kI .i64) (q2.add 0) h5) fun x10 =>
            rd (mlk (kI .i64) 0 .i64 p6 x10 h5) fun x11 =>
            k3 (x11.1 != 0) h5) fun s3 h6 =>
      if s3 = true then
        K (.inr (.inr (none, (some (26, .int .i64 1) : IF)))) h6
      else
        rd (ld (kI .i64) (q2.add 0) h6) fun x4 =>
        rd (mup (kI .i64) .i64 p6 x4 2 h6) fun h7 =>
        rd (ld kB (q2.add 1) h7) fun x5 =>
        if x5 = true then
          rd (ld (kI .i64) (q2.add 0) h7) fun x6 =>
          rd (mup (kI .i64) .i64 p6 x6 1 h7) fun h8 =>
          k2 () h8
        else
          k2 () h7) fun s2 h3 =>
    K (.inl (IntKind.i64.wrap (s + 1))) h3
  else
    K (.inr (.inl ())) h
/-- (*spate/locks.Manager).set -/
def locks_Manager_set (a0 : Option Addr) (a1 : Sl) (h : H) (Q : ((Option Nat) × IF) → H → Prop) : Prop :=
  mmk h fun x1 h1 =>
  jn (fun (k1 : Unit → H → Prop) =>
    loopE (locks_Manager_set.b1 a0 x1 a1 (a1.len : Int)) 0 h1 (sumK (fun r1 hh => k1 r1 hh) (fun r2 hh => Q r2 hh))) fun s1 h2 =>
  rd (mln x1 h2) fun x2 =>
  if ((x2 : Int) == 0) = true then
    Q (none, (some (26, .int .i64 1) : IF)) h2
  else
    Q (x1, none) h2
theorem locks_Manager_set.sound {a0 : Option Addr} {a1 : Sl} {h : H} {Q : ((Option Nat) × IF) → H → Prop} (hF : locks_Manager_set a0 a1 h Q) :
    CallsH Try.prog 42 (List.toArray (α := Value) [.pointer a0, Sl.val a1]) h fun v h' => ∃ x : (Option Nat) × IF, v = .tuple #[.map x.1, IF.val x.2] ∧ Q x h' := by
  refine CallsH.of_body Try.func42 rfl 50 rfl rfl ?_
  refine WP.seq ?_
  refine WP.region ?_
  refine EvK.pure (v := .map none) (w_none rfl) rfl rfl (f_assign rfl rfl) ?_
  refine EvK.pure (v := IF.val none) (w_none rfl) rfl rfl (f_assign rfl rfl) ?_
  refine EvK.nil ?_
  refine WP.seq ?_
  refine WP.region ?_
  refine EvK.alloc (w_none rfl) rfl rfl (f_makeMap rfl hF) ?_
  rintro _ h1 ⟨x1, rfl, hF⟩
  refine EvK.pure (v := .map x1) (w_none rfl) rfl rfl (f_assign rfl rfl) ?_
  refine EvK.nil ?_
  refine WP.joinF (fun (s1 : Unit) => [(6, .map x1)]) hF ?_ ?_
  · intro s1 E0 h2 hF
    refine WP.seq ?_
    refine WP.seq ?_
    refine WP.region ?_
    refine EvK.pure (v := .map x1) (w_none rfl) rfl rfl (f_move rfl rfl) ?_
    obtain ⟨x2, hx1, hF⟩ := hF
    refine EvK.read (v := .int .i64 (x2 : Int)) (w_none rfl) rfl rfl (f_lenM Try.underlying78 rfl rfl hx1) ?_
    refine EvK.pure (v := .bool ((x2 : Int) == 0)) (w_none rfl) rfl rfl (f_eql rfl rfl rfl) ?_
    refine EvK.nil ?_
    rcases ite_inv hF with ⟨c1, hF⟩ | ⟨c1, hF⟩
    · refine WP.cond_true _ rfl c1 ?_
      refine WP.seq ?_
      refine WP.region ?_
      refine EvK.pure (v := IF.val (some (26, .int .i64 1) : IF)) (w_none rfl) rfl rfl (f_makeIf Try.underlying26 rfl rfl rfl) ?_
      refine EvK.pure (v := .map none) (w_none rfl) rfl rfl (f_assign rfl rfl) ?_
      refine EvK.pure (v := IF.val (some (26, .int .i64 1) : IF)) (w_none rfl) rfl rfl (f_assign rfl rfl) ?_
      refine EvK.nil ?_
      refine WP.ret ?_
      exact Ret.mk (vs := [.map none, IF.val (some (26, .int .i64 1) : IF)]) (none, (some (26, .int .i64 1) : IF)) ⟨rfl, rfl, trivial⟩ rfl hF
    · refine WP.cond_false _ rfl c1 ?_
      refine WP.skip ?_
      refine WP.seq ?_
      refine WP.region ?_
      refine EvK.pure (v := .map x1) (w_none rfl) rfl rfl (f_move rfl rfl) ?_
      refine EvK.pure (v := .map x1) (w_none rfl) rfl rfl (f_assign rfl rfl) ?_
      refine EvK.pure (v := IF.val none) (w_none rfl) rfl rfl (f_assign rfl rfl) ?_
      refine EvK.nil ?_
      refine WP.ret ?_
      exact Ret.mk (vs := [.map x1, IF.val none]) (x1, none) ⟨rfl, rfl, trivial⟩ rfl hF
  · intro k1 hF
    refine WP.seq ?_
    refine WP.region ?_
    refine EvK.pure (v := Sl.val a1) (w_none rfl) rfl rfl (f_move rfl rfl) ?_
    refine EvK.pure (v := .int .i64 (a1.len : Int)) (w_none rfl) rfl rfl (f_lenL (s := a1) Try.underlying30 rfl rfl) ?_
    refine EvK.pure (v := .int .i64 0) (w_none rfl) rfl rfl (f_move rfl rfl) ?_
    refine EvK.nil ?_
    refine WP.block ?_
    refine WP.loopF (fun (s2 : Int) => [(12, .int .i64 s2), (0, .pointer a0), (6, .map x1), (10, Sl.val a1), (11, .int .i64 (a1.len : Int))]) hF ⟨rfl, rfl, rfl, rfl, rfl, trivial⟩ ?_
    intro k2 s2 E0 h3 hF
    refine WP.seq ?_
    refine WP.region ?_
    refine EvK.pure (v := .bool (decide (s2 < (a1.len : Int)))) (w_none rfl) rfl rfl (f_lss rfl rfl rfl) ?_
    refine EvK.nil ?_
    refine WP.seq ?_
    rcases ite_inv hF with ⟨c2, hF⟩ | ⟨c2, hF⟩
    · refine WP.cond_true _ rfl c2 ?_
      refine WP.skip ?_
      refine WP.joinF (fun (s3 : Unit) => [(0, .pointer a0), (6, .map x1), (10, Sl.val a1), (11, .int .i64 (a1.len : Int)), (12, .int .i64 s2)]) hF ?_ ?_
      · intro s3 E0 h4 hF
        refine WP.region ?_
        refine EvK.pure (v := .int .i64 (IntKind.i64.wrap (s2 + 1))) (w_none rfl) rfl rfl (f_add rfl rfl rfl) ?_
        refine EvK.pure (v := .int .i64 (IntKind.i64.wrap (s2 + 1))) (w_none rfl) rfl rfl (f_move rfl rfl) ?_
        refine EvK.nil ?_
        exact KE.mk (IntKind.i64.wrap (s2 + 1)) ⟨rfl, rfl, rfl, rfl, rfl, trivial⟩ hF
      · intro k3 hF
        refine WP.block ?_
        refine WP.seq ?_
        refine WP.region ?_
        obtain ⟨q1, hq1, hF⟩ := hF
        refine EvK.pure (v := .pointer (some q1)) (w_none rfl) rfl rfl (f_indexAddr (s := a1) Try.underlying30 ty32.size rfl rfl rfl hq1) ?_
        obtain ⟨x3, hx2, hF⟩ := hF
        refine EvK.read (v := k31.val x3) (w_none rfl) rfl rfl (f_load k31 ty32 rfl rfl hx2 rfl) ?_
        refine EvK.alloc (w_none rfl) rfl rfl (f_allocF zero32 rfl rfl hF) ?_
        rintro _ h5 ⟨q2, rfl, hF⟩
        obtain ⟨h6, hs1, hF⟩ := hF
        refine EvK.runN (w_none rfl) rfl (f_store k31 ty32.size (z := x3) rfl rfl rfl hs1) ?_
        rintro _ _ ⟨rfl, rfl⟩
        refine EvK.nil ?_
        refine WP.seq ?_
        refine WP.joinF (fun (s4 : Bool) => [(34, .bool s4), (0, .pointer a0), (6, .map x1), (8, .pointer (some q2)), (10, Sl.val a1), (11, .int .i64 (a1.len : Int)), (12, .int .i64 s2)]) hF ?_ ?_
        · intro s4 E0 h7 hF
          rcases ite_inv hF with ⟨c3, hF⟩ | ⟨c3, hF⟩
          · refine WP.cond_true _ rfl c3 ?_
            refine WP.seq ?_
            refine WP.region ?_
            refine EvK.pure (v := IF.val (some (26, .int .i64 1) : IF)) (w_none rfl) rfl rfl (f_makeIf Try.underlying26 rfl rfl rfl) ?_
            refine EvK.pure (v := .map none) (w_none rfl) rfl rfl (f_assign rfl rfl) ?_
            refine EvK.pure (v := IF.val (some (26, .int .i64 1) : IF)) (w_none rfl) rfl rfl (f_assign rfl rfl) ?_
            refine EvK.nil ?_
            refine WP.ret ?_
            exact Ret.mk (vs := [.map none, IF.val (some (26, .int .i64 1) : IF)]) (none, (some (26, .int .i64 1) : IF)) ⟨rfl, rfl, trivial⟩ rfl hF
          · refine WP.cond_false _ rfl c3 ?_
            refine WP.skip ?_
            refine WP.seq ?_
            refine WP.region ?_
            refine EvK.pure (v := .map x1) (w_none rfl) rfl rfl (f_move rfl rfl) ?_
            refine EvK.pure (v := .pointer (some (q2.add 0))) (w_none rfl) rfl rfl (f_fieldAddr fd32_0 rfl rfl) ?_
            obtain ⟨x4, hx3, hF⟩ := hF
            refine EvK.read (v := .int .i64 x4) (w_none rfl) rfl rfl (f_load (kI .i64) ty3 rfl rfl hx3 rfl) ?_
            obtain ⟨h8, hs2, hF⟩ := hF
            refine EvK.runN (w_none rfl) rfl (f_mapUpdate (K := (kI .i64)) (x := 2) mt78 rfl rfl rfl rfl hs2) ?_
            rintro _ _ ⟨rfl, rfl⟩
            refine EvK.nil ?_
            refine WP.seq ?_
            refine WP.region ?_
            refine EvK.pure (v := .pointer (some (q2.add 1))) (w_none rfl) rfl rfl (f_fieldAddr fd32_1 rfl rfl) ?_
            obtain ⟨x5, hx4, hF⟩ := hF
            refine EvK.read (v := .bool x5) (w_none rfl) rfl rfl (f_load kB ty4 rfl rfl hx4 rfl) ?_
            refine EvK.nil ?_
            rcases ite_inv hF with ⟨c4, hF⟩ | ⟨c4, hF⟩
            · refine WP.cond_true _ rfl c4 ?_
              refine WP.region ?_
              refine EvK.pure (v := .map x1) (w_none rfl) rfl rfl (f_move rfl rfl) ?_
              refine EvK.pure (v := .pointer (some (q2.add 0))) (w_none rfl) rfl rfl (f_fieldAddr fd32_0 rfl rfl) ?_
              obtain ⟨x6, hx5, hF⟩ := hF
              refine EvK.read (v := .int .i64 x6) (w_none rfl) rfl rfl (f_load (kI .i64) ty3 rfl rfl hx5 rfl) ?_
              obtain ⟨h9, hs3, hF⟩ := hF
              refine EvK.runN (w_none rfl) rfl (f_mapUpdate (K := (kI .i64)) (x := 1) mt78 rfl rfl rfl rfl hs3) ?_
              rintro _ _ ⟨rfl, rfl⟩
              refine EvK.nil ?_
              exact KE.mk () ⟨rfl, rfl, rfl, rfl, rfl, trivial⟩ hF
            · refine WP.cond_false _ rfl c4 ?_
              refine WP.skip ?_
              exact KE.mk () ⟨rfl, rfl, rfl, rfl, rfl, trivial⟩ hF
        · intro k4 hF
          refine WP.draw mixed [.pure, .read, .pure, .pure, .pure, .read, .pure, .pure, .pure, .read, .pure, .pure, .pure, .pure, .pure, .read, .read, .pure, .pure] [[], [0], [0, 1], [0, 1, 2], [0, 1, 2, 3], [0, 1, 2, 3, 4], [0, 1, 2, 3], [0, 1, 2, 3, 6], [0, 1, 2, 3, 6, 7], [0, 1, 2, 3, 6, 7, 8], [0, 1, 2, 3, 4, 5, 6, 7, 8, 9], [0, 1, 2, 3, 4, 5, 6, 7, 8, 9, 10], [0, 1, 2, 3, 4, 5, 6, 7, 8, 9, 10, 11], [0, 1, 2, 3, 4, 5, 6, 7, 8, 9, 10, 11, 12], [0, 1, 2, 3, 4, 5, 6, 7, 8, 9, 10, 11, 12], [0, 1, 2, 3, 4, 5, 6, 7, 8, 9, 10, 11, 12, 14], [0, 1, 2, 3, 4, 5, 6, 7, 8, 9, 10, 11, 12, 13, 14, 15], [0, 1, 2, 3, 4, 5, 6, 7, 8, 9, 10, 11, 12, 13, 14, 15, 16], [0, 1, 2, 3, 4, 5, 6, 7, 8, 9, 10, 11, 12, 13, 14, 15, 16, 17]] [0, 1, 2, 3, 4, 5, 6, 7, 8, 9, 10, 11, 12, 13, 14, 15, 16, 17, 18] (by kernel_rfl) (by kernel_rfl) ?_
          refine EvI.pure (v := .pointer (some (q2.add 0))) rfl rfl (w_none rfl) rfl (f_fieldAddr fd32_0 rfl rfl) ?_
          obtain ⟨x7, hx6, hF⟩ := hF
          refine EvI.read (v := .int .i64 x7) rfl rfl (w_none rfl) rfl (f_load (kI .i64) ty3 rfl rfl hx6 rfl) ?_
          refine EvI.pure (v := .bool (decide (x7 < 0))) rfl rfl (w_none rfl) rfl (f_lss rfl rfl rfl) ?_
          refine EvI.pure (v := .bool (decide (x7 < 0))) rfl rfl (w_none rfl) rfl (f_move rfl rfl) ?_
          rcases ite_inv hF with ⟨c5, hF⟩ | ⟨c5, hF⟩
          · refine EvI.not rfl (w_not rfl rfl c5) rfl ?_
            refine EvI.not rfl (w_not rfl rfl c5) rfl ?_
            refine EvI.not rfl (w_not rfl rfl c5) rfl ?_
            refine EvI.not rfl (w_not rfl rfl c5) rfl ?_
            refine EvI.not rfl (w_not rfl rfl c5) rfl ?_
            refine EvI.not rfl (w_not rfl rfl c5) rfl ?_
            refine EvI.not rfl (w_not rfl rfl c5) rfl ?_
            refine EvI.pure (v := .bool true) rfl rfl (w_none rfl) rfl (f_pickT rfl rfl c5 rfl) ?_
            refine EvI.pure (v := .bool true) rfl rfl (w_none rfl) rfl (f_move rfl rfl) ?_
            refine EvI.not rfl (w_not rfl rfl rfl) rfl ?_
            refine EvI.not rfl (w_not rfl rfl rfl) rfl ?_
            refine EvI.not rfl (w_not rfl rfl rfl) rfl ?_
            refine EvI.not rfl (w_not rfl rfl rfl) rfl ?_
            refine EvI.not rfl (w_not rfl rfl rfl) rfl ?_
            refine EvI.pure (v := .bool true) rfl rfl (w_none rfl) rfl (f_pickT rfl rfl rfl rfl) ?_
            refine EvI.nil ?_
            exact KE.mk true ⟨rfl, rfl, rfl, rfl, rfl, rfl, rfl, trivial⟩ hF
          · refine EvI.pure (v := .pointer (some (q2.add 0))) rfl rfl (w_some rfl rfl c5) rfl (f_fieldAddr fd32_0 rfl rfl) ?_
            obtain ⟨x8, hx7, hF⟩ := hF
            refine EvI.read (v := .int .i64 x8) rfl rfl (w_some rfl rfl c5) rfl (f_load (kI .i64) ty3 rfl rfl hx7 rfl) ?_
            refine EvI.pure (v := .pointer a0) rfl rfl (w_some rfl rfl c5) rfl (f_move rfl rfl) ?_
            obtain ⟨q3, hq2, hF⟩ := hF
            refine EvI.pure (v := .pointer (some q3)) rfl rfl (w_some rfl rfl c5) rfl (f_nilCheck rfl (congrArg Value.pointer hq2)) ?_
            refine EvI.pure (v := .pointer (some (q3.add 0))) rfl rfl (w_some rfl rfl c5) rfl (f_fieldAddr fd77_0 rfl rfl) ?_
            obtain ⟨x9, hx8, hF⟩ := hF
            refine EvI.read (v := .int .i64 x9) rfl rfl (w_some rfl rfl c5) rfl (f_load (kI .i64) ty3 rfl rfl hx8 rfl) ?_
            refine EvI.pure (v := .bool (decide (x8 ≥ x9))) rfl rfl (w_some rfl rfl c5) rfl (f_geq rfl rfl rfl) ?_
            refine EvI.pure (v := .bool (decide (x8 ≥ x9))) rfl rfl (w_none rfl) rfl (f_pickF rfl rfl c5 rfl) ?_
            refine EvI.pure (v := .bool (decide (x8 ≥ x9))) rfl rfl (w_none rfl) rfl (f_move rfl rfl) ?_
            rcases ite_inv hF with ⟨c6, hF⟩ | ⟨c6, hF⟩
            · refine EvI.not rfl (w_not rfl rfl c6) rfl ?_
              refine EvI.not rfl (w_not rfl rfl c6) rfl ?_
              refine EvI.not rfl (w_not rfl rfl c6) rfl ?_
              refine EvI.not rfl (w_not rfl rfl c6) rfl ?_
              refine EvI.not rfl (w_not rfl rfl c6) rfl ?_
              refine EvI.pure (v := .bool true) rfl rfl (w_none rfl) rfl (f_pickT rfl rfl c6 rfl) ?_
              refine EvI.nil ?_
              exact KE.mk true ⟨rfl, rfl, rfl, rfl, rfl, rfl, rfl, trivial⟩ hF
            · refine EvI.pure (v := .map x1) rfl rfl (w_some rfl rfl c6) rfl (f_move rfl rfl) ?_
              refine EvI.pure (v := .pointer (some (q2.add 0))) rfl rfl (w_some rfl rfl c6) rfl (f_fieldAddr fd32_0 rfl rfl) ?_
              obtain ⟨x10, hx9, hF⟩ := hF
              refine EvI.read (v := .int .i64 x10) rfl rfl (w_some rfl rfl c6) rfl (f_load (kI .i64) ty3 rfl rfl hx9 rfl) ?_
              obtain ⟨x11, hx10, hF⟩ := hF
              refine EvI.read (v := .int .i64 x11.1) rfl rfl (w_some rfl rfl c6) rfl (f_lookup (K := (kI .i64)) (z := 0) rfl mt78 zero3 rfl rfl rfl hx10) ?_
              refine EvI.pure (v := .bool (x11.1 != 0)) rfl rfl (w_some rfl rfl c6) rfl (f_neq rfl rfl rfl) ?_
              refine EvI.pure (v := .bool (x11.1 != 0)) rfl rfl (w_none rfl) rfl (f_pickF rfl rfl c6 rfl) ?_
              refine EvI.nil ?_
              exact KE.mk (x11.1 != 0) ⟨rfl, rfl, rfl, rfl, rfl, rfl, rfl, trivial⟩ hF
    · refine WP.cond_false _ rfl c2 ?_
      refine WP.exit ?_
      exact KE.mk () ⟨rfl, trivial⟩ hF
end Go.Proofs.Ytgmihbchcmjmdaa

namespace Go.Proofs.Ytgmihbchcmjmdaa
open Go Go.Tr
set_option linter.unusedVariables false
set_option maxRecDepth 100000
set_option maxHeartbeats 400000
def slices_IndexFunc___locks_claim_locks_claim_.b1 (p0 : Sl) (p1 : FV) (p7 : Int) (s : Int) (h : H) (K : Int ⊕ (Unit ⊕ Int) → H → Prop) : Prop :=
  if (decide (s < p7)) = true then
    rd (ixA 2 p0 s) fun q1 =>
    rd (ld k85 q1 h) fun x1 =>
    apF Try.prog p1 [k85.val x1] h fun v1 h2 => ∃ r1 : Bool, v1 = .bool r1 ∧
    if r1 = true then
      K (.inr (.inr s)) h2
    else
      K (.inl (IntKind.i64.wrap (s + 1))) h2
  else
    K (.inr (.inl ())) h
/-- slices.IndexFunc[[]spate/locks.claim,spate/locks.claim] -/
def slices_IndexFunc___locks_claim_locks_claim_ (a0 : Sl) (a1 : FV) (h : H) (Q : Int → H → Prop) : Prop :=
  jn (fun (k1 : Unit → H → Prop) =>
    loopE (slices_IndexFunc___locks_claim_locks_claim_.b1 a0 a1 (a0.len : Int)) 0 h (sumK (fun r2 hh => k1 r2 hh) (fun r3 hh => Q r3 hh))) fun s1 h1 =>
  Q (-1) h1
theorem slices_IndexFunc___locks_claim_locks_claim_.sound {a0 : Sl} {a1 : FV} {h : H} {Q : Int → H → Prop} (hF : slices_IndexFunc___locks_claim_locks_claim_ a0 a1 h Q) :
    CallsH Try.prog 55 (List.toArray (α := Value) [Sl.val a0, FV.val a1]) h fun v h' => ∃ x : Int, v = .int .i64 x ∧ Q x h' := by
  refine CallsH.of_body Try.func55 rfl 19 rfl rfl ?_
  refine WP.seq ?_
  refine WP.region ?_
  refine EvK.pure (v := .int .i64 0) (w_none rfl) rfl rfl (f_assign rfl rfl) ?_
  refine EvK.nil ?_
  refine WP.joinF (fun (s1 : Unit) => []) hF ?_ ?_
  · intro s1 E0 h1 hF
    refine WP.seq ?_
    refine WP.region ?_
    refine EvK.pure (v := .int .i64 (-1)) (w_none rfl) rfl rfl (f_assign rfl rfl) ?_
    refine EvK.nil ?_
    refine WP.ret ?_
    exact Ret.mk (vs := [.int .i64 (-1)]) (-1) ⟨rfl, trivial⟩ rfl hF
  · intro k1 hF
    refine WP.seq ?_
    refine WP.region ?_
    refine EvK.pure (v := Sl.val a0) (w_none rfl) rfl rfl (f_move rfl rfl) ?_
    refine EvK.pure (v := .int .i64 (a0.len : Int)) (w_none rfl) rfl rfl (f_lenL (s := a0) Try.underlying75 rfl rfl) ?_
    refine EvK.pure (v := .int .i64 0) (w_none rfl) rfl rfl (f_move rfl rfl) ?_
    refine EvK.nil ?_
    refine WP.block ?_
    refine WP.loopF (fun (s2 : Int) => [(8, .int .i64 s2), (0, Sl.val a0), (1, FV.val a1), (7, .int .i64 (a0.len : Int))]) hF ⟨rfl, rfl, rfl, rfl, trivial⟩ ?_
    intro k2 s2 E0 h2 hF
    refine WP.seq ?_
    refine WP.region ?_
    refine EvK.pure (v := .bool (decide (s2 < (a0.len : Int)))) (w_none rfl) rfl rfl (f_lss rfl rfl rfl) ?_
    refine EvK.nil ?_
    refine WP.seq ?_
    rcases ite_inv hF with ⟨c1, hF⟩ | ⟨c1, hF⟩
    · refine WP.cond_true _ rfl c1 ?_
      refine WP.skip ?_
      refine WP.seq ?_
      refine WP.block ?_
      refine WP.seq ?_
      refine WP.region ?_
      refine EvK.pure (v := .int .i64 s2) (w_none rfl) rfl rfl (f_move rfl rfl) ?_
      refine EvK.pure (v := .int .i64 s2) (w_none rfl) rfl rfl (f_assign rfl rfl) ?_
      refine EvK.nil ?_
      refine WP.seq ?_
      refine WP.region ?_
      refine EvK.pure (v := FV.val a1) (w_none rfl) rfl rfl (f_move rfl rfl) ?_
      refine EvK.pure (v := Sl.val a0) (w_none rfl) rfl rfl (f_move rfl rfl) ?_
      refine EvK.pure (v := .int .i64 s2) (w_none rfl) rfl rfl (f_move rfl rfl) ?_
      obtain ⟨q1, hq1, hF⟩ := hF
      refine EvK.pure (v := .pointer (some q1)) (w_none rfl) rfl rfl (f_indexAddr (s := a0) Try.underlying75 ty86.size rfl rfl rfl hq1) ?_
      obtain ⟨x1, hx1, hF⟩ := hF
      refine EvK.read (v := k85.val x1) (w_none rfl) rfl rfl (f_load k85 ty86 rfl rfl hx1 rfl) ?_
      refine EvK.call (w_none rfl) rfl rfl (f_callV (f := a1) (vs := [k85.val x1]) rfl rfl rfl hF) ?_
      rintro _ h3 ⟨r1, rfl, hF⟩
      refine EvK.nil ?_
      rcases ite_inv hF with ⟨c2, hF⟩ | ⟨c2, hF⟩
      · refine WP.cond_true _ rfl c2 ?_
        refine WP.seq ?_
        refine WP.region ?_
        refine EvK.pure (v := .int .i64 s2) (w_none rfl) rfl rfl (f_move rfl rfl) ?_
        refine EvK.pure (v := .int .i64 s2) (w_none rfl) rfl rfl (f_assign rfl rfl) ?_
        refine EvK.nil ?_
        refine WP.ret ?_
        exact Ret.mk (vs := [.int .i64 s2]) s2 ⟨rfl, trivial⟩ rfl hF
      · refine WP.cond_false _ rfl c2 ?_
        refine WP.skip ?_
        refine WP.region ?_
        refine EvK.pure (v := .int .i64 (IntKind.i64.wrap (s2 + 1))) (w_none rfl) rfl rfl (f_add rfl rfl rfl) ?_
        refine EvK.pure (v := .int .i64 (IntKind.i64.wrap (s2 + 1))) (w_none rfl) rfl rfl (f_move rfl rfl) ?_
        refine EvK.nil ?_
        exact KE.mk (IntKind.i64.wrap (s2 + 1)) ⟨rfl, rfl, rfl, rfl, trivial⟩ hF
    · refine WP.cond_false _ rfl c1 ?_
      refine WP.exit ?_
      exact KE.mk () trivial hF
end Go.Proofs.Ytgmihbchcmjmdaa

namespace Go.Proofs.Ytgmihbchcmjmdaa
open Go Go.Tr
set_option linter.unusedVariables false
set_option maxRecDepth 100000
set_option maxHeartbeats 400000
/-- spate/locks.find$1 -/
def locks_find_1 (a0 : S85) (f0 : Addr) (h : H) (Q : Bool → H → Prop) : Prop :=
  al 86 (k85.enc a0) h fun q1 h1 =>
  rd (ld (kI .i64) (q1.add 0) h1) fun x1 =>
  rd (ld (kI .i64) f0 h1) fun x2 =>
  Q (x1 == x2) h1
theorem locks_find_1.sound {a0 : S85} {f0 : Addr} {h : H} {Q : Bool → H → Prop} (hF : locks_find_1 a0 f0 h Q) :
    CallsH Try.prog 56 (List.toArray (α := Value) [k85.val a0, .pointer (some f0)]) h fun v h' => ∃ x : Bool, v = .bool x ∧ Q x h' := by
  refine CallsH.of_body Try.func56 rfl 8 rfl rfl ?_
  refine WP.seq ?_
  refine WP.region ?_
  refine EvK.alloc (w_none rfl) rfl rfl (f_boxF (v := k85.val a0) rfl rfl rfl hF) ?_
  rintro _ h1 ⟨q1, rfl, hF⟩
  refine EvK.pure (v := .bool false) (w_none rfl) rfl rfl (f_assign rfl rfl) ?_
  refine EvK.nil ?_
  refine WP.seq ?_
  refine WP.region ?_
  refine EvK.pure (v := .pointer (some (q1.add 0))) (w_none rfl) rfl rfl (f_fieldAddr fd86_0 rfl rfl) ?_
  obtain ⟨x1, hx1, hF⟩ := hF
  refine EvK.read (v := .int .i64 x1) (w_none rfl) rfl rfl (f_load (kI .i64) ty3 rfl rfl hx1 rfl) ?_
  obtain ⟨x2, hx2, hF⟩ := hF
  refine EvK.read (v := .int .i64 x2) (w_none rfl) rfl rfl (f_load (kI .i64) ty3 rfl rfl hx2 rfl) ?_
  refine EvK.pure (v := .bool (x1 == x2)) (w_none rfl) rfl rfl (f_eql rfl rfl rfl) ?_
  refine EvK.pure (v := .bool (x1 == x2)) (w_none rfl) rfl rfl (f_assign rfl rfl) ?_
  refine EvK.nil ?_
  refine WP.ret ?_
  exact Ret.mk (vs := [.bool (x1 == x2)]) (x1 == x2) ⟨rfl, trivial⟩ rfl hF
end Go.Proofs.Ytgmihbchcmjmdaa

namespace Go.Proofs.Ytgmihbchcmjmdaa
open Go Go.Tr
set_option linter.unusedVariables false
set_option maxRecDepth 100000
set_option maxHeartbeats 400000
/-- spate/locks.find -/
def locks_find (a0 : Sl) (a1 : Int) (h : H) (Q : Int → H → Prop) : Prop :=
  al 3 ((kI .i64).enc a1) h fun q1 h1 =>
  slices_IndexFunc___locks_claim_locks_claim_ a0 (some ⟨Fn.func 56, List.toArray [], List.toArray [.pointer (some q1)]⟩ : FV) h1 fun r1 h2 =>
  Q r1 h2
theorem locks_find.sound {a0 : Sl} {a1 : Int} {h : H} {Q : Int → H → Prop} (hF : locks_find a0 a1 h Q) :
    CallsH Try.prog 43 (List.toArray (α := Value) [Sl.val a0, .int .i64 a1]) h fun v h' => ∃ x : Int, v = .int .i64 x ∧ Q x h' := by
  refine CallsH.of_body Try.func43 rfl 8 rfl rfl ?_
  refine WP.seq ?_
  refine WP.region ?_
  refine EvK.alloc (w_none rfl) rfl rfl (f_boxF (v := .int .i64 a1) rfl rfl rfl hF) ?_
  rintro _ h1 ⟨q1, rfl, hF⟩
  refine EvK.pure (v := .int .i64 0) (w_none rfl) rfl rfl (f_assign rfl rfl) ?_
  refine EvK.nil ?_
  refine WP.seq ?_
  refine WP.region ?_
  refine EvK.pure (v := Sl.val a0) (w_none rfl) rfl rfl (f_move rfl rfl) ?_
  refine EvK.pure (v := FV.val (some ⟨Fn.func 56, List.toArray [], List.toArray [.pointer (some q1)]⟩ : FV)) (w_none rfl) rfl rfl (f_makeFunc (vs := []) (us := [.pointer (some q1)]) rfl rfl rfl) ?_
  refine EvK.call (w_none rfl) rfl rfl (enterH (vs := [Sl.val a0, FV.val (some ⟨Fn.func 56, List.toArray [], List.toArray [.pointer (some q1)]⟩ : FV)]) Try.func55 rfl rfl rfl rfl (slices_IndexFunc___locks_claim_locks_claim_.sound hF)) ?_
  rintro _ h2 ⟨r1, rfl, hF⟩
  refine EvK.pure (v := .int .i64 r1) (w_none rfl) rfl rfl (f_assign rfl rfl) ?_
  refine EvK.nil ?_
  refine WP.ret ?_
  exact Ret.mk (vs := [.int .i64 r1]) r1 ⟨rfl, trivial⟩ rfl hF
end Go.Proofs.Ytgmihbchcmjmdaa

namespace Go.Proofs.Ytgmihbchcmjmdaa
open Go Go.Tr
set_option linter.unusedVariables false
set_option maxRecDepth 100000
set_option maxHeartbeats 400000
/-- slices.ContainsFunc[[]spate/locks.claim,spate/locks.claim] -/
def slices_ContainsFunc___locks_claim_locks_claim_ (a0 : Sl) (a1 : FV) (h : H) (Q : Bool → H → Prop) : Prop :=
  slices_IndexFunc___locks_claim_locks_claim_ a0 a1 h fun r1 h1 =>
  Q (decide (r1 ≥ 0)) h1
theorem slices_ContainsFunc___locks_claim_locks_claim_.sound {a0 : Sl} {a1 : FV} {h : H} {Q : Bool → H → Prop} (hF : slices_ContainsFunc___locks_claim_locks_claim_ a0 a1 h Q) :
    CallsH Try.prog 44 (List.toArray (α := Value) [Sl.val a0, FV.val a1]) h fun v h' => ∃ x : Bool, v = .bool x ∧ Q x h' := by
  refine CallsH.of_body Try.func44 rfl 9 rfl rfl ?_
  refine WP.seq ?_
  refine WP.region ?_
  refine EvK.pure (v := .bool false) (w_none rfl) rfl rfl (f_assign rfl rfl) ?_
  refine EvK.nil ?_
  refine WP.seq ?_
  refine WP.region ?_
  refine EvK.pure (v := Sl.val a0) (w_none rfl) rfl rfl (f_move rfl rfl) ?_
  refine EvK.pure (v := FV.val a1) (w_none rfl) rfl rfl (f_move rfl rfl) ?_
  refine EvK.call (w_none rfl) rfl rfl (enterH (vs := [Sl.val a0, FV.val a1]) Try.func55 rfl rfl rfl rfl (slices_IndexFunc___locks_claim_locks_claim_.sound hF)) ?_
  rintro _ h1 ⟨r1, rfl, hF⟩
  refine EvK.pure (v := .bool (decide (r1 ≥ 0))) (w_none rfl) rfl rfl (f_geq rfl rfl rfl) ?_
  refine EvK.pure (v := .bool (decide (r1 ≥ 0))) (w_none rfl) rfl rfl (f_assign rfl rfl) ?_
  refine EvK.nil ?_
  refine WP.ret ?_
  exact Ret.mk (vs := [.bool (decide (r1 ≥ 0))]) (decide (r1 ≥ 0)) ⟨rfl, trivial⟩ rfl hF
end Go.Proofs.Ytgmihbchcmjmdaa

namespace Go.Proofs.Ytgmihbchcmjmdaa
open Go Go.Tr
set_option linter.unusedVariables false
set_option maxRecDepth 100000
set_option maxHeartbeats 400000
def _locks_claim_against.b1 (p3 : Addr) (p10 : Addr) (s : Unit) (h : H) (K : Unit ⊕ (Unit ⊕ Bool) → H → Prop) : Prop :=
  nxt p10 h fun b1 h5 =>
  if b1 = true then
    rdP (Ent (kI .i64) .i64 p10 h5) fun x2 =>
    rd (ld kM (p3.add 1) h5) fun x3 =>
    rd (mlk (kI .i64) 0 .i64 x3 x2.1 h5) fun x4 =>
    jn (fun (k2 : Bool → H → Prop) =>
      if (x4.1 != 0) = true then
        k2 (!(arr2eq (ar2 x2.2 x4.1) (ar2 1 1))) h5
      else
        k2 false h5) fun s2 h6 =>
    if s2 = true then
      K (.inr (.inr true)) h6
    else
      K (.inl ()) h6
  else
    K (.inr (.inl ())) h5
/-- (spate/locks.claim).against -/
def _locks_claim_against (a0 : S85) (a1 : S85) (h : H) (Q : Bool → H → Prop) : Prop :=
  al 86 (k85.enc a0) h fun q1 h1 =>
  al 86 (k85.enc a1) h1 fun q2 h2 =>
  jn (fun (k1 : Unit → H → Prop) =>
    rd (ld kM (q1.add 1) h2) fun x1 =>
    rng x1 h2 fun q3 h4 =>
    loopE (_locks_claim_against.b1 q2 q3) () h4 (sumK (fun r1 hh => k1 r1 hh) (fun r2 hh => Q r2 hh))) fun s1 h3 =>
  Q false h3
theorem _locks_claim_against.sound {a0 : S85} {a1 : S85} {h : H} {Q : Bool → H → Prop} (hF : _locks_claim_against a0 a1 h Q) :
    CallsH Try.prog 45 (List.toArray (α := Value) [k85.val a0, k85.val a1]) h fun v h' => ∃ x : Bool, v = .bool x ∧ Q x h' := by
  refine CallsH.of_body Try.func45 rfl 29 rfl rfl ?_
  refine WP.seq ?_
  refine WP.region ?_
  refine EvK.alloc (w_none rfl) rfl rfl (f_boxF (v := k85.val a0) rfl rfl rfl hF) ?_
  rintro _ h1 ⟨q1, rfl, hF⟩
  refine EvK.alloc (w_none rfl) rfl rfl (f_boxF (v := k85.val a1) rfl rfl rfl hF) ?_
  rintro _ h2 ⟨q2, rfl, hF⟩
  refine EvK.pure (v := .bool false) (w_none rfl) rfl rfl (f_assign rfl rfl) ?_
  refine EvK.nil ?_
  refine WP.joinF (fun (s1 : Unit) => []) hF ?_ ?_
  · intro s1 E0 h3 hF
    refine WP.seq ?_
    refine WP.region ?_
    refine EvK.pure (v := .bool false) (w_none rfl) rfl rfl (f_assign rfl rfl) ?_
    refine EvK.nil ?_
    refine WP.ret ?_
    exact Ret.mk (vs := [.bool false]) false ⟨rfl, trivial⟩ rfl hF
  · intro k1 hF
    refine WP.seq ?_
    refine WP.region ?_
    refine EvK.pure (v := .pointer (some (q1.add 1))) (w_none rfl) rfl rfl (f_fieldAddr fd86_1 rfl rfl) ?_
    obtain ⟨x1, hx1, hF⟩ := hF
    refine EvK.read (v := .map x1) (w_none rfl) rfl rfl (f_load kM ty78 rfl rfl hx1 rfl) ?_
    refine EvK.alloc (w_none rfl) rfl rfl (f_rangeM Try.underlying78 rfl rfl hF) ?_
    rintro _ h4 ⟨q3, rfl, hF⟩
    refine EvK.nil ?_
    refine WP.block ?_
    refine WP.loopF (fun (s2 : Unit) => [(3, .pointer (some q2)), (10, .pointer (some q3))]) hF ⟨rfl, rfl, trivial⟩ ?_
    intro k2 s2 E0 h5 hF
    refine WP.seq ?_
    refine WP.region ?_
    refine EvK.run (w_none rfl) rfl rfl (f_nextM rfl rfl hF) ?_
    rintro _ h6 ⟨b1, vs1, rfl, hv1, hF⟩
    refine EvK.pure (v := .bool b1) (w_none rfl) rfl rfl (f_extract0 hv1 rfl rfl) ?_
    refine EvK.nil ?_
    refine WP.seq ?_
    rcases ite_inv hF with ⟨c1, hF⟩ | ⟨c1, hF⟩
    · refine WP.cond_true _ rfl c1 ?_
      refine WP.skip ?_
      refine WP.block ?_
      refine WP.seq ?_
      refine WP.region ?_
      obtain ⟨x2, hx2, hF⟩ := hF
      refine EvK.read (v := .tuple #[.int .i64 x2.1, .int .i64 x2.2]) (w_none rfl) rfl rfl (f_entry (K := (kI .i64)) rfl rfl rfl hx2) ?_
      refine EvK.pure (v := .int .i64 x2.1) (w_none rfl) rfl rfl (f_extract (vs := #[.int .i64 x2.1, .int .i64 x2.2]) rfl rfl rfl) ?_
      refine EvK.pure (v := .int .i64 x2.2) (w_none rfl) rfl rfl (f_extract (vs := #[.int .i64 x2.1, .int .i64 x2.2]) rfl rfl rfl) ?_
      refine EvK.pure (v := .int .i64 x2.1) (w_none rfl) rfl rfl (f_assign rfl rfl) ?_
      refine EvK.pure (v := .int .i64 x2.2) (w_none rfl) rfl rfl (f_assign rfl rfl) ?_
      refine EvK.nil ?_
      refine WP.seq ?_
      refine WP.region ?_
      refine EvK.pure (v := .pointer (some (q2.add 1))) (w_none rfl) rfl rfl (f_fieldAddr fd86_1 rfl rfl) ?_
      obtain ⟨x3, hx3, hF⟩ := hF
      refine EvK.read (v := .map x3) (w_none rfl) rfl rfl (f_load kM ty78 rfl rfl hx3 rfl) ?_
      refine EvK.pure (v := .int .i64 x2.1) (w_none rfl) rfl rfl (f_move rfl rfl) ?_
      obtain ⟨x4, hx4, hF⟩ := hF
      refine EvK.read (v := .int .i64 x4.1) (w_none rfl) rfl rfl (f_lookup (K := (kI .i64)) (z := 0) rfl mt78 zero3 rfl rfl rfl hx4) ?_
      refine EvK.pure (v := .int .i64 x4.1) (w_none rfl) rfl rfl (f_assign rfl rfl) ?_
      refine EvK.nil ?_
      refine WP.joinF (fun (s3 : Bool) => [(28, .bool s3), (3, .pointer (some q2)), (10, .pointer (some q3))]) hF ?_ ?_
      · intro s3 E0 h7 hF
        rcases ite_inv hF with ⟨c2, hF⟩ | ⟨c2, hF⟩
        · refine WP.cond_true _ rfl c2 ?_
          refine WP.seq ?_
          refine WP.region ?_
          refine EvK.pure (v := .bool true) (w_none rfl) rfl rfl (f_assign rfl rfl) ?_
          refine EvK.nil ?_
          refine WP.ret ?_
          exact Ret.mk (vs := [.bool true]) true ⟨rfl, trivial⟩ rfl hF
        · refine WP.cond_false _ rfl c2 ?_
          refine WP.skip ?_
          exact KE.mk () ⟨rfl, rfl, trivial⟩ hF
      · intro k3 hF
        refine WP.region ?_
        refine EvK.pure (v := .int .i64 x4.1) (w_none rfl) rfl rfl (f_move rfl rfl) ?_
        refine EvK.pure (v := .bool (x4.1 != 0)) (w_none rfl) rfl rfl (f_neq rfl rfl rfl) ?_
        refine EvK.pure (v := .bool (x4.1 != 0)) (w_none rfl) rfl rfl (f_move rfl rfl) ?_
        rcases ite_inv hF with ⟨c3, hF⟩ | ⟨c3, hF⟩
        · refine EvK.pure (v := .int .i64 x2.2) (w_some rfl rfl c3) rfl rfl (f_move rfl rfl) ?_
          refine EvK.pure (v := .int .i64 x4.1) (w_some rfl rfl c3) rfl rfl (f_move rfl rfl) ?_
          refine EvK.pure (v := Kd.val (kA 2 (kI .i64)) (ar2 x2.2 x4.1)) (w_some rfl rfl c3) rfl rfl (f_build2 Try.underlying101 ty3 zero101 rfl rfl rfl rfl) ?_
          refine EvK.pure (v := Kd.val (kA 2 (kI .i64)) (ar2 1 1)) (w_some rfl rfl c3) rfl rfl (f_build2 Try.underlying101 ty3 zero101 rfl rfl rfl rfl) ?_
          refine EvK.pure (v := .bool (!(arr2eq (ar2 x2.2 x4.1) (ar2 1 1)))) (w_some rfl rfl c3) rfl rfl (f_a2neq (x := (ar2 x2.2 x4.1)) (y := (ar2 1 1)) Try.underlying101 Try.underlying3 ty3 (by kernel_rfl) rfl rfl rfl) ?_
          refine EvK.pure (v := .bool (!(arr2eq (ar2 x2.2 x4.1) (ar2 1 1)))) (w_none rfl) rfl rfl (f_pickT rfl rfl c3 rfl) ?_
          refine EvK.nil ?_
          exact KE.mk (!(arr2eq (ar2 x2.2 x4.1) (ar2 1 1))) ⟨rfl, rfl, rfl, trivial⟩ hF
        · refine EvK.not (w_not rfl rfl c3) rfl rfl ?_
          refine EvK.not (w_not rfl rfl c3) rfl rfl ?_
          refine EvK.not (w_not rfl rfl c3) rfl rfl ?_
          refine EvK.not (w_not rfl rfl c3) rfl rfl ?_
          refine EvK.not (w_not rfl rfl c3) rfl rfl ?_
          refine EvK.pure (v := .bool false) (w_none rfl) rfl rfl (f_pickF rfl rfl c3 rfl) ?_
          refine EvK.nil ?_
          exact KE.mk false ⟨rfl, rfl, rfl, trivial⟩ hF
    · refine WP.cond_false _ rfl c1 ?_
      refine WP.exit ?_
      exact KE.mk () trivial hF
end Go.Proofs.Ytgmihbchcmjmdaa

namespace Go.Proofs.Ytgmihbchcmjmdaa
open Go Go.Tr
set_option linter.unusedVariables false
set_option maxRecDepth 100000
set_option maxHeartbeats 400000
/-- (*spate/locks.Manager).Ask -/
def locks_Manager_Ask (a0 : Option Addr) (a1 : Int) (a2 : Sl) (h : H) (Q : (Bool × IF) → H → Prop) : Prop :=
  locks_Manager_set a0 a2 h fun r1 h1 =>
  jn (fun (k1 : IF → H → Prop) =>
    if (decide (a1 < 0)) = true then
      k1 (some (26, .int .i64 1) : IF) h1
    else
      k1 r1.2 h1) fun s1 h2 =>
  jn (fun (k2 : IF → H → Prop) =>
    jn (fun (k4 : Bool → H → Prop) =>
      if s1.isNone = true then
        rd a0 fun q9 =>
        rd (ld kL (q9.add 1) h2) fun x13 =>
        locks_find x13 a1 h2 fun r4 h17 =>
        if (decide (r4 ≥ 0)) = true then
          k4 true h17
        else
          rd a0 fun q10 =>
          rd (ld kL (q10.add 2) h17) fun x14 =>
          locks_find x14 a1 h17 fun r5 h18 =>
          k4 (decide (r5 ≥ 0)) h18
      else
        k4 false h2) fun s4 h16 =>
    if s4 = true then
      k2 (some (26, .int .i64 41) : IF) h16
    else
      k2 s1 h16) fun s2 h3 =>
  if (!s2.isNone) = true then
    al 84 (k83.enc (S83.mk a1 s2)) h3 fun q1 h4 =>
    Q (false, (some (82, .pointer (some q1)) : IF)) h4
  else
    al 86 (k85.enc z85) h3 fun q2 h5 =>
    rd (st k85 q2 (S85.mk a1 r1.1) h5) fun h6 =>
    jn (fun (k3 : Bool → H → Prop) =>
      rd a0 fun q7 =>
      rd (ld kL (q7.add 1) h6) fun x9 =>
      rd (ld k85 q2 h6) fun x10 =>
      slices_ContainsFunc___locks_claim_locks_claim_ x9 (some ⟨Fn.func 45, List.toArray [k85.val x10], List.toArray []⟩ : FV) h6 fun r2 h14 =>
      if r2 = true then
        k3 true h14
      else
        rd a0 fun q8 =>
        rd (ld kL (q8.add 2) h14) fun x11 =>
        rd (ld k85 q2 h14) fun x12 =>
        slices_ContainsFunc___locks_claim_locks_claim_ x11 (some ⟨Fn.func 45, List.toArray [k85.val x12], List.toArray []⟩ : FV) h14 fun r3 h15 =>
        k3 r3 h15) fun s3 h7 =>
    if s3 = true then
      rd a0 fun q3 =>
      rd (ld kL (q3.add 2) h7) fun x1 =>
      rd (ld k85 q2 h7) fun x2 =>
      bs 86 1 (k85.enc x2) h7 fun x3 h8 =>
      ap k85.n 16 86 (k85.enc z85) x1 x3 h8 fun x4 h9 =>
      rd a0 fun q4 =>
      rd (st kL (q4.add 2) x4 h9) fun h10 =>
      Q (false, none) h10
    else
      rd a0 fun q5 =>
      rd (ld kL (q5.add 1) h7) fun x5 =>
      rd (ld k85 q2 h7) fun x6 =>
      bs 86 1 (k85.enc x6) h7 fun x7 h11 =>
      ap k85.n 16 86 (k85.enc z85) x5 x7 h11 fun x8 h12 =>
      rd a0 fun q6 =>
      rd (st kL (q6.add 1) x8 h12) fun h13 =>
      Q (true, none) h13
theorem locks_Manager_Ask.sound {a0 : Option Addr} {a1 : Int} {a2 : Sl} {h : H} {Q : (Bool × IF) → H → Prop} (hF : locks_Manager_Ask a0 a1 a2 h Q) :
    CallsH Try.prog 14 (List.toArray (α := Value) [.pointer a0, .int .i64 a1, Sl.val a2]) h fun v h' => ∃ x : Bool × IF, v = .tuple #[.bool x.1, IF.val x.2] ∧ Q x h' := by
  refine CallsH.of_body Try.func14 rfl 87 rfl rfl ?_
  refine WP.seq ?_
  refine WP.region ?_
  refine EvK.pure (v := .bool false) (w_none rfl) rfl rfl (f_assign rfl rfl) ?_
  refine EvK.pure (v := IF.val none) (w_none rfl) rfl rfl (f_assign rfl rfl) ?_
  refine EvK.nil ?_
  refine WP.seq ?_
  refine WP.region ?_
  refine EvK.pure (v := .pointer a0) (w_none rfl) rfl rfl (f_move rfl rfl) ?_
  refine EvK.pure (v := Sl.val a2) (w_none rfl) rfl rfl (f_move rfl rfl) ?_
  refine EvK.call (w_none rfl) rfl rfl (enterH Try.func42 rfl rfl rfl rfl (locks_Manager_set.sound hF)) ?_
  rintro _ h1 ⟨r1, rfl, hF⟩
  refine EvK.pure (v := .tuple #[.map r1.1, IF.val r1.2]) (w_none rfl) rfl rfl (f_move rfl rfl) ?_
  refine EvK.pure (v := .map r1.1) (w_none rfl) rfl rfl (f_extract (vs := #[.map r1.1, IF.val r1.2]) rfl rfl rfl) ?_
  refine EvK.pure (v := IF.val r1.2) (w_none rfl) rfl rfl (f_extract (vs := #[.map r1.1, IF.val r1.2]) rfl rfl rfl) ?_
  refine EvK.pure (v := .map r1.1) (w_none rfl) rfl rfl (f_assign rfl rfl) ?_
  refine EvK.pure (v := IF.val r1.2) (w_none rfl) rfl rfl (f_assign rfl rfl) ?_
  refine EvK.nil ?_
  refine WP.joinF (fun (s1 : IF) => [(9, IF.val s1), (0, .pointer a0), (1, .int .i64 a1), (8, .map r1.1)]) hF ?_ ?_
  · intro s1 E0 h2 hF
    refine WP.joinF (fun (s2 : IF) => [(9, IF.val s2), (0, .pointer a0), (1, .int .i64 a1), (8, .map r1.1)]) hF ?_ ?_
    · intro s2 E0 h3 hF
      refine WP.seq ?_
      refine WP.seq ?_
      refine WP.region ?_
      refine EvK.pure (v := IF.val s2) (w_none rfl) rfl rfl (f_move rfl rfl) ?_
      refine EvK.pure (v := .bool (!s2.isNone)) (w_none rfl) rfl rfl (f_ineqn (a := s2) Try.underlying37 rfl rfl) ?_
      refine EvK.nil ?_
      rcases ite_inv hF with ⟨c1, hF⟩ | ⟨c1, hF⟩
      · refine WP.cond_true _ rfl c1 ?_
        refine WP.seq ?_
        refine WP.region ?_
        refine EvK.pure (v := .int .i64 a1) (w_none rfl) rfl rfl (f_move rfl rfl) ?_
        refine EvK.pure (v := IF.val s2) (w_none rfl) rfl rfl (f_move rfl rfl) ?_
        refine EvK.pure (v := k83.val (S83.mk a1 s2)) (w_none rfl) rfl rfl (f_build (cells := k83.enc (S83.mk a1 s2)) (pl := [(0, (kI .i64).enc a1), (1, kIf.enc s2)]) st84 rfl (by show [(0, (.int .i64 a1 : Value).cells.toList), (1, (IF.val s2 : Value).cells.toList)] = _; simp only [if_cells, fn_cells]; rfl) rfl) ?_
        refine EvK.alloc (w_none rfl) rfl rfl (f_boxF (v := k83.val (S83.mk a1 s2)) rfl rfl rfl hF) ?_
        rintro _ h4 ⟨q1, rfl, hF⟩
        refine EvK.pure (v := IF.val (some (82, .pointer (some q1)) : IF)) (w_none rfl) rfl rfl (f_makeIf Try.underlying82 rfl rfl rfl) ?_
        refine EvK.pure (v := .bool false) (w_none rfl) rfl rfl (f_assign rfl rfl) ?_
        refine EvK.pure (v := IF.val (some (82, .pointer (some q1)) : IF)) (w_none rfl) rfl rfl (f_assign rfl rfl) ?_
        refine EvK.nil ?_
        refine WP.ret ?_
        exact Ret.mk (vs := [.bool false, IF.val (some (82, .pointer (some q1)) : IF)]) (false, (some (82, .pointer (some q1)) : IF)) ⟨rfl, rfl, trivial⟩ rfl hF
      · refine WP.cond_false _ rfl c1 ?_
        refine WP.skip ?_
        refine WP.seq ?_
        refine WP.region ?_
        refine EvK.pure (v := .int .i64 a1) (w_none rfl) rfl rfl (f_move rfl rfl) ?_
        refine EvK.pure (v := .map r1.1) (w_none rfl) rfl rfl (f_move rfl rfl) ?_
        refine EvK.pure (v := k85.val (S85.mk a1 r1.1)) (w_none rfl) rfl rfl (f_build (cells := k85.enc (S85.mk a1 r1.1)) st86 rfl rfl rfl) ?_
        refine EvK.alloc (w_none rfl) rfl rfl (f_allocF zero86 rfl rfl hF) ?_
        rintro _ h5 ⟨q2, rfl, hF⟩
        obtain ⟨h6, hs1, hF⟩ := hF
        refine EvK.runN (w_none rfl) rfl (f_store k85 ty86.size (z := (S85.mk a1 r1.1)) rfl rfl rfl hs1) ?_
        rintro _ _ ⟨rfl, rfl⟩
        refine EvK.nil ?_
        refine WP.seq ?_
        refine WP.joinF (fun (s3 : Bool) => [(66, .bool s3), (0, .pointer a0), (10, .pointer (some q2))]) hF ?_ ?_
        · intro s3 E0 h7 hF
          rcases ite_inv hF with ⟨c2, hF⟩ | ⟨c2, hF⟩
          · refine WP.cond_true _ rfl c2 ?_
            refine WP.seq ?_
            refine WP.draw mixed [.pure, .pure, .pure, .pure, .read, .read, .alloc, .eff [], .pure, .pure, .eff []] [[], [], [1], [1, 2], [1, 2, 3], [], [5], [1, 2, 3, 4, 5, 6], [0, 1, 2, 3, 4, 5, 6, 7], [0, 1, 2, 3, 4, 5, 6, 7, 8], [0, 1, 2, 3, 4, 5, 6, 7, 8, 9]] [0, 1, 2, 3, 4, 5, 6, 7, 8, 9, 10] (by kernel_rfl) (by kernel_rfl) ?_
            refine EvI.pure (v := .pointer a0) rfl rfl (w_none rfl) rfl (f_move rfl rfl) ?_
            refine EvI.pure (v := .pointer a0) rfl rfl (w_none rfl) rfl (f_move rfl rfl) ?_
            obtain ⟨q3, hq1, hF⟩ := hF
            refine EvI.pure (v := .pointer (some q3)) rfl rfl (w_none rfl) rfl (f_nilCheck rfl (congrArg Value.pointer hq1)) ?_
            refine EvI.pure (v := .pointer (some (q3.add 2))) rfl rfl (w_none rfl) rfl (f_fieldAddr fd77_2 rfl rfl) ?_
            obtain ⟨x1, hx1, hF⟩ := hF
            refine EvI.read (v := Sl.val x1) rfl rfl (w_none rfl) rfl (f_load kL ty75 rfl rfl hx1 rfl) ?_
            obtain ⟨x2, hx2, hF⟩ := hF
            refine EvI.read (v := k85.val x2) rfl rfl (w_none rfl) rfl (f_load k85 ty86 rfl rfl hx2 rfl) ?_
            refine EvI.alloc rfl rfl (w_none rfl) rfl (f_buildSliceF Try.underlying75 el86 (by decide) rfl rfl rfl hF) ?_
            rintro _ h8 ⟨x3, rfl, hF⟩
            refine EvI.run rfl rfl (w_none rfl) rfl (f_appendE (s := x1) (x := x3) Try.underlying75 el86 rfl rfl rfl hF) ?_
            rintro _ h9 ⟨x4, rfl, hF⟩
            refine ⟨⟨chk_no rfl, chk_no rfl, trivial⟩, ?_⟩
            obtain ⟨q4, hq2, hF⟩ := hF
            refine EvI.pure (v := .pointer (some q4)) rfl rfl (w_none rfl) rfl (f_nilCheck rfl (congrArg Value.pointer hq2)) ?_
            refine EvI.pure (v := .pointer (some (q4.add 2))) rfl rfl (w_none rfl) rfl (f_fieldAddr fd77_2 rfl rfl) ?_
            obtain ⟨h10, hs2, hF⟩ := hF
            refine EvI.runN rfl rfl (w_none rfl) rfl (f_store kL ty75.size (z := x4) rfl rfl rfl hs2) ?_
            rintro _ _ ⟨rfl, rfl⟩
            refine ⟨⟨chk_no rfl, chk_no rfl, trivial⟩, ?_⟩
            refine EvI.nil ?_
            refine WP.seq ?_
            refine WP.region ?_
            refine EvK.pure (v := .bool false) (w_none rfl) rfl rfl (f_assign rfl rfl) ?_
            refine EvK.pure (v := IF.val none) (w_none rfl) rfl rfl (f_assign rfl rfl) ?_
            refine EvK.nil ?_
            refine WP.ret ?_
            exact Ret.mk (vs := [.bool false, IF.val none]) (false, none) ⟨rfl, rfl, trivial⟩ rfl hF
          · refine WP.cond_false _ rfl c2 ?_
            refine WP.skip ?_
            refine WP.seq ?_
            refine WP.draw mixed [.pure, .pure, .pure, .pure, .read, .read, .alloc, .eff [], .pure, .pure, .eff []] [[], [], [1], [1, 2], [1, 2, 3], [], [5], [1, 2, 3, 4, 5, 6], [0, 1, 2, 3, 4, 5, 6, 7], [0, 1, 2, 3, 4, 5, 6, 7, 8], [0, 1, 2, 3, 4, 5, 6, 7, 8, 9]] [0, 1, 2, 3, 4, 5, 6, 7, 8, 9, 10] (by kernel_rfl) (by kernel_rfl) ?_
            refine EvI.pure (v := .pointer a0) rfl rfl (w_none rfl) rfl (f_move rfl rfl) ?_
            refine EvI.pure (v := .pointer a0) rfl rfl (w_none rfl) rfl (f_move rfl rfl) ?_
            obtain ⟨q5, hq3, hF⟩ := hF
            refine EvI.pure (v := .pointer (some q5)) rfl rfl (w_none rfl) rfl (f_nilCheck rfl (congrArg Value.pointer hq3)) ?_
            refine EvI.pure (v := .pointer (some (q5.add 1))) rfl rfl (w_none rfl) rfl (f_fieldAddr fd77_1 rfl rfl) ?_
            obtain ⟨x5, hx3, hF⟩ := hF
            refine EvI.read (v := Sl.val x5) rfl rfl (w_none rfl) rfl (f_load kL ty75 rfl rfl hx3 rfl) ?_
            obtain ⟨x6, hx4, hF⟩ := hF
            refine EvI.read (v := k85.val x6) rfl rfl (w_none rfl) rfl (f_load k85 ty86 rfl rfl hx4 rfl) ?_
            refine EvI.alloc rfl rfl (w_none rfl) rfl (f_buildSliceF Try.underlying75 el86 (by decide) rfl rfl rfl hF) ?_
            rintro _ h11 ⟨x7, rfl, hF⟩
            refine EvI.run rfl rfl (w_none rfl) rfl (f_appendE (s := x5) (x := x7) Try.underlying75 el86 rfl rfl rfl hF) ?_
            rintro _ h12 ⟨x8, rfl, hF⟩
            refine ⟨⟨chk_no rfl, chk_no rfl, trivial⟩, ?_⟩
            obtain ⟨q6, hq4, hF⟩ := hF
            refine EvI.pure (v := .pointer (some q6)) rfl rfl (w_none rfl) rfl (f_nilCheck rfl (congrArg Value.pointer hq4)) ?_
            refine EvI.pure (v := .pointer (some (q6.add 1))) rfl rfl (w_none rfl) rfl (f_fieldAddr fd77_1 rfl rfl) ?_
            obtain ⟨h13, hs3, hF⟩ := hF
            refine EvI.runN rfl rfl (w_none rfl) rfl (f_store kL ty75.size (z := x8) rfl rfl rfl hs3) ?_
            rintro _ _ ⟨rfl, rfl⟩
            refine ⟨⟨chk_no rfl, chk_no rfl, trivial⟩, ?_⟩
            refine EvI.nil ?_
            refine WP.seq ?_
            refine WP.region ?_
            refine EvK.pure (v := .bool true) (w_none rfl) rfl rfl (f_assign rfl rfl) ?_
            refine EvK.pure (v := IF.val none) (w_none rfl) rfl rfl (f_assign rfl rfl) ?_
            refine EvK.nil ?_
            refine WP.ret ?_
            exact Ret.mk (vs := [.bool true, IF.val none]) (true, none) ⟨rfl, rfl, trivial⟩ rfl hF
        · intro k3 hF
          refine WP.draw mixed [.pure, .pure, .pure, .read, .read, .pure, .eff [], .pure, .pure, .pure, .pure, .read, .read, .pure, .eff [], .pure] [[], [0], [0, 1], [0, 1, 2], [], [4], [0, 1, 2, 3, 4, 5], [0, 1, 2, 3, 4, 5, 6], [0, 1, 2, 3, 4, 5, 6, 7], [0, 1, 2, 3, 4, 5, 6, 7, 8], [0, 1, 2, 3, 4, 5, 6, 7, 8, 9], [0, 1, 2, 3, 4, 5, 6, 7, 8, 9, 10], [0, 1, 2, 3, 4, 5, 6, 7], [0, 1, 2, 3, 4, 5, 6, 7, 12], [0, 1, 2, 3, 4, 5, 6, 7, 8, 9, 10, 11, 12, 13], [0, 1, 2, 3, 4, 5, 6, 7, 8, 9, 10, 11, 12, 13, 14]] [0, 1, 2, 3, 4, 5, 6, 7, 8, 9, 10, 11, 12, 13, 14, 15] (by kernel_rfl) (by kernel_rfl) ?_
          refine EvI.pure (v := .pointer a0) rfl rfl (w_none rfl) rfl (f_move rfl rfl) ?_
          obtain ⟨q7, hq5, hF⟩ := hF
          refine EvI.pure (v := .pointer (some q7)) rfl rfl (w_none rfl) rfl (f_nilCheck rfl (congrArg Value.pointer hq5)) ?_
          refine EvI.pure (v := .pointer (some (q7.add 1))) rfl rfl (w_none rfl) rfl (f_fieldAddr fd77_1 rfl rfl) ?_
          obtain ⟨x9, hx5, hF⟩ := hF
          refine EvI.read (v := Sl.val x9) rfl rfl (w_none rfl) rfl (f_load kL ty75 rfl rfl hx5 rfl) ?_
          obtain ⟨x10, hx6, hF⟩ := hF
          refine EvI.read (v := k85.val x10) rfl rfl (w_none rfl) rfl (f_load k85 ty86 rfl rfl hx6 rfl) ?_
          refine EvI.pure (v := FV.val (some ⟨Fn.func 45, List.toArray [k85.val x10], List.toArray []⟩ : FV)) rfl rfl (w_none rfl) rfl (f_makeFunc (vs := [k85.val x10]) (us := []) rfl rfl rfl) ?_
          refine EvI.call rfl rfl (w_none rfl) rfl (enterH (vs := [Sl.val x9, FV.val (some ⟨Fn.func 45, List.toArray [k85.val x10], List.toArray []⟩ : FV)]) Try.func44 rfl rfl rfl rfl (slices_ContainsFunc___locks_claim_locks_claim_.sound hF)) ?_
          rintro _ h14 ⟨r2, rfl, hF⟩
          refine ⟨⟨chk_no rfl, chk_no rfl, trivial⟩, ?_⟩
          refine EvI.pure (v := .bool r2) rfl rfl (w_none rfl) rfl (f_move rfl rfl) ?_
          rcases ite_inv hF with ⟨c3, hF⟩ | ⟨c3, hF⟩
          · refine EvI.not rfl (w_not rfl rfl c3) rfl ?_
            refine EvI.not rfl (w_not rfl rfl c3) rfl ?_
            refine EvI.not rfl (w_not rfl rfl c3) rfl ?_
            refine EvI.not rfl (w_not rfl rfl c3) rfl ?_
            refine EvI.not rfl (w_not rfl rfl c3) rfl ?_
            refine EvI.not rfl (w_not rfl rfl c3) rfl ?_
            refine EvI.not rfl (w_not rfl rfl c3) rfl ?_
            refine EvI.pure (v := .bool true) rfl rfl (w_none rfl) rfl (f_pickT rfl rfl c3 rfl) ?_
            refine EvI.nil ?_
            exact KE.mk true ⟨rfl, rfl, rfl, trivial⟩ hF
          · refine EvI.pure (v := .pointer a0) rfl rfl (w_some rfl rfl c3) rfl (f_move rfl rfl) ?_
            obtain ⟨q8, hq6, hF⟩ := hF
            refine EvI.pure (v := .pointer (some q8)) rfl rfl (w_some rfl rfl c3) rfl (f_nilCheck rfl (congrArg Value.pointer hq6)) ?_
            refine EvI.pure (v := .pointer (some (q8.add 2))) rfl rfl (w_some rfl rfl c3) rfl (f_fieldAddr fd77_2 rfl rfl) ?_
            obtain ⟨x11, hx7, hF⟩ := hF
            refine EvI.read (v := Sl.val x11) rfl rfl (w_some rfl rfl c3) rfl (f_load kL ty75 rfl rfl hx7 rfl) ?_
            obtain ⟨x12, hx8, hF⟩ := hF
            refine EvI.read (v := k85.val x12) rfl rfl (w_some rfl rfl c3) rfl (f_load k85 ty86 rfl rfl hx8 rfl) ?_
            refine EvI.pure (v := FV.val (some ⟨Fn.func 45, List.toArray [k85.val x12], List.toArray []⟩ : FV)) rfl rfl (w_some rfl rfl c3) rfl (f_makeFunc (vs := [k85.val x12]) (us := []) rfl rfl rfl) ?_
            refine EvI.call rfl rfl (w_some rfl rfl c3) rfl (enterH (vs := [Sl.val x11, FV.val (some ⟨Fn.func 45, List.toArray [k85.val x12], List.toArray []⟩ : FV)]) Try.func44 rfl rfl rfl rfl (slices_ContainsFunc___locks_claim_locks_claim_.sound hF)) ?_
            rintro _ h15 ⟨r3, rfl, hF⟩
            refine ⟨⟨chk_no rfl, chk_no rfl, chk_no rfl, chk_no rfl, trivial⟩, ?_⟩
            refine EvI.pure (v := .bool r3) rfl rfl (w_none rfl) rfl (f_pickF rfl rfl c3 rfl) ?_
            refine EvI.nil ?_
            exact KE.mk r3 ⟨rfl, rfl, rfl, trivial⟩ hF
    · intro k2 hF
      refine WP.joinF (fun (s4 : Bool) => [(39, .bool s4), (0, .pointer a0), (1, .int .i64 a1), (8, .map r1.1), (9, IF.val s1)]) hF ?_ ?_
      · intro s4 E0 h16 hF
        rcases ite_inv hF with ⟨c4, hF⟩ | ⟨c4, hF⟩
        · refine WP.cond_true _ rfl c4 ?_
          refine WP.region ?_
          refine EvK.pure (v := IF.val (some (26, .int .i64 41) : IF)) (w_none rfl) rfl rfl (f_makeIf Try.underlying26 rfl rfl rfl) ?_
          refine EvK.pure (v := IF.val (some (26, .int .i64 41) : IF)) (w_none rfl) rfl rfl (f_assign rfl rfl) ?_
          refine EvK.nil ?_
          exact KE.mk (some (26, .int .i64 41) : IF) ⟨rfl, rfl, rfl, rfl, trivial⟩ hF
        · refine WP.cond_false _ rfl c4 ?_
          refine WP.skip ?_
          exact KE.mk s1 ⟨rfl, rfl, rfl, rfl, trivial⟩ hF
      · intro k4 hF
        refine WP.region ?_
        refine EvK.pure (v := IF.val s1) (w_none rfl) rfl rfl (f_move rfl rfl) ?_
        refine EvK.pure (v := .bool s1.isNone) (w_none rfl) rfl rfl (f_ieqln (a := s1) Try.underlying37 rfl rfl) ?_
        refine EvK.pure (v := .bool s1.isNone) (w_none rfl) rfl rfl (f_move rfl rfl) ?_
        rcases ite_inv hF with ⟨c5, hF⟩ | ⟨c5, hF⟩
        · refine EvK.pure (v := .pointer a0) (w_some rfl rfl c5) rfl rfl (f_move rfl rfl) ?_
          obtain ⟨q9, hq7, hF⟩ := hF
          refine EvK.pure (v := .pointer (some q9)) (w_some rfl rfl c5) rfl rfl (f_nilCheck rfl (congrArg Value.pointer hq7)) ?_
          refine EvK.pure (v := .pointer (some (q9.add 1))) (w_some rfl rfl c5) rfl rfl (f_fieldAddr fd77_1 rfl rfl) ?_
          obtain ⟨x13, hx9, hF⟩ := hF
          refine EvK.read (v := Sl.val x13) (w_some rfl rfl c5) rfl rfl (f_load kL ty75 rfl rfl hx9 rfl) ?_
          refine EvK.pure (v := .int .i64 a1) (w_some rfl rfl c5) rfl rfl (f_move rfl rfl) ?_
          refine EvK.call (w_some rfl rfl c5) rfl rfl (enterH Try.func43 rfl rfl rfl rfl (locks_find.sound hF)) ?_
          rintro _ h17 ⟨r4, rfl, hF⟩
          refine EvK.pure (v := .bool (decide (r4 ≥ 0))) (w_some rfl rfl c5) rfl rfl (f_geq rfl rfl rfl) ?_
          refine EvK.pure (v := .bool (decide (r4 ≥ 0))) (w_some rfl rfl c5) rfl rfl (f_move rfl rfl) ?_
          rcases ite_inv hF with ⟨c6, hF⟩ | ⟨c6, hF⟩
          · refine EvK.not (w_not rfl rfl c6) rfl rfl ?_
            refine EvK.not (w_not rfl rfl c6) rfl rfl ?_
            refine EvK.not (w_not rfl rfl c6) rfl rfl ?_
            refine EvK.not (w_not rfl rfl c6) rfl rfl ?_
            refine EvK.not (w_not rfl rfl c6) rfl rfl ?_
            refine EvK.not (w_not rfl rfl c6) rfl rfl ?_
            refine EvK.not (w_not rfl rfl c6) rfl rfl ?_
            refine EvK.pure (v := .bool true) (w_some rfl rfl c5) rfl rfl (f_pickT rfl rfl c6 rfl) ?_
            refine EvK.pure (v := .bool true) (w_none rfl) rfl rfl (f_pickT rfl rfl c5 rfl) ?_
            refine EvK.nil ?_
            exact KE.mk true ⟨rfl, rfl, rfl, rfl, rfl, trivial⟩ hF
          · refine EvK.pure (v := .pointer a0) (w_some rfl rfl c6) rfl rfl (f_move rfl rfl) ?_
            obtain ⟨q10, hq8, hF⟩ := hF
            refine EvK.pure (v := .pointer (some q10)) (w_some rfl rfl c6) rfl rfl (f_nilCheck rfl (congrArg Value.pointer hq8)) ?_
            refine EvK.pure (v := .pointer (some (q10.add 2))) (w_some rfl rfl c6) rfl rfl (f_fieldAddr fd77_2 rfl rfl) ?_
            obtain ⟨x14, hx10, hF⟩ := hF
            refine EvK.read (v := Sl.val x14) (w_some rfl rfl c6) rfl rfl (f_load kL ty75 rfl rfl hx10 rfl) ?_
            refine EvK.pure (v := .int .i64 a1) (w_some rfl rfl c6) rfl rfl (f_move rfl rfl) ?_
            refine EvK.call (w_some rfl rfl c6) rfl rfl (enterH Try.func43 rfl rfl rfl rfl (locks_find.sound hF)) ?_
            rintro _ h18 ⟨r5, rfl, hF⟩
            refine EvK.pure (v := .bool (decide (r5 ≥ 0))) (w_some rfl rfl c6) rfl rfl (f_geq rfl rfl rfl) ?_
            refine EvK.pure (v := .bool (decide (r5 ≥ 0))) (w_some rfl rfl c5) rfl rfl (f_pickF rfl rfl c6 rfl) ?_
            refine EvK.pure (v := .bool (decide (r5 ≥ 0))) (w_none rfl) rfl rfl (f_pickT rfl rfl c5 rfl) ?_
            refine EvK.nil ?_
            exact KE.mk (decide (r5 ≥ 0)) ⟨rfl, rfl, rfl, rfl, rfl, trivial⟩ hF
        · refine EvK.not (w_not rfl rfl c5) rfl rfl ?_
          refine EvK.not (w_not rfl rfl c5) rfl rfl ?_
          refine EvK.not (w_not rfl rfl c5) rfl rfl ?_
          refine EvK.not (w_not rfl rfl c5) rfl rfl ?_
          refine EvK.not (w_not rfl rfl c5) rfl rfl ?_
          refine EvK.not (w_not rfl rfl c5) rfl rfl ?_
          refine EvK.not (w_not rfl rfl c5) rfl rfl ?_
          refine EvK.not (w_not rfl rfl c5) rfl rfl ?_
          refine EvK.not (w_undef rfl rfl) rfl rfl ?_
          refine EvK.not (w_undef rfl rfl) rfl rfl ?_
          refine EvK.not (w_undef rfl rfl) rfl rfl ?_
          refine EvK.not (w_undef rfl rfl) rfl rfl ?_
          refine EvK.not (w_undef rfl rfl) rfl rfl ?_
          refine EvK.not (w_undef rfl rfl) rfl rfl ?_
          refine EvK.not (w_undef rfl rfl) rfl rfl ?_
          refine EvK.not (w_not rfl rfl c5) rfl rfl ?_
          refine EvK.pure (v := .bool false) (w_none rfl) rfl rfl (f_pickF rfl rfl c5 rfl) ?_
          refine EvK.nil ?_
          exact KE.mk false ⟨rfl, rfl, rfl, rfl, rfl, trivial⟩ hF
  · intro k1 hF
    refine WP.seq ?_
    refine WP.region ?_
    refine EvK.pure (v := .int .i64 a1) (w_none rfl) rfl rfl (f_move rfl rfl) ?_
    refine EvK.pure (v := .bool (decide (a1 < 0))) (w_none rfl) rfl rfl (f_lss rfl rfl rfl) ?_
    refine EvK.nil ?_
    rcases ite_inv hF with ⟨c7, hF⟩ | ⟨c7, hF⟩
    · refine WP.cond_true _ rfl c7 ?_
      refine WP.region ?_
      refine EvK.pure (v := IF.val (some (26, .int .i64 1) : IF)) (w_none rfl) rfl rfl (f_makeIf Try.underlying26 rfl rfl rfl) ?_
      refine EvK.pure (v := IF.val (some (26, .int .i64 1) : IF)) (w_none rfl) rfl rfl (f_assign rfl rfl) ?_
      refine EvK.nil ?_
      exact KE.mk (some (26, .int .i64 1) : IF) ⟨rfl, rfl, rfl, rfl, trivial⟩ hF
    · refine WP.cond_false _ rfl c7 ?_
      refine WP.skip ?_
      exact KE.mk r1.2 ⟨rfl, rfl, rfl, rfl, trivial⟩ hF
end Go.Proofs.Ytgmihbchcmjmdaa

namespace Go.Proofs.Ytgmihbchcmjmdaa
open Go Go.Tr
set_option linter.unusedVariables false
set_option maxRecDepth 100000
set_option maxHeartbeats 400000
/-- slices.Delete[[]spate/locks.claim,spate/locks.claim] -/
def slices_Delete___locks_claim_locks_claim_ (a0 : Sl) (a1 : Int) (a2 : Int) (h : H) (Q : Sl → H → Prop) : Prop :=
  rd (slx 2 a0 (some a1) (some a2) (some (a0.len : Int))) fun x1 =>
  if (a1 == a2) = true then
    Q a0 h
  else
    rd (slx 2 a0 none (some a1) none) fun x2 =>
    rd (slx 2 a0 (some a2) none none) fun x3 =>
    ap k85.n 16 86 (k85.enc z85) x2 x3 h fun x4 h1 =>
    rd (slx 2 x4 (some (x4.len : Int)) (some (a0.len : Int)) none) fun x5 =>
    rd (clr (k85.enc z85) x5 h1) fun h2 =>
    Q x4 h2
theorem slices_Delete___locks_claim_locks_claim_.sound {a0 : Sl} {a1 : Int} {a2 : Int} {h : H} {Q : Sl → H → Prop} (hF : slices_Delete___locks_claim_locks_claim_ a0 a1 a2 h Q) :
    CallsH Try.prog 47 (List.toArray (α := Value) [Sl.val a0, .int .i64 a1, .int .i64 a2]) h fun v h' => ∃ x : Sl, v = Sl.val x ∧ Q x h' := by
  refine CallsH.of_body Try.func47 rfl 33 rfl rfl ?_
  refine WP.seq ?_
  refine WP.region ?_
  refine EvK.pure (v := Sl.val Sl.nil) (w_none rfl) rfl rfl (f_assign rfl rfl) ?_
  refine EvK.nil ?_
  refine WP.seq ?_
  refine WP.region ?_
  refine EvK.pure (v := Sl.val a0) (w_none rfl) rfl rfl (f_move rfl rfl) ?_
  refine EvK.pure (v := .int .i64 a1) (w_none rfl) rfl rfl (f_move rfl rfl) ?_
  refine EvK.pure (v := .int .i64 a2) (w_none rfl) rfl rfl (f_move rfl rfl) ?_
  refine EvK.pure (v := Sl.val a0) (w_none rfl) rfl rfl (f_move rfl rfl) ?_
  refine EvK.pure (v := .int .i64 (a0.len : Int)) (w_none rfl) rfl rfl (f_lenL (s := a0) Try.underlying75 rfl rfl) ?_
  obtain ⟨x1, hx1, hF⟩ := hF
  refine EvK.pure (v := Sl.val x1) (w_none rfl) rfl rfl (f_slice Try.underlying75 ty86.size rfl rfl (bndV_some rfl) (bndV_some rfl) (bndV_some rfl) hx1) ?_
  refine EvK.nil ?_
  refine WP.seq ?_
  refine WP.seq ?_
  refine WP.region ?_
  refine EvK.pure (v := .int .i64 a1) (w_none rfl) rfl rfl (f_move rfl rfl) ?_
  refine EvK.pure (v := .int .i64 a2) (w_none rfl) rfl rfl (f_move rfl rfl) ?_
  refine EvK.pure (v := .bool (a1 == a2)) (w_none rfl) rfl rfl (f_eql rfl rfl rfl) ?_
  refine EvK.nil ?_
  rcases ite_inv hF with ⟨c1, hF⟩ | ⟨c1, hF⟩
  · refine WP.cond_true _ rfl c1 ?_
    refine WP.seq ?_
    refine WP.region ?_
    refine EvK.pure (v := Sl.val a0) (w_none rfl) rfl rfl (f_move rfl rfl) ?_
    refine EvK.pure (v := Sl.val a0) (w_none rfl) rfl rfl (f_assign rfl rfl) ?_
    refine EvK.nil ?_
    refine WP.ret ?_
    exact Ret.mk (vs := [Sl.val a0]) a0 ⟨rfl, trivial⟩ rfl hF
  · refine WP.cond_false _ rfl c1 ?_
    refine WP.skip ?_
    refine WP.seq ?_
    refine WP.region ?_
    refine EvK.pure (v := Sl.val a0) (w_none rfl) rfl rfl (f_move rfl rfl) ?_
    refine EvK.pure (v := .int .i64 (a0.len : Int)) (w_none rfl) rfl rfl (f_lenL (s := a0) Try.underlying75 rfl rfl) ?_
    refine EvK.pure (v := .int .i64 (a0.len : Int)) (w_none rfl) rfl rfl (f_assign rfl rfl) ?_
    refine EvK.nil ?_
    refine WP.seq ?_
    refine WP.draw mixed [.pure, .pure, .pure, .pure, .pure, .pure, .eff [], .pure] [[], [], [0, 1], [], [], [3, 4], [0, 1, 2, 3, 4, 5], [0, 1, 2, 3, 4, 5, 6]] [0, 1, 2, 3, 4, 5, 6, 7] (by kernel_rfl) (by kernel_rfl) ?_
    refine EvI.pure (v := Sl.val a0) rfl rfl (w_none rfl) rfl (f_move rfl rfl) ?_
    refine EvI.pure (v := .int .i64 a1) rfl rfl (w_none rfl) rfl (f_move rfl rfl) ?_
    obtain ⟨x2, hx2, hF⟩ := hF
    refine EvI.pure (v := Sl.val x2) rfl rfl (w_none rfl) rfl (f_slice Try.underlying75 ty86.size rfl rfl bndV_none (bndV_some rfl) bndV_none hx2) ?_
    refine EvI.pure (v := Sl.val a0) rfl rfl (w_none rfl) rfl (f_move rfl rfl) ?_
    refine EvI.pure (v := .int .i64 a2) rfl rfl (w_none rfl) rfl (f_move rfl rfl) ?_
    obtain ⟨x3, hx3, hF⟩ := hF
    refine EvI.pure (v := Sl.val x3) rfl rfl (w_none rfl) rfl (f_slice Try.underlying75 ty86.size rfl rfl (bndV_some rfl) bndV_none bndV_none hx3) ?_
    refine EvI.run rfl rfl (w_none rfl) rfl (f_appendE (s := x2) (x := x3) Try.underlying75 el86 rfl rfl rfl hF) ?_
    rintro _ h1 ⟨x4, rfl, hF⟩
    refine ⟨trivial, ?_⟩
    refine EvI.pure (v := Sl.val x4) rfl rfl (w_none rfl) rfl (f_assign rfl rfl) ?_
    refine EvI.nil ?_
    refine WP.seq ?_
    refine WP.region ?_
    refine EvK.pure (v := Sl.val x4) (w_none rfl) rfl rfl (f_move rfl rfl) ?_
    refine EvK.pure (v := Sl.val x4) (w_none rfl) rfl rfl (f_move rfl rfl) ?_
    refine EvK.pure (v := .int .i64 (x4.len : Int)) (w_none rfl) rfl rfl (f_lenL (s := x4) Try.underlying75 rfl rfl) ?_
    refine EvK.pure (v := .int .i64 (a0.len : Int)) (w_none rfl) rfl rfl (f_move rfl rfl) ?_
    obtain ⟨x5, hx4, hF⟩ := hF
    refine EvK.pure (v := Sl.val x5) (w_none rfl) rfl rfl (f_slice Try.underlying75 ty86.size rfl rfl (bndV_some rfl) (bndV_some rfl) bndV_none hx4) ?_
    obtain ⟨h2, hs1, hF⟩ := hF
    refine EvK.runN (w_none rfl) rfl (f_clear (s := x5) Try.underlying75 el86 rfl rfl hs1) ?_
    rintro _ _ ⟨rfl, rfl⟩
    refine EvK.nil ?_
    refine WP.seq ?_
    refine WP.region ?_
    refine EvK.pure (v := Sl.val x4) (w_none rfl) rfl rfl (f_move rfl rfl) ?_
    refine EvK.pure (v := Sl.val x4) (w_none rfl) rfl rfl (f_assign rfl rfl) ?_
    refine EvK.nil ?_
    refine WP.ret ?_
    exact Ret.mk (vs := [Sl.val x4]) x4 ⟨rfl, trivial⟩ rfl hF
end Go.Proofs.Ytgmihbchcmjmdaa

namespace Go.Proofs.Ytgmihbchcmjmdaa
open Go Go.Tr
set_option linter.unusedVariables false
set_option maxRecDepth 100000
set_option maxHeartbeats 400000
def locks_Manager_through.b1 (p0 : Option Addr) (p10 : Sl) (p11 : Int) (s : Sl × Sl × Int) (h : H) (K : (Sl × Sl × Int) ⊕ (Sl × Sl) → H → Prop) : Prop :=
  if (decide (s.2.2 < p11)) = true then
    jn (fun (k2 : (Sl × Sl) → H → Prop) =>
      rd (ixA 2 p10 s.2.2) fun q3 =>
      rd (ld k85 q3 h) fun x2 =>
      al 86 (k85.enc z85) h fun q4 h4 =>
      rd (st k85 q4 x2 h4) fun h5 =>
      jn (fun (k3 : Bool → H → Prop) =>
        rd p0 fun q7 =>
        rd (ld kL (q7.add 1) h5) fun x13 =>
        rd (ld k85 q4 h5) fun x14 =>
        slices_ContainsFunc___locks_claim_locks_claim_ x13 (some ⟨Fn.func 45, List.toArray [k85.val x14], List.toArray []⟩ : FV) h5 fun r1 h14 =>
        if r1 = true then
          k3 true h14
        else
          rd (ld k85 q4 h14) fun x15 =>
          slices_ContainsFunc___locks_claim_locks_claim_ s.1 (some ⟨Fn.func 45, List.toArray [k85.val x15], List.toArray []⟩ : FV) h14 fun r2 h15 =>
          k3 r2 h15) fun s3 h6 =>
      if s3 = true then
        rd (ld k85 q4 h6) fun x3 =>
        bs 86 1 (k85.enc x3) h6 fun x4 h7 =>
        ap k85.n 16 86 (k85.enc z85) s.1 x4 h7 fun x5 h8 =>
        k2 (x5, s.2.1) h8
      else
        rd p0 fun q5 =>
        rd (ld kL (q5.add 1) h6) fun x6 =>
        rd (ld k85 q4 h6) fun x7 =>
        bs 86 1 (k85.enc x7) h6 fun x8 h9 =>
        ap k85.n 16 86 (k85.enc z85) x6 x8 h9 fun x9 h10 =>
        rd p0 fun q6 =>
        rd (st kL (q6.add 1) x9 h10) fun h11 =>
        rd (ld (kI .i64) (q4.add 0) h11) fun x10 =>
        bs 3 1 ((kI .i64).enc x10) h11 fun x11 h12 =>
        ap (kI .i64).n 8 3 ((kI .i64).enc 0) s.2.1 x11 h12 fun x12 h13 =>
        k2 (s.1, x12) h13) fun s2 h3 =>
    K (.inl (s2.1, s2.2, IntKind.i64.wrap (s.2.2 + 1))) h3
  else
    K (.inr (s.1, s.2.1)) h
/-- (*spate/locks.Manager).through -/
def locks_Manager_through (a0 : Option Addr) (h : H) (Q : Sl → H → Prop) : Prop :=
  jn (fun (k1 : (Sl × Sl) → H → Prop) =>
    rd a0 fun q2 =>
    rd (ld kL (q2.add 2) h) fun x1 =>
    loopE (locks_Manager_through.b1 a0 x1 (x1.len : Int)) (Sl.nil, Sl.nil, 0) h (fun r3 hh => k1 r3 hh)) fun s1 h1 =>
  rd a0 fun q1 =>
  rd (st kL (q1.add 2) s1.1 h1) fun h2 =>
  Q s1.2 h2
theorem locks_Manager_through.sound {a0 : Option Addr} {h : H} {Q : Sl → H → Prop} (hF : locks_Manager_through a0 h Q) :
    CallsH Try.prog 48 (List.toArray (α := Value) [.pointer a0]) h fun v h' => ∃ x : Sl, v = Sl.val x ∧ Q x h' := by
  refine CallsH.of_body Try.func48 rfl 54 rfl rfl ?_
  refine WP.seq ?_
  refine WP.region ?_
  refine EvK.pure (v := Sl.val Sl.nil) (w_none rfl) rfl rfl (f_assign rfl rfl) ?_
  refine EvK.nil ?_
  refine WP.seq ?_
  refine WP.region ?_
  refine EvK.pure (v := Sl.val Sl.nil) (w_none rfl) rfl rfl (f_assign rfl rfl) ?_
  refine EvK.nil ?_
  refine WP.seq ?_
  refine WP.region ?_
  refine EvK.pure (v := Sl.val Sl.nil) (w_none rfl) rfl rfl (f_assign rfl rfl) ?_
  refine EvK.nil ?_
  refine WP.joinF (fun (s1 : Sl × Sl) => [(3, Sl.val s1.1), (4, Sl.val s1.2), (0, .pointer a0)]) hF ?_ ?_
  · intro s1 E0 h1 hF
    refine WP.seq ?_
    refine WP.region ?_
    refine EvK.pure (v := .pointer a0) (w_none rfl) rfl rfl (f_move rfl rfl) ?_
    refine EvK.pure (v := Sl.val s1.1) (w_none rfl) rfl rfl (f_move rfl rfl) ?_
    obtain ⟨q1, hq1, hF⟩ := hF
    refine EvK.pure (v := .pointer (some q1)) (w_none rfl) rfl rfl (f_nilCheck rfl (congrArg Value.pointer hq1)) ?_
    refine EvK.pure (v := .pointer (some (q1.add 2))) (w_none rfl) rfl rfl (f_fieldAddr fd77_2 rfl rfl) ?_
    obtain ⟨h2, hs1, hF⟩ := hF
    refine EvK.runN (w_none rfl) rfl (f_store kL ty75.size (z := s1.1) rfl rfl rfl hs1) ?_
    rintro _ _ ⟨rfl, rfl⟩
    refine EvK.nil ?_
    refine WP.seq ?_
    refine WP.region ?_
    refine EvK.pure (v := Sl.val s1.2) (w_none rfl) rfl rfl (f_move rfl rfl) ?_
    refine EvK.pure (v := Sl.val s1.2) (w_none rfl) rfl rfl (f_assign rfl rfl) ?_
    refine EvK.nil ?_
    refine WP.ret ?_
    exact Ret.mk (vs := [Sl.val s1.2]) s1.2 ⟨rfl, trivial⟩ rfl hF
  · intro k1 hF
    refine WP.seq ?_
    refine WP.region ?_
    refine EvK.pure (v := .pointer a0) (w_none rfl) rfl rfl (f_move rfl rfl) ?_
    obtain ⟨q2, hq2, hF⟩ := hF
    refine EvK.pure (v := .pointer (some q2)) (w_none rfl) rfl rfl (f_nilCheck rfl (congrArg Value.pointer hq2)) ?_
    refine EvK.pure (v := .pointer (some (q2.add 2))) (w_none rfl) rfl rfl (f_fieldAddr fd77_2 rfl rfl) ?_
    obtain ⟨x1, hx1, hF⟩ := hF
    refine EvK.read (v := Sl.val x1) (w_none rfl) rfl rfl (f_load kL ty75 rfl rfl hx1 rfl) ?_
    refine EvK.pure (v := .int .i64 (x1.len : Int)) (w_none rfl) rfl rfl (f_lenL (s := x1) Try.underlying75 rfl rfl) ?_
    refine EvK.pure (v := .int .i64 0) (w_none rfl) rfl rfl (f_move rfl rfl) ?_
    refine EvK.nil ?_
    refine WP.block ?_
    refine WP.loopF (fun (s2 : Sl × Sl × Int) => [(3, Sl.val s2.1), (4, Sl.val s2.2.1), (12, .int .i64 s2.2.2), (0, .pointer a0), (10, Sl.val x1), (11, .int .i64 (x1.len : Int))]) hF ⟨rfl, rfl, rfl, rfl, rfl, rfl, trivial⟩ ?_
    intro k2 s2 E0 h3 hF
    refine WP.seq ?_
    refine WP.region ?_
    refine EvK.pure (v := .bool (decide (s2.2.2 < (x1.len : Int)))) (w_none rfl) rfl rfl (f_lss rfl rfl rfl) ?_
    refine EvK.nil ?_
    refine WP.seq ?_
    rcases ite_inv hF with ⟨c1, hF⟩ | ⟨c1, hF⟩
    · refine WP.cond_true _ rfl c1 ?_
      refine WP.skip ?_
      refine WP.joinF (fun (s3 : Sl × Sl) => [(3, Sl.val s3.1), (4, Sl.val s3.2), (0, .pointer a0), (10, Sl.val x1), (11, .int .i64 (x1.len : Int)), (12, .int .i64 s2.2.2)]) hF ?_ ?_
      · intro s3 E0 h4 hF
        refine WP.region ?_
        refine EvK.pure (v := .int .i64 (IntKind.i64.wrap (s2.2.2 + 1))) (w_none rfl) rfl rfl (f_add rfl rfl rfl) ?_
        refine EvK.pure (v := .int .i64 (IntKind.i64.wrap (s2.2.2 + 1))) (w_none rfl) rfl rfl (f_move rfl rfl) ?_
        refine EvK.nil ?_
        exact KE.mk (s3.1, s3.2, IntKind.i64.wrap (s2.2.2 + 1)) ⟨rfl, rfl, rfl, rfl, rfl, rfl, trivial⟩ hF
      · intro k3 hF
        refine WP.block ?_
        refine WP.seq ?_
        refine WP.region ?_
        obtain ⟨q3, hq3, hF⟩ := hF
        refine EvK.pure (v := .pointer (some q3)) (w_none rfl) rfl rfl (f_indexAddr (s := x1) Try.underlying75 ty86.size rfl rfl rfl hq3) ?_
        obtain ⟨x2, hx2, hF⟩ := hF
        refine EvK.read (v := k85.val x2) (w_none rfl) rfl rfl (f_load k85 ty86 rfl rfl hx2 rfl) ?_
        refine EvK.alloc (w_none rfl) rfl rfl (f_allocF zero86 rfl rfl hF) ?_
        rintro _ h5 ⟨q4, rfl, hF⟩
        obtain ⟨h6, hs2, hF⟩ := hF
        refine EvK.runN (w_none rfl) rfl (f_store k85 ty86.size (z := x2) rfl rfl rfl hs2) ?_
        rintro _ _ ⟨rfl, rfl⟩
        refine EvK.nil ?_
        refine WP.joinF (fun (s4 : Bool) => [(28, .bool s4), (0, .pointer a0), (3, Sl.val s2.1), (4, Sl.val s2.2.1), (6, .pointer (some q4)), (10, Sl.val x1), (11, .int .i64 (x1.len : Int)), (12, .int .i64 s2.2.2)]) hF ?_ ?_
        · intro s4 E0 h7 hF
          rcases ite_inv hF with ⟨c2, hF⟩ | ⟨c2, hF⟩
          · refine WP.cond_true _ rfl c2 ?_
            refine WP.region ?_
            refine EvK.pure (v := Sl.val s2.1) (w_none rfl) rfl rfl (f_move rfl rfl) ?_
            obtain ⟨x3, hx3, hF⟩ := hF
            refine EvK.read (v := k85.val x3) (w_none rfl) rfl rfl (f_load k85 ty86 rfl rfl hx3 rfl) ?_
            refine EvK.alloc (w_none rfl) rfl rfl (f_buildSliceF Try.underlying75 el86 (by decide) rfl rfl rfl hF) ?_
            rintro _ h8 ⟨x4, rfl, hF⟩
            refine EvK.run (w_none rfl) rfl rfl (f_appendE (s := s2.1) (x := x4) Try.underlying75 el86 rfl rfl rfl hF) ?_
            rintro _ h9 ⟨x5, rfl, hF⟩
            refine EvK.pure (v := Sl.val x5) (w_none rfl) rfl rfl (f_assign rfl rfl) ?_
            refine EvK.nil ?_
            exact KE.mk (x5, s2.2.1) ⟨rfl, rfl, rfl, rfl, rfl, rfl, trivial⟩ hF
          · refine WP.cond_false _ rfl c2 ?_
            refine WP.seq ?_
            refine WP.draw mixed [.pure, .pure, .pure, .pure, .read, .read, .alloc, .eff [], .pure, .pure, .eff []] [[], [], [1], [1, 2], [1, 2, 3], [], [5], [1, 2, 3, 4, 5, 6], [0, 1, 2, 3, 4, 5, 6, 7], [0, 1, 2, 3, 4, 5, 6, 7, 8], [0, 1, 2, 3, 4, 5, 6, 7, 8, 9]] [0, 1, 2, 3, 4, 5, 6, 7, 8, 9, 10] (by kernel_rfl) (by kernel_rfl) ?_
            refine EvI.pure (v := .pointer a0) rfl rfl (w_none rfl) rfl (f_move rfl rfl) ?_
            refine EvI.pure (v := .pointer a0) rfl rfl (w_none rfl) rfl (f_move rfl rfl) ?_
            obtain ⟨q5, hq4, hF⟩ := hF
            refine EvI.pure (v := .pointer (some q5)) rfl rfl (w_none rfl) rfl (f_nilCheck rfl (congrArg Value.pointer hq4)) ?_
            refine EvI.pure (v := .pointer (some (q5.add 1))) rfl rfl (w_none rfl) rfl (f_fieldAddr fd77_1 rfl rfl) ?_
            obtain ⟨x6, hx4, hF⟩ := hF
            refine EvI.read (v := Sl.val x6) rfl rfl (w_none rfl) rfl (f_load kL ty75 rfl rfl hx4 rfl) ?_
            obtain ⟨x7, hx5, hF⟩ := hF
            refine EvI.read (v := k85.val x7) rfl rfl (w_none rfl) rfl (f_load k85 ty86 rfl rfl hx5 rfl) ?_
            refine EvI.alloc rfl rfl (w_none rfl) rfl (f_buildSliceF Try.underlying75 el86 (by decide) rfl rfl rfl hF) ?_
            rintro _ h10 ⟨x8, rfl, hF⟩
            refine EvI.run rfl rfl (w_none rfl) rfl (f_appendE (s := x6) (x := x8) Try.underlying75 el86 rfl rfl rfl hF) ?_
            rintro _ h11 ⟨x9, rfl, hF⟩
            refine ⟨⟨chk_no rfl, chk_no rfl, trivial⟩, ?_⟩
            obtain ⟨q6, hq5, hF⟩ := hF
            refine EvI.pure (v := .pointer (some q6)) rfl rfl (w_none rfl) rfl (f_nilCheck rfl (congrArg Value.pointer hq5)) ?_
            refine EvI.pure (v := .pointer (some (q6.add 1))) rfl rfl (w_none rfl) rfl (f_fieldAddr fd77_1 rfl rfl) ?_
            obtain ⟨h12, hs3, hF⟩ := hF
            refine EvI.runN rfl rfl (w_none rfl) rfl (f_store kL ty75.size (z := x9) rfl rfl rfl hs3) ?_
            rintro _ _ ⟨rfl, rfl⟩
            refine ⟨⟨chk_no rfl, chk_no rfl, trivial⟩, ?_⟩
            refine EvI.nil ?_
            refine WP.region ?_
            refine EvK.pure (v := Sl.val s2.2.1) (w_none rfl) rfl rfl (f_move rfl rfl) ?_
            refine EvK.pure (v := .pointer (some (q4.add 0))) (w_none rfl) rfl rfl (f_fieldAddr fd86_0 rfl rfl) ?_
            obtain ⟨x10, hx6, hF⟩ := hF
            refine EvK.read (v := .int .i64 x10) (w_none rfl) rfl rfl (f_load (kI .i64) ty3 rfl rfl hx6 rfl) ?_
            refine EvK.alloc (w_none rfl) rfl rfl (f_buildSliceF Try.underlying22 el3 (by decide) rfl rfl rfl hF) ?_
            rintro _ h13 ⟨x11, rfl, hF⟩
            refine EvK.run (w_none rfl) rfl rfl (f_appendE (s := s2.2.1) (x := x11) Try.underlying22 el3 rfl rfl rfl hF) ?_
            rintro _ h14 ⟨x12, rfl, hF⟩
            refine EvK.pure (v := Sl.val x12) (w_none rfl) rfl rfl (f_assign rfl rfl) ?_
            refine EvK.nil ?_
            exact KE.mk (s2.1, x12) ⟨rfl, rfl, rfl, rfl, rfl, rfl, trivial⟩ hF
        · intro k4 hF
          refine WP.draw mixed [.pure, .pure, .pure, .read, .read, .pure, .eff [], .pure, .pure, .read, .pure, .eff [], .pure] [[], [0], [0, 1], [0, 1, 2], [], [4], [0, 1, 2, 3, 4, 5], [0, 1, 2, 3, 4, 5, 6], [0, 1, 2, 3, 4, 5, 6, 7], [0, 1, 2, 3, 4, 5, 6, 7], [0, 1, 2, 3, 4, 5, 6, 7, 9], [0, 1, 2, 3, 4, 5, 6, 7, 8, 9, 10], [0, 1, 2, 3, 4, 5, 6, 7, 8, 9, 10, 11]] [0, 1, 2, 3, 4, 5, 6, 7, 8, 9, 10, 11, 12] (by kernel_rfl) (by kernel_rfl) ?_
          refine EvI.pure (v := .pointer a0) rfl rfl (w_none rfl) rfl (f_move rfl rfl) ?_
          obtain ⟨q7, hq6, hF⟩ := hF
          refine EvI.pure (v := .pointer (some q7)) rfl rfl (w_none rfl) rfl (f_nilCheck rfl (congrArg Value.pointer hq6)) ?_
          refine EvI.pure (v := .pointer (some (q7.add 1))) rfl rfl (w_none rfl) rfl (f_fieldAddr fd77_1 rfl rfl) ?_
          obtain ⟨x13, hx7, hF⟩ := hF
          refine EvI.read (v := Sl.val x13) rfl rfl (w_none rfl) rfl (f_load kL ty75 rfl rfl hx7 rfl) ?_
          obtain ⟨x14, hx8, hF⟩ := hF
          refine EvI.read (v := k85.val x14) rfl rfl (w_none rfl) rfl (f_load k85 ty86 rfl rfl hx8 rfl) ?_
          refine EvI.pure (v := FV.val (some ⟨Fn.func 45, List.toArray [k85.val x14], List.toArray []⟩ : FV)) rfl rfl (w_none rfl) rfl (f_makeFunc (vs := [k85.val x14]) (us := []) rfl rfl rfl) ?_
          refine EvI.call rfl rfl (w_none rfl) rfl (enterH (vs := [Sl.val x13, FV.val (some ⟨Fn.func 45, List.toArray [k85.val x14], List.toArray []⟩ : FV)]) Try.func44 rfl rfl rfl rfl (slices_ContainsFunc___locks_claim_locks_claim_.sound hF)) ?_
          rintro _ h15 ⟨r1, rfl, hF⟩
          refine ⟨⟨chk_no rfl, chk_no rfl, trivial⟩, ?_⟩
          refine EvI.pure (v := .bool r1) rfl rfl (w_none rfl) rfl (f_move rfl rfl) ?_
          rcases ite_inv hF with ⟨c3, hF⟩ | ⟨c3, hF⟩
          · refine EvI.not rfl (w_not rfl rfl c3) rfl ?_
            refine EvI.not rfl (w_not rfl rfl c3) rfl ?_
            refine EvI.not rfl (w_not rfl rfl c3) rfl ?_
            refine EvI.not rfl (w_not rfl rfl c3) rfl ?_
            refine EvI.pure (v := .bool true) rfl rfl (w_none rfl) rfl (f_pickT rfl rfl c3 rfl) ?_
            refine EvI.nil ?_
            exact KE.mk true ⟨rfl, rfl, rfl, rfl, rfl, rfl, rfl, rfl, trivial⟩ hF
          · refine EvI.pure (v := Sl.val s2.1) rfl rfl (w_some rfl rfl c3) rfl (f_move rfl rfl) ?_
            obtain ⟨x15, hx9, hF⟩ := hF
            refine EvI.read (v := k85.val x15) rfl rfl (w_some rfl rfl c3) rfl (f_load k85 ty86 rfl rfl hx9 rfl) ?_
            refine EvI.pure (v := FV.val (some ⟨Fn.func 45, List.toArray [k85.val x15], List.toArray []⟩ : FV)) rfl rfl (w_some rfl rfl c3) rfl (f_makeFunc (vs := [k85.val x15]) (us := []) rfl rfl rfl) ?_
            refine EvI.call rfl rfl (w_some rfl rfl c3) rfl (enterH (vs := [Sl.val s2.1, FV.val (some ⟨Fn.func 45, List.toArray [k85.val x15], List.toArray []⟩ : FV)]) Try.func44 rfl rfl rfl rfl (slices_ContainsFunc___locks_claim_locks_claim_.sound hF)) ?_
            rintro _ h16 ⟨r2, rfl, hF⟩
            refine ⟨⟨chk_no rfl, chk_no rfl, chk_no rfl, trivial⟩, ?_⟩
            refine EvI.pure (v := .bool r2) rfl rfl (w_none rfl) rfl (f_pickF rfl rfl c3 rfl) ?_
            refine EvI.nil ?_
            exact KE.mk r2 ⟨rfl, rfl, rfl, rfl, rfl, rfl, rfl, rfl, trivial⟩ hF
    · refine WP.cond_false _ rfl c1 ?_
      refine WP.exit ?_
      exact KE.mk (s2.1, s2.2.1) ⟨rfl, rfl, rfl, trivial⟩ hF
end Go.Proofs.Ytgmihbchcmjmdaa

namespace Go.Proofs.Ytgmihbchcmjmdaa
open Go Go.Tr
set_option linter.unusedVariables false
set_option maxRecDepth 100000
set_option maxHeartbeats 400000
/-- (*spate/locks.Manager).Free -/
def locks_Manager_Free (a0 : Option Addr) (a1 : Int) (h : H) (Q : (Sl × IF) → H → Prop) : Prop :=
  rd a0 fun q1 =>
  rd (ld kL (q1.add 1) h) fun x1 =>
  locks_find x1 a1 h fun r1 h1 =>
  if (decide (r1 < 0)) = true then
    al 84 (k83.enc (S83.mk a1 (some (26, .int .i64 42) : IF))) h1 fun q2 h2 =>
    errors_Is (some (82, .pointer (some q2)) : IF) (some (26, .int .i64 42) : IF) h2 fun r2 h3 =>
    if (!r2) = true then
      Q (Sl.nil, none) h3
    else
      Q (Sl.nil, (some (82, .pointer (some q2)) : IF)) h3
  else
    rd a0 fun q3 =>
    rd (ld kL (q3.add 1) h1) fun x2 =>
    slices_Delete___locks_claim_locks_claim_ x2 r1 (IntKind.i64.wrap (r1 + 1)) h1 fun r3 h4 =>
    rd a0 fun q4 =>
    rd (st kL (q4.add 1) r3 h4) fun h5 =>
    locks_Manager_through a0 h5 fun r4 h6 =>
    Q (r4, none) h6
theorem locks_Manager_Free.sound {a0 : Option Addr} {a1 : Int} {h : H} {Q : (Sl × IF) → H → Prop} (hF : locks_Manager_Free a0 a1 h Q) :
    CallsH Try.prog 17 (List.toArray (α := Value) [.pointer a0, .int .i64 a1]) h fun v h' => ∃ x : Sl × IF, v = .tuple #[Sl.val x.1, IF.val x.2] ∧ Q x h' := by
  refine CallsH.of_body Try.func17 rfl 40 rfl rfl ?_
  refine WP.seq ?_
  refine WP.region ?_
  refine EvK.pure (v := Sl.val Sl.nil) (w_none rfl) rfl rfl (f_assign rfl rfl) ?_
  refine EvK.pure (v := IF.val none) (w_none rfl) rfl rfl (f_assign rfl rfl) ?_
  refine EvK.nil ?_
  refine WP.seq ?_
  refine WP.region ?_
  refine EvK.pure (v := .pointer a0) (w_none rfl) rfl rfl (f_move rfl rfl) ?_
  obtain ⟨q1, hq1, hF⟩ := hF
  refine EvK.pure (v := .pointer (some q1)) (w_none rfl) rfl rfl (f_nilCheck rfl (congrArg Value.pointer hq1)) ?_
  refine EvK.pure (v := .pointer (some (q1.add 1))) (w_none rfl) rfl rfl (f_fieldAddr fd77_1 rfl rfl) ?_
  obtain ⟨x1, hx1, hF⟩ := hF
  refine EvK.read (v := Sl.val x1) (w_none rfl) rfl rfl (f_load kL ty75 rfl rfl hx1 rfl) ?_
  refine EvK.pure (v := .int .i64 a1) (w_none rfl) rfl rfl (f_move rfl rfl) ?_
  refine EvK.call (w_none rfl) rfl rfl (enterH Try.func43 rfl rfl rfl rfl (locks_find.sound hF)) ?_
  rintro _ h1 ⟨r1, rfl, hF⟩
  refine EvK.pure (v := .int .i64 r1) (w_none rfl) rfl rfl (f_assign rfl rfl) ?_
  refine EvK.nil ?_
  refine WP.seq ?_
  refine WP.seq ?_
  refine WP.region ?_
  refine EvK.pure (v := .int .i64 r1) (w_none rfl) rfl rfl (f_move rfl rfl) ?_
  refine EvK.pure (v := .bool (decide (r1 < 0))) (w_none rfl) rfl rfl (f_lss rfl rfl rfl) ?_
  refine EvK.nil ?_
  rcases ite_inv hF with ⟨c1, hF⟩ | ⟨c1, hF⟩
  · refine WP.cond_true _ rfl c1 ?_
    refine WP.seq ?_
    refine WP.region ?_
    refine EvK.pure (v := .int .i64 a1) (w_none rfl) rfl rfl (f_move rfl rfl) ?_
    refine EvK.pure (v := IF.val (some (26, .int .i64 42) : IF)) (w_none rfl) rfl rfl (f_makeIf Try.underlying26 rfl rfl rfl) ?_
    refine EvK.pure (v := k83.val (S83.mk a1 (some (26, .int .i64 42) : IF))) (w_none rfl) rfl rfl (f_build (cells := k83.enc (S83.mk a1 (some (26, .int .i64 42) : IF))) (pl := [(0, (kI .i64).enc a1), (1, kIf.enc (some (26, .int .i64 42) : IF))]) st84 rfl (by show [(0, (.int .i64 a1 : Value).cells.toList), (1, (IF.val (some (26, .int .i64 42) : IF) : Value).cells.toList)] = _; simp only [if_cells, fn_cells]; rfl) rfl) ?_
    refine EvK.alloc (w_none rfl) rfl rfl (f_boxF (v := k83.val (S83.mk a1 (some (26, .int .i64 42) : IF))) rfl rfl rfl hF) ?_
    rintro _ h2 ⟨q2, rfl, hF⟩
    refine EvK.pure (v := .pointer (some q2)) (w_none rfl) rfl rfl (f_assign rfl rfl) ?_
    refine EvK.nil ?_
    refine WP.seq ?_
    refine WP.seq ?_
    refine WP.region ?_
    refine EvK.pure (v := .pointer (some q2)) (w_none rfl) rfl rfl (f_move rfl rfl) ?_
    refine EvK.pure (v := IF.val (some (82, .pointer (some q2)) : IF)) (w_none rfl) rfl rfl (f_makeIf Try.underlying82 rfl rfl rfl) ?_
    refine EvK.pure (v := IF.val (some (26, .int .i64 42) : IF)) (w_none rfl) rfl rfl (f_makeIf Try.underlying26 rfl rfl rfl) ?_
    refine EvK.call (w_none rfl) rfl rfl (enterH (vs := [IF.val (some (82, .pointer (some q2)) : IF), IF.val (some (26, .int .i64 42) : IF)]) Try.func46 rfl rfl rfl rfl (errors_Is.sound hF)) ?_
    rintro _ h3 ⟨r2, rfl, hF⟩
    refine EvK.pure (v := .bool (!r2)) (w_none rfl) rfl rfl (f_not rfl rfl) ?_
    refine EvK.nil ?_
    rcases ite_inv hF with ⟨c2, hF⟩ | ⟨c2, hF⟩
    · refine WP.cond_true _ rfl c2 ?_
      refine WP.seq ?_
      refine WP.region ?_
      refine EvK.pure (v := Sl.val Sl.nil) (w_none rfl) rfl rfl (f_assign rfl rfl) ?_
      refine EvK.pure (v := IF.val none) (w_none rfl) rfl rfl (f_assign rfl rfl) ?_
      refine EvK.nil ?_
      refine WP.ret ?_
      exact Ret.mk (vs := [Sl.val Sl.nil, IF.val none]) (Sl.nil, none) ⟨rfl, rfl, trivial⟩ rfl hF
    · refine WP.cond_false _ rfl c2 ?_
      refine WP.skip ?_
      refine WP.seq ?_
      refine WP.region ?_
      refine EvK.pure (v := .pointer (some q2)) (w_none rfl) rfl rfl (f_move rfl rfl) ?_
      refine EvK.pure (v := IF.val (some (82, .pointer (some q2)) : IF)) (w_none rfl) rfl rfl (f_makeIf Try.underlying82 rfl rfl rfl) ?_
      refine EvK.pure (v := Sl.val Sl.nil) (w_none rfl) rfl rfl (f_assign rfl rfl) ?_
      refine EvK.pure (v := IF.val (some (82, .pointer (some q2)) : IF)) (w_none rfl) rfl rfl (f_assign rfl rfl) ?_
      refine EvK.nil ?_
      refine WP.ret ?_
      exact Ret.mk (vs := [Sl.val Sl.nil, IF.val (some (82, .pointer (some q2)) : IF)]) (Sl.nil, (some (82, .pointer (some q2)) : IF)) ⟨rfl, rfl, trivial⟩ rfl hF
  · refine WP.cond_false _ rfl c1 ?_
    refine WP.skip ?_
    refine WP.seq ?_
    refine WP.region ?_
    refine EvK.pure (v := .pointer a0) (w_none rfl) rfl rfl (f_move rfl rfl) ?_
    refine EvK.pure (v := .pointer a0) (w_none rfl) rfl rfl (f_move rfl rfl) ?_
    obtain ⟨q3, hq2, hF⟩ := hF
    refine EvK.pure (v := .pointer (some q3)) (w_none rfl) rfl rfl (f_nilCheck rfl (congrArg Value.pointer hq2)) ?_
    refine EvK.pure (v := .pointer (some (q3.add 1))) (w_none rfl) rfl rfl (f_fieldAddr fd77_1 rfl rfl) ?_
    obtain ⟨x2, hx2, hF⟩ := hF
    refine EvK.read (v := Sl.val x2) (w_none rfl) rfl rfl (f_load kL ty75 rfl rfl hx2 rfl) ?_
    refine EvK.pure (v := .int .i64 r1) (w_none rfl) rfl rfl (f_move rfl rfl) ?_
    refine EvK.pure (v := .int .i64 r1) (w_none rfl) rfl rfl (f_move rfl rfl) ?_
    refine EvK.pure (v := .int .i64 (IntKind.i64.wrap (r1 + 1))) (w_none rfl) rfl rfl (f_add rfl rfl rfl) ?_
    refine EvK.call (w_none rfl) rfl rfl (enterH Try.func47 rfl rfl rfl rfl (slices_Delete___locks_claim_locks_claim_.sound hF)) ?_
    rintro _ h4 ⟨r3, rfl, hF⟩
    obtain ⟨q4, hq3, hF⟩ := hF
    refine EvK.pure (v := .pointer (some q4)) (w_none rfl) rfl rfl (f_nilCheck rfl (congrArg Value.pointer hq3)) ?_
    refine EvK.pure (v := .pointer (some (q4.add 1))) (w_none rfl) rfl rfl (f_fieldAddr fd77_1 rfl rfl) ?_
    obtain ⟨h5, hs1, hF⟩ := hF
    refine EvK.runN (w_none rfl) rfl (f_store kL ty75.size (z := r3) rfl rfl rfl hs1) ?_
    rintro _ _ ⟨rfl, rfl⟩
    refine EvK.nil ?_
    refine WP.seq ?_
    refine WP.region ?_
    refine EvK.pure (v := .pointer a0) (w_none rfl) rfl rfl (f_move rfl rfl) ?_
    refine EvK.call (w_none rfl) rfl rfl (enterH Try.func48 rfl rfl rfl rfl (locks_Manager_through.sound hF)) ?_
    rintro _ h6 ⟨r4, rfl, hF⟩
    refine EvK.pure (v := Sl.val r4) (w_none rfl) rfl rfl (f_assign rfl rfl) ?_
    refine EvK.pure (v := IF.val none) (w_none rfl) rfl rfl (f_assign rfl rfl) ?_
    refine EvK.nil ?_
    refine WP.ret ?_
    exact Ret.mk (vs := [Sl.val r4, IF.val none]) (r4, none) ⟨rfl, rfl, trivial⟩ rfl hF
end Go.Proofs.Ytgmihbchcmjmdaa

namespace Go.Proofs.Ytgmihbchcmjmdaa
open Go Go.Tr
set_option linter.unusedVariables false
set_option maxRecDepth 100000
set_option maxHeartbeats 400000
/-- (*spate/locks.Manager).Waits -/
def locks_Manager_Waits (a0 : Option Addr) (a1 : Int) (h : H) (Q : Bool → H → Prop) : Prop :=
  rd a0 fun q1 =>
  rd (ld kL (q1.add 2) h) fun x1 =>
  locks_find x1 a1 h fun r1 h1 =>
  Q (decide (r1 ≥ 0)) h1
theorem locks_Manager_Waits.sound {a0 : Option Addr} {a1 : Int} {h : H} {Q : Bool → H → Prop} (hF : locks_Manager_Waits a0 a1 h Q) :
    CallsH Try.prog 32 (List.toArray (α := Value) [.pointer a0, .int .i64 a1]) h fun v h' => ∃ x : Bool, v = .bool x ∧ Q x h' := by
  refine CallsH.of_body Try.func32 rfl 12 rfl rfl ?_
  refine WP.seq ?_
  refine WP.region ?_
  refine EvK.pure (v := .bool false) (w_none rfl) rfl rfl (f_assign rfl rfl) ?_
  refine EvK.nil ?_
  refine WP.seq ?_
  refine WP.region ?_
  refine EvK.pure (v := .pointer a0) (w_none rfl) rfl rfl (f_move rfl rfl) ?_
  obtain ⟨q1, hq1, hF⟩ := hF
  refine EvK.pure (v := .pointer (some q1)) (w_none rfl) rfl rfl (f_nilCheck rfl (congrArg Value.pointer hq1)) ?_
  refine EvK.pure (v := .pointer (some (q1.add 2))) (w_none rfl) rfl rfl (f_fieldAddr fd77_2 rfl rfl) ?_
  obtain ⟨x1, hx1, hF⟩ := hF
  refine EvK.read (v := Sl.val x1) (w_none rfl) rfl rfl (f_load kL ty75 rfl rfl hx1 rfl) ?_
  refine EvK.pure (v := .int .i64 a1) (w_none rfl) rfl rfl (f_move rfl rfl) ?_
  refine EvK.call (w_none rfl) rfl rfl (enterH Try.func43 rfl rfl rfl rfl (locks_find.sound hF)) ?_
  rintro _ h1 ⟨r1, rfl, hF⟩
  refine EvK.pure (v := .bool (decide (r1 ≥ 0))) (w_none rfl) rfl rfl (f_geq rfl rfl rfl) ?_
  refine EvK.pure (v := .bool (decide (r1 ≥ 0))) (w_none rfl) rfl rfl (f_assign rfl rfl) ?_
  refine EvK.nil ?_
  refine WP.ret ?_
  exact Ret.mk (vs := [.bool (decide (r1 ≥ 0))]) (decide (r1 ≥ 0)) ⟨rfl, trivial⟩ rfl hF
end Go.Proofs.Ytgmihbchcmjmdaa

namespace Go.Proofs.Ytgmihbchcmjmdaa
open Go Go.Tr
set_option linter.unusedVariables false
set_option maxRecDepth 100000
set_option maxHeartbeats 400000
/-- spate/spatelaw11.known -/
def spatelaw11_known  (h : H) (Q : Bool → H → Prop) : Prop :=
  locks_New 1 h fun r1 h1 =>
  jn (fun (k1 : Bool → H → Prop) =>
    if (r1.2 != 0) = true then
      k1 true h1
    else
      k1 r1.1.isNone h1) fun s1 h2 =>
  if s1 = true then
    Q false h2
  else
    bs 32 1 (k31.enc (S31.mk 0 false)) h2 fun x1 h3 =>
    locks_Manager_Ask r1.1 3 x1 h3 fun r2 h4 =>
    bs 32 1 (k31.enc (S31.mk 0 false)) h4 fun x2 h5 =>
    locks_Manager_Ask r1.1 4 x2 h5 fun r3 h6 =>
    locks_Manager_Free r1.1 3 h6 fun r4 h7 =>
    jn (fun (k2 : Bool → H → Prop) =>
      if r2.1 = true then
        if (!r3.1) = true then
          if r2.2.isNone = true then
            if r3.2.isNone = true then
              if r4.2.isNone = true then
                if ((r4.1.len : Int) == 1) = true then
                  rd (ixA 1 r4.1 0) fun q1 =>
                  rd (ld (kI .i64) q1 h7) fun x3 =>
                  if (x3 == 4) = true then
                    locks_Manager_Waits r1.1 4 h7 fun r5 h9 =>
                    k2 (!r5) h9
                  else
                    k2 false h7
                else
                  k2 false h7
              else
                k2 false h7
            else
              k2 false h7
          else
            k2 false h7
        else
          k2 false h7
      else
        k2 false h7) fun s2 h8 =>
    Q s2 h8
theorem spatelaw11_known.sound  {h : H} {Q : Bool → H → Prop} (hF : spatelaw11_known  h Q) :
    CallsH Try.prog 10 (List.toArray (α := Value) []) h fun v h' => ∃ x : Bool, v = .bool x ∧ Q x h' := by
  refine CallsH.of_body Try.func10 rfl 71 rfl rfl ?_
  refine WP.seq ?_
  refine WP.region ?_
  refine EvK.pure (v := .bool false) (w_none rfl) rfl rfl (f_assign rfl rfl) ?_
  refine EvK.nil ?_
  refine WP.seq ?_
  refine WP.region ?_
  refine EvK.call (w_none rfl) rfl rfl (enterH Try.func12 rfl rfl rfl rfl (locks_New.sound hF)) ?_
  rintro _ h1 ⟨r1, rfl, hF⟩
  refine EvK.pure (v := .tuple #[.pointer r1.1, .int .i64 r1.2]) (w_none rfl) rfl rfl (f_move rfl rfl) ?_
  refine EvK.pure (v := .pointer r1.1) (w_none rfl) rfl rfl (f_extract (vs := #[.pointer r1.1, .int .i64 r1.2]) rfl rfl rfl) ?_
  refine EvK.pure (v := .int .i64 r1.2) (w_none rfl) rfl rfl (f_extract (vs := #[.pointer r1.1, .int .i64 r1.2]) rfl rfl rfl) ?_
  refine EvK.pure (v := .pointer r1.1) (w_none rfl) rfl rfl (f_assign rfl rfl) ?_
  refine EvK.pure (v := .int .i64 r1.2) (w_none rfl) rfl rfl (f_assign rfl rfl) ?_
  refine EvK.nil ?_
  refine WP.seq ?_
  refine WP.joinF (fun (s1 : Bool) => [(18, .bool s1), (1, .pointer r1.1)]) hF ?_ ?_
  · intro s1 E0 h2 hF
    rcases ite_inv hF with ⟨c1, hF⟩ | ⟨c1, hF⟩
    · refine WP.cond_true _ rfl c1 ?_
      refine WP.seq ?_
      refine WP.region ?_
      refine EvK.pure (v := .bool false) (w_none rfl) rfl rfl (f_assign rfl rfl) ?_
      refine EvK.nil ?_
      refine WP.ret ?_
      exact Ret.mk (vs := [.bool false]) false ⟨rfl, trivial⟩ rfl hF
    · refine WP.cond_false _ rfl c1 ?_
      refine WP.skip ?_
      refine WP.seq ?_
      refine WP.region ?_
      refine EvK.pure (v := .pointer r1.1) (w_none rfl) rfl rfl (f_move rfl rfl) ?_
      refine EvK.pure (v := k31.val (S31.mk 0 false)) (w_none rfl) rfl rfl (f_build (cells := k31.enc (S31.mk 0 false)) st32 rfl rfl rfl) ?_
      refine EvK.alloc (w_none rfl) rfl rfl (f_buildSliceF Try.underlying30 el32 (by decide) rfl rfl rfl hF) ?_
      rintro _ h3 ⟨x1, rfl, hF⟩
      refine EvK.call (w_none rfl) rfl rfl (enterH Try.func14 rfl rfl rfl rfl (locks_Manager_Ask.sound hF)) ?_
      rintro _ h4 ⟨r2, rfl, hF⟩
      refine EvK.pure (v := .tuple #[.bool r2.1, IF.val r2.2]) (w_none rfl) rfl rfl (f_move rfl rfl) ?_
      refine EvK.pure (v := .bool r2.1) (w_none rfl) rfl rfl (f_extract (vs := #[.bool r2.1, IF.val r2.2]) rfl rfl rfl) ?_
      refine EvK.pure (v := IF.val r2.2) (w_none rfl) rfl rfl (f_extract (vs := #[.bool r2.1, IF.val r2.2]) rfl rfl rfl) ?_
      refine EvK.pure (v := .bool r2.1) (w_none rfl) rfl rfl (f_assign rfl rfl) ?_
      refine EvK.pure (v := IF.val r2.2) (w_none rfl) rfl rfl (f_assign rfl rfl) ?_
      refine EvK.nil ?_
      refine WP.seq ?_
      refine WP.region ?_
      refine EvK.pure (v := .pointer r1.1) (w_none rfl) rfl rfl (f_move rfl rfl) ?_
      refine EvK.pure (v := k31.val (S31.mk 0 false)) (w_none rfl) rfl rfl (f_build (cells := k31.enc (S31.mk 0 false)) st32 rfl rfl rfl) ?_
      refine EvK.alloc (w_none rfl) rfl rfl (f_buildSliceF Try.underlying30 el32 (by decide) rfl rfl rfl hF) ?_
      rintro _ h5 ⟨x2, rfl, hF⟩
      refine EvK.call (w_none rfl) rfl rfl (enterH Try.func14 rfl rfl rfl rfl (locks_Manager_Ask.sound hF)) ?_
      rintro _ h6 ⟨r3, rfl, hF⟩
      refine EvK.pure (v := .tuple #[.bool r3.1, IF.val r3.2]) (w_none rfl) rfl rfl (f_move rfl rfl) ?_
      refine EvK.pure (v := .bool r3.1) (w_none rfl) rfl rfl (f_extract (vs := #[.bool r3.1, IF.val r3.2]) rfl rfl rfl) ?_
      refine EvK.pure (v := IF.val r3.2) (w_none rfl) rfl rfl (f_extract (vs := #[.bool r3.1, IF.val r3.2]) rfl rfl rfl) ?_
      refine EvK.pure (v := .bool r3.1) (w_none rfl) rfl rfl (f_assign rfl rfl) ?_
      refine EvK.pure (v := IF.val r3.2) (w_none rfl) rfl rfl (f_assign rfl rfl) ?_
      refine EvK.nil ?_
      refine WP.seq ?_
      refine WP.region ?_
      refine EvK.pure (v := .pointer r1.1) (w_none rfl) rfl rfl (f_move rfl rfl) ?_
      refine EvK.call (w_none rfl) rfl rfl (enterH Try.func17 rfl rfl rfl rfl (locks_Manager_Free.sound hF)) ?_
      rintro _ h7 ⟨r4, rfl, hF⟩
      refine EvK.pure (v := .tuple #[Sl.val r4.1, IF.val r4.2]) (w_none rfl) rfl rfl (f_move rfl rfl) ?_
      refine EvK.pure (v := Sl.val r4.1) (w_none rfl) rfl rfl (f_extract (vs := #[Sl.val r4.1, IF.val r4.2]) rfl rfl rfl) ?_
      refine EvK.pure (v := IF.val r4.2) (w_none rfl) rfl rfl (f_extract (vs := #[Sl.val r4.1, IF.val r4.2]) rfl rfl rfl) ?_
      refine EvK.pure (v := Sl.val r4.1) (w_none rfl) rfl rfl (f_assign rfl rfl) ?_
      refine EvK.pure (v := IF.val r4.2) (w_none rfl) rfl rfl (f_assign rfl rfl) ?_
      refine EvK.nil ?_
      refine WP.joinF (fun (s2 : Bool) => [(0, .bool s2)]) hF ?_ ?_
      · intro s2 E0 h8 hF
        refine WP.ret ?_
        exact Ret.mk (vs := [.bool s2]) s2 ⟨rfl, trivial⟩ rfl hF
      · intro k2 hF
        refine WP.region ?_
        refine EvK.pure (v := .bool r2.1) (w_none rfl) rfl rfl (f_move rfl rfl) ?_
        refine EvK.pure (v := .bool r2.1) (w_none rfl) rfl rfl (f_move rfl rfl) ?_
        rcases ite_inv hF with ⟨c2, hF⟩ | ⟨c2, hF⟩
        · refine EvK.pure (v := .bool r3.1) (w_some rfl rfl c2) rfl rfl (f_move rfl rfl) ?_
          refine EvK.pure (v := .bool (!r3.1)) (w_some rfl rfl c2) rfl rfl (f_not rfl rfl) ?_
          refine EvK.pure (v := .bool (!r3.1)) (w_none rfl) rfl rfl (f_pickT rfl rfl c2 rfl) ?_
          refine EvK.pure (v := .bool (!r3.1)) (w_none rfl) rfl rfl (f_move rfl rfl) ?_
          rcases ite_inv hF with ⟨c3, hF⟩ | ⟨c3, hF⟩
          · refine EvK.pure (v := IF.val r2.2) (w_some rfl rfl c3) rfl rfl (f_move rfl rfl) ?_
            refine EvK.pure (v := .bool r2.2.isNone) (w_some rfl rfl c3) rfl rfl (f_ieqln (a := r2.2) Try.underlying37 rfl rfl) ?_
            refine EvK.pure (v := .bool r2.2.isNone) (w_none rfl) rfl rfl (f_pickT rfl rfl c3 rfl) ?_
            refine EvK.pure (v := .bool r2.2.isNone) (w_none rfl) rfl rfl (f_move rfl rfl) ?_
            rcases ite_inv hF with ⟨c4, hF⟩ | ⟨c4, hF⟩
            · refine EvK.pure (v := IF.val r3.2) (w_some rfl rfl c4) rfl rfl (f_move rfl rfl) ?_
              refine EvK.pure (v := .bool r3.2.isNone) (w_some rfl rfl c4) rfl rfl (f_ieqln (a := r3.2) Try.underlying37 rfl rfl) ?_
              refine EvK.pure (v := .bool r3.2.isNone) (w_none rfl) rfl rfl (f_pickT rfl rfl c4 rfl) ?_
              refine EvK.pure (v := .bool r3.2.isNone) (w_none rfl) rfl rfl (f_move rfl rfl) ?_
              rcases ite_inv hF with ⟨c5, hF⟩ | ⟨c5, hF⟩
              · refine EvK.pure (v := IF.val r4.2) (w_some rfl rfl c5) rfl rfl (f_move rfl rfl) ?_
                refine EvK.pure (v := .bool r4.2.isNone) (w_some rfl rfl c5) rfl rfl (f_ieqln (a := r4.2) Try.underlying37 rfl rfl) ?_
                refine EvK.pure (v := .bool r4.2.isNone) (w_none rfl) rfl rfl (f_pickT rfl rfl c5 rfl) ?_
                refine EvK.pure (v := .bool r4.2.isNone) (w_none rfl) rfl rfl (f_move rfl rfl) ?_
                rcases ite_inv hF with ⟨c6, hF⟩ | ⟨c6, hF⟩
                · refine EvK.pure (v := Sl.val r4.1) (w_some rfl rfl c6) rfl rfl (f_move rfl rfl) ?_
                  refine EvK.pure (v := .int .i64 (r4.1.len : Int)) (w_some rfl rfl c6) rfl rfl (f_lenL (s := r4.1) Try.underlying22 rfl rfl) ?_
                  refine EvK.pure (v := .bool ((r4.1.len : Int) == 1)) (w_some rfl rfl c6) rfl rfl (f_eql rfl rfl rfl) ?_
                  refine EvK.pure (v := .bool ((r4.1.len : Int) == 1)) (w_none rfl) rfl rfl (f_pickT rfl rfl c6 rfl) ?_
                  refine EvK.pure (v := .bool ((r4.1.len : Int) == 1)) (w_none rfl) rfl rfl (f_move rfl rfl) ?_
                  rcases ite_inv hF with ⟨c7, hF⟩ | ⟨c7, hF⟩
                  · refine EvK.pure (v := Sl.val r4.1) (w_some rfl rfl c7) rfl rfl (f_move rfl rfl) ?_
                    obtain ⟨q1, hq1, hF⟩ := hF
                    refine EvK.pure (v := .pointer (some q1)) (w_some rfl rfl c7) rfl rfl (f_indexAddr (s := r4.1) Try.underlying22 ty3.size rfl rfl rfl hq1) ?_
                    obtain ⟨x3, hx1, hF⟩ := hF
                    refine EvK.read (v := .int .i64 x3) (w_some rfl rfl c7) rfl rfl (f_load (kI .i64) ty3 rfl rfl hx1 rfl) ?_
                    refine EvK.pure (v := .bool (x3 == 4)) (w_some rfl rfl c7) rfl rfl (f_eql rfl rfl rfl) ?_
                    refine EvK.pure (v := .bool (x3 == 4)) (w_none rfl) rfl rfl (f_pickT rfl rfl c7 rfl) ?_
                    refine EvK.pure (v := .bool (x3 == 4)) (w_none rfl) rfl rfl (f_move rfl rfl) ?_
                    rcases ite_inv hF with ⟨c8, hF⟩ | ⟨c8, hF⟩
                    · refine EvK.pure (v := .pointer r1.1) (w_some rfl rfl c8) rfl rfl (f_move rfl rfl) ?_
                      refine EvK.call (w_some rfl rfl c8) rfl rfl (enterH Try.func32 rfl rfl rfl rfl (locks_Manager_Waits.sound hF)) ?_
                      rintro _ h9 ⟨r5, rfl, hF⟩
                      refine EvK.pure (v := .bool (!r5)) (w_some rfl rfl c8) rfl rfl (f_not rfl rfl) ?_
                      refine EvK.pure (v := .bool (!r5)) (w_none rfl) rfl rfl (f_pickT rfl rfl c8 rfl) ?_
                      refine EvK.pure (v := .bool (!r5)) (w_none rfl) rfl rfl (f_assign rfl rfl) ?_
                      refine EvK.nil ?_
                      exact KE.mk (!r5) ⟨rfl, trivial⟩ hF
                    · refine EvK.not (w_not rfl rfl c8) rfl rfl ?_
                      refine EvK.not (w_not rfl rfl c8) rfl rfl ?_
                      refine EvK.not (w_not rfl rfl c8) rfl rfl ?_
                      refine EvK.pure (v := .bool false) (w_none rfl) rfl rfl (f_pickF rfl rfl c8 rfl) ?_
                      refine EvK.pure (v := .bool false) (w_none rfl) rfl rfl (f_assign rfl rfl) ?_
                      refine EvK.nil ?_
                      exact KE.mk false ⟨rfl, trivial⟩ hF
                  · refine EvK.not (w_not rfl rfl c7) rfl rfl ?_
                    refine EvK.not (w_not rfl rfl c7) rfl rfl ?_
                    refine EvK.not (w_not rfl rfl c7) rfl rfl ?_
                    refine EvK.not (w_not rfl rfl c7) rfl rfl ?_
                    refine EvK.pure (v := .bool false) (w_none rfl) rfl rfl (f_pickF rfl rfl c7 rfl) ?_
                    refine EvK.pure (v := .bool false) (w_none rfl) rfl rfl (f_move rfl rfl) ?_
                    refine EvK.not (w_not rfl rfl rfl) rfl rfl ?_
                    refine EvK.not (w_not rfl rfl rfl) rfl rfl ?_
                    refine EvK.not (w_not rfl rfl rfl) rfl rfl ?_
                    refine EvK.pure (v := .bool false) (w_none rfl) rfl rfl (f_pickF rfl rfl rfl rfl) ?_
                    refine EvK.pure (v := .bool false) (w_none rfl) rfl rfl (f_assign rfl rfl) ?_
                    refine EvK.nil ?_
                    exact KE.mk false ⟨rfl, trivial⟩ hF
                · refine EvK.not (w_not rfl rfl c6) rfl rfl ?_
                  refine EvK.not (w_not rfl rfl c6) rfl rfl ?_
                  refine EvK.not (w_not rfl rfl c6) rfl rfl ?_
                  refine EvK.pure (v := .bool false) (w_none rfl) rfl rfl (f_pickF rfl rfl c6 rfl) ?_
                  refine EvK.pure (v := .bool false) (w_none rfl) rfl rfl (f_move rfl rfl) ?_
                  refine EvK.not (w_not rfl rfl rfl) rfl rfl ?_
                  refine EvK.not (w_not rfl rfl rfl) rfl rfl ?_
                  refine EvK.not (w_not rfl rfl rfl) rfl rfl ?_
                  refine EvK.not (w_not rfl rfl rfl) rfl rfl ?_
                  refine EvK.pure (v := .bool false) (w_none rfl) rfl rfl (f_pickF rfl rfl rfl rfl) ?_
                  refine EvK.pure (v := .bool false) (w_none rfl) rfl rfl (f_move rfl rfl) ?_
                  refine EvK.not (w_not rfl rfl rfl) rfl rfl ?_
                  refine EvK.not (w_not rfl rfl rfl) rfl rfl ?_
                  refine EvK.not (w_not rfl rfl rfl) rfl rfl ?_
                  refine EvK.pure (v := .bool false) (w_none rfl) rfl rfl (f_pickF rfl rfl rfl rfl) ?_
                  refine EvK.pure (v := .bool false) (w_none rfl) rfl rfl (f_assign rfl rfl) ?_
                  refine EvK.nil ?_
                  exact KE.mk false ⟨rfl, trivial⟩ hF
              · refine EvK.not (w_not rfl rfl c5) rfl rfl ?_
                refine EvK.not (w_not rfl rfl c5) rfl rfl ?_
                refine EvK.pure (v := .bool false) (w_none rfl) rfl rfl (f_pickF rfl rfl c5 rfl) ?_
                refine EvK.pure (v := .bool false) (w_none rfl) rfl rfl (f_move rfl rfl) ?_
                refine EvK.not (w_not rfl rfl rfl) rfl rfl ?_
                refine EvK.not (w_not rfl rfl rfl) rfl rfl ?_
                refine EvK.not (w_not rfl rfl rfl) rfl rfl ?_
                refine EvK.pure (v := .bool false) (w_none rfl) rfl rfl (f_pickF rfl rfl rfl rfl) ?_
                refine EvK.pure (v := .bool false) (w_none rfl) rfl rfl (f_move rfl rfl) ?_
                refine EvK.not (w_not rfl rfl rfl) rfl rfl ?_
                refine EvK.not (w_not rfl rfl rfl) rfl rfl ?_
                refine EvK.not (w_not rfl rfl rfl) rfl rfl ?_
                refine EvK.not (w_not rfl rfl rfl) rfl rfl ?_
                refine EvK.pure (v := .bool false) (w_none rfl) rfl rfl (f_pickF rfl rfl rfl rfl) ?_
                refine EvK.pure (v := .bool false) (w_none rfl) rfl rfl (f_move rfl rfl) ?_
                refine EvK.not (w_not rfl rfl rfl) rfl rfl ?_
                refine EvK.not (w_not rfl rfl rfl) rfl rfl ?_
                refine EvK.not (w_not rfl rfl rfl) rfl rfl ?_
                refine EvK.pure (v := .bool false) (w_none rfl) rfl rfl (f_pickF rfl rfl rfl rfl) ?_
                refine EvK.pure (v := .bool false) (w_none rfl) rfl rfl (f_assign rfl rfl) ?_
                refine EvK.nil ?_
                exact KE.mk false ⟨rfl, trivial⟩ hF
            · refine EvK.not (w_not rfl rfl c4) rfl rfl ?_
              refine EvK.not (w_not rfl rfl c4) rfl rfl ?_
              refine EvK.pure (v := .bool false) (w_none rfl) rfl rfl (f_pickF rfl rfl c4 rfl) ?_
              refine EvK.pure (v := .bool false) (w_none rfl) rfl rfl (f_move rfl rfl) ?_
              refine EvK.not (w_not rfl rfl rfl) rfl rfl ?_
              refine EvK.not (w_not rfl rfl rfl) rfl rfl ?_
              refine EvK.pure (v := .bool false) (w_none rfl) rfl rfl (f_pickF rfl rfl rfl rfl) ?_
              refine EvK.pure (v := .bool false) (w_none rfl) rfl rfl (f_move rfl rfl) ?_
              refine EvK.not (w_not rfl rfl rfl) rfl rfl ?_
              refine EvK.not (w_not rfl rfl rfl) rfl rfl ?_
              refine EvK.not (w_not rfl rfl rfl) rfl rfl ?_
              refine EvK.pure (v := .bool false) (w_none rfl) rfl rfl (f_pickF rfl rfl rfl rfl) ?_
              refine EvK.pure (v := .bool false) (w_none rfl) rfl rfl (f_move rfl rfl) ?_
              refine EvK.not (w_not rfl rfl rfl) rfl rfl ?_
              refine EvK.not (w_not rfl rfl rfl) rfl rfl ?_
              refine EvK.not (w_not rfl rfl rfl) rfl rfl ?_
              refine EvK.not (w_not rfl rfl rfl) rfl rfl ?_
              refine EvK.pure (v := .bool false) (w_none rfl) rfl rfl (f_pickF rfl rfl rfl rfl) ?_
              refine EvK.pure (v := .bool false) (w_none rfl) rfl rfl (f_move rfl rfl) ?_
              refine EvK.not (w_not rfl rfl rfl) rfl rfl ?_
              refine EvK.not (w_not rfl rfl rfl) rfl rfl ?_
              refine EvK.not (w_not rfl rfl rfl) rfl rfl ?_
              refine EvK.pure (v := .bool false) (w_none rfl) rfl rfl (f_pickF rfl rfl rfl rfl) ?_
              refine EvK.pure (v := .bool false) (w_none rfl) rfl rfl (f_assign rfl rfl) ?_
              refine EvK.nil ?_
              exact KE.mk false ⟨rfl, trivial⟩ hF
          · refine EvK.not (w_not rfl rfl c3) rfl rfl ?_
            refine EvK.not (w_not rfl rfl c3) rfl rfl ?_
            refine EvK.pure (v := .bool false) (w_none rfl) rfl rfl (f_pickF rfl rfl c3 rfl) ?_
            refine EvK.pure (v := .bool false) (w_none rfl) rfl rfl (f_move rfl rfl) ?_
            refine EvK.not (w_not rfl rfl rfl) rfl rfl ?_
            refine EvK.not (w_not rfl rfl rfl) rfl rfl ?_
            refine EvK.pure (v := .bool false) (w_none rfl) rfl rfl (f_pickF rfl rfl rfl rfl) ?_
            refine EvK.pure (v := .bool false) (w_none rfl) rfl rfl (f_move rfl rfl) ?_
            refine EvK.not (w_not rfl rfl rfl) rfl rfl ?_
            refine EvK.not (w_not rfl rfl rfl) rfl rfl ?_
            refine EvK.pure (v := .bool false) (w_none rfl) rfl rfl (f_pickF rfl rfl rfl rfl) ?_
            refine EvK.pure (v := .bool false) (w_none rfl) rfl rfl (f_move rfl rfl) ?_
            refine EvK.not (w_not rfl rfl rfl) rfl rfl ?_
            refine EvK.not (w_not rfl rfl rfl) rfl rfl ?_
            refine EvK.not (w_not rfl rfl rfl) rfl rfl ?_
            refine EvK.pure (v := .bool false) (w_none rfl) rfl rfl (f_pickF rfl rfl rfl rfl) ?_
            refine EvK.pure (v := .bool false) (w_none rfl) rfl rfl (f_move rfl rfl) ?_
            refine EvK.not (w_not rfl rfl rfl) rfl rfl ?_
            refine EvK.not (w_not rfl rfl rfl) rfl rfl ?_
            refine EvK.not (w_not rfl rfl rfl) rfl rfl ?_
            refine EvK.not (w_not rfl rfl rfl) rfl rfl ?_
            refine EvK.pure (v := .bool false) (w_none rfl) rfl rfl (f_pickF rfl rfl rfl rfl) ?_
            refine EvK.pure (v := .bool false) (w_none rfl) rfl rfl (f_move rfl rfl) ?_
            refine EvK.not (w_not rfl rfl rfl) rfl rfl ?_
            refine EvK.not (w_not rfl rfl rfl) rfl rfl ?_
            refine EvK.not (w_not rfl rfl rfl) rfl rfl ?_
            refine EvK.pure (v := .bool false) (w_none rfl) rfl rfl (f_pickF rfl rfl rfl rfl) ?_
            refine EvK.pure (v := .bool false) (w_none rfl) rfl rfl (f_assign rfl rfl) ?_
            refine EvK.nil ?_
            exact KE.mk false ⟨rfl, trivial⟩ hF
        · refine EvK.not (w_not rfl rfl c2) rfl rfl ?_
          refine EvK.not (w_not rfl rfl c2) rfl rfl ?_
          refine EvK.pure (v := .bool false) (w_none rfl) rfl rfl (f_pickF rfl rfl c2 rfl) ?_
          refine EvK.pure (v := .bool false) (w_none rfl) rfl rfl (f_move rfl rfl) ?_
          refine EvK.not (w_not rfl rfl rfl) rfl rfl ?_
          refine EvK.not (w_not rfl rfl rfl) rfl rfl ?_
          refine EvK.pure (v := .bool false) (w_none rfl) rfl rfl (f_pickF rfl rfl rfl rfl) ?_
          refine EvK.pure (v := .bool false) (w_none rfl) rfl rfl (f_move rfl rfl) ?_
          refine EvK.not (w_not rfl rfl rfl) rfl rfl ?_
          refine EvK.not (w_not rfl rfl rfl) rfl rfl ?_
          refine EvK.pure (v := .bool false) (w_none rfl) rfl rfl (f_pickF rfl rfl rfl rfl) ?_
          refine EvK.pure (v := .bool false) (w_none rfl) rfl rfl (f_move rfl rfl) ?_
          refine EvK.not (w_not rfl rfl rfl) rfl rfl ?_
          refine EvK.not (w_not rfl rfl rfl) rfl rfl ?_
          refine EvK.pure (v := .bool false) (w_none rfl) rfl rfl (f_pickF rfl rfl rfl rfl) ?_
          refine EvK.pure (v := .bool false) (w_none rfl) rfl rfl (f_move rfl rfl) ?_
          refine EvK.not (w_not rfl rfl rfl) rfl rfl ?_
          refine EvK.not (w_not rfl rfl rfl) rfl rfl ?_
          refine EvK.not (w_not rfl rfl rfl) rfl rfl ?_
          refine EvK.pure (v := .bool false) (w_none rfl) rfl rfl (f_pickF rfl rfl rfl rfl) ?_
          refine EvK.pure (v := .bool false) (w_none rfl) rfl rfl (f_move rfl rfl) ?_
          refine EvK.not (w_not rfl rfl rfl) rfl rfl ?_
          refine EvK.not (w_not rfl rfl rfl) rfl rfl ?_
          refine EvK.not (w_not rfl rfl rfl) rfl rfl ?_
          refine EvK.not (w_not rfl rfl rfl) rfl rfl ?_
          refine EvK.pure (v := .bool false) (w_none rfl) rfl rfl (f_pickF rfl rfl rfl rfl) ?_
          refine EvK.pure (v := .bool false) (w_none rfl) rfl rfl (f_move rfl rfl) ?_
          refine EvK.not (w_not rfl rfl rfl) rfl rfl ?_
          refine EvK.not (w_not rfl rfl rfl) rfl rfl ?_
          refine EvK.not (w_not rfl rfl rfl) rfl rfl ?_
          refine EvK.pure (v := .bool false) (w_none rfl) rfl rfl (f_pickF rfl rfl rfl rfl) ?_
          refine EvK.pure (v := .bool false) (w_none rfl) rfl rfl (f_assign rfl rfl) ?_
          refine EvK.nil ?_
          exact KE.mk false ⟨rfl, trivial⟩ hF
  · intro k1 hF
    refine WP.region ?_
    refine EvK.pure (v := .int .i64 r1.2) (w_none rfl) rfl rfl (f_move rfl rfl) ?_
    refine EvK.pure (v := .bool (r1.2 != 0)) (w_none rfl) rfl rfl (f_neq rfl rfl rfl) ?_
    refine EvK.pure (v := .bool (r1.2 != 0)) (w_none rfl) rfl rfl (f_move rfl rfl) ?_
    rcases ite_inv hF with ⟨c9, hF⟩ | ⟨c9, hF⟩
    · refine EvK.not (w_not rfl rfl c9) rfl rfl ?_
      refine EvK.not (w_not rfl rfl c9) rfl rfl ?_
      refine EvK.pure (v := .bool true) (w_none rfl) rfl rfl (f_pickT rfl rfl c9 rfl) ?_
      refine EvK.nil ?_
      exact KE.mk true ⟨rfl, rfl, trivial⟩ hF
    · refine EvK.pure (v := .pointer r1.1) (w_some rfl rfl c9) rfl rfl (f_move rfl rfl) ?_
      refine EvK.pure (v := .bool r1.1.isNone) (w_some rfl rfl c9) rfl rfl (f_peqln Try.underlying25 rfl rfl rfl) ?_
      refine EvK.pure (v := .bool r1.1.isNone) (w_none rfl) rfl rfl (f_pickF rfl rfl c9 rfl) ?_
      refine EvK.nil ?_
      exact KE.mk r1.1.isNone ⟨rfl, rfl, trivial⟩ hF
end Go.Proofs.Ytgmihbchcmjmdaa

namespace Go.Proofs.Ytgmihbchcmjmdaa
open Go Go.Tr
set_option linter.unusedVariables false
set_option maxRecDepth 100000
set_option maxHeartbeats 400000
/-- spate/spatelaw11.within -/
def spatelaw11_within (a0 : Int) (a1 : Int) (h : H) (Q : Int → H → Prop) : Prop :=
  rd (remI a0 a1) fun x1 =>
  jn (fun (k1 : Int → H → Prop) =>
    if (decide (x1 < 0)) = true then
      k1 (IntKind.i64.wrap (x1 + a1)) h
    else
      k1 x1 h) fun s1 h1 =>
  Q s1 h1
theorem spatelaw11_within.sound {a0 : Int} {a1 : Int} {h : H} {Q : Int → H → Prop} (hF : spatelaw11_within a0 a1 h Q) :
    CallsH Try.prog 11 (List.toArray (α := Value) [.int .i64 a0, .int .i64 a1]) h fun v h' => ∃ x : Int, v = .int .i64 x ∧ Q x h' := by
  refine CallsH.of_body Try.func11 rfl 15 rfl rfl ?_
  refine WP.seq ?_
  refine WP.region ?_
  refine EvK.pure (v := .int .i64 0) (w_none rfl) rfl rfl (f_assign rfl rfl) ?_
  refine EvK.nil ?_
  refine WP.seq ?_
  refine WP.region ?_
  refine EvK.pure (v := .int .i64 a0) (w_none rfl) rfl rfl (f_move rfl rfl) ?_
  refine EvK.pure (v := .int .i64 a1) (w_none rfl) rfl rfl (f_move rfl rfl) ?_
  obtain ⟨x1, hx1, hF⟩ := hF
  refine EvK.pure (v := .int .i64 x1) (w_none rfl) rfl rfl (f_rem rfl rfl rfl hx1) ?_
  refine EvK.pure (v := .int .i64 x1) (w_none rfl) rfl rfl (f_assign rfl rfl) ?_
  refine EvK.nil ?_
  refine WP.joinF (fun (s1 : Int) => [(5, .int .i64 s1)]) hF ?_ ?_
  · intro s1 E0 h1 hF
    refine WP.seq ?_
    refine WP.region ?_
    refine EvK.pure (v := .int .i64 s1) (w_none rfl) rfl rfl (f_move rfl rfl) ?_
    refine EvK.pure (v := .int .i64 s1) (w_none rfl) rfl rfl (f_assign rfl rfl) ?_
    refine EvK.nil ?_
    refine WP.ret ?_
    exact Ret.mk (vs := [.int .i64 s1]) s1 ⟨rfl, trivial⟩ rfl hF
  · intro k1 hF
    refine WP.seq ?_
    refine WP.region ?_
    refine EvK.pure (v := .int .i64 x1) (w_none rfl) rfl rfl (f_move rfl rfl) ?_
    refine EvK.pure (v := .bool (decide (x1 < 0))) (w_none rfl) rfl rfl (f_lss rfl rfl rfl) ?_
    refine EvK.nil ?_
    rcases ite_inv hF with ⟨c1, hF⟩ | ⟨c1, hF⟩
    · refine WP.cond_true _ rfl c1 ?_
      refine WP.region ?_
      refine EvK.pure (v := .int .i64 x1) (w_none rfl) rfl rfl (f_move rfl rfl) ?_
      refine EvK.pure (v := .int .i64 a1) (w_none rfl) rfl rfl (f_move rfl rfl) ?_
      refine EvK.pure (v := .int .i64 (IntKind.i64.wrap (x1 + a1))) (w_none rfl) rfl rfl (f_add rfl rfl rfl) ?_
      refine EvK.pure (v := .int .i64 (IntKind.i64.wrap (x1 + a1))) (w_none rfl) rfl rfl (f_assign rfl rfl) ?_
      refine EvK.nil ?_
      exact KE.mk (IntKind.i64.wrap (x1 + a1)) ⟨rfl, trivial⟩ hF
    · refine WP.cond_false _ rfl c1 ?_
      refine WP.skip ?_
      exact KE.mk x1 ⟨rfl, trivial⟩ hF
end Go.Proofs.Ytgmihbchcmjmdaa

namespace Go.Proofs.Ytgmihbchcmjmdaa
open Go Go.Tr
set_option linter.unusedVariables false
set_option maxRecDepth 100000
set_option maxHeartbeats 400000
def spatelaw11_meets.b1 (p0 : Sl) (p1 : Sl) (s : Int × Int) (h : H) (K : (Int × Int) ⊕ (Unit ⊕ Bool) → H → Prop) : Prop :=
  jn (fun (k2 : Bool → H → Prop) =>
    if (decide (s.1 < (p0.len : Int))) = true then
      k2 (decide (s.2 < (p1.len : Int))) h
    else
      k2 false h) fun s2 h2 =>
  if s2 = true then
    rd (ixA 2 p0 s.1) fun q1 =>
    rd (ld (kI .i64) (q1.add 0) h2) fun x1 =>
    rd (ixA 2 p1 s.2) fun q2 =>
    rd (ld (kI .i64) (q2.add 0) h2) fun x2 =>
    if (decide (x1 < x2)) = true then
      K (.inl (IntKind.i64.wrap (s.1 + 1), s.2)) h2
    else
      rd (ixA 2 p1 s.2) fun q3 =>
      rd (ld (kI .i64) (q3.add 0) h2) fun x3 =>
      rd (ixA 2 p0 s.1) fun q4 =>
      rd (ld (kI .i64) (q4.add 0) h2) fun x4 =>
      if (decide (x3 < x4)) = true then
        K (.inl (s.1, IntKind.i64.wrap (s.2 + 1))) h2
      else
        jn (fun (k3 : Bool → H → Prop) =>
          rd (ixA 2 p0 s.1) fun q5 =>
          rd (ld kB (q5.add 1) h2) fun x5 =>
          if x5 = true then
            rd (ixA 2 p1 s.2) fun q6 =>
            rd (ld kB (q6.add 1) h2) fun x6 =>
            k3 (!x6) h2
          else
            k3 (!false) h2) fun s3 h3 =>
        if s3 = true then
          K (.inr (.inr true)) h3
        else
          K (.inl (IntKind.i64.wrap (s.1 + 1), IntKind.i64.wrap (s.2 + 1))) h3
  else
    K (.inr (.inl ())) h2
/-- spate/spatelaw11.meets -/
def spatelaw11_meets (a0 : Sl) (a1 : Sl) (h : H) (Q : Bool → H → Prop) : Prop :=
  jn (fun (k1 : Unit → H → Prop) =>
    loopE (spatelaw11_meets.b1 a0 a1) (0, 0) h (sumK (fun r1 hh => k1 r1 hh) (fun r2 hh => Q r2 hh))) fun s1 h1 =>
  Q false h1
theorem spatelaw11_meets.sound {a0 : Sl} {a1 : Sl} {h : H} {Q : Bool → H → Prop} (hF : spatelaw11_meets a0 a1 h Q) :
    CallsH Try.prog 13 (List.toArray (α := Value) [Sl.val a0, Sl.val a1]) h fun v h' => ∃ x : Bool, v = .bool x ∧ Q x h' := by
  refine CallsH.of_body Try.func13 rfl 62 rfl rfl ?_
  refine WP.seq ?_
  refine WP.region ?_
  refine EvK.pure (v := .bool false) (w_none rfl) rfl rfl (f_assign rfl rfl) ?_
  refine EvK.nil ?_
  refine WP.seq ?_
  refine WP.region ?_
  refine EvK.pure (v := .int .i64 0) (w_none rfl) rfl rfl (f_assign rfl rfl) ?_
  refine EvK.nil ?_
  refine WP.seq ?_
  refine WP.region ?_
  refine EvK.pure (v := .int .i64 0) (w_none rfl) rfl rfl (f_assign rfl rfl) ?_
  refine EvK.nil ?_
  refine WP.joinF (fun (s1 : Unit) => []) hF ?_ ?_
  · intro s1 E0 h1 hF
    refine WP.seq ?_
    refine WP.region ?_
    refine EvK.pure (v := .bool false) (w_none rfl) rfl rfl (f_assign rfl rfl) ?_
    refine EvK.nil ?_
    refine WP.ret ?_
    exact Ret.mk (vs := [.bool false]) false ⟨rfl, trivial⟩ rfl hF
  · intro k1 hF
    refine WP.block ?_
    refine WP.loopF (fun (s2 : Int × Int) => [(5, .int .i64 s2.1), (6, .int .i64 s2.2), (0, Sl.val a0), (1, Sl.val a1)]) hF ⟨rfl, rfl, rfl, rfl, trivial⟩ ?_
    intro k2 s2 E0 h2 hF
    refine WP.seq ?_
    refine WP.joinF (fun (s3 : Bool) => [(16, .bool s3), (0, Sl.val a0), (1, Sl.val a1), (5, .int .i64 s2.1), (6, .int .i64 s2.2)]) hF ?_ ?_
    · intro s3 E0 h3 hF
      rcases ite_inv hF with ⟨c1, hF⟩ | ⟨c1, hF⟩
      · refine WP.cond_true _ rfl c1 ?_
        refine WP.skip ?_
        refine WP.block ?_
        refine WP.block ?_
        refine WP.seq ?_
        refine WP.draw mixed [.pure, .pure, .pure, .pure, .read, .pure, .pure, .pure, .pure, .read, .pure, .pure] [[], [], [0, 1], [0, 1, 2], [0, 1, 2, 3], [], [], [5, 6], [5, 6, 7], [5, 6, 7, 8], [0, 1, 2, 3, 4, 5, 6, 7, 8, 9], [0, 1, 2, 3, 4, 5, 6, 7, 8, 9, 10]] [0, 1, 2, 3, 4, 5, 6, 7, 8, 9, 10, 11] (by kernel_rfl) (by kernel_rfl) ?_
        refine EvI.pure (v := Sl.val a0) rfl rfl (w_none rfl) rfl (f_move rfl rfl) ?_
        refine EvI.pure (v := .int .i64 s2.1) rfl rfl (w_none rfl) rfl (f_move rfl rfl) ?_
        obtain ⟨q1, hq1, hF⟩ := hF
        refine EvI.pure (v := .pointer (some q1)) rfl rfl (w_none rfl) rfl (f_indexAddr (s := a0) Try.underlying30 ty32.size rfl rfl rfl hq1) ?_
        refine EvI.pure (v := .pointer (some (q1.add 0))) rfl rfl (w_none rfl) rfl (f_fieldAddr fd32_0 rfl rfl) ?_
        obtain ⟨x1, hx1, hF⟩ := hF
        refine EvI.read (v := .int .i64 x1) rfl rfl (w_none rfl) rfl (f_load (kI .i64) ty3 rfl rfl hx1 rfl) ?_
        refine EvI.pure (v := Sl.val a1) rfl rfl (w_none rfl) rfl (f_move rfl rfl) ?_
        refine EvI.pure (v := .int .i64 s2.2) rfl rfl (w_none rfl) rfl (f_move rfl rfl) ?_
        obtain ⟨q2, hq2, hF⟩ := hF
        refine EvI.pure (v := .pointer (some q2)) rfl rfl (w_none rfl) rfl (f_indexAddr (s := a1) Try.underlying30 ty32.size rfl rfl rfl hq2) ?_
        refine EvI.pure (v := .pointer (some (q2.add 0))) rfl rfl (w_none rfl) rfl (f_fieldAddr fd32_0 rfl rfl) ?_
        obtain ⟨x2, hx2, hF⟩ := hF
        refine EvI.read (v := .int .i64 x2) rfl rfl (w_none rfl) rfl (f_load (kI .i64) ty3 rfl rfl hx2 rfl) ?_
        refine EvI.pure (v := .bool (decide (x1 < x2))) rfl rfl (w_none rfl) rfl (f_lss rfl rfl rfl) ?_
        refine EvI.pure (v := .bool (decide (x1 < x2))) rfl rfl (w_none rfl) rfl (f_assign rfl rfl) ?_
        refine EvI.nil ?_
        rcases ite_inv hF with ⟨c2, hF⟩ | ⟨c2, hF⟩
        · refine WP.cond_true _ rfl c2 ?_
          refine WP.region ?_
          refine EvK.pure (v := .int .i64 s2.1) (w_none rfl) rfl rfl (f_move rfl rfl) ?_
          refine EvK.pure (v := .int .i64 (IntKind.i64.wrap (s2.1 + 1))) (w_none rfl) rfl rfl (f_add rfl rfl rfl) ?_
          refine EvK.pure (v := .int .i64 (IntKind.i64.wrap (s2.1 + 1))) (w_none rfl) rfl rfl (f_assign rfl rfl) ?_
          refine EvK.nil ?_
          exact KE.mk (IntKind.i64.wrap (s2.1 + 1), s2.2) ⟨rfl, rfl, rfl, rfl, trivial⟩ hF
        · refine WP.cond_false _ rfl c2 ?_
          refine WP.seq ?_
          refine WP.draw mixed [.pure, .pure, .pure, .pure, .read, .pure, .pure, .pure, .pure, .read, .pure, .pure] [[], [], [0, 1], [0, 1, 2], [0, 1, 2, 3], [], [], [5, 6], [5, 6, 7], [5, 6, 7, 8], [0, 1, 2, 3, 4, 5, 6, 7, 8, 9], [0, 1, 2, 3, 4, 5, 6, 7, 8, 9, 10]] [0, 1, 2, 3, 4, 5, 6, 7, 8, 9, 10, 11] (by kernel_rfl) (by kernel_rfl) ?_
          refine EvI.pure (v := Sl.val a1) rfl rfl (w_none rfl) rfl (f_move rfl rfl) ?_
          refine EvI.pure (v := .int .i64 s2.2) rfl rfl (w_none rfl) rfl (f_move rfl rfl) ?_
          obtain ⟨q3, hq3, hF⟩ := hF
          refine EvI.pure (v := .pointer (some q3)) rfl rfl (w_none rfl) rfl (f_indexAddr (s := a1) Try.underlying30 ty32.size rfl rfl rfl hq3) ?_
          refine EvI.pure (v := .pointer (some (q3.add 0))) rfl rfl (w_none rfl) rfl (f_fieldAddr fd32_0 rfl rfl) ?_
          obtain ⟨x3, hx3, hF⟩ := hF
          refine EvI.read (v := .int .i64 x3) rfl rfl (w_none rfl) rfl (f_load (kI .i64) ty3 rfl rfl hx3 rfl) ?_
          refine EvI.pure (v := Sl.val a0) rfl rfl (w_none rfl) rfl (f_move rfl rfl) ?_
          refine EvI.pure (v := .int .i64 s2.1) rfl rfl (w_none rfl) rfl (f_move rfl rfl) ?_
          obtain ⟨q4, hq4, hF⟩ := hF
          refine EvI.pure (v := .pointer (some q4)) rfl rfl (w_none rfl) rfl (f_indexAddr (s := a0) Try.underlying30 ty32.size rfl rfl rfl hq4) ?_
          refine EvI.pure (v := .pointer (some (q4.add 0))) rfl rfl (w_none rfl) rfl (f_fieldAddr fd32_0 rfl rfl) ?_
          obtain ⟨x4, hx4, hF⟩ := hF
          refine EvI.read (v := .int .i64 x4) rfl rfl (w_none rfl) rfl (f_load (kI .i64) ty3 rfl rfl hx4 rfl) ?_
          refine EvI.pure (v := .bool (decide (x3 < x4))) rfl rfl (w_none rfl) rfl (f_lss rfl rfl rfl) ?_
          refine EvI.pure (v := .bool (decide (x3 < x4))) rfl rfl (w_none rfl) rfl (f_assign rfl rfl) ?_
          refine EvI.nil ?_
          rcases ite_inv hF with ⟨c3, hF⟩ | ⟨c3, hF⟩
          · refine WP.cond_true _ rfl c3 ?_
            refine WP.region ?_
            refine EvK.pure (v := .int .i64 s2.2) (w_none rfl) rfl rfl (f_move rfl rfl) ?_
            refine EvK.pure (v := .int .i64 (IntKind.i64.wrap (s2.2 + 1))) (w_none rfl) rfl rfl (f_add rfl rfl rfl) ?_
            refine EvK.pure (v := .int .i64 (IntKind.i64.wrap (s2.2 + 1))) (w_none rfl) rfl rfl (f_assign rfl rfl) ?_
            refine EvK.nil ?_
            exact KE.mk (s2.1, IntKind.i64.wrap (s2.2 + 1)) ⟨rfl, rfl, rfl, rfl, trivial⟩ hF
          · refine WP.cond_false _ rfl c3 ?_
            refine WP.seq ?_
            refine WP.joinF (fun (s4 : Bool) => [(29, .bool s4), (0, Sl.val a0), (1, Sl.val a1), (5, .int .i64 s2.1), (6, .int .i64 s2.2)]) hF ?_ ?_
            · intro s4 E0 h4 hF
              rcases ite_inv hF with ⟨c4, hF⟩ | ⟨c4, hF⟩
              · refine WP.cond_true _ rfl c4 ?_
                refine WP.seq ?_
                refine WP.region ?_
                refine EvK.pure (v := .bool true) (w_none rfl) rfl rfl (f_assign rfl rfl) ?_
                refine EvK.nil ?_
                refine WP.ret ?_
                exact Ret.mk (vs := [.bool true]) true ⟨rfl, trivial⟩ rfl hF
              · refine WP.cond_false _ rfl c4 ?_
                refine WP.skip ?_
                refine WP.seq ?_
                refine WP.region ?_
                refine EvK.pure (v := .int .i64 s2.1) (w_none rfl) rfl rfl (f_move rfl rfl) ?_
                refine EvK.pure (v := .int .i64 (IntKind.i64.wrap (s2.1 + 1))) (w_none rfl) rfl rfl (f_add rfl rfl rfl) ?_
                refine EvK.pure (v := .int .i64 (IntKind.i64.wrap (s2.1 + 1))) (w_none rfl) rfl rfl (f_assign rfl rfl) ?_
                refine EvK.nil ?_
                refine WP.region ?_
                refine EvK.pure (v := .int .i64 s2.2) (w_none rfl) rfl rfl (f_move rfl rfl) ?_
                refine EvK.pure (v := .int .i64 (IntKind.i64.wrap (s2.2 + 1))) (w_none rfl) rfl rfl (f_add rfl rfl rfl) ?_
                refine EvK.pure (v := .int .i64 (IntKind.i64.wrap (s2.2 + 1))) (w_none rfl) rfl rfl (f_assign rfl rfl) ?_
                refine EvK.nil ?_
                exact KE.mk (IntKind.i64.wrap (s2.1 + 1), IntKind.i64.wrap (s2.2 + 1)) ⟨rfl, rfl, rfl, rfl, trivial⟩ hF
            · intro k4 hF
              refine WP.region ?_
              refine EvK.pure (v := Sl.val a0) (w_none rfl) rfl rfl (f_move rfl rfl) ?_
              refine EvK.pure (v := .int .i64 s2.1) (w_none rfl) rfl rfl (f_move rfl rfl) ?_
              obtain ⟨q5, hq5, hF⟩ := hF
              refine EvK.pure (v := .pointer (some q5)) (w_none rfl) rfl rfl (f_indexAddr (s := a0) Try.underlying30 ty32.size rfl rfl rfl hq5) ?_
              refine EvK.pure (v := .pointer (some (q5.add 1))) (w_none rfl) rfl rfl (f_fieldAddr fd32_1 rfl rfl) ?_
              obtain ⟨x5, hx5, hF⟩ := hF
              refine EvK.read (v := .bool x5) (w_none rfl) rfl rfl (f_load kB ty4 rfl rfl hx5 rfl) ?_
              refine EvK.pure (v := .bool x5) (w_none rfl) rfl rfl (f_move rfl rfl) ?_
              rcases ite_inv hF with ⟨c5, hF⟩ | ⟨c5, hF⟩
              · refine EvK.pure (v := Sl.val a1) (w_some rfl rfl c5) rfl rfl (f_move rfl rfl) ?_
                refine EvK.pure (v := .int .i64 s2.2) (w_some rfl rfl c5) rfl rfl (f_move rfl rfl) ?_
                obtain ⟨q6, hq6, hF⟩ := hF
                refine EvK.pure (v := .pointer (some q6)) (w_some rfl rfl c5) rfl rfl (f_indexAddr (s := a1) Try.underlying30 ty32.size rfl rfl rfl hq6) ?_
                refine EvK.pure (v := .pointer (some (q6.add 1))) (w_some rfl rfl c5) rfl rfl (f_fieldAddr fd32_1 rfl rfl) ?_
                obtain ⟨x6, hx6, hF⟩ := hF
                refine EvK.read (v := .bool x6) (w_some rfl rfl c5) rfl rfl (f_load kB ty4 rfl rfl hx6 rfl) ?_
                refine EvK.pure (v := .bool x6) (w_none rfl) rfl rfl (f_pickT rfl rfl c5 rfl) ?_
                refine EvK.pure (v := .bool (!x6)) (w_none rfl) rfl rfl (f_not rfl rfl) ?_
                refine EvK.nil ?_
                exact KE.mk (!x6) ⟨rfl, rfl, rfl, rfl, rfl, trivial⟩ hF
              · refine EvK.not (w_not rfl rfl c5) rfl rfl ?_
                refine EvK.not (w_not rfl rfl c5) rfl rfl ?_
                refine EvK.not (w_not rfl rfl c5) rfl rfl ?_
                refine EvK.not (w_not rfl rfl c5) rfl rfl ?_
                refine EvK.not (w_not rfl rfl c5) rfl rfl ?_
                refine EvK.pure (v := .bool false) (w_none rfl) rfl rfl (f_pickF rfl rfl c5 rfl) ?_
                refine EvK.pure (v := .bool (!false)) (w_none rfl) rfl rfl (f_not rfl rfl) ?_
                refine EvK.nil ?_
                exact KE.mk (!false) ⟨rfl, rfl, rfl, rfl, rfl, trivial⟩ hF
      · refine WP.cond_false _ rfl c1 ?_
        refine WP.exit ?_
        exact KE.mk () trivial hF
    · intro k3 hF
      refine WP.region ?_
      refine EvK.pure (v := .int .i64 s2.1) (w_none rfl) rfl rfl (f_move rfl rfl) ?_
      refine EvK.pure (v := Sl.val a0) (w_none rfl) rfl rfl (f_move rfl rfl) ?_
      refine EvK.pure (v := .int .i64 (a0.len : Int)) (w_none rfl) rfl rfl (f_lenL (s := a0) Try.underlying30 rfl rfl) ?_
      refine EvK.pure (v := .bool (decide (s2.1 < (a0.len : Int)))) (w_none rfl) rfl rfl (f_lss rfl rfl rfl) ?_
      refine EvK.pure (v := .bool (decide (s2.1 < (a0.len : Int)))) (w_none rfl) rfl rfl (f_move rfl rfl) ?_
      rcases ite_inv hF with ⟨c6, hF⟩ | ⟨c6, hF⟩
      · refine EvK.pure (v := .int .i64 s2.2) (w_some rfl rfl c6) rfl rfl (f_move rfl rfl) ?_
        refine EvK.pure (v := Sl.val a1) (w_some rfl rfl c6) rfl rfl (f_move rfl rfl) ?_
        refine EvK.pure (v := .int .i64 (a1.len : Int)) (w_some rfl rfl c6) rfl rfl (f_lenL (s := a1) Try.underlying30 rfl rfl) ?_
        refine EvK.pure (v := .bool (decide (s2.2 < (a1.len : Int)))) (w_some rfl rfl c6) rfl rfl (f_lss rfl rfl rfl) ?_
        refine EvK.pure (v := .bool (decide (s2.2 < (a1.len : Int)))) (w_none rfl) rfl rfl (f_pickT rfl rfl c6 rfl) ?_
        refine EvK.nil ?_
        exact KE.mk (decide (s2.2 < (a1.len : Int))) ⟨rfl, rfl, rfl, rfl, rfl, trivial⟩ hF
      · refine EvK.not (w_not rfl rfl c6) rfl rfl ?_
        refine EvK.not (w_not rfl rfl c6) rfl rfl ?_
        refine EvK.not (w_not rfl rfl c6) rfl rfl ?_
        refine EvK.not (w_not rfl rfl c6) rfl rfl ?_
        refine EvK.pure (v := .bool false) (w_none rfl) rfl rfl (f_pickF rfl rfl c6 rfl) ?_
        refine EvK.nil ?_
        exact KE.mk false ⟨rfl, rfl, rfl, rfl, rfl, trivial⟩ hF
end Go.Proofs.Ytgmihbchcmjmdaa

namespace Go.Proofs.Ytgmihbchcmjmdaa
open Go Go.Tr
set_option linter.unusedVariables false
set_option maxRecDepth 100000
set_option maxHeartbeats 400000
def spatelaw11_SameLocks.b1 (p0 : Sl) (p1 : Sl) (s : Int) (h : H) (K : Int ⊕ (Unit ⊕ Bool) → H → Prop) : Prop :=
  if (decide (s < (p0.len : Int))) = true then
    rd (ixA 2 p0 s) fun q1 =>
    rd (ld k31 q1 h) fun x1 =>
    rd (ixA 2 p1 s) fun q2 =>
    rd (ld k31 q2 h) fun x2 =>
    if (!(eq32 x1 x2)) = true then
      K (.inr (.inr false)) h
    else
      K (.inl (IntKind.i64.wrap (s + 1))) h
  else
    K (.inr (.inl ())) h
/-- spate/spatelaw11.SameLocks -/
def spatelaw11_SameLocks (a0 : Sl) (a1 : Sl) (h : H) (Q : Bool → H → Prop) : Prop :=
  if ((a0.len : Int) != (a1.len : Int)) = true then
    Q false h
  else
    jn (fun (k1 : Unit → H → Prop) =>
      loopE (spatelaw11_SameLocks.b1 a0 a1) 0 h (sumK (fun r1 hh => k1 r1 hh) (fun r2 hh => Q r2 hh))) fun s1 h1 =>
    Q true h1
theorem spatelaw11_SameLocks.sound {a0 : Sl} {a1 : Sl} {h : H} {Q : Bool → H → Prop} (hF : spatelaw11_SameLocks a0 a1 h Q) :
    CallsH Try.prog 15 (List.toArray (α := Value) [Sl.val a0, Sl.val a1]) h fun v h' => ∃ x : Bool, v = .bool x ∧ Q x h' := by
  refine CallsH.of_body Try.func15 rfl 26 rfl rfl ?_
  refine WP.seq ?_
  refine WP.region ?_
  refine EvK.pure (v := .bool false) (w_none rfl) rfl rfl (f_assign rfl rfl) ?_
  refine EvK.nil ?_
  refine WP.seq ?_
  refine WP.seq ?_
  refine WP.region ?_
  refine EvK.pure (v := Sl.val a0) (w_none rfl) rfl rfl (f_move rfl rfl) ?_
  refine EvK.pure (v := .int .i64 (a0.len : Int)) (w_none rfl) rfl rfl (f_lenL (s := a0) Try.underlying30 rfl rfl) ?_
  refine EvK.pure (v := Sl.val a1) (w_none rfl) rfl rfl (f_move rfl rfl) ?_
  refine EvK.pure (v := .int .i64 (a1.len : Int)) (w_none rfl) rfl rfl (f_lenL (s := a1) Try.underlying30 rfl rfl) ?_
  refine EvK.pure (v := .bool ((a0.len : Int) != (a1.len : Int))) (w_none rfl) rfl rfl (f_neq rfl rfl rfl) ?_
  refine EvK.nil ?_
  rcases ite_inv hF with ⟨c1, hF⟩ | ⟨c1, hF⟩
  · refine WP.cond_true _ rfl c1 ?_
    refine WP.seq ?_
    refine WP.region ?_
    refine EvK.pure (v := .bool false) (w_none rfl) rfl rfl (f_assign rfl rfl) ?_
    refine EvK.nil ?_
    refine WP.ret ?_
    exact Ret.mk (vs := [.bool false]) false ⟨rfl, trivial⟩ rfl hF
  · refine WP.cond_false _ rfl c1 ?_
    refine WP.skip ?_
    refine WP.joinF (fun (s1 : Unit) => []) hF ?_ ?_
    · intro s1 E0 h1 hF
      refine WP.seq ?_
      refine WP.region ?_
      refine EvK.pure (v := .bool true) (w_none rfl) rfl rfl (f_assign rfl rfl) ?_
      refine EvK.nil ?_
      refine WP.ret ?_
      exact Ret.mk (vs := [.bool true]) true ⟨rfl, trivial⟩ rfl hF
    · intro k1 hF
      refine WP.seq ?_
      refine WP.region ?_
      refine EvK.pure (v := .int .i64 0) (w_none rfl) rfl rfl (f_assign rfl rfl) ?_
      refine EvK.nil ?_
      refine WP.block ?_
      refine WP.loopF (fun (s2 : Int) => [(5, .int .i64 s2), (0, Sl.val a0), (1, Sl.val a1)]) hF ⟨rfl, rfl, rfl, trivial⟩ ?_
      intro k2 s2 E0 h2 hF
      refine WP.seq ?_
      refine WP.seq ?_
      refine WP.region ?_
      refine EvK.pure (v := .int .i64 s2) (w_none rfl) rfl rfl (f_move rfl rfl) ?_
      refine EvK.pure (v := Sl.val a0) (w_none rfl) rfl rfl (f_move rfl rfl) ?_
      refine EvK.pure (v := .int .i64 (a0.len : Int)) (w_none rfl) rfl rfl (f_lenL (s := a0) Try.underlying30 rfl rfl) ?_
      refine EvK.pure (v := .bool (decide (s2 < (a0.len : Int)))) (w_none rfl) rfl rfl (f_lss rfl rfl rfl) ?_
      refine EvK.nil ?_
      rcases ite_inv hF with ⟨c2, hF⟩ | ⟨c2, hF⟩
      · refine WP.cond_true _ rfl c2 ?_
        refine WP.skip ?_
        refine WP.seq ?_
        refine WP.block ?_
        refine WP.seq ?_
        refine WP.draw mixed [.pure, .pure, .pure, .read, .pure, .pure, .pure, .read, .pure] [[], [], [0, 1], [0, 1, 2], [], [], [4, 5], [4, 5, 6], [0, 1, 2, 3, 4, 5, 6, 7]] [0, 1, 2, 3, 4, 5, 6, 7, 8] (by kernel_rfl) (by kernel_rfl) ?_
        refine EvI.pure (v := Sl.val a0) rfl rfl (w_none rfl) rfl (f_move rfl rfl) ?_
        refine EvI.pure (v := .int .i64 s2) rfl rfl (w_none rfl) rfl (f_move rfl rfl) ?_
        obtain ⟨q1, hq1, hF⟩ := hF
        refine EvI.pure (v := .pointer (some q1)) rfl rfl (w_none rfl) rfl (f_indexAddr (s := a0) Try.underlying30 ty32.size rfl rfl rfl hq1) ?_
        obtain ⟨x1, hx1, hF⟩ := hF
        refine EvI.read (v := k31.val x1) rfl rfl (w_none rfl) rfl (f_load k31 ty32 rfl rfl hx1 rfl) ?_
        refine EvI.pure (v := Sl.val a1) rfl rfl (w_none rfl) rfl (f_move rfl rfl) ?_
        refine EvI.pure (v := .int .i64 s2) rfl rfl (w_none rfl) rfl (f_move rfl rfl) ?_
        obtain ⟨q2, hq2, hF⟩ := hF
        refine EvI.pure (v := .pointer (some q2)) rfl rfl (w_none rfl) rfl (f_indexAddr (s := a1) Try.underlying30 ty32.size rfl rfl rfl hq2) ?_
        obtain ⟨x2, hx2, hF⟩ := hF
        refine EvI.read (v := k31.val x2) rfl rfl (w_none rfl) rfl (f_load k31 ty32 rfl rfl hx2 rfl) ?_
        refine EvI.pure (v := .bool (!(eq32 x1 x2))) rfl rfl (w_none rfl) rfl (f_neqOf rfl rfl rfl (guard32 _ _) rfl (eqIn32 _ _)) ?_
        refine EvI.nil ?_
        rcases ite_inv hF with ⟨c3, hF⟩ | ⟨c3, hF⟩
        · refine WP.cond_true _ rfl c3 ?_
          refine WP.seq ?_
          refine WP.region ?_
          refine EvK.pure (v := .bool false) (w_none rfl) rfl rfl (f_assign rfl rfl) ?_
          refine EvK.nil ?_
          refine WP.ret ?_
          exact Ret.mk (vs := [.bool false]) false ⟨rfl, trivial⟩ rfl hF
        · refine WP.cond_false _ rfl c3 ?_
          refine WP.skip ?_
          refine WP.region ?_
          refine EvK.pure (v := .int .i64 s2) (w_none rfl) rfl rfl (f_move rfl rfl) ?_
          refine EvK.pure (v := .int .i64 (IntKind.i64.wrap (s2 + 1))) (w_none rfl) rfl rfl (f_add rfl rfl rfl) ?_
          refine EvK.pure (v := .int .i64 (IntKind.i64.wrap (s2 + 1))) (w_none rfl) rfl rfl (f_assign rfl rfl) ?_
          refine EvK.nil ?_
          exact KE.mk (IntKind.i64.wrap (s2 + 1)) ⟨rfl, rfl, rfl, trivial⟩ hF
      · refine WP.cond_false _ rfl c2 ?_
        refine WP.exit ?_
        exact KE.mk () trivial hF
end Go.Proofs.Ytgmihbchcmjmdaa

namespace Go.Proofs.Ytgmihbchcmjmdaa
open Go Go.Tr
set_option linter.unusedVariables false
set_option maxRecDepth 100000
set_option maxHeartbeats 400000
def locks_Manager_Has.b1 (p0 : Option Addr) (p5 : Int) (p20 : Int) (s : Sl × Int) (h : H) (K : (Sl × Int) ⊕ Sl → H → Prop) : Prop :=
  if (decide (s.2 < p20)) = true then
    jn (fun (k2 : Sl → H → Prop) =>
      rd p0 fun q3 =>
      rd (ld kL (q3.add 1) h) fun x3 =>
      rd (ixA 2 x3 p5) fun q4 =>
      rd (ld kM (q4.add 1) h) fun x4 =>
      rd (mlk (kI .i64) 0 .i64 x4 s.2 h) fun x5 =>
      if (x5.1 != 0) = true then
        bs 32 1 (k31.enc (S31.mk s.2 (x5.1 == 1))) h fun x6 h4 =>
        ap k31.n 16 32 (k31.enc z31) s.1 x6 h4 fun x7 h5 =>
        k2 x7 h5
      else
        k2 s.1 h) fun s2 h3 =>
    K (.inl (s2, IntKind.i64.wrap (s.2 + 1))) h3
  else
    K (.inr s.1) h
/-- (*spate/locks.Manager).Has -/
def locks_Manager_Has (a0 : Option Addr) (a1 : Int) (h : H) (Q : Sl → H → Prop) : Prop :=
  rd a0 fun q1 =>
  rd (ld kL (q1.add 1) h) fun x1 =>
  locks_find x1 a1 h fun r1 h1 =>
  if (decide (r1 < 0)) = true then
    Q Sl.nil h1
  else
    jn (fun (k1 : Sl → H → Prop) =>
      rd a0 fun q2 =>
      rd (ld (kI .i64) (q2.add 0) h1) fun x2 =>
      loopE (locks_Manager_Has.b1 a0 r1 x2) (Sl.nil, 0) h1 (fun r2 hh => k1 r2 hh)) fun s1 h2 =>
    Q s1 h2
theorem locks_Manager_Has.sound {a0 : Option Addr} {a1 : Int} {h : H} {Q : Sl → H → Prop} (hF : locks_Manager_Has a0 a1 h Q) :
    CallsH Try.prog 16 (List.toArray (α := Value) [.pointer a0, .int .i64 a1]) h fun v h' => ∃ x : Sl, v = Sl.val x ∧ Q x h' := by
  refine CallsH.of_body Try.func16 rfl 45 rfl rfl ?_
  refine WP.seq ?_
  refine WP.region ?_
  refine EvK.pure (v := Sl.val Sl.nil) (w_none rfl) rfl rfl (f_assign rfl rfl) ?_
  refine EvK.nil ?_
  refine WP.seq ?_
  refine WP.region ?_
  refine EvK.pure (v := .pointer a0) (w_none rfl) rfl rfl (f_move rfl rfl) ?_
  obtain ⟨q1, hq1, hF⟩ := hF
  refine EvK.pure (v := .pointer (some q1)) (w_none rfl) rfl rfl (f_nilCheck rfl (congrArg Value.pointer hq1)) ?_
  refine EvK.pure (v := .pointer (some (q1.add 1))) (w_none rfl) rfl rfl (f_fieldAddr fd77_1 rfl rfl) ?_
  obtain ⟨x1, hx1, hF⟩ := hF
  refine EvK.read (v := Sl.val x1) (w_none rfl) rfl rfl (f_load kL ty75 rfl rfl hx1 rfl) ?_
  refine EvK.pure (v := .int .i64 a1) (w_none rfl) rfl rfl (f_move rfl rfl) ?_
  refine EvK.call (w_none rfl) rfl rfl (enterH Try.func43 rfl rfl rfl rfl (locks_find.sound hF)) ?_
  rintro _ h1 ⟨r1, rfl, hF⟩
  refine EvK.pure (v := .int .i64 r1) (w_none rfl) rfl rfl (f_assign rfl rfl) ?_
  refine EvK.nil ?_
  refine WP.seq ?_
  refine WP.seq ?_
  refine WP.region ?_
  refine EvK.pure (v := .int .i64 r1) (w_none rfl) rfl rfl (f_move rfl rfl) ?_
  refine EvK.pure (v := .bool (decide (r1 < 0))) (w_none rfl) rfl rfl (f_lss rfl rfl rfl) ?_
  refine EvK.nil ?_
  rcases ite_inv hF with ⟨c1, hF⟩ | ⟨c1, hF⟩
  · refine WP.cond_true _ rfl c1 ?_
    refine WP.seq ?_
    refine WP.region ?_
    refine EvK.pure (v := Sl.val Sl.nil) (w_none rfl) rfl rfl (f_assign rfl rfl) ?_
    refine EvK.nil ?_
    refine WP.ret ?_
    exact Ret.mk (vs := [Sl.val Sl.nil]) Sl.nil ⟨rfl, trivial⟩ rfl hF
  · refine WP.cond_false _ rfl c1 ?_
    refine WP.skip ?_
    refine WP.seq ?_
    refine WP.region ?_
    refine EvK.pure (v := Sl.val Sl.nil) (w_none rfl) rfl rfl (f_assign rfl rfl) ?_
    refine EvK.nil ?_
    refine WP.joinF (fun (s1 : Sl) => [(6, Sl.val s1)]) hF ?_ ?_
    · intro s1 E0 h2 hF
      refine WP.seq ?_
      refine WP.region ?_
      refine EvK.pure (v := Sl.val s1) (w_none rfl) rfl rfl (f_move rfl rfl) ?_
      refine EvK.pure (v := Sl.val s1) (w_none rfl) rfl rfl (f_assign rfl rfl) ?_
      refine EvK.nil ?_
      refine WP.ret ?_
      exact Ret.mk (vs := [Sl.val s1]) s1 ⟨rfl, trivial⟩ rfl hF
    · intro k1 hF
      refine WP.seq ?_
      refine WP.region ?_
      refine EvK.pure (v := .pointer a0) (w_none rfl) rfl rfl (f_move rfl rfl) ?_
      obtain ⟨q2, hq2, hF⟩ := hF
      refine EvK.pure (v := .pointer (some q2)) (w_none rfl) rfl rfl (f_nilCheck rfl (congrArg Value.pointer hq2)) ?_
      refine EvK.pure (v := .pointer (some (q2.add 0))) (w_none rfl) rfl rfl (f_fieldAddr fd77_0 rfl rfl) ?_
      obtain ⟨x2, hx2, hF⟩ := hF
      refine EvK.read (v := .int .i64 x2) (w_none rfl) rfl rfl (f_load (kI .i64) ty3 rfl rfl hx2 rfl) ?_
      refine EvK.pure (v := .int .i64 0) (w_none rfl) rfl rfl (f_move rfl rfl) ?_
      refine EvK.nil ?_
      refine WP.block ?_
      refine WP.loopF (fun (s2 : Sl × Int) => [(6, Sl.val s2.1), (21, .int .i64 s2.2), (0, .pointer a0), (5, .int .i64 r1), (20, .int .i64 x2)]) hF ⟨rfl, rfl, rfl, rfl, rfl, trivial⟩ ?_
      intro k2 s2 E0 h3 hF
      refine WP.seq ?_
      refine WP.region ?_
      refine EvK.pure (v := .bool (decide (s2.2 < x2))) (w_none rfl) rfl rfl (f_lss rfl rfl rfl) ?_
      refine EvK.nil ?_
      refine WP.seq ?_
      rcases ite_inv hF with ⟨c2, hF⟩ | ⟨c2, hF⟩
      · refine WP.cond_true _ rfl c2 ?_
        refine WP.skip ?_
        refine WP.joinF (fun (s3 : Sl) => [(6, Sl.val s3), (0, .pointer a0), (5, .int .i64 r1), (20, .int .i64 x2), (21, .int .i64 s2.2)]) hF ?_ ?_
        · intro s3 E0 h4 hF
          refine WP.region ?_
          refine EvK.pure (v := .int .i64 (IntKind.i64.wrap (s2.2 + 1))) (w_none rfl) rfl rfl (f_add rfl rfl rfl) ?_
          refine EvK.pure (v := .int .i64 (IntKind.i64.wrap (s2.2 + 1))) (w_none rfl) rfl rfl (f_move rfl rfl) ?_
          refine EvK.nil ?_
          exact KE.mk (s3, IntKind.i64.wrap (s2.2 + 1)) ⟨rfl, rfl, rfl, rfl, rfl, trivial⟩ hF
        · intro k3 hF
          refine WP.block ?_
          refine WP.seq ?_
          refine WP.region ?_
          refine EvK.pure (v := .int .i64 s2.2) (w_none rfl) rfl rfl (f_move rfl rfl) ?_
          refine EvK.pure (v := .int .i64 s2.2) (w_none rfl) rfl rfl (f_assign rfl rfl) ?_
          refine EvK.nil ?_
          refine WP.seq ?_
          refine WP.region ?_
          refine EvK.pure (v := .pointer a0) (w_none rfl) rfl rfl (f_move rfl rfl) ?_
          obtain ⟨q3, hq3, hF⟩ := hF
          refine EvK.pure (v := .pointer (some q3)) (w_none rfl) rfl rfl (f_nilCheck rfl (congrArg Value.pointer hq3)) ?_
          refine EvK.pure (v := .pointer (some (q3.add 1))) (w_none rfl) rfl rfl (f_fieldAddr fd77_1 rfl rfl) ?_
          obtain ⟨x3, hx3, hF⟩ := hF
          refine EvK.read (v := Sl.val x3) (w_none rfl) rfl rfl (f_load kL ty75 rfl rfl hx3 rfl) ?_
          refine EvK.pure (v := .int .i64 r1) (w_none rfl) rfl rfl (f_move rfl rfl) ?_
          obtain ⟨q4, hq4, hF⟩ := hF
          refine EvK.pure (v := .pointer (some q4)) (w_none rfl) rfl rfl (f_indexAddr (s := x3) Try.underlying75 ty86.size rfl rfl rfl hq4) ?_
          refine EvK.pure (v := .pointer (some (q4.add 1))) (w_none rfl) rfl rfl (f_fieldAddr fd86_1 rfl rfl) ?_
          obtain ⟨x4, hx4, hF⟩ := hF
          refine EvK.read (v := .map x4) (w_none rfl) rfl rfl (f_load kM ty78 rfl rfl hx4 rfl) ?_
          refine EvK.pure (v := .int .i64 s2.2) (w_none rfl) rfl rfl (f_move rfl rfl) ?_
          obtain ⟨x5, hx5, hF⟩ := hF
          refine EvK.read (v := .int .i64 x5.1) (w_none rfl) rfl rfl (f_lookup (K := (kI .i64)) (z := 0) rfl mt78 zero3 rfl rfl rfl hx5) ?_
          refine EvK.pure (v := .int .i64 x5.1) (w_none rfl) rfl rfl (f_assign rfl rfl) ?_
          refine EvK.nil ?_
          refine WP.seq ?_
          refine WP.region ?_
          refine EvK.pure (v := .int .i64 x5.1) (w_none rfl) rfl rfl (f_move rfl rfl) ?_
          refine EvK.pure (v := .bool (x5.1 != 0)) (w_none rfl) rfl rfl (f_neq rfl rfl rfl) ?_
          refine EvK.nil ?_
          rcases ite_inv hF with ⟨c3, hF⟩ | ⟨c3, hF⟩
          · refine WP.cond_true _ rfl c3 ?_
            refine WP.region ?_
            refine EvK.pure (v := Sl.val s2.1) (w_none rfl) rfl rfl (f_move rfl rfl) ?_
            refine EvK.pure (v := .int .i64 s2.2) (w_none rfl) rfl rfl (f_move rfl rfl) ?_
            refine EvK.pure (v := .int .i64 x5.1) (w_none rfl) rfl rfl (f_move rfl rfl) ?_
            refine EvK.pure (v := .bool (x5.1 == 1)) (w_none rfl) rfl rfl (f_eql rfl rfl rfl) ?_
            refine EvK.pure (v := k31.val (S31.mk s2.2 (x5.1 == 1))) (w_none rfl) rfl rfl (f_build (cells := k31.enc (S31.mk s2.2 (x5.1 == 1))) st32 rfl rfl rfl) ?_
            refine EvK.alloc (w_none rfl) rfl rfl (f_buildSliceF Try.underlying30 el32 (by decide) rfl rfl rfl hF) ?_
            rintro _ h5 ⟨x6, rfl, hF⟩
            refine EvK.run (w_none rfl) rfl rfl (f_appendE (s := s2.1) (x := x6) Try.underlying30 el32 rfl rfl rfl hF) ?_
            rintro _ h6 ⟨x7, rfl, hF⟩
            refine EvK.pure (v := Sl.val x7) (w_none rfl) rfl rfl (f_assign rfl rfl) ?_
            refine EvK.nil ?_
            exact KE.mk x7 ⟨rfl, rfl, rfl, rfl, rfl, trivial⟩ hF
          · refine WP.cond_false _ rfl c3 ?_
            refine WP.skip ?_
            exact KE.mk s2.1 ⟨rfl, rfl, rfl, rfl, rfl, trivial⟩ hF
      · refine WP.cond_false _ rfl c2 ?_
        refine WP.exit ?_
        exact KE.mk s2.1 ⟨rfl, trivial⟩ hF
end Go.Proofs.Ytgmihbchcmjmdaa

namespace Go.Proofs.Ytgmihbchcmjmdaa
open Go Go.Tr
set_option linter.unusedVariables false
set_option maxRecDepth 100000
set_option maxHeartbeats 400000
/-- spate/spatelaw11.without -/
def spatelaw11_without (a0 : Sl) (a1 : Int) (h : H) (Q : Sl → H → Prop) : Prop :=
  rd (slx 3 a0 none (some a1) none) fun x1 =>
  ap k34.n 40 35 (k34.enc z34) Sl.nil x1 h fun x2 h1 =>
  rd (slx 3 a0 (some (IntKind.i64.wrap (a1 + 1))) none none) fun x3 =>
  ap k34.n 40 35 (k34.enc z34) x2 x3 h1 fun x4 h2 =>
  Q x4 h2
theorem spatelaw11_without.sound {a0 : Sl} {a1 : Int} {h : H} {Q : Sl → H → Prop} (hF : spatelaw11_without a0 a1 h Q) :
    CallsH Try.prog 18 (List.toArray (α := Value) [Sl.val a0, .int .i64 a1]) h fun v h' => ∃ x : Sl, v = Sl.val x ∧ Q x h' := by
  refine CallsH.of_body Try.func18 rfl 17 rfl rfl ?_
  refine WP.seq ?_
  refine WP.region ?_
  refine EvK.pure (v := Sl.val Sl.nil) (w_none rfl) rfl rfl (f_assign rfl rfl) ?_
  refine EvK.nil ?_
  refine WP.seq ?_
  refine WP.region ?_
  refine EvK.pure (v := Sl.val Sl.nil) (w_none rfl) rfl rfl (f_assign rfl rfl) ?_
  refine EvK.nil ?_
  refine WP.seq ?_
  refine WP.region ?_
  refine EvK.pure (v := Sl.val Sl.nil) (w_none rfl) rfl rfl (f_move rfl rfl) ?_
  refine EvK.pure (v := Sl.val a0) (w_none rfl) rfl rfl (f_move rfl rfl) ?_
  refine EvK.pure (v := .int .i64 a1) (w_none rfl) rfl rfl (f_move rfl rfl) ?_
  obtain ⟨x1, hx1, hF⟩ := hF
  refine EvK.pure (v := Sl.val x1) (w_none rfl) rfl rfl (f_slice Try.underlying29 ty35.size rfl rfl bndV_none (bndV_some rfl) bndV_none hx1) ?_
  refine EvK.run (w_none rfl) rfl rfl (f_appendE (s := Sl.nil) (x := x1) Try.underlying29 el35 rfl rfl rfl hF) ?_
  rintro _ h1 ⟨x2, rfl, hF⟩
  refine EvK.pure (v := Sl.val x2) (w_none rfl) rfl rfl (f_assign rfl rfl) ?_
  refine EvK.nil ?_
  refine WP.seq ?_
  refine WP.region ?_
  refine EvK.pure (v := Sl.val x2) (w_none rfl) rfl rfl (f_move rfl rfl) ?_
  refine EvK.pure (v := Sl.val a0) (w_none rfl) rfl rfl (f_move rfl rfl) ?_
  refine EvK.pure (v := .int .i64 a1) (w_none rfl) rfl rfl (f_move rfl rfl) ?_
  refine EvK.pure (v := .int .i64 (IntKind.i64.wrap (a1 + 1))) (w_none rfl) rfl rfl (f_add rfl rfl rfl) ?_
  obtain ⟨x3, hx2, hF⟩ := hF
  refine EvK.pure (v := Sl.val x3) (w_none rfl) rfl rfl (f_slice Try.underlying29 ty35.size rfl rfl (bndV_some rfl) bndV_none bndV_none hx2) ?_
  refine EvK.run (w_none rfl) rfl rfl (f_appendE (s := x2) (x := x3) Try.underlying29 el35 rfl rfl rfl hF) ?_
  rintro _ h2 ⟨x4, rfl, hF⟩
  refine EvK.pure (v := Sl.val x4) (w_none rfl) rfl rfl (f_assign rfl rfl) ?_
  refine EvK.nil ?_
  refine WP.ret ?_
  exact Ret.mk (vs := [Sl.val x4]) x4 ⟨rfl, trivial⟩ rfl hF
end Go.Proofs.Ytgmihbchcmjmdaa

namespace Go.Proofs.Ytgmihbchcmjmdaa
open Go Go.Tr
set_option linter.unusedVariables false
set_option maxRecDepth 100000
set_option maxHeartbeats 400000
def spatelaw11_SameInts.b1 (p0 : Sl) (p1 : Sl) (s : Int) (h : H) (K : Int ⊕ (Unit ⊕ Bool) → H → Prop) : Prop :=
  if (decide (s < (p0.len : Int))) = true then
    rd (ixA 1 p0 s) fun q1 =>
    rd (ld (kI .i64) q1 h) fun x1 =>
    rd (ixA 1 p1 s) fun q2 =>
    rd (ld (kI .i64) q2 h) fun x2 =>
    if (x1 != x2) = true then
      K (.inr (.inr false)) h
    else
      K (.inl (IntKind.i64.wrap (s + 1))) h
  else
    K (.inr (.inl ())) h
/-- spate/spatelaw11.SameInts -/
def spatelaw11_SameInts (a0 : Sl) (a1 : Sl) (h : H) (Q : Bool → H → Prop) : Prop :=
  if ((a0.len : Int) != (a1.len : Int)) = true then
    Q false h
  else
    jn (fun (k1 : Unit → H → Prop) =>
      loopE (spatelaw11_SameInts.b1 a0 a1) 0 h (sumK (fun r1 hh => k1 r1 hh) (fun r2 hh => Q r2 hh))) fun s1 h1 =>
    Q true h1
theorem spatelaw11_SameInts.sound {a0 : Sl} {a1 : Sl} {h : H} {Q : Bool → H → Prop} (hF : spatelaw11_SameInts a0 a1 h Q) :
    CallsH Try.prog 19 (List.toArray (α := Value) [Sl.val a0, Sl.val a1]) h fun v h' => ∃ x : Bool, v = .bool x ∧ Q x h' := by
  refine CallsH.of_body Try.func19 rfl 26 rfl rfl ?_
  refine WP.seq ?_
  refine WP.region ?_
  refine EvK.pure (v := .bool false) (w_none rfl) rfl rfl (f_assign rfl rfl) ?_
  refine EvK.nil ?_
  refine WP.seq ?_
  refine WP.seq ?_
  refine WP.region ?_
  refine EvK.pure (v := Sl.val a0) (w_none rfl) rfl rfl (f_move rfl rfl) ?_
  refine EvK.pure (v := .int .i64 (a0.len : Int)) (w_none rfl) rfl rfl (f_lenL (s := a0) Try.underlying22 rfl rfl) ?_
  refine EvK.pure (v := Sl.val a1) (w_none rfl) rfl rfl (f_move rfl rfl) ?_
  refine EvK.pure (v := .int .i64 (a1.len : Int)) (w_none rfl) rfl rfl (f_lenL (s := a1) Try.underlying22 rfl rfl) ?_
  refine EvK.pure (v := .bool ((a0.len : Int) != (a1.len : Int))) (w_none rfl) rfl rfl (f_neq rfl rfl rfl) ?_
  refine EvK.nil ?_
  rcases ite_inv hF with ⟨c1, hF⟩ | ⟨c1, hF⟩
  · refine WP.cond_true _ rfl c1 ?_
    refine WP.seq ?_
    refine WP.region ?_
    refine EvK.pure (v := .bool false) (w_none rfl) rfl rfl (f_assign rfl rfl) ?_
    refine EvK.nil ?_
    refine WP.ret ?_
    exact Ret.mk (vs := [.bool false]) false ⟨rfl, trivial⟩ rfl hF
  · refine WP.cond_false _ rfl c1 ?_
    refine WP.skip ?_
    refine WP.joinF (fun (s1 : Unit) => []) hF ?_ ?_
    · intro s1 E0 h1 hF
      refine WP.seq ?_
      refine WP.region ?_
      refine EvK.pure (v := .bool true) (w_none rfl) rfl rfl (f_assign rfl rfl) ?_
      refine EvK.nil ?_
      refine WP.ret ?_
      exact Ret.mk (vs := [.bool true]) true ⟨rfl, trivial⟩ rfl hF
    · intro k1 hF
      refine WP.seq ?_
      refine WP.region ?_
      refine EvK.pure (v := .int .i64 0) (w_none rfl) rfl rfl (f_assign rfl rfl) ?_
      refine EvK.nil ?_
      refine WP.block ?_
      refine WP.loopF (fun (s2 : Int) => [(5, .int .i64 s2), (0, Sl.val a0), (1, Sl.val a1)]) hF ⟨rfl, rfl, rfl, trivial⟩ ?_
      intro k2 s2 E0 h2 hF
      refine WP.seq ?_
      refine WP.seq ?_
      refine WP.region ?_
      refine EvK.pure (v := .int .i64 s2) (w_none rfl) rfl rfl (f_move rfl rfl) ?_
      refine EvK.pure (v := Sl.val a0) (w_none rfl) rfl rfl (f_move rfl rfl) ?_
      refine EvK.pure (v := .int .i64 (a0.len : Int)) (w_none rfl) rfl rfl (f_lenL (s := a0) Try.underlying22 rfl rfl) ?_
      refine EvK.pure (v := .bool (decide (s2 < (a0.len : Int)))) (w_none rfl) rfl rfl (f_lss rfl rfl rfl) ?_
      refine EvK.nil ?_
      rcases ite_inv hF with ⟨c2, hF⟩ | ⟨c2, hF⟩
      · refine WP.cond_true _ rfl c2 ?_
        refine WP.skip ?_
        refine WP.seq ?_
        refine WP.block ?_
        refine WP.seq ?_
        refine WP.draw mixed [.pure, .pure, .pure, .read, .pure, .pure, .pure, .read, .pure] [[], [], [0, 1], [0, 1, 2], [], [], [4, 5], [4, 5, 6], [0, 1, 2, 3, 4, 5, 6, 7]] [0, 1, 2, 3, 4, 5, 6, 7, 8] (by kernel_rfl) (by kernel_rfl) ?_
        refine EvI.pure (v := Sl.val a0) rfl rfl (w_none rfl) rfl (f_move rfl rfl) ?_
        refine EvI.pure (v := .int .i64 s2) rfl rfl (w_none rfl) rfl (f_move rfl rfl) ?_
        obtain ⟨q1, hq1, hF⟩ := hF
        refine EvI.pure (v := .pointer (some q1)) rfl rfl (w_none rfl) rfl (f_indexAddr (s := a0) Try.underlying22 ty3.size rfl rfl rfl hq1) ?_
        obtain ⟨x1, hx1, hF⟩ := hF
        refine EvI.read (v := .int .i64 x1) rfl rfl (w_none rfl) rfl (f_load (kI .i64) ty3 rfl rfl hx1 rfl) ?_
        refine EvI.pure (v := Sl.val a1) rfl rfl (w_none rfl) rfl (f_move rfl rfl) ?_
        refine EvI.pure (v := .int .i64 s2) rfl rfl (w_none rfl) rfl (f_move rfl rfl) ?_
        obtain ⟨q2, hq2, hF⟩ := hF
        refine EvI.pure (v := .pointer (some q2)) rfl rfl (w_none rfl) rfl (f_indexAddr (s := a1) Try.underlying22 ty3.size rfl rfl rfl hq2) ?_
        obtain ⟨x2, hx2, hF⟩ := hF
        refine EvI.read (v := .int .i64 x2) rfl rfl (w_none rfl) rfl (f_load (kI .i64) ty3 rfl rfl hx2 rfl) ?_
        refine EvI.pure (v := .bool (x1 != x2)) rfl rfl (w_none rfl) rfl (f_neq rfl rfl rfl) ?_
        refine EvI.nil ?_
        rcases ite_inv hF with ⟨c3, hF⟩ | ⟨c3, hF⟩
        · refine WP.cond_true _ rfl c3 ?_
          refine WP.seq ?_
          refine WP.region ?_
          refine EvK.pure (v := .bool false) (w_none rfl) rfl rfl (f_assign rfl rfl) ?_
          refine EvK.nil ?_
          refine WP.ret ?_
          exact Ret.mk (vs := [.bool false]) false ⟨rfl, trivial⟩ rfl hF
        · refine WP.cond_false _ rfl c3 ?_
          refine WP.skip ?_
          refine WP.region ?_
          refine EvK.pure (v := .int .i64 s2) (w_none rfl) rfl rfl (f_move rfl rfl) ?_
          refine EvK.pure (v := .int .i64 (IntKind.i64.wrap (s2 + 1))) (w_none rfl) rfl rfl (f_add rfl rfl rfl) ?_
          refine EvK.pure (v := .int .i64 (IntKind.i64.wrap (s2 + 1))) (w_none rfl) rfl rfl (f_assign rfl rfl) ?_
          refine EvK.nil ?_
          exact KE.mk (IntKind.i64.wrap (s2 + 1)) ⟨rfl, rfl, rfl, trivial⟩ hF
      · refine WP.cond_false _ rfl c2 ?_
        refine WP.exit ?_
        exact KE.mk () trivial hF
end Go.Proofs.Ytgmihbchcmjmdaa

namespace Go.Proofs.Ytgmihbchcmjmdaa
open Go Go.Tr
set_option linter.unusedVariables false
set_option maxRecDepth 100000
set_option maxHeartbeats 400000
def locks_Manager_Queue.b1 (p9 : Sl) (p10 : Int) (s : Sl × Int) (h : H) (K : (Sl × Int) ⊕ Sl → H → Prop) : Prop :=
  if (decide (s.2 < p10)) = true then
    rd (ixA 2 p9 s.2) fun q2 =>
    rd (ld k85 q2 h) fun x2 =>
    al 86 (k85.enc z85) h fun q3 h2 =>
    rd (st k85 q3 x2 h2) fun h3 =>
    rd (ld (kI .i64) (q3.add 0) h3) fun x3 =>
    bs 3 1 ((kI .i64).enc x3) h3 fun x4 h4 =>
    ap (kI .i64).n 8 3 ((kI .i64).enc 0) s.1 x4 h4 fun x5 h5 =>
    K (.inl (x5, IntKind.i64.wrap (s.2 + 1))) h5
  else
    K (.inr s.1) h
/-- (*spate/locks.Manager).Queue -/
def locks_Manager_Queue (a0 : Option Addr) (h : H) (Q : Sl → H → Prop) : Prop :=
  jn (fun (k1 : Sl → H → Prop) =>
    rd a0 fun q1 =>
    rd (ld kL (q1.add 2) h) fun x1 =>
    loopE (locks_Manager_Queue.b1 x1 (x1.len : Int)) (Sl.nil, 0) h (fun r1 hh => k1 r1 hh)) fun s1 h1 =>
  Q s1 h1
theorem locks_Manager_Queue.sound {a0 : Option Addr} {h : H} {Q : Sl → H → Prop} (hF : locks_Manager_Queue a0 h Q) :
    CallsH Try.prog 20 (List.toArray (α := Value) [.pointer a0]) h fun v h' => ∃ x : Sl, v = Sl.val x ∧ Q x h' := by
  refine CallsH.of_body Try.func20 rfl 22 rfl rfl ?_
  refine WP.seq ?_
  refine WP.region ?_
  refine EvK.pure (v := Sl.val Sl.nil) (w_none rfl) rfl rfl (f_assign rfl rfl) ?_
  refine EvK.nil ?_
  refine WP.seq ?_
  refine WP.region ?_
  refine EvK.pure (v := Sl.val Sl.nil) (w_none rfl) rfl rfl (f_assign rfl rfl) ?_
  refine EvK.nil ?_
  refine WP.joinF (fun (s1 : Sl) => [(3, Sl.val s1)]) hF ?_ ?_
  · intro s1 E0 h1 hF
    refine WP.seq ?_
    refine WP.region ?_
    refine EvK.pure (v := Sl.val s1) (w_none rfl) rfl rfl (f_move rfl rfl) ?_
    refine EvK.pure (v := Sl.val s1) (w_none rfl) rfl rfl (f_assign rfl rfl) ?_
    refine EvK.nil ?_
    refine WP.ret ?_
    exact Ret.mk (vs := [Sl.val s1]) s1 ⟨rfl, trivial⟩ rfl hF
  · intro k1 hF
    refine WP.seq ?_
    refine WP.region ?_
    refine EvK.pure (v := .pointer a0) (w_none rfl) rfl rfl (f_move rfl rfl) ?_
    obtain ⟨q1, hq1, hF⟩ := hF
    refine EvK.pure (v := .pointer (some q1)) (w_none rfl) rfl rfl (f_nilCheck rfl (congrArg Value.pointer hq1)) ?_
    refine EvK.pure (v := .pointer (some (q1.add 2))) (w_none rfl) rfl rfl (f_fieldAddr fd77_2 rfl rfl) ?_
    obtain ⟨x1, hx1, hF⟩ := hF
    refine EvK.read (v := Sl.val x1) (w_none rfl) rfl rfl (f_load kL ty75 rfl rfl hx1 rfl) ?_
    refine EvK.pure (v := .int .i64 (x1.len : Int)) (w_none rfl) rfl rfl (f_lenL (s := x1) Try.underlying75 rfl rfl) ?_
    refine EvK.pure (v := .int .i64 0) (w_none rfl) rfl rfl (f_move rfl rfl) ?_
    refine EvK.nil ?_
    refine WP.block ?_
    refine WP.loopF (fun (s2 : Sl × Int) => [(3, Sl.val s2.1), (11, .int .i64 s2.2), (9, Sl.val x1), (10, .int .i64 (x1.len : Int))]) hF ⟨rfl, rfl, rfl, rfl, trivial⟩ ?_
    intro k2 s2 E0 h2 hF
    refine WP.seq ?_
    refine WP.region ?_
    refine EvK.pure (v := .bool (decide (s2.2 < (x1.len : Int)))) (w_none rfl) rfl rfl (f_lss rfl rfl rfl) ?_
    refine EvK.nil ?_
    refine WP.seq ?_
    rcases ite_inv hF with ⟨c1, hF⟩ | ⟨c1, hF⟩
    · refine WP.cond_true _ rfl c1 ?_
      refine WP.skip ?_
      refine WP.seq ?_
      refine WP.block ?_
      refine WP.seq ?_
      refine WP.region ?_
      obtain ⟨q2, hq2, hF⟩ := hF
      refine EvK.pure (v := .pointer (some q2)) (w_none rfl) rfl rfl (f_indexAddr (s := x1) Try.underlying75 ty86.size rfl rfl rfl hq2) ?_
      obtain ⟨x2, hx2, hF⟩ := hF
      refine EvK.read (v := k85.val x2) (w_none rfl) rfl rfl (f_load k85 ty86 rfl rfl hx2 rfl) ?_
      refine EvK.alloc (w_none rfl) rfl rfl (f_allocF zero86 rfl rfl hF) ?_
      rintro _ h3 ⟨q3, rfl, hF⟩
      obtain ⟨h4, hs1, hF⟩ := hF
      refine EvK.runN (w_none rfl) rfl (f_store k85 ty86.size (z := x2) rfl rfl rfl hs1) ?_
      rintro _ _ ⟨rfl, rfl⟩
      refine EvK.nil ?_
      refine WP.region ?_
      refine EvK.pure (v := Sl.val s2.1) (w_none rfl) rfl rfl (f_move rfl rfl) ?_
      refine EvK.pure (v := .pointer (some (q3.add 0))) (w_none rfl) rfl rfl (f_fieldAddr fd86_0 rfl rfl) ?_
      obtain ⟨x3, hx3, hF⟩ := hF
      refine EvK.read (v := .int .i64 x3) (w_none rfl) rfl rfl (f_load (kI .i64) ty3 rfl rfl hx3 rfl) ?_
      refine EvK.alloc (w_none rfl) rfl rfl (f_buildSliceF Try.underlying22 el3 (by decide) rfl rfl rfl hF) ?_
      rintro _ h5 ⟨x4, rfl, hF⟩
      refine EvK.run (w_none rfl) rfl rfl (f_appendE (s := s2.1) (x := x4) Try.underlying22 el3 rfl rfl rfl hF) ?_
      rintro _ h6 ⟨x5, rfl, hF⟩
      refine EvK.pure (v := Sl.val x5) (w_none rfl) rfl rfl (f_assign rfl rfl) ?_
      refine EvK.nil ?_
      refine WP.region ?_
      refine EvK.pure (v := .int .i64 (IntKind.i64.wrap (s2.2 + 1))) (w_none rfl) rfl rfl (f_add rfl rfl rfl) ?_
      refine EvK.pure (v := .int .i64 (IntKind.i64.wrap (s2.2 + 1))) (w_none rfl) rfl rfl (f_move rfl rfl) ?_
      refine EvK.nil ?_
      exact KE.mk (x5, IntKind.i64.wrap (s2.2 + 1)) ⟨rfl, rfl, rfl, rfl, trivial⟩ hF
    · refine WP.cond_false _ rfl c1 ?_
      refine WP.exit ?_
      exact KE.mk s2.1 ⟨rfl, trivial⟩ hF
end Go.Proofs.Ytgmihbchcmjmdaa

namespace Go.Proofs.Ytgmihbchcmjmdaa
open Go Go.Tr
set_option linter.unusedVariables false
set_option maxRecDepth 100000
set_option maxHeartbeats 400000
/-- spate/spateref11.New -/
def spateref11_New (a0 : Int) (h : H) (Q : ((Option Addr) × Int) → H → Prop) : Prop :=
  jn (fun (k1 : Bool → H → Prop) =>
    if (decide (a0 < 1)) = true then
      k1 true h
    else
      k1 (decide (a0 > 1024)) h) fun s1 h1 =>
  if s1 = true then
    Q (none, 1) h1
  else
    al 93 (k92.enc (S92.mk a0 Sl.nil Sl.nil)) h1 fun q1 h2 =>
    Q ((some q1), 0) h2
theorem spateref11_New.sound {a0 : Int} {h : H} {Q : ((Option Addr) × Int) → H → Prop} (hF : spateref11_New a0 h Q) :
    CallsH Try.prog 21 (List.toArray (α := Value) [.int .i64 a0]) h fun v h' => ∃ x : (Option Addr) × Int, v = .tuple #[.pointer x.1, .int .i64 x.2] ∧ Q x h' := by
  refine CallsH.of_body Try.func21 rfl 13 rfl rfl ?_
  refine WP.seq ?_
  refine WP.region ?_
  refine EvK.pure (v := .pointer none) (w_none rfl) rfl rfl (f_assign rfl rfl) ?_
  refine EvK.pure (v := .int .i64 0) (w_none rfl) rfl rfl (f_assign rfl rfl) ?_
  refine EvK.nil ?_
  refine WP.seq ?_
  refine WP.joinF (fun (s1 : Bool) => [(9, .bool s1), (0, .int .i64 a0)]) hF ?_ ?_
  · intro s1 E0 h1 hF
    rcases ite_inv hF with ⟨c1, hF⟩ | ⟨c1, hF⟩
    · refine WP.cond_true _ rfl c1 ?_
      refine WP.seq ?_
      refine WP.region ?_
      refine EvK.pure (v := .pointer none) (w_none rfl) rfl rfl (f_assign rfl rfl) ?_
      refine EvK.pure (v := .int .i64 1) (w_none rfl) rfl rfl (f_assign rfl rfl) ?_
      refine EvK.nil ?_
      refine WP.ret ?_
      exact Ret.mk (vs := [.pointer none, .int .i64 1]) (none, 1) ⟨rfl, rfl, trivial⟩ rfl hF
    · refine WP.cond_false _ rfl c1 ?_
      refine WP.skip ?_
      refine WP.seq ?_
      refine WP.region ?_
      refine EvK.pure (v := .int .i64 a0) (w_none rfl) rfl rfl (f_move rfl rfl) ?_
      refine EvK.pure (v := k92.val (S92.mk a0 Sl.nil Sl.nil)) (w_none rfl) rfl rfl (f_build (cells := k92.enc (S92.mk a0 Sl.nil Sl.nil)) st93 rfl rfl rfl) ?_
      refine EvK.alloc (w_none rfl) rfl rfl (f_boxF (v := k92.val (S92.mk a0 Sl.nil Sl.nil)) rfl rfl rfl hF) ?_
      rintro _ h2 ⟨q1, rfl, hF⟩
      refine EvK.pure (v := .pointer (some q1)) (w_none rfl) rfl rfl (f_assign rfl rfl) ?_
      refine EvK.pure (v := .int .i64 0) (w_none rfl) rfl rfl (f_assign rfl rfl) ?_
      refine EvK.nil ?_
      refine WP.ret ?_
      exact Ret.mk (vs := [.pointer (some q1), .int .i64 0]) ((some q1), 0) ⟨rfl, rfl, trivial⟩ rfl hF
  · intro k1 hF
    refine WP.region ?_
    refine EvK.pure (v := .int .i64 a0) (w_none rfl) rfl rfl (f_move rfl rfl) ?_
    refine EvK.pure (v := .bool (decide (a0 < 1))) (w_none rfl) rfl rfl (f_lss rfl rfl rfl) ?_
    refine EvK.pure (v := .bool (decide (a0 < 1))) (w_none rfl) rfl rfl (f_move rfl rfl) ?_
    rcases ite_inv hF with ⟨c2, hF⟩ | ⟨c2, hF⟩
    · refine EvK.not (w_not rfl rfl c2) rfl rfl ?_
      refine EvK.not (w_not rfl rfl c2) rfl rfl ?_
      refine EvK.pure (v := .bool true) (w_none rfl) rfl rfl (f_pickT rfl rfl c2 rfl) ?_
      refine EvK.nil ?_
      exact KE.mk true ⟨rfl, rfl, trivial⟩ hF
    · refine EvK.pure (v := .int .i64 a0) (w_some rfl rfl c2) rfl rfl (f_move rfl rfl) ?_
      refine EvK.pure (v := .bool (decide (a0 > 1024))) (w_some rfl rfl c2) rfl rfl (f_gtr rfl rfl rfl) ?_
      refine EvK.pure (v := .bool (decide (a0 > 1024))) (w_none rfl) rfl rfl (f_pickF rfl rfl c2 rfl) ?_
      refine EvK.nil ?_
      exact KE.mk (decide (a0 > 1024)) ⟨rfl, rfl, trivial⟩ hF
end Go.Proofs.Ytgmihbchcmjmdaa

namespace Go.Proofs.Ytgmihbchcmjmdaa
open Go Go.Tr
set_option linter.unusedVariables false
set_option maxRecDepth 100000
set_option maxHeartbeats 400000
def spateref11_find.b1 (p0 : Sl) (p1 : Int) (s : Int) (h : H) (K : Int ⊕ (Unit ⊕ Int) → H → Prop) : Prop :=
  if (decide (s < (p0.len : Int))) = true then
    rd (ixA 2 p0 s) fun q1 =>
    rd (ld (kI .i64) (q1.add 0) h) fun x1 =>
    if (x1 == p1) = true then
      K (.inr (.inr s)) h
    else
      K (.inl (IntKind.i64.wrap (s + 1))) h
  else
    K (.inr (.inl ())) h
/-- spate/spateref11.find -/
def spateref11_find (a0 : Sl) (a1 : Int) (h : H) (Q : Int → H → Prop) : Prop :=
  jn (fun (k1 : Unit → H → Prop) =>
    loopE (spateref11_find.b1 a0 a1) 0 h (sumK (fun r1 hh => k1 r1 hh) (fun r2 hh => Q r2 hh))) fun s1 h1 =>
  Q (-1) h1
theorem spateref11_find.sound {a0 : Sl} {a1 : Int} {h : H} {Q : Int → H → Prop} (hF : spateref11_find a0 a1 h Q) :
    CallsH Try.prog 52 (List.toArray (α := Value) [Sl.val a0, .int .i64 a1]) h fun v h' => ∃ x : Int, v = .int .i64 x ∧ Q x h' := by
  refine CallsH.of_body Try.func52 rfl 20 rfl rfl ?_
  refine WP.seq ?_
  refine WP.region ?_
  refine EvK.pure (v := .int .i64 0) (w_none rfl) rfl rfl (f_assign rfl rfl) ?_
  refine EvK.nil ?_
  refine WP.joinF (fun (s1 : Unit) => []) hF ?_ ?_
  · intro s1 E0 h1 hF
    refine WP.seq ?_
    refine WP.region ?_
    refine EvK.pure (v := .int .i64 (-1)) (w_none rfl) rfl rfl (f_assign rfl rfl) ?_
    refine EvK.nil ?_
    refine WP.ret ?_
    exact Ret.mk (vs := [.int .i64 (-1)]) (-1) ⟨rfl, trivial⟩ rfl hF
  · intro k1 hF
    refine WP.seq ?_
    refine WP.region ?_
    refine EvK.pure (v := .int .i64 0) (w_none rfl) rfl rfl (f_assign rfl rfl) ?_
    refine EvK.nil ?_
    refine WP.block ?_
    refine WP.loopF (fun (s2 : Int) => [(5, .int .i64 s2), (0, Sl.val a0), (1, .int .i64 a1)]) hF ⟨rfl, rfl, rfl, trivial⟩ ?_
    intro k2 s2 E0 h2 hF
    refine WP.seq ?_
    refine WP.seq ?_
    refine WP.region ?_
    refine EvK.pure (v := .int .i64 s2) (w_none rfl) rfl rfl (f_move rfl rfl) ?_
    refine EvK.pure (v := Sl.val a0) (w_none rfl) rfl rfl (f_move rfl rfl) ?_
    refine EvK.pure (v := .int .i64 (a0.len : Int)) (w_none rfl) rfl rfl (f_lenL (s := a0) Try.underlying91 rfl rfl) ?_
    refine EvK.pure (v := .bool (decide (s2 < (a0.len : Int)))) (w_none rfl) rfl rfl (f_lss rfl rfl rfl) ?_
    refine EvK.nil ?_
    rcases ite_inv hF with ⟨c1, hF⟩ | ⟨c1, hF⟩
    · refine WP.cond_true _ rfl c1 ?_
      refine WP.skip ?_
      refine WP.seq ?_
      refine WP.block ?_
      refine WP.seq ?_
      refine WP.region ?_
      refine EvK.pure (v := Sl.val a0) (w_none rfl) rfl rfl (f_move rfl rfl) ?_
      refine EvK.pure (v := .int .i64 s2) (w_none rfl) rfl rfl (f_move rfl rfl) ?_
      obtain ⟨q1, hq1, hF⟩ := hF
      refine EvK.pure (v := .pointer (some q1)) (w_none rfl) rfl rfl (f_indexAddr (s := a0) Try.underlying91 ty99.size rfl rfl rfl hq1) ?_
      refine EvK.pure (v := .pointer (some (q1.add 0))) (w_none rfl) rfl rfl (f_fieldAddr fd99_0 rfl rfl) ?_
      obtain ⟨x1, hx1, hF⟩ := hF
      refine EvK.read (v := .int .i64 x1) (w_none rfl) rfl rfl (f_load (kI .i64) ty3 rfl rfl hx1 rfl) ?_
      refine EvK.pure (v := .int .i64 a1) (w_none rfl) rfl rfl (f_move rfl rfl) ?_
      refine EvK.pure (v := .bool (x1 == a1)) (w_none rfl) rfl rfl (f_eql rfl rfl rfl) ?_
      refine EvK.nil ?_
      rcases ite_inv hF with ⟨c2, hF⟩ | ⟨c2, hF⟩
      · refine WP.cond_true _ rfl c2 ?_
        refine WP.seq ?_
        refine WP.region ?_
        refine EvK.pure (v := .int .i64 s2) (w_none rfl) rfl rfl (f_move rfl rfl) ?_
        refine EvK.pure (v := .int .i64 s2) (w_none rfl) rfl rfl (f_assign rfl rfl) ?_
        refine EvK.nil ?_
        refine WP.ret ?_
        exact Ret.mk (vs := [.int .i64 s2]) s2 ⟨rfl, trivial⟩ rfl hF
      · refine WP.cond_false _ rfl c2 ?_
        refine WP.skip ?_
        refine WP.region ?_
        refine EvK.pure (v := .int .i64 s2) (w_none rfl) rfl rfl (f_move rfl rfl) ?_
        refine EvK.pure (v := .int .i64 (IntKind.i64.wrap (s2 + 1))) (w_none rfl) rfl rfl (f_add rfl rfl rfl) ?_
        refine EvK.pure (v := .int .i64 (IntKind.i64.wrap (s2 + 1))) (w_none rfl) rfl rfl (f_assign rfl rfl) ?_
        refine EvK.nil ?_
        exact KE.mk (IntKind.i64.wrap (s2 + 1)) ⟨rfl, rfl, rfl, trivial⟩ hF
    · refine WP.cond_false _ rfl c1 ?_
      refine WP.exit ?_
      exact KE.mk () trivial hF
end Go.Proofs.Ytgmihbchcmjmdaa

namespace Go.Proofs.Ytgmihbchcmjmdaa
open Go Go.Tr
set_option linter.unusedVariables false
set_option maxRecDepth 100000
set_option maxHeartbeats 400000
/-- (*spate/spateref11.Manager).Has -/
def spateref11_Manager_Has (a0 : Option Addr) (a1 : Int) (h : H) (Q : Sl → H → Prop) : Prop :=
  rd a0 fun q1 =>
  rd (ld kL (q1.add 1) h) fun x1 =>
  spateref11_find x1 a1 h fun r1 h1 =>
  if (decide (r1 < 0)) = true then
    Q Sl.nil h1
  else
    rd a0 fun q2 =>
    rd (ld kL (q2.add 1) h1) fun x2 =>
    rd (ixA 2 x2 r1) fun q3 =>
    rd (ld kL (q3.add 1) h1) fun x3 =>
    Q x3 h1
theorem spateref11_Manager_Has.sound {a0 : Option Addr} {a1 : Int} {h : H} {Q : Sl → H → Prop} (hF : spateref11_Manager_Has a0 a1 h Q) :
    CallsH Try.prog 38 (List.toArray (α := Value) [.pointer a0, .int .i64 a1]) h fun v h' => ∃ x : Sl, v = Sl.val x ∧ Q x h' := by
  refine CallsH.of_body Try.func38 rfl 22 rfl rfl ?_
  refine WP.seq ?_
  refine WP.region ?_
  refine EvK.pure (v := Sl.val Sl.nil) (w_none rfl) rfl rfl (f_assign rfl rfl) ?_
  refine EvK.nil ?_
  refine WP.seq ?_
  refine WP.region ?_
  refine EvK.pure (v := .pointer a0) (w_none rfl) rfl rfl (f_move rfl rfl) ?_
  obtain ⟨q1, hq1, hF⟩ := hF
  refine EvK.pure (v := .pointer (some q1)) (w_none rfl) rfl rfl (f_nilCheck rfl (congrArg Value.pointer hq1)) ?_
  refine EvK.pure (v := .pointer (some (q1.add 1))) (w_none rfl) rfl rfl (f_fieldAddr fd93_1 rfl rfl) ?_
  obtain ⟨x1, hx1, hF⟩ := hF
  refine EvK.read (v := Sl.val x1) (w_none rfl) rfl rfl (f_load kL ty91 rfl rfl hx1 rfl) ?_
  refine EvK.pure (v := .int .i64 a1) (w_none rfl) rfl rfl (f_move rfl rfl) ?_
  refine EvK.call (w_none rfl) rfl rfl (enterH Try.func52 rfl rfl rfl rfl (spateref11_find.sound hF)) ?_
  rintro _ h1 ⟨r1, rfl, hF⟩
  refine EvK.pure (v := .int .i64 r1) (w_none rfl) rfl rfl (f_assign rfl rfl) ?_
  refine EvK.nil ?_
  refine WP.seq ?_
  refine WP.seq ?_
  refine WP.region ?_
  refine EvK.pure (v := .int .i64 r1) (w_none rfl) rfl rfl (f_move rfl rfl) ?_
  refine EvK.pure (v := .bool (decide (r1 < 0))) (w_none rfl) rfl rfl (f_lss rfl rfl rfl) ?_
  refine EvK.nil ?_
  rcases ite_inv hF with ⟨c1, hF⟩ | ⟨c1, hF⟩
  · refine WP.cond_true _ rfl c1 ?_
    refine WP.seq ?_
    refine WP.region ?_
    refine EvK.pure (v := Sl.val Sl.nil) (w_none rfl) rfl rfl (f_assign rfl rfl) ?_
    refine EvK.nil ?_
    refine WP.ret ?_
    exact Ret.mk (vs := [Sl.val Sl.nil]) Sl.nil ⟨rfl, trivial⟩ rfl hF
  · refine WP.cond_false _ rfl c1 ?_
    refine WP.skip ?_
    refine WP.seq ?_
    refine WP.region ?_
    refine EvK.pure (v := .pointer a0) (w_none rfl) rfl rfl (f_move rfl rfl) ?_
    obtain ⟨q2, hq2, hF⟩ := hF
    refine EvK.pure (v := .pointer (some q2)) (w_none rfl) rfl rfl (f_nilCheck rfl (congrArg Value.pointer hq2)) ?_
    refine EvK.pure (v := .pointer (some (q2.add 1))) (w_none rfl) rfl rfl (f_fieldAddr fd93_1 rfl rfl) ?_
    obtain ⟨x2, hx2, hF⟩ := hF
    refine EvK.read (v := Sl.val x2) (w_none rfl) rfl rfl (f_load kL ty91 rfl rfl hx2 rfl) ?_
    refine EvK.pure (v := .int .i64 r1) (w_none rfl) rfl rfl (f_move rfl rfl) ?_
    obtain ⟨q3, hq3, hF⟩ := hF
    refine EvK.pure (v := .pointer (some q3)) (w_none rfl) rfl rfl (f_indexAddr (s := x2) Try.underlying91 ty99.size rfl rfl rfl hq3) ?_
    refine EvK.pure (v := .pointer (some (q3.add 1))) (w_none rfl) rfl rfl (f_fieldAddr fd99_1 rfl rfl) ?_
    obtain ⟨x3, hx3, hF⟩ := hF
    refine EvK.read (v := Sl.val x3) (w_none rfl) rfl rfl (f_load kL ty30 rfl rfl hx3 rfl) ?_
    refine EvK.pure (v := Sl.val x3) (w_none rfl) rfl rfl (f_assign rfl rfl) ?_
    refine EvK.nil ?_
    refine WP.ret ?_
    exact Ret.mk (vs := [Sl.val x3]) x3 ⟨rfl, trivial⟩ rfl hF
end Go.Proofs.Ytgmihbchcmjmdaa

namespace Go.Proofs.Ytgmihbchcmjmdaa
open Go Go.Tr
set_option linter.unusedVariables false
set_option maxRecDepth 100000
set_option maxHeartbeats 400000
def spateref11_Manager_Queue.b1 (p0 : Option Addr) (s : Sl × Int) (h : H) (K : (Sl × Int) ⊕ Sl → H → Prop) : Prop :=
  rd p0 fun q1 =>
  rd (ld kL (q1.add 2) h) fun x1 =>
  if (decide (s.2 < (x1.len : Int))) = true then
    rd p0 fun q2 =>
    rd (ld kL (q2.add 2) h) fun x2 =>
    rd (ixA 2 x2 s.2) fun q3 =>
    rd (ld (kI .i64) (q3.add 0) h) fun x3 =>
    bs 3 1 ((kI .i64).enc x3) h fun x4 h2 =>
    ap (kI .i64).n 8 3 ((kI .i64).enc 0) s.1 x4 h2 fun x5 h3 =>
    K (.inl (x5, IntKind.i64.wrap (s.2 + 1))) h3
  else
    K (.inr s.1) h
/-- (*spate/spateref11.Manager).Queue -/
def spateref11_Manager_Queue (a0 : Option Addr) (h : H) (Q : Sl → H → Prop) : Prop :=
  jn (fun (k1 : Sl → H → Prop) =>
    loopE (spateref11_Manager_Queue.b1 a0) (Sl.nil, 0) h (fun r1 hh => k1 r1 hh)) fun s1 h1 =>
  Q s1 h1
theorem spateref11_Manager_Queue.sound {a0 : Option Addr} {h : H} {Q : Sl → H → Prop} (hF : spateref11_Manager_Queue a0 h Q) :
    CallsH Try.prog 39 (List.toArray (α := Value) [.pointer a0]) h fun v h' => ∃ x : Sl, v = Sl.val x ∧ Q x h' := by
  refine CallsH.of_body Try.func39 rfl 26 rfl rfl ?_
  refine WP.seq ?_
  refine WP.region ?_
  refine EvK.pure (v := Sl.val Sl.nil) (w_none rfl) rfl rfl (f_assign rfl rfl) ?_
  refine EvK.nil ?_
  refine WP.seq ?_
  refine WP.region ?_
  refine EvK.pure (v := Sl.val Sl.nil) (w_none rfl) rfl rfl (f_assign rfl rfl) ?_
  refine EvK.nil ?_
  refine WP.joinF (fun (s1 : Sl) => [(3, Sl.val s1)]) hF ?_ ?_
  · intro s1 E0 h1 hF
    refine WP.seq ?_
    refine WP.region ?_
    refine EvK.pure (v := Sl.val s1) (w_none rfl) rfl rfl (f_move rfl rfl) ?_
    refine EvK.pure (v := Sl.val s1) (w_none rfl) rfl rfl (f_assign rfl rfl) ?_
    refine EvK.nil ?_
    refine WP.ret ?_
    exact Ret.mk (vs := [Sl.val s1]) s1 ⟨rfl, trivial⟩ rfl hF
  · intro k1 hF
    refine WP.seq ?_
    refine WP.region ?_
    refine EvK.pure (v := .int .i64 0) (w_none rfl) rfl rfl (f_assign rfl rfl) ?_
    refine EvK.nil ?_
    refine WP.block ?_
    refine WP.loopF (fun (s2 : Sl × Int) => [(3, Sl.val s2.1), (4, .int .i64 s2.2), (0, .pointer a0)]) hF ⟨rfl, rfl, rfl, trivial⟩ ?_
    intro k2 s2 E0 h2 hF
    refine WP.seq ?_
    refine WP.seq ?_
    refine WP.region ?_
    refine EvK.pure (v := .int .i64 s2.2) (w_none rfl) rfl rfl (f_move rfl rfl) ?_
    refine EvK.pure (v := .pointer a0) (w_none rfl) rfl rfl (f_move rfl rfl) ?_
    obtain ⟨q1, hq1, hF⟩ := hF
    refine EvK.pure (v := .pointer (some q1)) (w_none rfl) rfl rfl (f_nilCheck rfl (congrArg Value.pointer hq1)) ?_
    refine EvK.pure (v := .pointer (some (q1.add 2))) (w_none rfl) rfl rfl (f_fieldAddr fd93_2 rfl rfl) ?_
    obtain ⟨x1, hx1, hF⟩ := hF
    refine EvK.read (v := Sl.val x1) (w_none rfl) rfl rfl (f_load kL ty91 rfl rfl hx1 rfl) ?_
    refine EvK.pure (v := .int .i64 (x1.len : Int)) (w_none rfl) rfl rfl (f_lenL (s := x1) Try.underlying91 rfl rfl) ?_
    refine EvK.pure (v := .bool (decide (s2.2 < (x1.len : Int)))) (w_none rfl) rfl rfl (f_lss rfl rfl rfl) ?_
    refine EvK.nil ?_
    rcases ite_inv hF with ⟨c1, hF⟩ | ⟨c1, hF⟩
    · refine WP.cond_true _ rfl c1 ?_
      refine WP.skip ?_
      refine WP.seq ?_
      refine WP.block ?_
      refine WP.region ?_
      refine EvK.pure (v := Sl.val s2.1) (w_none rfl) rfl rfl (f_move rfl rfl) ?_
      refine EvK.pure (v := .pointer a0) (w_none rfl) rfl rfl (f_move rfl rfl) ?_
      obtain ⟨q2, hq2, hF⟩ := hF
      refine EvK.pure (v := .pointer (some q2)) (w_none rfl) rfl rfl (f_nilCheck rfl (congrArg Value.pointer hq2)) ?_
      refine EvK.pure (v := .pointer (some (q2.add 2))) (w_none rfl) rfl rfl (f_fieldAddr fd93_2 rfl rfl) ?_
      obtain ⟨x2, hx2, hF⟩ := hF
      refine EvK.read (v := Sl.val x2) (w_none rfl) rfl rfl (f_load kL ty91 rfl rfl hx2 rfl) ?_
      refine EvK.pure (v := .int .i64 s2.2) (w_none rfl) rfl rfl (f_move rfl rfl) ?_
      obtain ⟨q3, hq3, hF⟩ := hF
      refine EvK.pure (v := .pointer (some q3)) (w_none rfl) rfl rfl (f_indexAddr (s := x2) Try.underlying91 ty99.size rfl rfl rfl hq3) ?_
      refine EvK.pure (v := .pointer (some (q3.add 0))) (w_none rfl) rfl rfl (f_fieldAddr fd99_0 rfl rfl) ?_
      obtain ⟨x3, hx3, hF⟩ := hF
      refine EvK.read (v := .int .i64 x3) (w_none rfl) rfl rfl (f_load (kI .i64) ty3 rfl rfl hx3 rfl) ?_
      refine EvK.alloc (w_none rfl) rfl rfl (f_buildSliceF Try.underlying22 el3 (by decide) rfl rfl rfl hF) ?_
      rintro _ h3 ⟨x4, rfl, hF⟩
      refine EvK.run (w_none rfl) rfl rfl (f_appendE (s := s2.1) (x := x4) Try.underlying22 el3 rfl rfl rfl hF) ?_
      rintro _ h4 ⟨x5, rfl, hF⟩
      refine EvK.pure (v := Sl.val x5) (w_none rfl) rfl rfl (f_assign rfl rfl) ?_
      refine EvK.nil ?_
      refine WP.region ?_
      refine EvK.pure (v := .int .i64 s2.2) (w_none rfl) rfl rfl (f_move rfl rfl) ?_
      refine EvK.pure (v := .int .i64 (IntKind.i64.wrap (s2.2 + 1))) (w_none rfl) rfl rfl (f_add rfl rfl rfl) ?_
      refine EvK.pure (v := .int .i64 (IntKind.i64.wrap (s2.2 + 1))) (w_none rfl) rfl rfl (f_assign rfl rfl) ?_
      refine EvK.nil ?_
      exact KE.mk (x5, IntKind.i64.wrap (s2.2 + 1)) ⟨rfl, rfl, rfl, trivial⟩ hF
    · refine WP.cond_false _ rfl c1 ?_
      refine WP.exit ?_
      exact KE.mk s2.1 ⟨rfl, trivial⟩ hF
end Go.Proofs.Ytgmihbchcmjmdaa
