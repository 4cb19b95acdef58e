/- Functions as predicates over the heap, and that the code comes to them. Printed by gen.py, merged by group.py. -/
import Derived.Test.YtgmihbchcmjmdaaTy
namespace Go.Proofs.Ytgmihbchcmjmdaa
open Go Go.Tr
set_option linter.unusedVariables false
set_option maxRecDepth 100000
set_option maxHeartbeats 400000
/-- spate/locks.New -/
def locks_New (a0 : Int) (h : H) (Q : ((Option Addr) × Int) → H → Prop) : Prop :=
  jn (fun (k1 : Bool → H → Prop) =>
    if (decide (a0 < 1)) = true then
      k1 true h
    else
      k1 (decide (a0 > 1024)) h) fun s1 h1 =>
  if s1 = true then
    Q (none, 1) h1
  else
    al 77 (k76.enc (S76.mk a0 Sl.nil Sl.nil)) h1 fun q1 h2 =>
    Q ((some q1), 0) h2
theorem locks_New.sound {a0 : Int} {h : H} {Q : ((Option Addr) × Int) → H → Prop} (hF : locks_New a0 h Q) :
    CallsH Try.prog 12 (List.toArray (α := Value) [.int .i64 a0]) h fun v h' => ∃ x : (Option Addr) × Int, v = .tuple #[.pointer x.1, .int .i64 x.2] ∧ Q x h' := by
  refine CallsH.of_body Try.func12 rfl 13 rfl rfl ?_
  refine WP.seq ?_
  refine WP.region ?_
  refine EvK.pure (v := .pointer none) (w_none rfl) rfl rfl (f_assign rfl rfl) ?_
  refine EvK.pure (v := .int .i64 0) (w_none rfl) rfl rfl (f_assign rfl rfl) ?_
  refine EvK.nil ?_
  refine WP.seq ?_
  refine WP.joinF (fun (s1 : Bool) => [(9, .bool s1), (0, .int .i64 a0)]) hF ?_ ?_
  · intro s1 E0 h1 hF
    rcases ite_inv hF with ⟨c1, hF⟩ | ⟨c1, hF⟩
    · refine WP.cond_true _ rfl c1 ?_
      refine WP.seq ?_
      refine WP.region ?_
      refine EvK.pure (v := .pointer none) (w_none rfl) rfl rfl (f_assign rfl rfl) ?_
      refine EvK.pure (v := .int .i64 1) (w_none rfl) rfl rfl (f_assign rfl rfl) ?_
      refine EvK.nil ?_
      refine WP.ret ?_
      exact Ret.mk (vs := [.pointer none, .int .i64 1]) (none, 1) ⟨rfl, rfl, trivial⟩ rfl hF
    · refine WP.cond_false _ rfl c1 ?_
      refine WP.skip ?_
      refine WP.seq ?_
      refine WP.region ?_
      refine EvK.pure (v := .int .i64 a0) (w_none rfl) rfl rfl (f_move rfl rfl) ?_
      refine EvK.pure (v := k76.val (S76.mk a0 Sl.nil Sl.nil)) (w_none rfl) rfl rfl (f_build (cells := k76.enc (S76.mk a0 Sl.nil Sl.nil)) st77 rfl rfl rfl) ?_
      refine EvK.alloc (w_none rfl) rfl rfl (f_boxF (v := k76.val (S76.mk a0 Sl.nil Sl.nil)) rfl rfl rfl hF) ?_
      rintro _ h2 ⟨q1, rfl, hF⟩
      refine EvK.pure (v := .pointer (some q1)) (w_none rfl) rfl rfl (f_assign rfl rfl) ?_
      refine EvK.pure (v := .int .i64 0) (w_none rfl) rfl rfl (f_assign rfl rfl) ?_
      refine EvK.nil ?_
      refine WP.ret ?_
      exact Ret.mk (vs := [.pointer (some q1), .int .i64 0]) ((some q1), 0) ⟨rfl, rfl, trivial⟩ rfl hF
  · intro k1 hF
    refine WP.region ?_
    refine EvK.pure (v := .int .i64 a0) (w_none rfl) rfl rfl (f_move rfl rfl) ?_
    refine EvK.pure (v := .bool (decide (a0 < 1))) (w_none rfl) rfl rfl (f_lss rfl rfl rfl) ?_
    refine EvK.pure (v := .bool (decide (a0 < 1))) (w_none rfl) rfl rfl (f_move rfl rfl) ?_
    rcases ite_inv hF with ⟨c2, hF⟩ | ⟨c2, hF⟩
    · refine EvK.not (w_not rfl rfl c2) rfl rfl ?_
      refine EvK.not (w_not rfl rfl c2) rfl rfl ?_
      refine EvK.pure (v := .bool true) (w_none rfl) rfl rfl (f_pickT rfl rfl c2 rfl) ?_
      refine EvK.nil ?_
      exact KE.mk true ⟨rfl, rfl, trivial⟩ hF
    · refine EvK.pure (v := .int .i64 a0) (w_some rfl rfl c2) rfl rfl (f_move rfl rfl) ?_
      refine EvK.pure (v := .bool (decide (a0 > 1024))) (w_some rfl rfl c2) rfl rfl (f_gtr rfl rfl rfl) ?_
      refine EvK.pure (v := .bool (decide (a0 > 1024))) (w_none rfl) rfl rfl (f_pickF rfl rfl c2 rfl) ?_
      refine EvK.nil ?_
      exact KE.mk (decide (a0 > 1024)) ⟨rfl, rfl, trivial⟩ hF
end Go.Proofs.Ytgmihbchcmjmdaa

namespace Go.Proofs.Ytgmihbchcmjmdaa
open Go Go.Tr
set_option linter.unusedVariables false
set_option maxRecDepth 100000
set_option maxHeartbeats 400000
def locks_Manager_set.b1 (p0 : Option Addr) (p6 : Option Nat) (p10 : Sl) (p11 : Int) (s : Int) (h : H) (K : Int ⊕ (Unit ⊕ ((Option Nat) × IF)) → H → Prop) : Prop :=
  if (decide (s < p11)) = true then
    jn (fun (k2 : Unit → H → Prop) =>
      rd (ixA 2 p10 s) fun q1 =>
      rd (ld k31 q1 h) fun x3 =>
      al 32 (k31.enc z31) h fun q2 h4 =>
      rd (st k31 q2 x3 h4) fun h5 =>
      jn (fun (k3 : Bool → H → Prop) =>
        rd (ld (kI .i64) (q2.add 0) h5) fun x7 =>
        if (decide (x7 < 0)) = true then
          k3 true h5
        else
          rd (ld (kI .i64) (q2.add 0) h5) fun x8 =>
          rd p0 fun q3 =>
          rd (ld (kI .i64) (q3.add 0) h5) fun x9 =>
          if (decide (x8 ≥ x9)) = true then
            k3 true h5
          else
            rd (ld (kI .i64) (q2.add 0) h5) fun x10 =>
            rd (mlk (kI .i64) 0 .i64 p6 x10 h5) fun x11 =>
            k3 (x11.1 != 0) h5) fun s3 h6 =>
      if s3 = true then
        K (.inr (.inr (none, (some (26, .int .i64 1) : IF)))) h6
      else
        rd (ld (kI .i64) (q2.add 0) h6) fun x4 =>
        rd (mup (kI .i64) .i64 p6 x4 2 h6) fun h7 =>
        rd (ld kB (q2.add 1) h7) fun x5 =>
        if x5 = true then
          rd (ld (kI .i64) (q2.add 0) h7) fun x6 =>
          rd (mup (kI .i64) .i64 p6 x6 1 h7) fun h8 =>
          k2 () h8
        else
          k2 () h7) fun s2 h3 =>
    K (.inl (IntKind.i64.wrap (s + 1))) h3
  else
    K (.inr (.inl ())) h
/-- (*spate/locks.Manager).set -/
def locks_Manager_set (a0 : Option Addr) (a1 : Sl) (h : H) (Q : ((Option Nat) × IF) → H → Prop) : Prop :=
  mmk h fun x1 h1 =>
  jn (fun (k1 : Unit → H → Prop) =>
    loopE (locks_Manager_set.b1 a0 x1 a1 (a1.len : Int)) 0 h1 (sumK (fun r1 hh => k1 r1 hh) (fun r2 hh => Q r2 hh))) fun s1 h2 =>
  rd (mln x1 h2) fun x2 =>
  if ((x2 : Int) == 0) = true then
    Q (none, (some (26, .int .i64 1) : IF)) h2
  else
    Q (x1, none) h2
theorem locks_Manager_set.sound {a0 : Option Addr} {a1 : Sl} {h : H} {Q : ((Option Nat) × IF) → H → Prop} (hF : locks_Manager_set a0 a1 h Q) :
    CallsH Try.prog 42 (List.toArray (α := Value) [.pointer a0, Sl.val a1]) h fun v h' => ∃ x : (Option Nat) × IF, v = .tuple #[.map x.1, IF.val x.2] ∧ Q x h' := by
  refine CallsH.of_body Try.func42 rfl 50 rfl rfl ?_
  refine WP.seq ?_
  refine WP.region ?_
  refine EvK.pure (v := .map none) (w_none rfl) rfl rfl (f_assign rfl rfl) ?_
  refine EvK.pure (v := IF.val none) (w_none rfl) rfl rfl (f_assign rfl rfl) ?_
  refine EvK.nil ?_
  refine WP.seq ?_
  refine WP.region ?_
  refine EvK.alloc (w_none rfl) rfl rfl (f_makeMap rfl hF) ?_
  rintro _ h1 ⟨x1, rfl, hF⟩
  refine EvK.pure (v := .map x1) (w_none rfl) rfl rfl (f_assign rfl rfl) ?_
  refine EvK.nil ?_
  refine WP.joinF (fun (s1 : Unit) => [(6, .map x1)]) hF ?_ ?_
  · intro s1 E0 h2 hF
    refine WP.seq ?_
    refine WP.seq ?_
    refine WP.region ?_
    refine EvK.pure (v := .map x1) (w_none rfl) rfl rfl (f_move rfl rfl) ?_
    obtain ⟨x2, hx1, hF⟩ := hF
    refine EvK.read (v := .int .i64 (x2 : Int)) (w_none rfl) rfl rfl (f_lenM Try.underlying78 rfl rfl hx1) ?_
    refine EvK.pure (v := .bool ((x2 : Int) == 0)) (w_none rfl) rfl rfl (f_eql rfl rfl rfl) ?_
    refine EvK.nil ?_
    rcases ite_inv hF with ⟨c1, hF⟩ | ⟨c1, hF⟩
    · refine WP.cond_true _ rfl c1 ?_
      refine WP.seq ?_
      refine WP.region ?_
      refine EvK.pure (v := IF.val (some (26, .int .i64 1) : IF)) (w_none rfl) rfl rfl (f_makeIf Try.underlying26 rfl rfl rfl) ?_
      refine EvK.pure (v := .map none) (w_none rfl) rfl rfl (f_assign rfl rfl) ?_
      refine EvK.pure (v := IF.val (some (26, .int .i64 1) : IF)) (w_none rfl) rfl rfl (f_assign rfl rfl) ?_
      refine EvK.nil ?_
      refine WP.ret ?_
      exact Ret.mk (vs := [.map none, IF.val (some (26, .int .i64 1) : IF)]) (none, (some (26, .int .i64 1) : IF)) ⟨rfl, rfl, trivial⟩ rfl hF
    · refine WP.cond_false _ rfl c1 ?_
      refine WP.skip ?_
      refine WP.seq ?_
      refine WP.region ?_
      refine EvK.pure (v := .map x1) (w_none rfl) rfl rfl (f_move rfl rfl) ?_
      refine EvK.pure (v := .map x1) (w_none rfl) rfl rfl (f_assign rfl rfl) ?_
      refine EvK.pure (v := IF.val none) (w_none rfl) rfl rfl (f_assign rfl rfl) ?_
      refine EvK.nil ?_
      refine WP.ret ?_
      exact Ret.mk (vs := [.map x1, IF.val none]) (x1, none) ⟨rfl, rfl, trivial⟩ rfl hF
  · intro k1 hF
    refine WP.seq ?_
    refine WP.region ?_
    refine EvK.pure (v := Sl.val a1) (w_none rfl) rfl rfl (f_move rfl rfl) ?_
    refine EvK.pure (v := .int .i64 (a1.len : Int)) (w_none rfl) rfl rfl (f_lenL (s := a1) Try.underlying30 rfl rfl) ?_
    refine EvK.pure (v := .int .i64 0) (w_none rfl) rfl rfl (f_move rfl rfl) ?_
    refine EvK.nil ?_
    refine WP.block ?_
    refine WP.loopF (fun (s2 : Int) => [(12, .int .i64 s2), (0, .pointer a0), (6, .map x1), (10, Sl.val a1), (11, .int .i64 (a1.len : Int))]) hF ⟨rfl, rfl, rfl, rfl, rfl, trivial⟩ ?_
    intro k2 s2 E0 h3 hF
    refine WP.seq ?_
    refine WP.region ?_
    refine EvK.pure (v := .bool (decide (s2 < (a1.len : Int)))) (w_none rfl) rfl rfl (f_lss rfl rfl rfl) ?_
    refine EvK.nil ?_
    refine WP.seq ?_
    rcases ite_inv hF with ⟨c2, hF⟩ | ⟨c2, hF⟩
    · refine WP.cond_true _ rfl c2 ?_
      refine WP.skip ?_
      refine WP.joinF (fun (s3 : Unit) => [(0, .pointer a0), (6, .map x1), (10, Sl.val a1), (11, .int .i64 (a1.len : Int)), (12, .int .i64 s2)]) hF ?_ ?_
      · intro s3 E0 h4 hF
        refine WP.region ?_
        refine EvK.pure (v := .int .i64 (IntKind.i64.wrap (s2 + 1))) (w_none rfl) rfl rfl (f_add rfl rfl rfl) ?_
        refine EvK.pure (v := .int .i64 (IntKind.i64.wrap (s2 + 1))) (w_none rfl) rfl rfl (f_move rfl rfl) ?_
        refine EvK.nil ?_
        exact KE.mk (IntKind.i64.wrap (s2 + 1)) ⟨rfl, rfl, rfl, rfl, rfl, trivial⟩ hF
      · intro k3 hF
        refine WP.block ?_
        refine WP.seq ?_
        refine WP.region ?_
        obtain ⟨q1, hq1, hF⟩ := hF
        refine EvK.pure (v := .pointer (some q1)) (w_none rfl) rfl rfl (f_indexAddr (s := a1) Try.underlying30 ty32.size rfl rfl rfl hq1) ?_
        obtain ⟨x3, hx2, hF⟩ := hF
        refine EvK.read (v := k31.val x3) (w_none rfl) rfl rfl (f_load k31 ty32 rfl rfl hx2 rfl) ?_
        refine EvK.alloc (w_none rfl) rfl rfl (f_allocF zero32 rfl rfl hF) ?_
        rintro _ h5 ⟨q2, rfl, hF⟩
        obtain ⟨h6, hs1, hF⟩ := hF
        refine EvK.runN (w_none rfl) rfl (f_store k31 ty32.size (z := x3) rfl rfl rfl hs1) ?_
        rintro _ _ ⟨rfl, rfl⟩
        refine EvK.nil ?_
        refine WP.seq ?_
        refine WP.joinF (fun (s4 : Bool) => [(34, .bool s4), (0, .pointer a0), (6, .map x1), (8, .pointer (some q2)), (10, Sl.val a1), (11, .int .i64 (a1.len : Int)), (12, .int .i64 s2)]) hF ?_ ?_
        · intro s4 E0 h7 hF
          rcases ite_inv hF with ⟨c3, hF⟩ | ⟨c3, hF⟩
          · refine WP.cond_true _ rfl c3 ?_
            refine WP.seq ?_
            refine WP.region ?_
            refine EvK.pure (v := IF.val (some (26, .int .i64 1) : IF)) (w_none rfl) rfl rfl (f_makeIf Try.underlying26 rfl rfl rfl) ?_
            refine EvK.pure (v := .map none) (w_none rfl) rfl rfl (f_assign rfl rfl) ?_
            refine EvK.pure (v := IF.val (some (26, .int .i64 1) : IF)) (w_none rfl) rfl rfl (f_assign rfl rfl) ?_
            refine EvK.nil ?_
            refine WP.ret ?_
            exact Ret.mk (vs := [.map none, IF.val (some (26, .int .i64 1) : IF)]) (none, (some (26, .int .i64 1) : IF)) ⟨rfl, rfl, trivial⟩ rfl hF
          · refine WP.cond_false _ rfl c3 ?_
            refine WP.skip ?_
            refine WP.seq ?_
            refine WP.region ?_
            refine EvK.pure (v := .map x1) (w_none rfl) rfl rfl (f_move rfl rfl) ?_
            refine EvK.pure (v := .pointer (some (q2.add 0))) (w_none rfl) rfl rfl (f_fieldAddr fd32_0 rfl rfl) ?_
            obtain ⟨x4, hx3, hF⟩ := hF
            refine EvK.read (v := .int .i64 x4) (w_none rfl) rfl rfl (f_load (kI .i64) ty3 rfl rfl hx3 rfl) ?_
            obtain ⟨h8, hs2, hF⟩ := hF
            refine EvK.runN (w_none rfl) rfl (f_mapUpdate (K := (kI .i64)) (x := 2) mt78 rfl rfl rfl rfl hs2) ?_
            rintro _ _ ⟨rfl, rfl⟩
            refine EvK.nil ?_
            refine WP.seq ?_
            refine WP.region ?_
            refine EvK.pure (v := .pointer (some (q2.add 1))) (w_none rfl) rfl rfl (f_fieldAddr fd32_1 rfl rfl) ?_
            obtain ⟨x5, hx4, hF⟩ := hF
            refine EvK.read (v := .bool x5) (w_none rfl) rfl rfl (f_load kB ty4 rfl rfl hx4 rfl) ?_
            refine EvK.nil ?_
            rcases ite_inv hF with ⟨c4, hF⟩ | ⟨c4, hF⟩
            · refine WP.cond_true _ rfl c4 ?_
              refine WP.region ?_
              refine EvK.pure (v := .map x1) (w_none rfl) rfl rfl (f_move rfl rfl) ?_
              refine EvK.pure (v := .pointer (some (q2.add 0))) (w_none rfl) rfl rfl (f_fieldAddr fd32_0 rfl rfl) ?_
              obtain ⟨x6, hx5, hF⟩ := hF
              refine EvK.read (v := .int .i64 x6) (w_none rfl) rfl rfl (f_load (kI .i64) ty3 rfl rfl hx5 rfl) ?_
              obtain ⟨h9, hs3, hF⟩ := hF
              refine EvK.runN (w_none rfl) rfl (f_mapUpdate (K := (kI .i64)) (x := 1) mt78 rfl rfl rfl rfl hs3) ?_
              rintro _ _ ⟨rfl, rfl⟩
              refine EvK.nil ?_
              exact KE.mk () ⟨rfl, rfl, rfl, rfl, rfl, trivial⟩ hF
            · refine WP.cond_false _ rfl c4 ?_
              refine WP.skip ?_
              exact KE.mk () ⟨rfl, rfl, rfl, rfl, rfl, trivial⟩ hF
        · intro k4 hF
          refine WP.draw mixed [.pure, .read, .pure, .pure, .pure, .read, .pure, .pure, .pure, .read, .pure, .pure, .pure, .pure, .pure, .read, .read, .pure, .pure] [[], [0], [0, 1], [0, 1, 2], [0, 1, 2, 3], [0, 1, 2, 3, 4], [0, 1, 2, 3], [0, 1, 2, 3, 6], [0, 1, 2, 3, 6, 7], [0, 1, 2, 3, 6, 7, 8], [0, 1, 2, 3, 4, 5, 6, 7, 8, 9], [0, 1, 2, 3, 4, 5, 6, 7, 8, 9, 10], [0, 1, 2, 3, 4, 5, 6, 7, 8, 9, 10, 11], [0, 1, 2, 3, 4, 5, 6, 7, 8, 9, 10, 11, 12], [0, 1, 2, 3, 4, 5, 6, 7, 8, 9, 10, 11, 12], [0, 1, 2, 3, 4, 5, 6, 7, 8, 9, 10, 11, 12, 14], [0, 1, 2, 3, 4, 5, 6, 7, 8, 9, 10, 11, 12, 13, 14, 15], [0, 1, 2, 3, 4, 5, 6, 7, 8, 9, 10, 11, 12, 13, 14, 15, 16], [0, 1, 2, 3, 4, 5, 6, 7, 8, 9, 10, 11, 12, 13, 14, 15, 16, 17]] [0, 1, 2, 3, 4, 5, 6, 7, 8, 9, 10, 11, 12, 13, 14, 15, 16, 17, 18] (by kernel_rfl) (by kernel_rfl) ?_
          refine EvI.pure (v := .pointer (some (q2.add 0))) rfl rfl (w_none rfl) rfl (f_fieldAddr fd32_0 rfl rfl) ?_
          obtain ⟨x7, hx6, hF⟩ := hF
          refine EvI.read (v := .int .i64 x7) rfl rfl (w_none rfl) rfl (f_load (kI .i64) ty3 rfl rfl hx6 rfl) ?_
          refine EvI.pure (v := .bool (decide (x7 < 0))) rfl rfl (w_none rfl) rfl (f_lss rfl rfl rfl) ?_
          refine EvI.pure (v := .bool (decide (x7 < 0))) rfl rfl (w_none rfl) rfl (f_move rfl rfl) ?_
          rcases ite_inv hF with ⟨c5, hF⟩ | ⟨c5, hF⟩
          · refine EvI.not rfl (w_not rfl rfl c5) rfl ?_
            refine EvI.not rfl (w_not rfl rfl c5) rfl ?_
            refine EvI.not rfl (w_not rfl rfl c5) rfl ?_
            refine EvI.not rfl (w_not rfl rfl c5) rfl ?_
            refine EvI.not rfl (w_not rfl rfl c5) rfl ?_
            refine EvI.not rfl (w_not rfl rfl c5) rfl ?_
            refine EvI.not rfl (w_not rfl rfl c5) rfl ?_
            refine EvI.pure (v := .bool true) rfl rfl (w_none rfl) rfl (f_pickT rfl rfl c5 rfl) ?_
            refine EvI.pure (v := .bool true) rfl rfl (w_none rfl) rfl (f_move rfl rfl) ?_
            refine EvI.not rfl (w_not rfl rfl rfl) rfl ?_
            refine EvI.not rfl (w_not rfl rfl rfl) rfl ?_
            refine EvI.not rfl (w_not rfl rfl rfl) rfl ?_
            refine EvI.not rfl (w_not rfl rfl rfl) rfl ?_
            refine EvI.not rfl (w_not rfl rfl rfl) rfl ?_
            refine EvI.pure (v := .bool true) rfl rfl (w_none rfl) rfl (f_pickT rfl rfl rfl rfl) ?_
            refine EvI.nil ?_
            exact KE.mk true ⟨rfl, rfl, rfl, rfl, rfl, rfl, rfl, trivial⟩ hF
          · refine EvI.pure (v := .pointer (some (q2.add 0))) rfl rfl (w_some rfl rfl c5) rfl (f_fieldAddr fd32_0 rfl rfl) ?_
            obtain ⟨x8, hx7, hF⟩ := hF
            refine EvI.read (v := .int .i64 x8) rfl rfl (w_some rfl rfl c5) rfl (f_load (kI .i64) ty3 rfl rfl hx7 rfl) ?_
            refine EvI.pure (v := .pointer a0) rfl rfl (w_some rfl rfl c5) rfl (f_move rfl rfl) ?_
            obtain ⟨q3, hq2, hF⟩ := hF
            refine EvI.pure (v := .pointer (some q3)) rfl rfl (w_some rfl rfl c5) rfl (f_nilCheck rfl (congrArg Value.pointer hq2)) ?_
            refine EvI.pure (v := .pointer (some (q3.add 0))) rfl rfl (w_some rfl rfl c5) rfl (f_fieldAddr fd77_0 rfl rfl) ?_
            obtain ⟨x9, hx8, hF⟩ := hF
            refine EvI.read (v := .int .i64 x9) rfl rfl (w_some rfl rfl c5) rfl (f_load (kI .i64) ty3 rfl rfl hx8 rfl) ?_
            refine EvI.pure (v := .bool (decide (x8 ≥ x9))) rfl rfl (w_some rfl rfl c5) rfl (f_geq rfl rfl rfl) ?_
            refine EvI.pure (v := .bool (decide (x8 ≥ x9))) rfl rfl (w_none rfl) rfl (f_pickF rfl rfl c5 rfl) ?_
            refine EvI.pure (v := .bool (decide (x8 ≥ x9))) rfl rfl (w_none rfl) rfl (f_move rfl rfl) ?_
            rcases ite_inv hF with ⟨c6, hF⟩ | ⟨c6, hF⟩
            · refine EvI.not rfl (w_not rfl rfl c6) rfl ?_
              refine EvI.not rfl (w_not rfl rfl c6) rfl ?_
              refine EvI.not rfl (w_not rfl rfl c6) rfl ?_
              refine EvI.not rfl (w_not rfl rfl c6) rfl ?_
              refine EvI.not rfl (w_not rfl rfl c6) rfl ?_
              refine EvI.pure (v := .bool true) rfl rfl (w_none rfl) rfl (f_pickT rfl rfl c6 rfl) ?_
              refine EvI.nil ?_
              exact KE.mk true ⟨rfl, rfl, rfl, rfl, rfl, rfl, rfl, trivial⟩ hF
            · refine EvI.pure (v := .map x1) rfl rfl (w_some rfl rfl c6) rfl (f_move rfl rfl) ?_
              refine EvI.pure (v := .pointer (some (q2.add 0))) rfl rfl (w_some rfl rfl c6) rfl (f_fieldAddr fd32_0 rfl rfl) ?_
              obtain ⟨x10, hx9, hF⟩ := hF
              refine EvI.read (v := .int .i64 x10) rfl rfl (w_some rfl rfl c6) rfl (f_load (kI .i64) ty3 rfl rfl hx9 rfl) ?_
              obtain ⟨x11, hx10, hF⟩ := hF
              refine EvI.read (v := .int .i64 x11.1) rfl rfl (w_some rfl rfl c6) rfl (f_lookup (K := (kI .i64)) (z := 0) rfl mt78 zero3 rfl rfl rfl hx10) ?_
              refine EvI.pure (v := .bool (x11.1 != 0)) rfl rfl (w_some rfl rfl c6) rfl (f_neq rfl rfl rfl) ?_
              refine EvI.pure (v := .bool (x11.1 != 0)) rfl rfl (w_none rfl) rfl (f_pickF rfl rfl c6 rfl) ?_
              refine EvI.nil ?_
              exact KE.mk (x11.1 != 0) ⟨rfl, rfl, rfl, rfl, rfl, rfl, rfl, trivial⟩ hF
    · refine WP.cond_false _ rfl c2 ?_
      refine WP.exit ?_
      exact KE.mk () ⟨rfl, trivial⟩ hF
end Go.Proofs.Ytgmihbchcmjmdaa

namespace Go.Proofs.Ytgmihbchcmjmdaa
open Go Go.Tr
set_option linter.unusedVariables false
set_option maxRecDepth 100000
set_option maxHeartbeats 400000
def slices_IndexFunc___locks_claim_locks_claim_.b1 (p0 : Sl) (p1 : FV) (p7 : Int) (s : Int) (h : H) (K : Int ⊕ (Unit ⊕ Int) → H → Prop) : Prop :=
  if (decide (s < p7)) = true then
    rd (ixA 2 p0 s) fun q1 =>
    rd (ld k85 q1 h) fun x1 =>
    apF Try.prog p1 [k85.val x1] h fun v1 h2 => ∃ r1 : Bool, v1 = .bool r1 ∧
    if r1 = true then
      K (.inr (.inr s)) h2
    else
      K (.inl (IntKind.i64.wrap (s + 1))) h2
  else
    K (.inr (.inl ())) h
/-- slices.IndexFunc[[]spate/locks.claim,spate/locks.claim] -/
def slices_IndexFunc___locks_claim_locks_claim_ (a0 : Sl) (a1 : FV) (h : H) (Q : Int → H → Prop) : Prop :=
  jn (fun (k1 : Unit → H → Prop) =>
    loopE (slices_IndexFunc___locks_claim_locks_claim_.b1 a0 a1 (a0.len : Int)) 0 h (sumK (fun r2 hh => k1 r2 hh) (fun r3 hh => Q r3 hh))) fun s1 h1 =>
  Q (-1) h1
theorem slices_IndexFunc___locks_claim_locks_claim_.sound {a0 : Sl} {a1 : FV} {h : H} {Q : Int → H → Prop} (hF : slices_IndexFunc___locks_claim_locks_claim_ a0 a1 h Q) :
    CallsH Try.prog 55 (List.toArray (α := Value) [Sl.val a0, FV.val a1]) h fun v h' => ∃ x : Int, v = .int .i64 x ∧ Q x h' := by
  refine CallsH.of_body Try.func55 rfl 19 rfl rfl ?_
  refine WP.seq ?_
  refine WP.region ?_
  refine EvK.pure (v := .int .i64 0) (w_none rfl) rfl rfl (f_assign rfl rfl) ?_
  refine EvK.nil ?_
  refine WP.joinF (fun (s1 : Unit) => []) hF ?_ ?_
  · intro s1 E0 h1 hF
    refine WP.seq ?_
    refine WP.region ?_
    refine EvK.pure (v := .int .i64 (-1)) (w_none rfl) rfl rfl (f_assign rfl rfl) ?_
    refine EvK.nil ?_
    refine WP.ret ?_
    exact Ret.mk (vs := [.int .i64 (-1)]) (-1) ⟨rfl, trivial⟩ rfl hF
  · intro k1 hF
    refine WP.seq ?_
    refine WP.region ?_
    refine EvK.pure (v := Sl.val a0) (w_none rfl) rfl rfl (f_move rfl rfl) ?_
    refine EvK.pure (v := .int .i64 (a0.len : Int)) (w_none rfl) rfl rfl (f_lenL (s := a0) Try.underlying75 rfl rfl) ?_
    refine EvK.pure (v := .int .i64 0) (w_none rfl) rfl rfl (f_move rfl rfl) ?_
    refine EvK.nil ?_
    refine WP.block ?_
    refine WP.loopF (fun (s2 : Int) => [(8, .int .i64 s2), (0, Sl.val a0), (1, FV.val a1), (7, .int .i64 (a0.len : Int))]) hF ⟨rfl, rfl, rfl, rfl, trivial⟩ ?_
    intro k2 s2 E0 h2 hF
    refine WP.seq ?_
    refine WP.region ?_
    refine EvK.pure (v := .bool (decide (s2 < (a0.len : Int)))) (w_none rfl) rfl rfl (f_lss rfl rfl rfl) ?_
    refine EvK.nil ?_
    refine WP.seq ?_
    rcases ite_inv hF with ⟨c1, hF⟩ | ⟨c1, hF⟩
    · refine WP.cond_true _ rfl c1 ?_
      refine WP.skip ?_
      refine WP.seq ?_
      refine WP.block ?_
      refine WP.seq ?_
      refine WP.region ?_
      refine EvK.pure (v := .int .i64 s2) (w_none rfl) rfl rfl (f_move rfl rfl) ?_
      refine EvK.pure (v := .int .i64 s2) (w_none rfl) rfl rfl (f_assign rfl rfl) ?_
      refine EvK.nil ?_
      refine WP.seq ?_
      refine WP.region ?_
      refine EvK.pure (v := FV.val a1) (w_none rfl) rfl rfl (f_move rfl rfl) ?_
      refine EvK.pure (v := Sl.val a0) (w_none rfl) rfl rfl (f_move rfl rfl) ?_
      refine EvK.pure (v := .int .i64 s2) (w_none rfl) rfl rfl (f_move rfl rfl) ?_
      obtain ⟨q1, hq1, hF⟩ := hF
      refine EvK.pure (v := .pointer (some q1)) (w_none rfl) rfl rfl (f_indexAddr (s := a0) Try.underlying75 ty86.size rfl rfl rfl hq1) ?_
      obtain ⟨x1, hx1, hF⟩ := hF
      refine EvK.read (v := k85.val x1) (w_none rfl) rfl rfl (f_load k85 ty86 rfl rfl hx1 rfl) ?_
      refine EvK.call (w_none rfl) rfl rfl (f_callV (f := a1) (vs := [k85.val x1]) rfl rfl rfl hF) ?_
      rintro _ h3 ⟨r1, rfl, hF⟩
      refine EvK.nil ?_
      rcases ite_inv hF with ⟨c2, hF⟩ | ⟨c2, hF⟩
      · refine WP.cond_true _ rfl c2 ?_
        refine WP.seq ?_
        refine WP.region ?_
        refine EvK.pure (v := .int .i64 s2) (w_none rfl) rfl rfl (f_move rfl rfl) ?_
        refine EvK.pure (v := .int .i64 s2) (w_none rfl) rfl rfl (f_assign rfl rfl) ?_
        refine EvK.nil ?_
        refine WP.ret ?_
        exact Ret.mk (vs := [.int .i64 s2]) s2 ⟨rfl, trivial⟩ rfl hF
      · refine WP.cond_false _ rfl c2 ?_
        refine WP.skip ?_
        refine WP.region ?_
        refine EvK.pure (v := .int .i64 (IntKind.i64.wrap (s2 + 1))) (w_none rfl) rfl rfl (f_add rfl rfl rfl) ?_
        refine EvK.pure (v := .int .i64 (IntKind.i64.wrap (s2 + 1))) (w_none rfl) rfl rfl (f_move rfl rfl) ?_
        refine EvK.nil ?_
        exact KE.mk (IntKind.i64.wrap (s2 + 1)) ⟨rfl, rfl, rfl, rfl, trivial⟩ hF
    · refine WP.cond_false _ rfl c1 ?_
      refine WP.exit ?_
      exact KE.mk () trivial hF
end Go.Proofs.Ytgmihbchcmjmdaa

namespace Go.Proofs.Ytgmihbchcmjmdaa
open Go Go.Tr
set_option linter.unusedVariables false
set_option maxRecDepth 100000
set_option maxHeartbeats 400000
/-- spate/locks.find$1 -/
def locks_find_1 (a0 : S85) (f0 : Addr) (h : H) (Q : Bool → H → Prop) : Prop :=
  al 86 (k85.enc a0) h fun q1 h1 =>
  rd (ld (kI .i64) (q1.add 0) h1) fun x1 =>
  rd (ld (kI .i64) f0 h1) fun x2 =>
  Q (x1 == x2) h1
theorem locks_find_1.sound {a0 : S85} {f0 : Addr} {h : H} {Q : Bool → H → Prop} (hF : locks_find_1 a0 f0 h Q) :
    CallsH Try.prog 56 (List.toArray (α := Value) [k85.val a0, .pointer (some f0)]) h fun v h' => ∃ x : Bool, v = .bool x ∧ Q x h' := by
  refine CallsH.of_body Try.func56 rfl 8 rfl rfl ?_
  refine WP.seq ?_
  refine WP.region ?_
  refine EvK.alloc (w_none rfl) rfl rfl (f_boxF (v := k85.val a0) rfl rfl rfl hF) ?_
  rintro _ h1 ⟨q1, rfl, hF⟩
  refine EvK.pure (v := .bool false) (w_none rfl) rfl rfl (f_assign rfl rfl) ?_
  refine EvK.nil ?_
  refine WP.seq ?_
  refine WP.region ?_
  refine EvK.pure (v := .pointer (some (q1.add 0))) (w_none rfl) rfl rfl (f_fieldAddr fd86_0 rfl rfl) ?_
  obtain ⟨x1, hx1, hF⟩ := hF
  refine EvK.read (v := .int .i64 x1) (w_none rfl) rfl rfl (f_load (kI .i64) ty3 rfl rfl hx1 rfl) ?_
  obtain ⟨x2, hx2, hF⟩ := hF
  refine EvK.read (v := .int .i64 x2) (w_none rfl) rfl rfl (f_load (kI .i64) ty3 rfl rfl hx2 rfl) ?_
  refine EvK.pure (v := .bool (x1 == x2)) (w_none rfl) rfl rfl (f_eql rfl rfl rfl) ?_
  refine EvK.pure (v := .bool (x1 == x2)) (w_none rfl) rfl rfl (f_assign rfl rfl) ?_
  refine EvK.nil ?_
  refine WP.ret ?_
  exact Ret.mk (vs := [.bool (x1 == x2)]) (x1 == x2) ⟨rfl, trivial⟩ rfl hF
end Go.Proofs.Ytgmihbchcmjmdaa

namespace Go.Proofs.Ytgmihbchcmjmdaa
open Go Go.Tr
set_option linter.unusedVariables false
set_option maxRecDepth 100000
set_option maxHeartbeats 400000
/-- spate/locks.find -/
def locks_find (a0 : Sl) (a1 : Int) (h : H) (Q : Int → H → Prop) : Prop :=
  al 3 ((kI .i64).enc a1) h fun q1 h1 =>
  slices_IndexFunc___locks_claim_locks_claim_ a0 (some ⟨Fn.func 56, List.toArray [], List.toArray [.pointer (some q1)]⟩ : FV) h1 fun r1 h2 =>
  Q r1 h2
theorem locks_find.sound {a0 : Sl} {a1 : Int} {h : H} {Q : Int → H → Prop} (hF : locks_find a0 a1 h Q) :
    CallsH Try.prog 43 (List.toArray (α := Value) [Sl.val a0, .int .i64 a1]) h fun v h' => ∃ x : Int, v = .int .i64 x ∧ Q x h' := by
  refine CallsH.of_body Try.func43 rfl 8 rfl rfl ?_
  refine WP.seq ?_
  refine WP.region ?_
  refine EvK.alloc (w_none rfl) rfl rfl (f_boxF (v := .int .i64 a1) rfl rfl rfl hF) ?_
  rintro _ h1 ⟨q1, rfl, hF⟩
  refine EvK.pure (v := .int .i64 0) (w_none rfl) rfl rfl (f_assign rfl rfl) ?_
  refine EvK.nil ?_
  refine WP.seq ?_
  refine WP.region ?_
  refine EvK.pure (v := Sl.val a0) (w_none rfl) rfl rfl (f_move rfl rfl) ?_
  refine EvK.pure (v := FV.val (some ⟨Fn.func 56, List.toArray [], List.toArray [.pointer (some q1)]⟩ : FV)) (w_none rfl) rfl rfl (f_makeFunc (vs := []) (us := [.pointer (some q1)]) rfl rfl rfl) ?_
  refine EvK.call (w_none rfl) rfl rfl (enterH (vs := [Sl.val a0, FV.val (some ⟨Fn.func 56, List.toArray [], List.toArray [.pointer (some q1)]⟩ : FV)]) Try.func55 rfl rfl rfl rfl (slices_IndexFunc___locks_claim_locks_claim_.sound hF)) ?_
  rintro _ h2 ⟨r1, rfl, hF⟩
  refine EvK.pure (v := .int .i64 r1) (w_none rfl) rfl rfl (f_assign rfl rfl) ?_
  refine EvK.nil ?_
  refine WP.ret ?_
  exact Ret.mk (vs := [.int .i64 r1]) r1 ⟨rfl, trivial⟩ rfl hF
end Go.Proofs.Ytgmihbchcmjmdaa

namespace Go.Proofs.Ytgmihbchcmjmdaa
open Go Go.Tr
set_option linter.unusedVariables false
set_option maxRecDepth 100000
set_option maxHeartbeats 400000
/-- slices.ContainsFunc[[]spate/locks.claim,spate/locks.claim] -/
def slices_ContainsFunc___locks_claim_locks_claim_ (a0 : Sl) (a1 : FV) (h : H) (Q : Bool → H → Prop) : Prop :=
  slices_IndexFunc___locks_claim_locks_claim_ a0 a1 h fun r1 h1 =>
  Q (decide (r1 ≥ 0)) h1
theorem slices_ContainsFunc___locks_claim_locks_claim_.sound {a0 : Sl} {a1 : FV} {h : H} {Q : Bool → H → Prop} (hF : slices_ContainsFunc___locks_claim_locks_claim_ a0 a1 h Q) :
    CallsH Try.prog 44 (List.toArray (α := Value) [Sl.val a0, FV.val a1]) h fun v h' => ∃ x : Bool, v = .bool x ∧ Q x h' := by
  refine CallsH.of_body Try.func44 rfl 9 rfl rfl ?_
  refine WP.seq ?_
  refine WP.region ?_
  refine EvK.pure (v := .bool false) (w_none rfl) rfl rfl (f_assign rfl rfl) ?_
  refine EvK.nil ?_
  refine WP.seq ?_
  refine WP.region ?_
  refine EvK.pure (v := Sl.val a0) (w_none rfl) rfl rfl (f_move rfl rfl) ?_
  refine EvK.pure (v := FV.val a1) (w_none rfl) rfl rfl (f_move rfl rfl) ?_
  refine EvK.call (w_none rfl) rfl rfl (enterH (vs := [Sl.val a0, FV.val a1]) Try.func55 rfl rfl rfl rfl (slices_IndexFunc___locks_claim_locks_claim_.sound hF)) ?_
  rintro _ h1 ⟨r1, rfl, hF⟩
  refine EvK.pure (v := .bool (decide (r1 ≥ 0))) (w_none rfl) rfl rfl (f_geq rfl rfl rfl) ?_
  refine EvK.pure (v := .bool (decide (r1 ≥ 0))) (w_none rfl) rfl rfl (f_assign rfl rfl) ?_
  refine EvK.nil ?_
  refine WP.ret ?_
  exact Ret.mk (vs := [.bool (decide (r1 ≥ 0))]) (decide (r1 ≥ 0)) ⟨rfl, trivial⟩ rfl hF
end Go.Proofs.Ytgmihbchcmjmdaa
