/- Functions as predicates over the heap, and that the code comes to them. Printed by gen.py, merged by group.py. -/
import Derived.Test.YtgmihbchcmjmdaaG0
import Derived.Test.YtgmihbchcmjmdaaHand
import Derived.Test.YtgmihbchcmjmdaaTy
namespace Go.Proofs.Ytgmihbchcmjmdaa
open Go Go.Tr
set_option linter.unusedVariables false
set_option maxRecDepth 100000
set_option maxHeartbeats 400000
def _locks_claim_against.b1 (p3 : Addr) (p10 : Addr) (s : Unit) (h : H) (K : Unit ⊕ (Unit ⊕ Bool) → H → Prop) : Prop :=
  nxt p10 h fun b1 h5 =>
  if b1 = true then
    rdP (Ent (kI .i64) .i64 p10 h5) fun x2 =>
    rd (ld kM (p3.add 1) h5) fun x3 =>
    rd (mlk (kI .i64) 0 .i64 x3 x2.1 h5) fun x4 =>
    jn (fun (k2 : Bool → H → Prop) =>
      if (x4.1 != 0) = true then
        k2 (!(arr2eq (ar2 x2.2 x4.1) (ar2 1 1))) h5
      else
        k2 false h5) fun s2 h6 =>
    if s2 = true then
      K (.inr (.inr true)) h6
    else
      K (.inl ()) h6
  else
    K (.inr (.inl ())) h5
/-- (spate/locks.claim).against -/
def _locks_claim_against (a0 : S85) (a1 : S85) (h : H) (Q : Bool → H → Prop) : Prop :=
  al 86 (k85.enc a0) h fun q1 h1 =>
  al 86 (k85.enc a1) h1 fun q2 h2 =>
  jn (fun (k1 : Unit → H → Prop) =>
    rd (ld kM (q1.add 1) h2) fun x1 =>
    rng x1 h2 fun q3 h4 =>
    loopE (_locks_claim_against.b1 q2 q3) () h4 (sumK (fun r1 hh => k1 r1 hh) (fun r2 hh => Q r2 hh))) fun s1 h3 =>
  Q false h3
theorem _locks_claim_against.sound {a0 : S85} {a1 : S85} {h : H} {Q : Bool → H → Prop} (hF : _locks_claim_against a0 a1 h Q) :
    CallsH Try.prog 45 (List.toArray (α := Value) [k85.val a0, k85.val a1]) h fun v h' => ∃ x : Bool, v = .bool x ∧ Q x h' := by
  refine CallsH.of_body Try.func45 rfl 29 rfl rfl ?_
  refine WP.seq ?_
  refine WP.region ?_
  refine EvK.alloc (w_none rfl) rfl rfl (f_boxF (v := k85.val a0) rfl rfl rfl hF) ?_
  rintro _ h1 ⟨q1, rfl, hF⟩
  refine EvK.alloc (w_none rfl) rfl rfl (f_boxF (v := k85.val a1) rfl rfl rfl hF) ?_
  rintro _ h2 ⟨q2, rfl, hF⟩
  refine EvK.pure (v := .bool false) (w_none rfl) rfl rfl (f_assign rfl rfl) ?_
  refine EvK.nil ?_
  refine WP.joinF (fun (s1 : Unit) => []) hF ?_ ?_
  · intro s1 E0 h3 hF
    refine WP.seq ?_
    refine WP.region ?_
    refine EvK.pure (v := .bool false) (w_none rfl) rfl rfl (f_assign rfl rfl) ?_
    refine EvK.nil ?_
    refine WP.ret ?_
    exact Ret.mk (vs := [.bool false]) false ⟨rfl, trivial⟩ rfl hF
  · intro k1 hF
    refine WP.seq ?_
    refine WP.region ?_
    refine EvK.pure (v := .pointer (some (q1.add 1))) (w_none rfl) rfl rfl (f_fieldAddr fd86_1 rfl rfl) ?_
    obtain ⟨x1, hx1, hF⟩ := hF
    refine EvK.read (v := .map x1) (w_none rfl) rfl rfl (f_load kM ty78 rfl rfl hx1 rfl) ?_
    refine EvK.alloc (w_none rfl) rfl rfl (f_rangeM Try.underlying78 rfl rfl hF) ?_
    rintro _ h4 ⟨q3, rfl, hF⟩
    refine EvK.nil ?_
    refine WP.block ?_
    refine WP.loopF (fun (s2 : Unit) => [(3, .pointer (some q2)), (10, .pointer (some q3))]) hF ⟨rfl, rfl, trivial⟩ ?_
    intro k2 s2 E0 h5 hF
    refine WP.seq ?_
    refine WP.region ?_
    refine EvK.run (w_none rfl) rfl rfl (f_nextM rfl rfl hF) ?_
    rintro _ h6 ⟨b1, vs1, rfl, hv1, hF⟩
    refine EvK.pure (v := .bool b1) (w_none rfl) rfl rfl (f_extract0 hv1 rfl rfl) ?_
    refine EvK.nil ?_
    refine WP.seq ?_
    rcases ite_inv hF with ⟨c1, hF⟩ | ⟨c1, hF⟩
    · refine WP.cond_true _ rfl c1 ?_
      refine WP.skip ?_
      refine WP.block ?_
      refine WP.seq ?_
      refine WP.region ?_
      obtain ⟨x2, hx2, hF⟩ := hF
      refine EvK.read (v := .tuple #[.int .i64 x2.1, .int .i64 x2.2]) (w_none rfl) rfl rfl (f_entry (K := (kI .i64)) rfl rfl rfl hx2) ?_
      refine EvK.pure (v := .int .i64 x2.1) (w_none rfl) rfl rfl (f_extract (vs := #[.int .i64 x2.1, .int .i64 x2.2]) rfl rfl rfl) ?_
      refine EvK.pure (v := .int .i64 x2.2) (w_none rfl) rfl rfl (f_extract (vs := #[.int .i64 x2.1, .int .i64 x2.2]) rfl rfl rfl) ?_
      refine EvK.pure (v := .int .i64 x2.1) (w_none rfl) rfl rfl (f_assign rfl rfl) ?_
      refine EvK.pure (v := .int .i64 x2.2) (w_none rfl) rfl rfl (f_assign rfl rfl) ?_
      refine EvK.nil ?_
      refine WP.seq ?_
      refine WP.region ?_
      refine EvK.pure (v := .pointer (some (q2.add 1))) (w_none rfl) rfl rfl (f_fieldAddr fd86_1 rfl rfl) ?_
      obtain ⟨x3, hx3, hF⟩ := hF
      refine EvK.read (v := .map x3) (w_none rfl) rfl rfl (f_load kM ty78 rfl rfl hx3 rfl) ?_
      refine EvK.pure (v := .int .i64 x2.1) (w_none rfl) rfl rfl (f_move rfl rfl) ?_
      obtain ⟨x4, hx4, hF⟩ := hF
      refine EvK.read (v := .int .i64 x4.1) (w_none rfl) rfl rfl (f_lookup (K := (kI .i64)) (z := 0) rfl mt78 zero3 rfl rfl rfl hx4) ?_
      refine EvK.pure (v := .int .i64 x4.1) (w_none rfl) rfl rfl (f_assign rfl rfl) ?_
      refine EvK.nil ?_
      refine WP.joinF (fun (s3 : Bool) => [(28, .bool s3), (3, .pointer (some q2)), (10, .pointer (some q3))]) hF ?_ ?_
      · intro s3 E0 h7 hF
        rcases ite_inv hF with ⟨c2, hF⟩ | ⟨c2, hF⟩
        · refine WP.cond_true _ rfl c2 ?_
          refine WP.seq ?_
          refine WP.region ?_
          refine EvK.pure (v := .bool true) (w_none rfl) rfl rfl (f_assign rfl rfl) ?_
          refine EvK.nil ?_
          refine WP.ret ?_
          exact Ret.mk (vs := [.bool true]) true ⟨rfl, trivial⟩ rfl hF
        · refine WP.cond_false _ rfl c2 ?_
          refine WP.skip ?_
          exact KE.mk () ⟨rfl, rfl, trivial⟩ hF
      · intro k3 hF
        refine WP.region ?_
        refine EvK.pure (v := .int .i64 x4.1) (w_none rfl) rfl rfl (f_move rfl rfl) ?_
        refine EvK.pure (v := .bool (x4.1 != 0)) (w_none rfl) rfl rfl (f_neq rfl rfl rfl) ?_
        refine EvK.pure (v := .bool (x4.1 != 0)) (w_none rfl) rfl rfl (f_move rfl rfl) ?_
        rcases ite_inv hF with ⟨c3, hF⟩ | ⟨c3, hF⟩
        · refine EvK.pure (v := .int .i64 x2.2) (w_some rfl rfl c3) rfl rfl (f_move rfl rfl) ?_
          refine EvK.pure (v := .int .i64 x4.1) (w_some rfl rfl c3) rfl rfl (f_move rfl rfl) ?_
          refine EvK.pure (v := Kd.val (kA 2 (kI .i64)) (ar2 x2.2 x4.1)) (w_some rfl rfl c3) rfl rfl (f_build2 Try.underlying101 ty3 zero101 rfl rfl rfl rfl) ?_
          refine EvK.pure (v := Kd.val (kA 2 (kI .i64)) (ar2 1 1)) (w_some rfl rfl c3) rfl rfl (f_build2 Try.underlying101 ty3 zero101 rfl rfl rfl rfl) ?_
          refine EvK.pure (v := .bool (!(arr2eq (ar2 x2.2 x4.1) (ar2 1 1)))) (w_some rfl rfl c3) rfl rfl (f_a2neq (x := (ar2 x2.2 x4.1)) (y := (ar2 1 1)) Try.underlying101 Try.underlying3 ty3 (by kernel_rfl) rfl rfl rfl) ?_
          refine EvK.pure (v := .bool (!(arr2eq (ar2 x2.2 x4.1) (ar2 1 1)))) (w_none rfl) rfl rfl (f_pickT rfl rfl c3 rfl) ?_
          refine EvK.nil ?_
          exact KE.mk (!(arr2eq (ar2 x2.2 x4.1) (ar2 1 1))) ⟨rfl, rfl, rfl, trivial⟩ hF
        · refine EvK.not (w_not rfl rfl c3) rfl rfl ?_
          refine EvK.not (w_not rfl rfl c3) rfl rfl ?_
          refine EvK.not (w_not rfl rfl c3) rfl rfl ?_
          refine EvK.not (w_not rfl rfl c3) rfl rfl ?_
          refine EvK.not (w_not rfl rfl c3) rfl rfl ?_
          refine EvK.pure (v := .bool false) (w_none rfl) rfl rfl (f_pickF rfl rfl c3 rfl) ?_
          refine EvK.nil ?_
          exact KE.mk false ⟨rfl, rfl, rfl, trivial⟩ hF
    · refine WP.cond_false _ rfl c1 ?_
      refine WP.exit ?_
      exact KE.mk () trivial hF
end Go.Proofs.Ytgmihbchcmjmdaa

namespace Go.Proofs.Ytgmihbchcmjmdaa
open Go Go.Tr
set_option linter.unusedVariables false
set_option maxRecDepth 100000
set_option maxHeartbeats 400000
/-- (*spate/locks.Manager).Ask -/
def locks_Manager_Ask (a0 : Option Addr) (a1 : Int) (a2 : Sl) (h : H) (Q : (Bool × IF) → H → Prop) : Prop :=
  locks_Manager_set a0 a2 h fun r1 h1 =>
  jn (fun (k1 : IF → H → Prop) =>
    if (decide (a1 < 0)) = true then
      k1 (some (26, .int .i64 1) : IF) h1
    else
      k1 r1.2 h1) fun s1 h2 =>
  jn (fun (k2 : IF → H → Prop) =>
    jn (fun (k4 : Bool → H → Prop) =>
      if s1.isNone = true then
        rd a0 fun q9 =>
        rd (ld kL (q9.add 1) h2) fun x13 =>
        locks_find x13 a1 h2 fun r4 h17 =>
        if (decide (r4 ≥ 0)) = true then
          k4 true h17
        else
          rd a0 fun q10 =>
          rd (ld kL (q10.add 2) h17) fun x14 =>
          locks_find x14 a1 h17 fun r5 h18 =>
          k4 (decide (r5 ≥ 0)) h18
      else
        k4 false h2) fun s4 h16 =>
    if s4 = true then
      k2 (some (26, .int .i64 41) : IF) h16
    else
      k2 s1 h16) fun s2 h3 =>
  if (!s2.isNone) = true then
    al 84 (k83.enc (S83.mk a1 s2)) h3 fun q1 h4 =>
    Q (false, (some (82, .pointer (some q1)) : IF)) h4
  else
    al 86 (k85.enc z85) h3 fun q2 h5 =>
    rd (st k85 q2 (S85.mk a1 r1.1) h5) fun h6 =>
    jn (fun (k3 : Bool → H → Prop) =>
      rd a0 fun q7 =>
      rd (ld kL (q7.add 1) h6) fun x9 =>
      rd (ld k85 q2 h6) fun x10 =>
      slices_ContainsFunc___locks_claim_locks_claim_ x9 (some ⟨Fn.func 45, List.toArray [k85.val x10], List.toArray []⟩ : FV) h6 fun r2 h14 =>
      if r2 = true then
        k3 true h14
      else
        rd a0 fun q8 =>
        rd (ld kL (q8.add 2) h14) fun x11 =>
        rd (ld k85 q2 h14) fun x12 =>
        slices_ContainsFunc___locks_claim_locks_claim_ x11 (some ⟨Fn.func 45, List.toArray [k85.val x12], List.toArray []⟩ : FV) h14 fun r3 h15 =>
        k3 r3 h15) fun s3 h7 =>
    if s3 = true then
      rd a0 fun q3 =>
      rd (ld kL (q3.add 2) h7) fun x1 =>
      rd (ld k85 q2 h7) fun x2 =>
      bs 86 1 (k85.enc x2) h7 fun x3 h8 =>
      ap k85.n 16 86 (k85.enc z85) x1 x3 h8 fun x4 h9 =>
      rd a0 fun q4 =>
      rd (st kL (q4.add 2) x4 h9) fun h10 =>
      Q (false, none) h10
    else
      rd a0 fun q5 =>
      rd (ld kL (q5.add 1) h7) fun x5 =>
      rd (ld k85 q2 h7) fun x6 =>
      bs 86 1 (k85.enc x6) h7 fun x7 h11 =>
      ap k85.n 16 86 (k85.enc z85) x5 x7 h11 fun x8 h12 =>
      rd a0 fun q6 =>
      rd (st kL (q6.add 1) x8 h12) fun h13 =>
      Q (true, none) h13
theorem locks_Manager_Ask.sound {a0 : Option Addr} {a1 : Int} {a2 : Sl} {h : H} {Q : (Bool × IF) → H → Prop} (hF : locks_Manager_Ask a0 a1 a2 h Q) :
    CallsH Try.prog 14 (List.toArray (α := Value) [.pointer a0, .int .i64 a1, Sl.val a2]) h fun v h' => ∃ x : Bool × IF, v = .tuple #[.bool x.1, IF.val x.2] ∧ Q x h' := by
  refine CallsH.of_body Try.func14 rfl 87 rfl rfl ?_
  refine WP.seq ?_
  refine WP.region ?_
  refine EvK.pure (v := .bool false) (w_none rfl) rfl rfl (f_assign rfl rfl) ?_
  refine EvK.pure (v := IF.val none) (w_none rfl) rfl rfl (f_assign rfl rfl) ?_
  refine EvK.nil ?_
  refine WP.seq ?_
  refine WP.region ?_
  refine EvK.pure (v := .pointer a0) (w_none rfl) rfl rfl (f_move rfl rfl) ?_
  refine EvK.pure (v := Sl.val a2) (w_none rfl) rfl rfl (f_move rfl rfl) ?_
  refine EvK.call (w_none rfl) rfl rfl (enterH Try.func42 rfl rfl rfl rfl (locks_Manager_set.sound hF)) ?_
  rintro _ h1 ⟨r1, rfl, hF⟩
  refine EvK.pure (v := .tuple #[.map r1.1, IF.val r1.2]) (w_none rfl) rfl rfl (f_move rfl rfl) ?_
  refine EvK.pure (v := .map r1.1) (w_none rfl) rfl rfl (f_extract (vs := #[.map r1.1, IF.val r1.2]) rfl rfl rfl) ?_
  refine EvK.pure (v := IF.val r1.2) (w_none rfl) rfl rfl (f_extract (vs := #[.map r1.1, IF.val r1.2]) rfl rfl rfl) ?_
  refine EvK.pure (v := .map r1.1) (w_none rfl) rfl rfl (f_assign rfl rfl) ?_
  refine EvK.pure (v := IF.val r1.2) (w_none rfl) rfl rfl (f_assign rfl rfl) ?_
  refine EvK.nil ?_
  refine WP.joinF (fun (s1 : IF) => [(9, IF.val s1), (0, .pointer a0), (1, .int .i64 a1), (8, .map r1.1)]) hF ?_ ?_
  · intro s1 E0 h2 hF
    refine WP.joinF (fun (s2 : IF) => [(9, IF.val s2), (0, .pointer a0), (1, .int .i64 a1), (8, .map r1.1)]) hF ?_ ?_
    · intro s2 E0 h3 hF
      refine WP.seq ?_
      refine WP.seq ?_
      refine WP.region ?_
      refine EvK.pure (v := IF.val s2) (w_none rfl) rfl rfl (f_move rfl rfl) ?_
      refine EvK.pure (v := .bool (!s2.isNone)) (w_none rfl) rfl rfl (f_ineqn (a := s2) Try.underlying37 rfl rfl) ?_
      refine EvK.nil ?_
      rcases ite_inv hF with ⟨c1, hF⟩ | ⟨c1, hF⟩
      · refine WP.cond_true _ rfl c1 ?_
        refine WP.seq ?_
        refine WP.region ?_
        refine EvK.pure (v := .int .i64 a1) (w_none rfl) rfl rfl (f_move rfl rfl) ?_
        refine EvK.pure (v := IF.val s2) (w_none rfl) rfl rfl (f_move rfl rfl) ?_
        refine EvK.pure (v := k83.val (S83.mk a1 s2)) (w_none rfl) rfl rfl (f_build (cells := k83.enc (S83.mk a1 s2)) (pl := [(0, (kI .i64).enc a1), (1, kIf.enc s2)]) st84 rfl (by show [(0, (.int .i64 a1 : Value).cells.toList), (1, (IF.val s2 : Value).cells.toList)] = _; simp only [if_cells, fn_cells]; rfl) rfl) ?_
        refine EvK.alloc (w_none rfl) rfl rfl (f_boxF (v := k83.val (S83.mk a1 s2)) rfl rfl rfl hF) ?_
        rintro _ h4 ⟨q1, rfl, hF⟩
        refine EvK.pure (v := IF.val (some (82, .pointer (some q1)) : IF)) (w_none rfl) rfl rfl (f_makeIf Try.underlying82 rfl rfl rfl) ?_
        refine EvK.pure (v := .bool false) (w_none rfl) rfl rfl (f_assign rfl rfl) ?_
        refine EvK.pure (v := IF.val (some (82, .pointer (some q1)) : IF)) (w_none rfl) rfl rfl (f_assign rfl rfl) ?_
        refine EvK.nil ?_
        refine WP.ret ?_
        exact Ret.mk (vs := [.bool false, IF.val (some (82, .pointer (some q1)) : IF)]) (false, (some (82, .pointer (some q1)) : IF)) ⟨rfl, rfl, trivial⟩ rfl hF
      · refine WP.cond_false _ rfl c1 ?_
        refine WP.skip ?_
        refine WP.seq ?_
        refine WP.region ?_
        refine EvK.pure (v := .int .i64 a1) (w_none rfl) rfl rfl (f_move rfl rfl) ?_
        refine EvK.pure (v := .map r1.1) (w_none rfl) rfl rfl (f_move rfl rfl) ?_
        refine EvK.pure (v := k85.val (S85.mk a1 r1.1)) (w_none rfl) rfl rfl (f_build (cells := k85.enc (S85.mk a1 r1.1)) st86 rfl rfl rfl) ?_
        refine EvK.alloc (w_none rfl) rfl rfl (f_allocF zero86 rfl rfl hF) ?_
        rintro _ h5 ⟨q2, rfl, hF⟩
        obtain ⟨h6, hs1, hF⟩ := hF
        refine EvK.runN (w_none rfl) rfl (f_store k85 ty86.size (z := (S85.mk a1 r1.1)) rfl rfl rfl hs1) ?_
        rintro _ _ ⟨rfl, rfl⟩
        refine EvK.nil ?_
        refine WP.seq ?_
        refine WP.joinF (fun (s3 : Bool) => [(66, .bool s3), (0, .pointer a0), (10, .pointer (some q2))]) hF ?_ ?_
        · intro s3 E0 h7 hF
          rcases ite_inv hF with ⟨c2, hF⟩ | ⟨c2, hF⟩
          · refine WP.cond_true _ rfl c2 ?_
            refine WP.seq ?_
            refine WP.draw mixed [.pure, .pure, .pure, .pure, .read, .read, .alloc, .eff [], .pure, .pure, .eff []] [[], [], [1], [1, 2], [1, 2, 3], [], [5], [1, 2, 3, 4, 5, 6], [0, 1, 2, 3, 4, 5, 6, 7], [0, 1, 2, 3, 4, 5, 6, 7, 8], [0, 1, 2, 3, 4, 5, 6, 7, 8, 9]] [0, 1, 2, 3, 4, 5, 6, 7, 8, 9, 10] (by kernel_rfl) (by kernel_rfl) ?_
            refine EvI.pure (v := .pointer a0) rfl rfl (w_none rfl) rfl (f_move rfl rfl) ?_
            refine EvI.pure (v := .pointer a0) rfl rfl (w_none rfl) rfl (f_move rfl rfl) ?_
            obtain ⟨q3, hq1, hF⟩ := hF
            refine EvI.pure (v := .pointer (some q3)) rfl rfl (w_none rfl) rfl (f_nilCheck rfl (congrArg Value.pointer hq1)) ?_
            refine EvI.pure (v := .pointer (some (q3.add 2))) rfl rfl (w_none rfl) rfl (f_fieldAddr fd77_2 rfl rfl) ?_
            obtain ⟨x1, hx1, hF⟩ := hF
            refine EvI.read (v := Sl.val x1) rfl rfl (w_none rfl) rfl (f_load kL ty75 rfl rfl hx1 rfl) ?_
            obtain ⟨x2, hx2, hF⟩ := hF
            refine EvI.read (v := k85.val x2) rfl rfl (w_none rfl) rfl (f_load k85 ty86 rfl rfl hx2 rfl) ?_
            refine EvI.alloc rfl rfl (w_none rfl) rfl (f_buildSliceF Try.underlying75 el86 (by decide) rfl rfl rfl hF) ?_
            rintro _ h8 ⟨x3, rfl, hF⟩
            refine EvI.run rfl rfl (w_none rfl) rfl (f_appendE (s := x1) (x := x3) Try.underlying75 el86 rfl rfl rfl hF) ?_
            rintro _ h9 ⟨x4, rfl, hF⟩
            refine ⟨⟨chk_no rfl, chk_no rfl, trivial⟩, ?_⟩
            obtain ⟨q4, hq2, hF⟩ := hF
            refine EvI.pure (v := .pointer (some q4)) rfl rfl (w_none rfl) rfl (f_nilCheck rfl (congrArg Value.pointer hq2)) ?_
            refine EvI.pure (v := .pointer (some (q4.add 2))) rfl rfl (w_none rfl) rfl (f_fieldAddr fd77_2 rfl rfl) ?_
            obtain ⟨h10, hs2, hF⟩ := hF
            refine EvI.runN rfl rfl (w_none rfl) rfl (f_store kL ty75.size (z := x4) rfl rfl rfl hs2) ?_
            rintro _ _ ⟨rfl, rfl⟩
            refine ⟨⟨chk_no rfl, chk_no rfl, trivial⟩, ?_⟩
            refine EvI.nil ?_
            refine WP.seq ?_
            refine WP.region ?_
            refine EvK.pure (v := .bool false) (w_none rfl) rfl rfl (f_assign rfl rfl) ?_
            refine EvK.pure (v := IF.val none) (w_none rfl) rfl rfl (f_assign rfl rfl) ?_
            refine EvK.nil ?_
            refine WP.ret ?_
            exact Ret.mk (vs := [.bool false, IF.val none]) (false, none) ⟨rfl, rfl, trivial⟩ rfl hF
          · refine WP.cond_false _ rfl c2 ?_
            refine WP.skip ?_
            refine WP.seq ?_
            refine WP.draw mixed [.pure, .pure, .pure, .pure, .read, .read, .alloc, .eff [], .pure, .pure, .eff []] [[], [], [1], [1, 2], [1, 2, 3], [], [5], [1, 2, 3, 4, 5, 6], [0, 1, 2, 3, 4, 5, 6, 7], [0, 1, 2, 3, 4, 5, 6, 7, 8], [0, 1, 2, 3, 4, 5, 6, 7, 8, 9]] [0, 1, 2, 3, 4, 5, 6, 7, 8, 9, 10] (by kernel_rfl) (by kernel_rfl) ?_
            refine EvI.pure (v := .pointer a0) rfl rfl (w_none rfl) rfl (f_move rfl rfl) ?_
            refine EvI.pure (v := .pointer a0) rfl rfl (w_none rfl) rfl (f_move rfl rfl) ?_
            obtain ⟨q5, hq3, hF⟩ := hF
            refine EvI.pure (v := .pointer (some q5)) rfl rfl (w_none rfl) rfl (f_nilCheck rfl (congrArg Value.pointer hq3)) ?_
            refine EvI.pure (v := .pointer (some (q5.add 1))) rfl rfl (w_none rfl) rfl (f_fieldAddr fd77_1 rfl rfl) ?_
            obtain ⟨x5, hx3, hF⟩ := hF
            refine EvI.read (v := Sl.val x5) rfl rfl (w_none rfl) rfl (f_load kL ty75 rfl rfl hx3 rfl) ?_
            obtain ⟨x6, hx4, hF⟩ := hF
            refine EvI.read (v := k85.val x6) rfl rfl (w_none rfl) rfl (f_load k85 ty86 rfl rfl hx4 rfl) ?_
            refine EvI.alloc rfl rfl (w_none rfl) rfl (f_buildSliceF Try.underlying75 el86 (by decide) rfl rfl rfl hF) ?_
            rintro _ h11 ⟨x7, rfl, hF⟩
            refine EvI.run rfl rfl (w_none rfl) rfl (f_appendE (s := x5) (x := x7) Try.underlying75 el86 rfl rfl rfl hF) ?_
            rintro _ h12 ⟨x8, rfl, hF⟩
            refine ⟨⟨chk_no rfl, chk_no rfl, trivial⟩, ?_⟩
            obtain ⟨q6, hq4, hF⟩ := hF
            refine EvI.pure (v := .pointer (some q6)) rfl rfl (w_none rfl) rfl (f_nilCheck rfl (congrArg Value.pointer hq4)) ?_
            refine EvI.pure (v := .pointer (some (q6.add 1))) rfl rfl (w_none rfl) rfl (f_fieldAddr fd77_1 rfl rfl) ?_
            obtain ⟨h13, hs3, hF⟩ := hF
            refine EvI.runN rfl rfl (w_none rfl) rfl (f_store kL ty75.size (z := x8) rfl rfl rfl hs3) ?_
            rintro _ _ ⟨rfl, rfl⟩
            refine ⟨⟨chk_no rfl, chk_no rfl, trivial⟩, ?_⟩
            refine EvI.nil ?_
            refine WP.seq ?_
            refine WP.region ?_
            refine EvK.pure (v := .bool true) (w_none rfl) rfl rfl (f_assign rfl rfl) ?_
            refine EvK.pure (v := IF.val none) (w_none rfl) rfl rfl (f_assign rfl rfl) ?_
            refine EvK.nil ?_
            refine WP.ret ?_
            exact Ret.mk (vs := [.bool true, IF.val none]) (true, none) ⟨rfl, rfl, trivial⟩ rfl hF
        · intro k3 hF
          refine WP.draw mixed [.pure, .pure, .pure, .read, .read, .pure, .eff [], .pure, .pure, .pure, .pure, .read, .read, .pure, .eff [], .pure] [[], [0], [0, 1], [0, 1, 2], [], [4], [0, 1, 2, 3, 4, 5], [0, 1, 2, 3, 4, 5, 6], [0, 1, 2, 3, 4, 5, 6, 7], [0, 1, 2, 3, 4, 5, 6, 7, 8], [0, 1, 2, 3, 4, 5, 6, 7, 8, 9], [0, 1, 2, 3, 4, 5, 6, 7, 8, 9, 10], [0, 1, 2, 3, 4, 5, 6, 7], [0, 1, 2, 3, 4, 5, 6, 7, 12], [0, 1, 2, 3, 4, 5, 6, 7, 8, 9, 10, 11, 12, 13], [0, 1, 2, 3, 4, 5, 6, 7, 8, 9, 10, 11, 12, 13, 14]] [0, 1, 2, 3, 4, 5, 6, 7, 8, 9, 10, 11, 12, 13, 14, 15] (by kernel_rfl) (by kernel_rfl) ?_
          refine EvI.pure (v := .pointer a0) rfl rfl (w_none rfl) rfl (f_move rfl rfl) ?_
          obtain ⟨q7, hq5, hF⟩ := hF
          refine EvI.pure (v := .pointer (some q7)) rfl rfl (w_none rfl) rfl (f_nilCheck rfl (congrArg Value.pointer hq5)) ?_
          refine EvI.pure (v := .pointer (some (q7.add 1))) rfl rfl (w_none rfl) rfl (f_fieldAddr fd77_1 rfl rfl) ?_
          obtain ⟨x9, hx5, hF⟩ := hF
          refine EvI.read (v := Sl.val x9) rfl rfl (w_none rfl) rfl (f_load kL ty75 rfl rfl hx5 rfl) ?_
          obtain ⟨x10, hx6, hF⟩ := hF
          refine EvI.read (v := k85.val x10) rfl rfl (w_none rfl) rfl (f_load k85 ty86 rfl rfl hx6 rfl) ?_
          refine EvI.pure (v := FV.val (some ⟨Fn.func 45, List.toArray [k85.val x10], List.toArray []⟩ : FV)) rfl rfl (w_none rfl) rfl (f_makeFunc (vs := [k85.val x10]) (us := []) rfl rfl rfl) ?_
          refine EvI.call rfl rfl (w_none rfl) rfl (enterH (vs := [Sl.val x9, FV.val (some ⟨Fn.func 45, List.toArray [k85.val x10], List.toArray []⟩ : FV)]) Try.func44 rfl rfl rfl rfl (slices_ContainsFunc___locks_claim_locks_claim_.sound hF)) ?_
          rintro _ h14 ⟨r2, rfl, hF⟩
          refine ⟨⟨chk_no rfl, chk_no rfl, trivial⟩, ?_⟩
          refine EvI.pure (v := .bool r2) rfl rfl (w_none rfl) rfl (f_move rfl rfl) ?_
          rcases ite_inv hF with ⟨c3, hF⟩ | ⟨c3, hF⟩
          · refine EvI.not rfl (w_not rfl rfl c3) rfl ?_
            refine EvI.not rfl (w_not rfl rfl c3) rfl ?_
            refine EvI.not rfl (w_not rfl rfl c3) rfl ?_
            refine EvI.not rfl (w_not rfl rfl c3) rfl ?_
            refine EvI.not rfl (w_not rfl rfl c3) rfl ?_
            refine EvI.not rfl (w_not rfl rfl c3) rfl ?_
            refine EvI.not rfl (w_not rfl rfl c3) rfl ?_
            refine EvI.pure (v := .bool true) rfl rfl (w_none rfl) rfl (f_pickT rfl rfl c3 rfl) ?_
            refine EvI.nil ?_
            exact KE.mk true ⟨rfl, rfl, rfl, trivial⟩ hF
          · refine EvI.pure (v := .pointer a0) rfl rfl (w_some rfl rfl c3) rfl (f_move rfl rfl) ?_
            obtain ⟨q8, hq6, hF⟩ := hF
            refine EvI.pure (v := .pointer (some q8)) rfl rfl (w_some rfl rfl c3) rfl (f_nilCheck rfl (congrArg Value.pointer hq6)) ?_
            refine EvI.pure (v := .pointer (some (q8.add 2))) rfl rfl (w_some rfl rfl c3) rfl (f_fieldAddr fd77_2 rfl rfl) ?_
            obtain ⟨x11, hx7, hF⟩ := hF
            refine EvI.read (v := Sl.val x11) rfl rfl (w_some rfl rfl c3) rfl (f_load kL ty75 rfl rfl hx7 rfl) ?_
            obtain ⟨x12, hx8, hF⟩ := hF
            refine EvI.read (v := k85.val x12) rfl rfl (w_some rfl rfl c3) rfl (f_load k85 ty86 rfl rfl hx8 rfl) ?_
            refine EvI.pure (v := FV.val (some ⟨Fn.func 45, List.toArray [k85.val x12], List.toArray []⟩ : FV)) rfl rfl (w_some rfl rfl c3) rfl (f_makeFunc (vs := [k85.val x12]) (us := []) rfl rfl rfl) ?_
            refine EvI.call rfl rfl (w_some rfl rfl c3) rfl (enterH (vs := [Sl.val x11, FV.val (some ⟨Fn.func 45, List.toArray [k85.val x12], List.toArray []⟩ : FV)]) Try.func44 rfl rfl rfl rfl (slices_ContainsFunc___locks_claim_locks_claim_.sound hF)) ?_
            rintro _ h15 ⟨r3, rfl, hF⟩
            refine ⟨⟨chk_no rfl, chk_no rfl, chk_no rfl, chk_no rfl, trivial⟩, ?_⟩
            refine EvI.pure (v := .bool r3) rfl rfl (w_none rfl) rfl (f_pickF rfl rfl c3 rfl) ?_
            refine EvI.nil ?_
            exact KE.mk r3 ⟨rfl, rfl, rfl, trivial⟩ hF
    · intro k2 hF
      refine WP.joinF (fun (s4 : Bool) => [(39, .bool s4), (0, .pointer a0), (1, .int .i64 a1), (8, .map r1.1), (9, IF.val s1)]) hF ?_ ?_
      · intro s4 E0 h16 hF
        rcases ite_inv hF with ⟨c4, hF⟩ | ⟨c4, hF⟩
        · refine WP.cond_true _ rfl c4 ?_
          refine WP.region ?_
          refine EvK.pure (v := IF.val (some (26, .int .i64 41) : IF)) (w_none rfl) rfl rfl (f_makeIf Try.underlying26 rfl rfl rfl) ?_
          refine EvK.pure (v := IF.val (some (26, .int .i64 41) : IF)) (w_none rfl) rfl rfl (f_assign rfl rfl) ?_
          refine EvK.nil ?_
          exact KE.mk (some (26, .int .i64 41) : IF) ⟨rfl, rfl, rfl, rfl, trivial⟩ hF
        · refine WP.cond_false _ rfl c4 ?_
          refine WP.skip ?_
          exact KE.mk s1 ⟨rfl, rfl, rfl, rfl, trivial⟩ hF
      · intro k4 hF
        refine WP.region ?_
        refine EvK.pure (v := IF.val s1) (w_none rfl) rfl rfl (f_move rfl rfl) ?_
        refine EvK.pure (v := .bool s1.isNone) (w_none rfl) rfl rfl (f_ieqln (a := s1) Try.underlying37 rfl rfl) ?_
        refine EvK.pure (v := .bool s1.isNone) (w_none rfl) rfl rfl (f_move rfl rfl) ?_
        rcases ite_inv hF with ⟨c5, hF⟩ | ⟨c5, hF⟩
        · refine EvK.pure (v := .pointer a0) (w_some rfl rfl c5) rfl rfl (f_move rfl rfl) ?_
          obtain ⟨q9, hq7, hF⟩ := hF
          refine EvK.pure (v := .pointer (some q9)) (w_some rfl rfl c5) rfl rfl (f_nilCheck rfl (congrArg Value.pointer hq7)) ?_
          refine EvK.pure (v := .pointer (some (q9.add 1))) (w_some rfl rfl c5) rfl rfl (f_fieldAddr fd77_1 rfl rfl) ?_
          obtain ⟨x13, hx9, hF⟩ := hF
          refine EvK.read (v := Sl.val x13) (w_some rfl rfl c5) rfl rfl (f_load kL ty75 rfl rfl hx9 rfl) ?_
          refine EvK.pure (v := .int .i64 a1) (w_some rfl rfl c5) rfl rfl (f_move rfl rfl) ?_
          refine EvK.call (w_some rfl rfl c5) rfl rfl (enterH Try.func43 rfl rfl rfl rfl (locks_find.sound hF)) ?_
          rintro _ h17 ⟨r4, rfl, hF⟩
          refine EvK.pure (v := .bool (decide (r4 ≥ 0))) (w_some rfl rfl c5) rfl rfl (f_geq rfl rfl rfl) ?_
          refine EvK.pure (v := .bool (decide (r4 ≥ 0))) (w_some rfl rfl c5) rfl rfl (f_move rfl rfl) ?_
          rcases ite_inv hF with ⟨c6, hF⟩ | ⟨c6, hF⟩
          · refine EvK.not (w_not rfl rfl c6) rfl rfl ?_
            refine EvK.not (w_not rfl rfl c6) rfl rfl ?_
            refine EvK.not (w_not rfl rfl c6) rfl rfl ?_
            refine EvK.not (w_not rfl rfl c6) rfl rfl ?_
            refine EvK.not (w_not rfl rfl c6) rfl rfl ?_
            refine EvK.not (w_not rfl rfl c6) rfl rfl ?_
            refine EvK.not (w_not rfl rfl c6) rfl rfl ?_
            refine EvK.pure (v := .bool true) (w_some rfl rfl c5) rfl rfl (f_pickT rfl rfl c6 rfl) ?_
            refine EvK.pure (v := .bool true) (w_none rfl) rfl rfl (f_pickT rfl rfl c5 rfl) ?_
            refine EvK.nil ?_
            exact KE.mk true ⟨rfl, rfl, rfl, rfl, rfl, trivial⟩ hF
          · refine EvK.pure (v := .pointer a0) (w_some rfl rfl c6) rfl rfl (f_move rfl rfl) ?_
            obtain ⟨q10, hq8, hF⟩ := hF
            refine EvK.pure (v := .pointer (some q10)) (w_some rfl rfl c6) rfl rfl (f_nilCheck rfl (congrArg Value.pointer hq8)) ?_
            refine EvK.pure (v := .pointer (some (q10.add 2))) (w_some rfl rfl c6) rfl rfl (f_fieldAddr fd77_2 rfl rfl) ?_
            obtain ⟨x14, hx10, hF⟩ := hF
            refine EvK.read (v := Sl.val x14) (w_some rfl rfl c6) rfl rfl (f_load kL ty75 rfl rfl hx10 rfl) ?_
            refine EvK.pure (v := .int .i64 a1) (w_some rfl rfl c6) rfl rfl (f_move rfl rfl) ?_
            refine EvK.call (w_some rfl rfl c6) rfl rfl (enterH Try.func43 rfl rfl rfl rfl (locks_find.sound hF)) ?_
            rintro _ h18 ⟨r5, rfl, hF⟩
            refine EvK.pure (v := .bool (decide (r5 ≥ 0))) (w_some rfl rfl c6) rfl rfl (f_geq rfl rfl rfl) ?_
            refine EvK.pure (v := .bool (decide (r5 ≥ 0))) (w_some rfl rfl c5) rfl rfl (f_pickF rfl rfl c6 rfl) ?_
            refine EvK.pure (v := .bool (decide (r5 ≥ 0))) (w_none rfl) rfl rfl (f_pickT rfl rfl c5 rfl) ?_
            refine EvK.nil ?_
            exact KE.mk (decide (r5 ≥ 0)) ⟨rfl, rfl, rfl, rfl, rfl, trivial⟩ hF
        · refine EvK.not (w_not rfl rfl c5) rfl rfl ?_
          refine EvK.not (w_not rfl rfl c5) rfl rfl ?_
          refine EvK.not (w_not rfl rfl c5) rfl rfl ?_
          refine EvK.not (w_not rfl rfl c5) rfl rfl ?_
          refine EvK.not (w_not rfl rfl c5) rfl rfl ?_
          refine EvK.not (w_not rfl rfl c5) rfl rfl ?_
          refine EvK.not (w_not rfl rfl c5) rfl rfl ?_
          refine EvK.not (w_not rfl rfl c5) rfl rfl ?_
          refine EvK.not (w_undef rfl rfl) rfl rfl ?_
          refine EvK.not (w_undef rfl rfl) rfl rfl ?_
          refine EvK.not (w_undef rfl rfl) rfl rfl ?_
          refine EvK.not (w_undef rfl rfl) rfl rfl ?_
          refine EvK.not (w_undef rfl rfl) rfl rfl ?_
          refine EvK.not (w_undef rfl rfl) rfl rfl ?_
          refine EvK.not (w_undef rfl rfl) rfl rfl ?_
          refine EvK.not (w_not rfl rfl c5) rfl rfl ?_
          refine EvK.pure (v := .bool false) (w_none rfl) rfl rfl (f_pickF rfl rfl c5 rfl) ?_
          refine EvK.nil ?_
          exact KE.mk false ⟨rfl, rfl, rfl, rfl, rfl, trivial⟩ hF
  · intro k1 hF
    refine WP.seq ?_
    refine WP.region ?_
    refine EvK.pure (v := .int .i64 a1) (w_none rfl) rfl rfl (f_move rfl rfl) ?_
    refine EvK.pure (v := .bool (decide (a1 < 0))) (w_none rfl) rfl rfl (f_lss rfl rfl rfl) ?_
    refine EvK.nil ?_
    rcases ite_inv hF with ⟨c7, hF⟩ | ⟨c7, hF⟩
    · refine WP.cond_true _ rfl c7 ?_
      refine WP.region ?_
      refine EvK.pure (v := IF.val (some (26, .int .i64 1) : IF)) (w_none rfl) rfl rfl (f_makeIf Try.underlying26 rfl rfl rfl) ?_
      refine EvK.pure (v := IF.val (some (26, .int .i64 1) : IF)) (w_none rfl) rfl rfl (f_assign rfl rfl) ?_
      refine EvK.nil ?_
      exact KE.mk (some (26, .int .i64 1) : IF) ⟨rfl, rfl, rfl, rfl, trivial⟩ hF
    · refine WP.cond_false _ rfl c7 ?_
      refine WP.skip ?_
      exact KE.mk r1.2 ⟨rfl, rfl, rfl, rfl, trivial⟩ hF
end Go.Proofs.Ytgmihbchcmjmdaa

namespace Go.Proofs.Ytgmihbchcmjmdaa
open Go Go.Tr
set_option linter.unusedVariables false
set_option maxRecDepth 100000
set_option maxHeartbeats 400000
/-- slices.Delete[[]spate/locks.claim,spate/locks.claim] -/
def slices_Delete___locks_claim_locks_claim_ (a0 : Sl) (a1 : Int) (a2 : Int) (h : H) (Q : Sl → H → Prop) : Prop :=
  rd (slx 2 a0 (some a1) (some a2) (some (a0.len : Int))) fun x1 =>
  if (a1 == a2) = true then
    Q a0 h
  else
    rd (slx 2 a0 none (some a1) none) fun x2 =>
    rd (slx 2 a0 (some a2) none none) fun x3 =>
    ap k85.n 16 86 (k85.enc z85) x2 x3 h fun x4 h1 =>
    rd (slx 2 x4 (some (x4.len : Int)) (some (a0.len : Int)) none) fun x5 =>
    rd (clr (k85.enc z85) x5 h1) fun h2 =>
    Q x4 h2
theorem slices_Delete___locks_claim_locks_claim_.sound {a0 : Sl} {a1 : Int} {a2 : Int} {h : H} {Q : Sl → H → Prop} (hF : slices_Delete___locks_claim_locks_claim_ a0 a1 a2 h Q) :
    CallsH Try.prog 47 (List.toArray (α := Value) [Sl.val a0, .int .i64 a1, .int .i64 a2]) h fun v h' => ∃ x : Sl, v = Sl.val x ∧ Q x h' := by
  refine CallsH.of_body Try.func47 rfl 33 rfl rfl ?_
  refine WP.seq ?_
  refine WP.region ?_
  refine EvK.pure (v := Sl.val Sl.nil) (w_none rfl) rfl rfl (f_assign rfl rfl) ?_
  refine EvK.nil ?_
  refine WP.seq ?_
  refine WP.region ?_
  refine EvK.pure (v := Sl.val a0) (w_none rfl) rfl rfl (f_move rfl rfl) ?_
  refine EvK.pure (v := .int .i64 a1) (w_none rfl) rfl rfl (f_move rfl rfl) ?_
  refine EvK.pure (v := .int .i64 a2) (w_none rfl) rfl rfl (f_move rfl rfl) ?_
  refine EvK.pure (v := Sl.val a0) (w_none rfl) rfl rfl (f_move rfl rfl) ?_
  refine EvK.pure (v := .int .i64 (a0.len : Int)) (w_none rfl) rfl rfl (f_lenL (s := a0) Try.underlying75 rfl rfl) ?_
  obtain ⟨x1, hx1, hF⟩ := hF
  refine EvK.pure (v := Sl.val x1) (w_none rfl) rfl rfl (f_slice Try.underlying75 ty86.size rfl rfl (bndV_some rfl) (bndV_some rfl) (bndV_some rfl) hx1) ?_
  refine EvK.nil ?_
  refine WP.seq ?_
  refine WP.seq ?_
  refine WP.region ?_
  refine EvK.pure (v := .int .i64 a1) (w_none rfl) rfl rfl (f_move rfl rfl) ?_
  refine EvK.pure (v := .int .i64 a2) (w_none rfl) rfl rfl (f_move rfl rfl) ?_
  refine EvK.pure (v := .bool (a1 == a2)) (w_none rfl) rfl rfl (f_eql rfl rfl rfl) ?_
  refine EvK.nil ?_
  rcases ite_inv hF with ⟨c1, hF⟩ | ⟨c1, hF⟩
  · refine WP.cond_true _ rfl c1 ?_
    refine WP.seq ?_
    refine WP.region ?_
    refine EvK.pure (v := Sl.val a0) (w_none rfl) rfl rfl (f_move rfl rfl) ?_
    refine EvK.pure (v := Sl.val a0) (w_none rfl) rfl rfl (f_assign rfl rfl) ?_
    refine EvK.nil ?_
    refine WP.ret ?_
    exact Ret.mk (vs := [Sl.val a0]) a0 ⟨rfl, trivial⟩ rfl hF
  · refine WP.cond_false _ rfl c1 ?_
    refine WP.skip ?_
    refine WP.seq ?_
    refine WP.region ?_
    refine EvK.pure (v := Sl.val a0) (w_none rfl) rfl rfl (f_move rfl rfl) ?_
    refine EvK.pure (v := .int .i64 (a0.len : Int)) (w_none rfl) rfl rfl (f_lenL (s := a0) Try.underlying75 rfl rfl) ?_
    refine EvK.pure (v := .int .i64 (a0.len : Int)) (w_none rfl) rfl rfl (f_assign rfl rfl) ?_
    refine EvK.nil ?_
    refine WP.seq ?_
    refine WP.draw mixed [.pure, .pure, .pure, .pure, .pure, .pure, .eff [], .pure] [[], [], [0, 1], [], [], [3, 4], [0, 1, 2, 3, 4, 5], [0, 1, 2, 3, 4, 5, 6]] [0, 1, 2, 3, 4, 5, 6, 7] (by kernel_rfl) (by kernel_rfl) ?_
    refine EvI.pure (v := Sl.val a0) rfl rfl (w_none rfl) rfl (f_move rfl rfl) ?_
    refine EvI.pure (v := .int .i64 a1) rfl rfl (w_none rfl) rfl (f_move rfl rfl) ?_
    obtain ⟨x2, hx2, hF⟩ := hF
    refine EvI.pure (v := Sl.val x2) rfl rfl (w_none rfl) rfl (f_slice Try.underlying75 ty86.size rfl rfl bndV_none (bndV_some rfl) bndV_none hx2) ?_
    refine EvI.pure (v := Sl.val a0) rfl rfl (w_none rfl) rfl (f_move rfl rfl) ?_
    refine EvI.pure (v := .int .i64 a2) rfl rfl (w_none rfl) rfl (f_move rfl rfl) ?_
    obtain ⟨x3, hx3, hF⟩ := hF
    refine EvI.pure (v := Sl.val x3) rfl rfl (w_none rfl) rfl (f_slice Try.underlying75 ty86.size rfl rfl (bndV_some rfl) bndV_none bndV_none hx3) ?_
    refine EvI.run rfl rfl (w_none rfl) rfl (f_appendE (s := x2) (x := x3) Try.underlying75 el86 rfl rfl rfl hF) ?_
    rintro _ h1 ⟨x4, rfl, hF⟩
    refine ⟨trivial, ?_⟩
    refine EvI.pure (v := Sl.val x4) rfl rfl (w_none rfl) rfl (f_assign rfl rfl) ?_
    refine EvI.nil ?_
    refine WP.seq ?_
    refine WP.region ?_
    refine EvK.pure (v := Sl.val x4) (w_none rfl) rfl rfl (f_move rfl rfl) ?_
    refine EvK.pure (v := Sl.val x4) (w_none rfl) rfl rfl (f_move rfl rfl) ?_
    refine EvK.pure (v := .int .i64 (x4.len : Int)) (w_none rfl) rfl rfl (f_lenL (s := x4) Try.underlying75 rfl rfl) ?_
    refine EvK.pure (v := .int .i64 (a0.len : Int)) (w_none rfl) rfl rfl (f_move rfl rfl) ?_
    obtain ⟨x5, hx4, hF⟩ := hF
    refine EvK.pure (v := Sl.val x5) (w_none rfl) rfl rfl (f_slice Try.underlying75 ty86.size rfl rfl (bndV_some rfl) (bndV_some rfl) bndV_none hx4) ?_
    obtain ⟨h2, hs1, hF⟩ := hF
    refine EvK.runN (w_none rfl) rfl (f_clear (s := x5) Try.underlying75 el86 rfl rfl hs1) ?_
    rintro _ _ ⟨rfl, rfl⟩
    refine EvK.nil ?_
    refine WP.seq ?_
    refine WP.region ?_
    refine EvK.pure (v := Sl.val x4) (w_none rfl) rfl rfl (f_move rfl rfl) ?_
    refine EvK.pure (v := Sl.val x4) (w_none rfl) rfl rfl (f_assign rfl rfl) ?_
    refine EvK.nil ?_
    refine WP.ret ?_
    exact Ret.mk (vs := [Sl.val x4]) x4 ⟨rfl, trivial⟩ rfl hF
end Go.Proofs.Ytgmihbchcmjmdaa

namespace Go.Proofs.Ytgmihbchcmjmdaa
open Go Go.Tr
set_option linter.unusedVariables false
set_option maxRecDepth 100000
set_option maxHeartbeats 400000
def locks_Manager_through.b1 (p0 : Option Addr) (p10 : Sl) (p11 : Int) (s : Sl × Sl × Int) (h : H) (K : (Sl × Sl × Int) ⊕ (Sl × Sl) → H → Prop) : Prop :=
  if (decide (s.2.2 < p11)) = true then
    jn (fun (k2 : (Sl × Sl) → H → Prop) =>
      rd (ixA 2 p10 s.2.2) fun q3 =>
      rd (ld k85 q3 h) fun x2 =>
      al 86 (k85.enc z85) h fun q4 h4 =>
      rd (st k85 q4 x2 h4) fun h5 =>
      jn (fun (k3 : Bool → H → Prop) =>
        rd p0 fun q7 =>
        rd (ld kL (q7.add 1) h5) fun x13 =>
        rd (ld k85 q4 h5) fun x14 =>
        slices_ContainsFunc___locks_claim_locks_claim_ x13 (some ⟨Fn.func 45, List.toArray [k85.val x14], List.toArray []⟩ : FV) h5 fun r1 h14 =>
        if r1 = true then
          k3 true h14
        else
          rd (ld k85 q4 h14) fun x15 =>
          slices_ContainsFunc___locks_claim_locks_claim_ s.1 (some ⟨Fn.func 45, List.toArray [k85.val x15], List.toArray []⟩ : FV) h14 fun r2 h15 =>
          k3 r2 h15) fun s3 h6 =>
      if s3 = true then
        rd (ld k85 q4 h6) fun x3 =>
        bs 86 1 (k85.enc x3) h6 fun x4 h7 =>
        ap k85.n 16 86 (k85.enc z85) s.1 x4 h7 fun x5 h8 =>
        k2 (x5, s.2.1) h8
      else
        rd p0 fun q5 =>
        rd (ld kL (q5.add 1) h6) fun x6 =>
        rd (ld k85 q4 h6) fun x7 =>
        bs 86 1 (k85.enc x7) h6 fun x8 h9 =>
        ap k85.n 16 86 (k85.enc z85) x6 x8 h9 fun x9 h10 =>
        rd p0 fun q6 =>
        rd (st kL (q6.add 1) x9 h10) fun h11 =>
        rd (ld (kI .i64) (q4.add 0) h11) fun x10 =>
        bs 3 1 ((kI .i64).enc x10) h11 fun x11 h12 =>
        ap (kI .i64).n 8 3 ((kI .i64).enc 0) s.2.1 x11 h12 fun x12 h13 =>
        k2 (s.1, x12) h13) fun s2 h3 =>
    K (.inl (s2.1, s2.2, IntKind.i64.wrap (s.2.2 + 1))) h3
  else
    K (.inr (s.1, s.2.1)) h
/-- (*spate/locks.Manager).through -/
def locks_Manager_through (a0 : Option Addr) (h : H) (Q : Sl → H → Prop) : Prop :=
  jn (fun (k1 : (Sl × Sl) → H → Prop) =>
    rd a0 fun q2 =>
    rd (ld kL (q2.add 2) h) fun x1 =>
    loopE (locks_Manager_through.b1 a0 x1 (x1.len : Int)) (Sl.nil, Sl.nil, 0) h (fun r3 hh => k1 r3 hh)) fun s1 h1 =>
  rd a0 fun q1 =>
  rd (st kL (q1.add 2) s1.1 h1) fun h2 =>
  Q s1.2 h2
theorem locks_Manager_through.sound {a0 : Option Addr} {h : H} {Q : Sl → H → Prop} (hF : locks_Manager_through a0 h Q) :
    CallsH Try.prog 48 (List.toArray (α := Value) [.pointer a0]) h fun v h' => ∃ x : Sl, v = Sl.val x ∧ Q x h' := by
  refine CallsH.of_body Try.func48 rfl 54 rfl rfl ?_
  refine WP.seq ?_
  refine WP.region ?_
  refine EvK.pure (v := Sl.val Sl.nil) (w_none rfl) rfl rfl (f_assign rfl rfl) ?_
  refine EvK.nil ?_
  refine WP.seq ?_
  refine WP.region ?_
  refine EvK.pure (v := Sl.val Sl.nil) (w_none rfl) rfl rfl (f_assign rfl rfl) ?_
  refine EvK.nil ?_
  refine WP.seq ?_
  refine WP.region ?_
  refine EvK.pure (v := Sl.val Sl.nil) (w_none rfl) rfl rfl (f_assign rfl rfl) ?_
  refine EvK.nil ?_
  refine WP.joinF (fun (s1 : Sl × Sl) => [(3, Sl.val s1.1), (4, Sl.val s1.2), (0, .pointer a0)]) hF ?_ ?_
  · intro s1 E0 h1 hF
    refine WP.seq ?_
    refine WP.region ?_
    refine EvK.pure (v := .pointer a0) (w_none rfl) rfl rfl (f_move rfl rfl) ?_
    refine EvK.pure (v := Sl.val s1.1) (w_none rfl) rfl rfl (f_move rfl rfl) ?_
    obtain ⟨q1, hq1, hF⟩ := hF
    refine EvK.pure (v := .pointer (some q1)) (w_none rfl) rfl rfl (f_nilCheck rfl (congrArg Value.pointer hq1)) ?_
    refine EvK.pure (v := .pointer (some (q1.add 2))) (w_none rfl) rfl rfl (f_fieldAddr fd77_2 rfl rfl) ?_
    obtain ⟨h2, hs1, hF⟩ := hF
    refine EvK.runN (w_none rfl) rfl (f_store kL ty75.size (z := s1.1) rfl rfl rfl hs1) ?_
    rintro _ _ ⟨rfl, rfl⟩
    refine EvK.nil ?_
    refine WP.seq ?_
    refine WP.region ?_
    refine EvK.pure (v := Sl.val s1.2) (w_none rfl) rfl rfl (f_move rfl rfl) ?_
    refine EvK.pure (v := Sl.val s1.2) (w_none rfl) rfl rfl (f_assign rfl rfl) ?_
    refine EvK.nil ?_
    refine WP.ret ?_
    exact Ret.mk (vs := [Sl.val s1.2]) s1.2 ⟨rfl, trivial⟩ rfl hF
  · intro k1 hF
    refine WP.seq ?_
    refine WP.region ?_
    refine EvK.pure (v := .pointer a0) (w_none rfl) rfl rfl (f_move rfl rfl) ?_
    obtain ⟨q2, hq2, hF⟩ := hF
    refine EvK.pure (v := .pointer (some q2)) (w_none rfl) rfl rfl (f_nilCheck rfl (congrArg Value.pointer hq2)) ?_
    refine EvK.pure (v := .pointer (some (q2.add 2))) (w_none rfl) rfl rfl (f_fieldAddr fd77_2 rfl rfl) ?_
    obtain ⟨x1, hx1, hF⟩ := hF
    refine EvK.read (v := Sl.val x1) (w_none rfl) rfl rfl (f_load kL ty75 rfl rfl hx1 rfl) ?_
    refine EvK.pure (v := .int .i64 (x1.len : Int)) (w_none rfl) rfl rfl (f_lenL (s := x1) Try.underlying75 rfl rfl) ?_
    refine EvK.pure (v := .int .i64 0) (w_none rfl) rfl rfl (f_move rfl rfl) ?_
    refine EvK.nil ?_
    refine WP.block ?_
    refine WP.loopF (fun (s2 : Sl × Sl × Int) => [(3, Sl.val s2.1), (4, Sl.val s2.2.1), (12, .int .i64 s2.2.2), (0, .pointer a0), (10, Sl.val x1), (11, .int .i64 (x1.len : Int))]) hF ⟨rfl, rfl, rfl, rfl, rfl, rfl, trivial⟩ ?_
    intro k2 s2 E0 h3 hF
    refine WP.seq ?_
    refine WP.region ?_
    refine EvK.pure (v := .bool (decide (s2.2.2 < (x1.len : Int)))) (w_none rfl) rfl rfl (f_lss rfl rfl rfl) ?_
    refine EvK.nil ?_
    refine WP.seq ?_
    rcases ite_inv hF with ⟨c1, hF⟩ | ⟨c1, hF⟩
    · refine WP.cond_true _ rfl c1 ?_
      refine WP.skip ?_
      refine WP.joinF (fun (s3 : Sl × Sl) => [(3, Sl.val s3.1), (4, Sl.val s3.2), (0, .pointer a0), (10, Sl.val x1), (11, .int .i64 (x1.len : Int)), (12, .int .i64 s2.2.2)]) hF ?_ ?_
      · intro s3 E0 h4 hF
        refine WP.region ?_
        refine EvK.pure (v := .int .i64 (IntKind.i64.wrap (s2.2.2 + 1))) (w_none rfl) rfl rfl (f_add rfl rfl rfl) ?_
        refine EvK.pure (v := .int .i64 (IntKind.i64.wrap (s2.2.2 + 1))) (w_none rfl) rfl rfl (f_move rfl rfl) ?_
        refine EvK.nil ?_
        exact KE.mk (s3.1, s3.2, IntKind.i64.wrap (s2.2.2 + 1)) ⟨rfl, rfl, rfl, rfl, rfl, rfl, trivial⟩ hF
      · intro k3 hF
        refine WP.block ?_
        refine WP.seq ?_
        refine WP.region ?_
        obtain ⟨q3, hq3, hF⟩ := hF
        refine EvK.pure (v := .pointer (some q3)) (w_none rfl) rfl rfl (f_indexAddr (s := x1) Try.underlying75 ty86.size rfl rfl rfl hq3) ?_
        obtain ⟨x2, hx2, hF⟩ := hF
        refine EvK.read (v := k85.val x2) (w_none rfl) rfl rfl (f_load k85 ty86 rfl rfl hx2 rfl) ?_
        refine EvK.alloc (w_none rfl) rfl rfl (f_allocF zero86 rfl rfl hF) ?_
        rintro _ h5 ⟨q4, rfl, hF⟩
        obtain ⟨h6, hs2, hF⟩ := hF
        refine EvK.runN (w_none rfl) rfl (f_store k85 ty86.size (z := x2) rfl rfl rfl hs2) ?_
        rintro _ _ ⟨rfl, rfl⟩
        refine EvK.nil ?_
        refine WP.joinF (fun (s4 : Bool) => [(28, .bool s4), (0, .pointer a0), (3, Sl.val s2.1), (4, Sl.val s2.2.1), (6, .pointer (some q4)), (10, Sl.val x1), (11, .int .i64 (x1.len : Int)), (12, .int .i64 s2.2.2)]) hF ?_ ?_
        · intro s4 E0 h7 hF
          rcases ite_inv hF with ⟨c2, hF⟩ | ⟨c2, hF⟩
          · refine WP.cond_true _ rfl c2 ?_
            refine WP.region ?_
            refine EvK.pure (v := Sl.val s2.1) (w_none rfl) rfl rfl (f_move rfl rfl) ?_
            obtain ⟨x3, hx3, hF⟩ := hF
            refine EvK.read (v := k85.val x3) (w_none rfl) rfl rfl (f_load k85 ty86 rfl rfl hx3 rfl) ?_
            refine EvK.alloc (w_none rfl) rfl rfl (f_buildSliceF Try.underlying75 el86 (by decide) rfl rfl rfl hF) ?_
            rintro _ h8 ⟨x4, rfl, hF⟩
            refine EvK.run (w_none rfl) rfl rfl (f_appendE (s := s2.1) (x := x4) Try.underlying75 el86 rfl rfl rfl hF) ?_
            rintro _ h9 ⟨x5, rfl, hF⟩
            refine EvK.pure (v := Sl.val x5) (w_none rfl) rfl rfl (f_assign rfl rfl) ?_
            refine EvK.nil ?_
            exact KE.mk (x5, s2.2.1) ⟨rfl, rfl, rfl, rfl, rfl, rfl, trivial⟩ hF
          · refine WP.cond_false _ rfl c2 ?_
            refine WP.seq ?_
            refine WP.draw mixed [.pure, .pure, .pure, .pure, .read, .read, .alloc, .eff [], .pure, .pure, .eff []] [[], [], [1], [1, 2], [1, 2, 3], [], [5], [1, 2, 3, 4, 5, 6], [0, 1, 2, 3, 4, 5, 6, 7], [0, 1, 2, 3, 4, 5, 6, 7, 8], [0, 1, 2, 3, 4, 5, 6, 7, 8, 9]] [0, 1, 2, 3, 4, 5, 6, 7, 8, 9, 10] (by kernel_rfl) (by kernel_rfl) ?_
            refine EvI.pure (v := .pointer a0) rfl rfl (w_none rfl) rfl (f_move rfl rfl) ?_
            refine EvI.pure (v := .pointer a0) rfl rfl (w_none rfl) rfl (f_move rfl rfl) ?_
            obtain ⟨q5, hq4, hF⟩ := hF
            refine EvI.pure (v := .pointer (some q5)) rfl rfl (w_none rfl) rfl (f_nilCheck rfl (congrArg Value.pointer hq4)) ?_
            refine EvI.pure (v := .pointer (some (q5.add 1))) rfl rfl (w_none rfl) rfl (f_fieldAddr fd77_1 rfl rfl) ?_
            obtain ⟨x6, hx4, hF⟩ := hF
            refine EvI.read (v := Sl.val x6) rfl rfl (w_none rfl) rfl (f_load kL ty75 rfl rfl hx4 rfl) ?_
            obtain ⟨x7, hx5, hF⟩ := hF
            refine EvI.read (v := k85.val x7) rfl rfl (w_none rfl) rfl (f_load k85 ty86 rfl rfl hx5 rfl) ?_
            refine EvI.alloc rfl rfl (w_none rfl) rfl (f_buildSliceF Try.underlying75 el86 (by decide) rfl rfl rfl hF) ?_
            rintro _ h10 ⟨x8, rfl, hF⟩
            refine EvI.run rfl rfl (w_none rfl) rfl (f_appendE (s := x6) (x := x8) Try.underlying75 el86 rfl rfl rfl hF) ?_
            rintro _ h11 ⟨x9, rfl, hF⟩
            refine ⟨⟨chk_no rfl, chk_no rfl, trivial⟩, ?_⟩
            obtain ⟨q6, hq5, hF⟩ := hF
            refine EvI.pure (v := .pointer (some q6)) rfl rfl (w_none rfl) rfl (f_nilCheck rfl (congrArg Value.pointer hq5)) ?_
            refine EvI.pure (v := .pointer (some (q6.add 1))) rfl rfl (w_none rfl) rfl (f_fieldAddr fd77_1 rfl rfl) ?_
            obtain ⟨h12, hs3, hF⟩ := hF
            refine EvI.runN rfl rfl (w_none rfl) rfl (f_store kL ty75.size (z := x9) rfl rfl rfl hs3) ?_
            rintro _ _ ⟨rfl, rfl⟩
            refine ⟨⟨chk_no rfl, chk_no rfl, trivial⟩, ?_⟩
            refine EvI.nil ?_
            refine WP.region ?_
            refine EvK.pure (v := Sl.val s2.2.1) (w_none rfl) rfl rfl (f_move rfl rfl) ?_
            refine EvK.pure (v := .pointer (some (q4.add 0))) (w_none rfl) rfl rfl (f_fieldAddr fd86_0 rfl rfl) ?_
            obtain ⟨x10, hx6, hF⟩ := hF
            refine EvK.read (v := .int .i64 x10) (w_none rfl) rfl rfl (f_load (kI .i64) ty3 rfl rfl hx6 rfl) ?_
            refine EvK.alloc (w_none rfl) rfl rfl (f_buildSliceF Try.underlying22 el3 (by decide) rfl rfl rfl hF) ?_
            rintro _ h13 ⟨x11, rfl, hF⟩
            refine EvK.run (w_none rfl) rfl rfl (f_appendE (s := s2.2.1) (x := x11) Try.underlying22 el3 rfl rfl rfl hF) ?_
            rintro _ h14 ⟨x12, rfl, hF⟩
            refine EvK.pure (v := Sl.val x12) (w_none rfl) rfl rfl (f_assign rfl rfl) ?_
            refine EvK.nil ?_
            exact KE.mk (s2.1, x12) ⟨rfl, rfl, rfl, rfl, rfl, rfl, trivial⟩ hF
        · intro k4 hF
          refine WP.draw mixed [.pure, .pure, .pure, .read, .read, .pure, .eff [], .pure, .pure, .read, .pure, .eff [], .pure] [[], [0], [0, 1], [0, 1, 2], [], [4], [0, 1, 2, 3, 4, 5], [0, 1, 2, 3, 4, 5, 6], [0, 1, 2, 3, 4, 5, 6, 7], [0, 1, 2, 3, 4, 5, 6, 7], [0, 1, 2, 3, 4, 5, 6, 7, 9], [0, 1, 2, 3, 4, 5, 6, 7, 8, 9, 10], [0, 1, 2, 3, 4, 5, 6, 7, 8, 9, 10, 11]] [0, 1, 2, 3, 4, 5, 6, 7, 8, 9, 10, 11, 12] (by kernel_rfl) (by kernel_rfl) ?_
          refine EvI.pure (v := .pointer a0) rfl rfl (w_none rfl) rfl (f_move rfl rfl) ?_
          obtain ⟨q7, hq6, hF⟩ := hF
          refine EvI.pure (v := .pointer (some q7)) rfl rfl (w_none rfl) rfl (f_nilCheck rfl (congrArg Value.pointer hq6)) ?_
          refine EvI.pure (v := .pointer (some (q7.add 1))) rfl rfl (w_none rfl) rfl (f_fieldAddr fd77_1 rfl rfl) ?_
          obtain ⟨x13, hx7, hF⟩ := hF
          refine EvI.read (v := Sl.val x13) rfl rfl (w_none rfl) rfl (f_load kL ty75 rfl rfl hx7 rfl) ?_
          obtain ⟨x14, hx8, hF⟩ := hF
          refine EvI.read (v := k85.val x14) rfl rfl (w_none rfl) rfl (f_load k85 ty86 rfl rfl hx8 rfl) ?_
          refine EvI.pure (v := FV.val (some ⟨Fn.func 45, List.toArray [k85.val x14], List.toArray []⟩ : FV)) rfl rfl (w_none rfl) rfl (f_makeFunc (vs := [k85.val x14]) (us := []) rfl rfl rfl) ?_
          refine EvI.call rfl rfl (w_none rfl) rfl (enterH (vs := [Sl.val x13, FV.val (some ⟨Fn.func 45, List.toArray [k85.val x14], List.toArray []⟩ : FV)]) Try.func44 rfl rfl rfl rfl (slices_ContainsFunc___locks_claim_locks_claim_.sound hF)) ?_
          rintro _ h15 ⟨r1, rfl, hF⟩
          refine ⟨⟨chk_no rfl, chk_no rfl, trivial⟩, ?_⟩
          refine EvI.pure (v := .bool r1) rfl rfl (w_none rfl) rfl (f_move rfl rfl) ?_
          rcases ite_inv hF with ⟨c3, hF⟩ | ⟨c3, hF⟩
          · refine EvI.not rfl (w_not rfl rfl c3) rfl ?_
            refine EvI.not rfl (w_not rfl rfl c3) rfl ?_
            refine EvI.not rfl (w_not rfl rfl c3) rfl ?_
            refine EvI.not rfl (w_not rfl rfl c3) rfl ?_
            refine EvI.pure (v := .bool true) rfl rfl (w_none rfl) rfl (f_pickT rfl rfl c3 rfl) ?_
            refine EvI.nil ?_
            exact KE.mk true ⟨rfl, rfl, rfl, rfl, rfl, rfl, rfl, rfl, trivial⟩ hF
          · refine EvI.pure (v := Sl.val s2.1) rfl rfl (w_some rfl rfl c3) rfl (f_move rfl rfl) ?_
            obtain ⟨x15, hx9, hF⟩ := hF
            refine EvI.read (v := k85.val x15) rfl rfl (w_some rfl rfl c3) rfl (f_load k85 ty86 rfl rfl hx9 rfl) ?_
            refine EvI.pure (v := FV.val (some ⟨Fn.func 45, List.toArray [k85.val x15], List.toArray []⟩ : FV)) rfl rfl (w_some rfl rfl c3) rfl (f_makeFunc (vs := [k85.val x15]) (us := []) rfl rfl rfl) ?_
            refine EvI.call rfl rfl (w_some rfl rfl c3) rfl (enterH (vs := [Sl.val s2.1, FV.val (some ⟨Fn.func 45, List.toArray [k85.val x15], List.toArray []⟩ : FV)]) Try.func44 rfl rfl rfl rfl (slices_ContainsFunc___locks_claim_locks_claim_.sound hF)) ?_
            rintro _ h16 ⟨r2, rfl, hF⟩
            refine ⟨⟨chk_no rfl, chk_no rfl, chk_no rfl, trivial⟩, ?_⟩
            refine EvI.pure (v := .bool r2) rfl rfl (w_none rfl) rfl (f_pickF rfl rfl c3 rfl) ?_
            refine EvI.nil ?_
            exact KE.mk r2 ⟨rfl, rfl, rfl, rfl, rfl, rfl, rfl, rfl, trivial⟩ hF
    · refine WP.cond_false _ rfl c1 ?_
      refine WP.exit ?_
      exact KE.mk (s2.1, s2.2.1) ⟨rfl, rfl, rfl, trivial⟩ hF
end Go.Proofs.Ytgmihbchcmjmdaa

namespace Go.Proofs.Ytgmihbchcmjmdaa
open Go Go.Tr
set_option linter.unusedVariables false
set_option maxRecDepth 100000
set_option maxHeartbeats 400000
/-- (*spate/locks.Manager).Free -/
def locks_Manager_Free (a0 : Option Addr) (a1 : Int) (h : H) (Q : (Sl × IF) → H → Prop) : Prop :=
  rd a0 fun q1 =>
  rd (ld kL (q1.add 1) h) fun x1 =>
  locks_find x1 a1 h fun r1 h1 =>
  if (decide (r1 < 0)) = true then
    al 84 (k83.enc (S83.mk a1 (some (26, .int .i64 42) : IF))) h1 fun q2 h2 =>
    errors_Is (some (82, .pointer (some q2)) : IF) (some (26, .int .i64 42) : IF) h2 fun r2 h3 =>
    if (!r2) = true then
      Q (Sl.nil, none) h3
    else
      Q (Sl.nil, (some (82, .pointer (some q2)) : IF)) h3
  else
    rd a0 fun q3 =>
    rd (ld kL (q3.add 1) h1) fun x2 =>
    slices_Delete___locks_claim_locks_claim_ x2 r1 (IntKind.i64.wrap (r1 + 1)) h1 fun r3 h4 =>
    rd a0 fun q4 =>
    rd (st kL (q4.add 1) r3 h4) fun h5 =>
    locks_Manager_through a0 h5 fun r4 h6 =>
    Q (r4, none) h6
theorem locks_Manager_Free.sound {a0 : Option Addr} {a1 : Int} {h : H} {Q : (Sl × IF) → H → Prop} (hF : locks_Manager_Free a0 a1 h Q) :
    CallsH Try.prog 17 (List.toArray (α := Value) [.pointer a0, .int .i64 a1]) h fun v h' => ∃ x : Sl × IF, v = .tuple #[Sl.val x.1, IF.val x.2] ∧ Q x h' := by
  refine CallsH.of_body Try.func17 rfl 40 rfl rfl ?_
  refine WP.seq ?_
  refine WP.region ?_
  refine EvK.pure (v := Sl.val Sl.nil) (w_none rfl) rfl rfl (f_assign rfl rfl) ?_
  refine EvK.pure (v := IF.val none) (w_none rfl) rfl rfl (f_assign rfl rfl) ?_
  refine EvK.nil ?_
  refine WP.seq ?_
  refine WP.region ?_
  refine EvK.pure (v := .pointer a0) (w_none rfl) rfl rfl (f_move rfl rfl) ?_
  obtain ⟨q1, hq1, hF⟩ := hF
  refine EvK.pure (v := .pointer (some q1)) (w_none rfl) rfl rfl (f_nilCheck rfl (congrArg Value.pointer hq1)) ?_
  refine EvK.pure (v := .pointer (some (q1.add 1))) (w_none rfl) rfl rfl (f_fieldAddr fd77_1 rfl rfl) ?_
  obtain ⟨x1, hx1, hF⟩ := hF
  refine EvK.read (v := Sl.val x1) (w_none rfl) rfl rfl (f_load kL ty75 rfl rfl hx1 rfl) ?_
  refine EvK.pure (v := .int .i64 a1) (w_none rfl) rfl rfl (f_move rfl rfl) ?_
  refine EvK.call (w_none rfl) rfl rfl (enterH Try.func43 rfl rfl rfl rfl (locks_find.sound hF)) ?_
  rintro _ h1 ⟨r1, rfl, hF⟩
  refine EvK.pure (v := .int .i64 r1) (w_none rfl) rfl rfl (f_assign rfl rfl) ?_
  refine EvK.nil ?_
  refine WP.seq ?_
  refine WP.seq ?_
  refine WP.region ?_
  refine EvK.pure (v := .int .i64 r1) (w_none rfl) rfl rfl (f_move rfl rfl) ?_
  refine EvK.pure (v := .bool (decide (r1 < 0))) (w_none rfl) rfl rfl (f_lss rfl rfl rfl) ?_
  refine EvK.nil ?_
  rcases ite_inv hF with ⟨c1, hF⟩ | ⟨c1, hF⟩
  · refine WP.cond_true _ rfl c1 ?_
    refine WP.seq ?_
    refine WP.region ?_
    refine EvK.pure (v := .int .i64 a1) (w_none rfl) rfl rfl (f_move rfl rfl) ?_
    refine EvK.pure (v := IF.val (some (26, .int .i64 42) : IF)) (w_none rfl) rfl rfl (f_makeIf Try.underlying26 rfl rfl rfl) ?_
    refine EvK.pure (v := k83.val (S83.mk a1 (some (26, .int .i64 42) : IF))) (w_none rfl) rfl rfl (f_build (cells := k83.enc (S83.mk a1 (some (26, .int .i64 42) : IF))) (pl := [(0, (kI .i64).enc a1), (1, kIf.enc (some (26, .int .i64 42) : IF))]) st84 rfl (by show [(0, (.int .i64 a1 : Value).cells.toList), (1, (IF.val (some (26, .int .i64 42) : IF) : Value).cells.toList)] = _; simp only [if_cells, fn_cells]; rfl) rfl) ?_
    refine EvK.alloc (w_none rfl) rfl rfl (f_boxF (v := k83.val (S83.mk a1 (some (26, .int .i64 42) : IF))) rfl rfl rfl hF) ?_
    rintro _ h2 ⟨q2, rfl, hF⟩
    refine EvK.pure (v := .pointer (some q2)) (w_none rfl) rfl rfl (f_assign rfl rfl) ?_
    refine EvK.nil ?_
    refine WP.seq ?_
    refine WP.seq ?_
    refine WP.region ?_
    refine EvK.pure (v := .pointer (some q2)) (w_none rfl) rfl rfl (f_move rfl rfl) ?_
    refine EvK.pure (v := IF.val (some (82, .pointer (some q2)) : IF)) (w_none rfl) rfl rfl (f_makeIf Try.underlying82 rfl rfl rfl) ?_
    refine EvK.pure (v := IF.val (some (26, .int .i64 42) : IF)) (w_none rfl) rfl rfl (f_makeIf Try.underlying26 rfl rfl rfl) ?_
    refine EvK.call (w_none rfl) rfl rfl (enterH (vs := [IF.val (some (82, .pointer (some q2)) : IF), IF.val (some (26, .int .i64 42) : IF)]) Try.func46 rfl rfl rfl rfl (errors_Is.sound hF)) ?_
    rintro _ h3 ⟨r2, rfl, hF⟩
    refine EvK.pure (v := .bool (!r2)) (w_none rfl) rfl rfl (f_not rfl rfl) ?_
    refine EvK.nil ?_
    rcases ite_inv hF with ⟨c2, hF⟩ | ⟨c2, hF⟩
    · refine WP.cond_true _ rfl c2 ?_
      refine WP.seq ?_
      refine WP.region ?_
      refine EvK.pure (v := Sl.val Sl.nil) (w_none rfl) rfl rfl (f_assign rfl rfl) ?_
      refine EvK.pure (v := IF.val none) (w_none rfl) rfl rfl (f_assign rfl rfl) ?_
      refine EvK.nil ?_
      refine WP.ret ?_
      exact Ret.mk (vs := [Sl.val Sl.nil, IF.val none]) (Sl.nil, none) ⟨rfl, rfl, trivial⟩ rfl hF
    · refine WP.cond_false _ rfl c2 ?_
      refine WP.skip ?_
      refine WP.seq ?_
      refine WP.region ?_
      refine EvK.pure (v := .pointer (some q2)) (w_none rfl) rfl rfl (f_move rfl rfl) ?_
      refine EvK.pure (v := IF.val (some (82, .pointer (some q2)) : IF)) (w_none rfl) rfl rfl (f_makeIf Try.underlying82 rfl rfl rfl) ?_
      refine EvK.pure (v := Sl.val Sl.nil) (w_none rfl) rfl rfl (f_assign rfl rfl) ?_
      refine EvK.pure (v := IF.val (some (82, .pointer (some q2)) : IF)) (w_none rfl) rfl rfl (f_assign rfl rfl) ?_
      refine EvK.nil ?_
      refine WP.ret ?_
      exact Ret.mk (vs := [Sl.val Sl.nil, IF.val (some (82, .pointer (some q2)) : IF)]) (Sl.nil, (some (82, .pointer (some q2)) : IF)) ⟨rfl, rfl, trivial⟩ rfl hF
  · refine WP.cond_false _ rfl c1 ?_
    refine WP.skip ?_
    refine WP.seq ?_
    refine WP.region ?_
    refine EvK.pure (v := .pointer a0) (w_none rfl) rfl rfl (f_move rfl rfl) ?_
    refine EvK.pure (v := .pointer a0) (w_none rfl) rfl rfl (f_move rfl rfl) ?_
    obtain ⟨q3, hq2, hF⟩ := hF
    refine EvK.pure (v := .pointer (some q3)) (w_none rfl) rfl rfl (f_nilCheck rfl (congrArg Value.pointer hq2)) ?_
    refine EvK.pure (v := .pointer (some (q3.add 1))) (w_none rfl) rfl rfl (f_fieldAddr fd77_1 rfl rfl) ?_
    obtain ⟨x2, hx2, hF⟩ := hF
    refine EvK.read (v := Sl.val x2) (w_none rfl) rfl rfl (f_load kL ty75 rfl rfl hx2 rfl) ?_
    refine EvK.pure (v := .int .i64 r1) (w_none rfl) rfl rfl (f_move rfl rfl) ?_
    refine EvK.pure (v := .int .i64 r1) (w_none rfl) rfl rfl (f_move rfl rfl) ?_
    refine EvK.pure (v := .int .i64 (IntKind.i64.wrap (r1 + 1))) (w_none rfl) rfl rfl (f_add rfl rfl rfl) ?_
    refine EvK.call (w_none rfl) rfl rfl (enterH Try.func47 rfl rfl rfl rfl (slices_Delete___locks_claim_locks_claim_.sound hF)) ?_
    rintro _ h4 ⟨r3, rfl, hF⟩
    obtain ⟨q4, hq3, hF⟩ := hF
    refine EvK.pure (v := .pointer (some q4)) (w_none rfl) rfl rfl (f_nilCheck rfl (congrArg Value.pointer hq3)) ?_
    refine EvK.pure (v := .pointer (some (q4.add 1))) (w_none rfl) rfl rfl (f_fieldAddr fd77_1 rfl rfl) ?_
    obtain ⟨h5, hs1, hF⟩ := hF
    refine EvK.runN (w_none rfl) rfl (f_store kL ty75.size (z := r3) rfl rfl rfl hs1) ?_
    rintro _ _ ⟨rfl, rfl⟩
    refine EvK.nil ?_
    refine WP.seq ?_
    refine WP.region ?_
    refine EvK.pure (v := .pointer a0) (w_none rfl) rfl rfl (f_move rfl rfl) ?_
    refine EvK.call (w_none rfl) rfl rfl (enterH Try.func48 rfl rfl rfl rfl (locks_Manager_through.sound hF)) ?_
    rintro _ h6 ⟨r4, rfl, hF⟩
    refine EvK.pure (v := Sl.val r4) (w_none rfl) rfl rfl (f_assign rfl rfl) ?_
    refine EvK.pure (v := IF.val none) (w_none rfl) rfl rfl (f_assign rfl rfl) ?_
    refine EvK.nil ?_
    refine WP.ret ?_
    exact Ret.mk (vs := [Sl.val r4, IF.val none]) (r4, none) ⟨rfl, rfl, trivial⟩ rfl hF
end Go.Proofs.Ytgmihbchcmjmdaa

namespace Go.Proofs.Ytgmihbchcmjmdaa
open Go Go.Tr
set_option linter.unusedVariables false
set_option maxRecDepth 100000
set_option maxHeartbeats 400000
/-- (*spate/locks.Manager).Waits -/
def locks_Manager_Waits (a0 : Option Addr) (a1 : Int) (h : H) (Q : Bool → H → Prop) : Prop :=
  rd a0 fun q1 =>
  rd (ld kL (q1.add 2) h) fun x1 =>
  locks_find x1 a1 h fun r1 h1 =>
  Q (decide (r1 ≥ 0)) h1
theorem locks_Manager_Waits.sound {a0 : Option Addr} {a1 : Int} {h : H} {Q : Bool → H → Prop} (hF : locks_Manager_Waits a0 a1 h Q) :
    CallsH Try.prog 32 (List.toArray (α := Value) [.pointer a0, .int .i64 a1]) h fun v h' => ∃ x : Bool, v = .bool x ∧ Q x h' := by
  refine CallsH.of_body Try.func32 rfl 12 rfl rfl ?_
  refine WP.seq ?_
  refine WP.region ?_
  refine EvK.pure (v := .bool false) (w_none rfl) rfl rfl (f_assign rfl rfl) ?_
  refine EvK.nil ?_
  refine WP.seq ?_
  refine WP.region ?_
  refine EvK.pure (v := .pointer a0) (w_none rfl) rfl rfl (f_move rfl rfl) ?_
  obtain ⟨q1, hq1, hF⟩ := hF
  refine EvK.pure (v := .pointer (some q1)) (w_none rfl) rfl rfl (f_nilCheck rfl (congrArg Value.pointer hq1)) ?_
  refine EvK.pure (v := .pointer (some (q1.add 2))) (w_none rfl) rfl rfl (f_fieldAddr fd77_2 rfl rfl) ?_
  obtain ⟨x1, hx1, hF⟩ := hF
  refine EvK.read (v := Sl.val x1) (w_none rfl) rfl rfl (f_load kL ty75 rfl rfl hx1 rfl) ?_
  refine EvK.pure (v := .int .i64 a1) (w_none rfl) rfl rfl (f_move rfl rfl) ?_
  refine EvK.call (w_none rfl) rfl rfl (enterH Try.func43 rfl rfl rfl rfl (locks_find.sound hF)) ?_
  rintro _ h1 ⟨r1, rfl, hF⟩
  refine EvK.pure (v := .bool (decide (r1 ≥ 0))) (w_none rfl) rfl rfl (f_geq rfl rfl rfl) ?_
  refine EvK.pure (v := .bool (decide (r1 ≥ 0))) (w_none rfl) rfl rfl (f_assign rfl rfl) ?_
  refine EvK.nil ?_
  refine WP.ret ?_
  exact Ret.mk (vs := [.bool (decide (r1 ≥ 0))]) (decide (r1 ≥ 0)) ⟨rfl, trivial⟩ rfl hF
end Go.Proofs.Ytgmihbchcmjmdaa
