/- Functions as predicates over the heap, and that the code comes to them. Printed by gen.py, merged by group.py. -/
import Derived.Test.YtgmihbchcmjmdaaG0
import Derived.Test.YtgmihbchcmjmdaaG1
import Derived.Test.YtgmihbchcmjmdaaTy
namespace Go.Proofs.Ytgmihbchcmjmdaa
open Go Go.Tr
set_option linter.unusedVariables false
set_option maxRecDepth 100000
set_option maxHeartbeats 400000
/-- spate/spatelaw11.known -/
def spatelaw11_known  (h : H) (Q : Bool → H → Prop) : Prop :=
  locks_New 1 h fun r1 h1 =>
  jn (fun (k1 : Bool → H → Prop) =>
    if (r1.2 != 0) = true then
      k1 true h1
    else
      k1 r1.1.isNone h1) fun s1 h2 =>
  if s1 = true then
    Q false h2
  else
    bs 32 1 (k31.enc (S31.mk 0 false)) h2 fun x1 h3 =>
    locks_Manager_Ask r1.1 3 x1 h3 fun r2 h4 =>
    bs 32 1 (k31.enc (S31.mk 0 false)) h4 fun x2 h5 =>
    locks_Manager_Ask r1.1 4 x2 h5 fun r3 h6 =>
    locks_Manager_Free r1.1 3 h6 fun r4 h7 =>
    jn (fun (k2 : Bool → H → Prop) =>
      if r2.1 = true then
        if (!r3.1) = true then
          if r2.2.isNone = true then
            if r3.2.isNone = true then
              if r4.2.isNone = true then
                if ((r4.1.len : Int) == 1) = true then
                  rd (ixA 1 r4.1 0) fun q1 =>
                  rd (ld (kI .i64) q1 h7) fun x3 =>
                  if (x3 == 4) = true then
                    locks_Manager_Waits r1.1 4 h7 fun r5 h9 =>
                    k2 (!r5) h9
                  else
                    k2 false h7
                else
                  k2 false h7
              else
                k2 false h7
            else
              k2 false h7
          else
            k2 false h7
        else
          k2 false h7
      else
        k2 false h7) fun s2 h8 =>
    Q s2 h8
theorem spatelaw11_known.sound  {h : H} {Q : Bool → H → Prop} (hF : spatelaw11_known  h Q) :
    CallsH Try.prog 10 (List.toArray (α := Value) []) h fun v h' => ∃ x : Bool, v = .bool x ∧ Q x h' := by
  refine CallsH.of_body Try.func10 rfl 71 rfl rfl ?_
  refine WP.seq ?_
  refine WP.region ?_
  refine EvK.pure (v := .bool false) (w_none rfl) rfl rfl (f_assign rfl rfl) ?_
  refine EvK.nil ?_
  refine WP.seq ?_
  refine WP.region ?_
  refine EvK.call (w_none rfl) rfl rfl (enterH Try.func12 rfl rfl rfl rfl (locks_New.sound hF)) ?_
  rintro _ h1 ⟨r1, rfl, hF⟩
  refine EvK.pure (v := .tuple #[.pointer r1.1, .int .i64 r1.2]) (w_none rfl) rfl rfl (f_move rfl rfl) ?_
  refine EvK.pure (v := .pointer r1.1) (w_none rfl) rfl rfl (f_extract (vs := #[.pointer r1.1, .int .i64 r1.2]) rfl rfl rfl) ?_
  refine EvK.pure (v := .int .i64 r1.2) (w_none rfl) rfl rfl (f_extract (vs := #[.pointer r1.1, .int .i64 r1.2]) rfl rfl rfl) ?_
  refine EvK.pure (v := .pointer r1.1) (w_none rfl) rfl rfl (f_assign rfl rfl) ?_
  refine EvK.pure (v := .int .i64 r1.2) (w_none rfl) rfl rfl (f_assign rfl rfl) ?_
  refine EvK.nil ?_
  refine WP.seq ?_
  refine WP.joinF (fun (s1 : Bool) => [(18, .bool s1), (1, .pointer r1.1)]) hF ?_ ?_
  · intro s1 E0 h2 hF
    rcases ite_inv hF with ⟨c1, hF⟩ | ⟨c1, hF⟩
    · refine WP.cond_true _ rfl c1 ?_
      refine WP.seq ?_
      refine WP.region ?_
      refine EvK.pure (v := .bool false) (w_none rfl) rfl rfl (f_assign rfl rfl) ?_
      refine EvK.nil ?_
      refine WP.ret ?_
      exact Ret.mk (vs := [.bool false]) false ⟨rfl, trivial⟩ rfl hF
    · refine WP.cond_false _ rfl c1 ?_
      refine WP.skip ?_
      refine WP.seq ?_
      refine WP.region ?_
      refine EvK.pure (v := .pointer r1.1) (w_none rfl) rfl rfl (f_move rfl rfl) ?_
      refine EvK.pure (v := k31.val (S31.mk 0 false)) (w_none rfl) rfl rfl (f_build (cells := k31.enc (S31.mk 0 false)) st32 rfl rfl rfl) ?_
      refine EvK.alloc (w_none rfl) rfl rfl (f_buildSliceF Try.underlying30 el32 (by decide) rfl rfl rfl hF) ?_
      rintro _ h3 ⟨x1, rfl, hF⟩
      refine EvK.call (w_none rfl) rfl rfl (enterH Try.func14 rfl rfl rfl rfl (locks_Manager_Ask.sound hF)) ?_
      rintro _ h4 ⟨r2, rfl, hF⟩
      refine EvK.pure (v := .tuple #[.bool r2.1, IF.val r2.2]) (w_none rfl) rfl rfl (f_move rfl rfl) ?_
      refine EvK.pure (v := .bool r2.1) (w_none rfl) rfl rfl (f_extract (vs := #[.bool r2.1, IF.val r2.2]) rfl rfl rfl) ?_
      refine EvK.pure (v := IF.val r2.2) (w_none rfl) rfl rfl (f_extract (vs := #[.bool r2.1, IF.val r2.2]) rfl rfl rfl) ?_
      refine EvK.pure (v := .bool r2.1) (w_none rfl) rfl rfl (f_assign rfl rfl) ?_
      refine EvK.pure (v := IF.val r2.2) (w_none rfl) rfl rfl (f_assign rfl rfl) ?_
      refine EvK.nil ?_
      refine WP.seq ?_
      refine WP.region ?_
      refine EvK.pure (v := .pointer r1.1) (w_none rfl) rfl rfl (f_move rfl rfl) ?_
      refine EvK.pure (v := k31.val (S31.mk 0 false)) (w_none rfl) rfl rfl (f_build (cells := k31.enc (S31.mk 0 false)) st32 rfl rfl rfl) ?_
      refine EvK.alloc (w_none rfl) rfl rfl (f_buildSliceF Try.underlying30 el32 (by decide) rfl rfl rfl hF) ?_
      rintro _ h5 ⟨x2, rfl, hF⟩
      refine EvK.call (w_none rfl) rfl rfl (enterH Try.func14 rfl rfl rfl rfl (locks_Manager_Ask.sound hF)) ?_
      rintro _ h6 ⟨r3, rfl, hF⟩
      refine EvK.pure (v := .tuple #[.bool r3.1, IF.val r3.2]) (w_none rfl) rfl rfl (f_move rfl rfl) ?_
      refine EvK.pure (v := .bool r3.1) (w_none rfl) rfl rfl (f_extract (vs := #[.bool r3.1, IF.val r3.2]) rfl rfl rfl) ?_
      refine EvK.pure (v := IF.val r3.2) (w_none rfl) rfl rfl (f_extract (vs := #[.bool r3.1, IF.val r3.2]) rfl rfl rfl) ?_
      refine EvK.pure (v := .bool r3.1) (w_none rfl) rfl rfl (f_assign rfl rfl) ?_
      refine EvK.pure (v := IF.val r3.2) (w_none rfl) rfl rfl (f_assign rfl rfl) ?_
      refine EvK.nil ?_
      refine WP.seq ?_
      refine WP.region ?_
      refine EvK.pure (v := .pointer r1.1) (w_none rfl) rfl rfl (f_move rfl rfl) ?_
      refine EvK.call (w_none rfl) rfl rfl (enterH Try.func17 rfl rfl rfl rfl (locks_Manager_Free.sound hF)) ?_
      rintro _ h7 ⟨r4, rfl, hF⟩
      refine EvK.pure (v := .tuple #[Sl.val r4.1, IF.val r4.2]) (w_none rfl) rfl rfl (f_move rfl rfl) ?_
      refine EvK.pure (v := Sl.val r4.1) (w_none rfl) rfl rfl (f_extract (vs := #[Sl.val r4.1, IF.val r4.2]) rfl rfl rfl) ?_
      refine EvK.pure (v := IF.val r4.2) (w_none rfl) rfl rfl (f_extract (vs := #[Sl.val r4.1, IF.val r4.2]) rfl rfl rfl) ?_
      refine EvK.pure (v := Sl.val r4.1) (w_none rfl) rfl rfl (f_assign rfl rfl) ?_
      refine EvK.pure (v := IF.val r4.2) (w_none rfl) rfl rfl (f_assign rfl rfl) ?_
      refine EvK.nil ?_
      refine WP.joinF (fun (s2 : Bool) => [(0, .bool s2)]) hF ?_ ?_
      · intro s2 E0 h8 hF
        refine WP.ret ?_
        exact Ret.mk (vs := [.bool s2]) s2 ⟨rfl, trivial⟩ rfl hF
      · intro k2 hF
        refine WP.region ?_
        refine EvK.pure (v := .bool r2.1) (w_none rfl) rfl rfl (f_move rfl rfl) ?_
        refine EvK.pure (v := .bool r2.1) (w_none rfl) rfl rfl (f_move rfl rfl) ?_
        rcases ite_inv hF with ⟨c2, hF⟩ | ⟨c2, hF⟩
        · refine EvK.pure (v := .bool r3.1) (w_some rfl rfl c2) rfl rfl (f_move rfl rfl) ?_
          refine EvK.pure (v := .bool (!r3.1)) (w_some rfl rfl c2) rfl rfl (f_not rfl rfl) ?_
          refine EvK.pure (v := .bool (!r3.1)) (w_none rfl) rfl rfl (f_pickT rfl rfl c2 rfl) ?_
          refine EvK.pure (v := .bool (!r3.1)) (w_none rfl) rfl rfl (f_move rfl rfl) ?_
          rcases ite_inv hF with ⟨c3, hF⟩ | ⟨c3, hF⟩
          · refine EvK.pure (v := IF.val r2.2) (w_some rfl rfl c3) rfl rfl (f_move rfl rfl) ?_
            refine EvK.pure (v := .bool r2.2.isNone) (w_some rfl rfl c3) rfl rfl (f_ieqln (a := r2.2) Try.underlying37 rfl rfl) ?_
            refine EvK.pure (v := .bool r2.2.isNone) (w_none rfl) rfl rfl (f_pickT rfl rfl c3 rfl) ?_
            refine EvK.pure (v := .bool r2.2.isNone) (w_none rfl) rfl rfl (f_move rfl rfl) ?_
            rcases ite_inv hF with ⟨c4, hF⟩ | ⟨c4, hF⟩
            · refine EvK.pure (v := IF.val r3.2) (w_some rfl rfl c4) rfl rfl (f_move rfl rfl) ?_
              refine EvK.pure (v := .bool r3.2.isNone) (w_some rfl rfl c4) rfl rfl (f_ieqln (a := r3.2) Try.underlying37 rfl rfl) ?_
              refine EvK.pure (v := .bool r3.2.isNone) (w_none rfl) rfl rfl (f_pickT rfl rfl c4 rfl) ?_
              refine EvK.pure (v := .bool r3.2.isNone) (w_none rfl) rfl rfl (f_move rfl rfl) ?_
              rcases ite_inv hF with ⟨c5, hF⟩ | ⟨c5, hF⟩
              · refine EvK.pure (v := IF.val r4.2) (w_some rfl rfl c5) rfl rfl (f_move rfl rfl) ?_
                refine EvK.pure (v := .bool r4.2.isNone) (w_some rfl rfl c5) rfl rfl (f_ieqln (a := r4.2) Try.underlying37 rfl rfl) ?_
                refine EvK.pure (v := .bool r4.2.isNone) (w_none rfl) rfl rfl (f_pickT rfl rfl c5 rfl) ?_
                refine EvK.pure (v := .bool r4.2.isNone) (w_none rfl) rfl rfl (f_move rfl rfl) ?_
                rcases ite_inv hF with ⟨c6, hF⟩ | ⟨c6, hF⟩
                · refine EvK.pure (v := Sl.val r4.1) (w_some rfl rfl c6) rfl rfl (f_move rfl rfl) ?_
                  refine EvK.pure (v := .int .i64 (r4.1.len : Int)) (w_some rfl rfl c6) rfl rfl (f_lenL (s := r4.1) Try.underlying22 rfl rfl) ?_
                  refine EvK.pure (v := .bool ((r4.1.len : Int) == 1)) (w_some rfl rfl c6) rfl rfl (f_eql rfl rfl rfl) ?_
                  refine EvK.pure (v := .bool ((r4.1.len : Int) == 1)) (w_none rfl) rfl rfl (f_pickT rfl rfl c6 rfl) ?_
                  refine EvK.pure (v := .bool ((r4.1.len : Int) == 1)) (w_none rfl) rfl rfl (f_move rfl rfl) ?_
                  rcases ite_inv hF with ⟨c7, hF⟩ | ⟨c7, hF⟩
                  · refine EvK.pure (v := Sl.val r4.1) (w_some rfl rfl c7) rfl rfl (f_move rfl rfl) ?_
                    obtain ⟨q1, hq1, hF⟩ := hF
                    refine EvK.pure (v := .pointer (some q1)) (w_some rfl rfl c7) rfl rfl (f_indexAddr (s := r4.1) Try.underlying22 ty3.size rfl rfl rfl hq1) ?_
                    obtain ⟨x3, hx1, hF⟩ := hF
                    refine EvK.read (v := .int .i64 x3) (w_some rfl rfl c7) rfl rfl (f_load (kI .i64) ty3 rfl rfl hx1 rfl) ?_
                    refine EvK.pure (v := .bool (x3 == 4)) (w_some rfl rfl c7) rfl rfl (f_eql rfl rfl rfl) ?_
                    refine EvK.pure (v := .bool (x3 == 4)) (w_none rfl) rfl rfl (f_pickT rfl rfl c7 rfl) ?_
                    refine EvK.pure (v := .bool (x3 == 4)) (w_none rfl) rfl rfl (f_move rfl rfl) ?_
                    rcases ite_inv hF with ⟨c8, hF⟩ | ⟨c8, hF⟩
                    · refine EvK.pure (v := .pointer r1.1) (w_some rfl rfl c8) rfl rfl (f_move rfl rfl) ?_
                      refine EvK.call (w_some rfl rfl c8) rfl rfl (enterH Try.func32 rfl rfl rfl rfl (locks_Manager_Waits.sound hF)) ?_
                      rintro _ h9 ⟨r5, rfl, hF⟩
                      refine EvK.pure (v := .bool (!r5)) (w_some rfl rfl c8) rfl rfl (f_not rfl rfl) ?_
                      refine EvK.pure (v := .bool (!r5)) (w_none rfl) rfl rfl (f_pickT rfl rfl c8 rfl) ?_
                      refine EvK.pure (v := .bool (!r5)) (w_none rfl) rfl rfl (f_assign rfl rfl) ?_
                      refine EvK.nil ?_
                      exact KE.mk (!r5) ⟨rfl, trivial⟩ hF
                    · refine EvK.not (w_not rfl rfl c8) rfl rfl ?_
                      refine EvK.not (w_not rfl rfl c8) rfl rfl ?_
                      refine EvK.not (w_not rfl rfl c8) rfl rfl ?_
                      refine EvK.pure (v := .bool false) (w_none rfl) rfl rfl (f_pickF rfl rfl c8 rfl) ?_
                      refine EvK.pure (v := .bool false) (w_none rfl) rfl rfl (f_assign rfl rfl) ?_
                      refine EvK.nil ?_
                      exact KE.mk false ⟨rfl, trivial⟩ hF
                  · refine EvK.not (w_not rfl rfl c7) rfl rfl ?_
                    refine EvK.not (w_not rfl rfl c7) rfl rfl ?_
                    refine EvK.not (w_not rfl rfl c7) rfl rfl ?_
                    refine EvK.not (w_not rfl rfl c7) rfl rfl ?_
                    refine EvK.pure (v := .bool false) (w_none rfl) rfl rfl (f_pickF rfl rfl c7 rfl) ?_
                    refine EvK.pure (v := .bool false) (w_none rfl) rfl rfl (f_move rfl rfl) ?_
                    refine EvK.not (w_not rfl rfl rfl) rfl rfl ?_
                    refine EvK.not (w_not rfl rfl rfl) rfl rfl ?_
                    refine EvK.not (w_not rfl rfl rfl) rfl rfl ?_
                    refine EvK.pure (v := .bool false) (w_none rfl) rfl rfl (f_pickF rfl rfl rfl rfl) ?_
                    refine EvK.pure (v := .bool false) (w_none rfl) rfl rfl (f_assign rfl rfl) ?_
                    refine EvK.nil ?_
                    exact KE.mk false ⟨rfl, trivial⟩ hF
                · refine EvK.not (w_not rfl rfl c6) rfl rfl ?_
                  refine EvK.not (w_not rfl rfl c6) rfl rfl ?_
                  refine EvK.not (w_not rfl rfl c6) rfl rfl ?_
                  refine EvK.pure (v := .bool false) (w_none rfl) rfl rfl (f_pickF rfl rfl c6 rfl) ?_
                  refine EvK.pure (v := .bool false) (w_none rfl) rfl rfl (f_move rfl rfl) ?_
                  refine EvK.not (w_not rfl rfl rfl) rfl rfl ?_
                  refine EvK.not (w_not rfl rfl rfl) rfl rfl ?_
                  refine EvK.not (w_not rfl rfl rfl) rfl rfl ?_
                  refine EvK.not (w_not rfl rfl rfl) rfl rfl ?_
                  refine EvK.pure (v := .bool false) (w_none rfl) rfl rfl (f_pickF rfl rfl rfl rfl) ?_
                  refine EvK.pure (v := .bool false) (w_none rfl) rfl rfl (f_move rfl rfl) ?_
                  refine EvK.not (w_not rfl rfl rfl) rfl rfl ?_
                  refine EvK.not (w_not rfl rfl rfl) rfl rfl ?_
                  refine EvK.not (w_not rfl rfl rfl) rfl rfl ?_
                  refine EvK.pure (v := .bool false) (w_none rfl) rfl rfl (f_pickF rfl rfl rfl rfl) ?_
                  refine EvK.pure (v := .bool false) (w_none rfl) rfl rfl (f_assign rfl rfl) ?_
                  refine EvK.nil ?_
                  exact KE.mk false ⟨rfl, trivial⟩ hF
              · refine EvK.not (w_not rfl rfl c5) rfl rfl ?_
                refine EvK.not (w_not rfl rfl c5) rfl rfl ?_
                refine EvK.pure (v := .bool false) (w_none rfl) rfl rfl (f_pickF rfl rfl c5 rfl) ?_
                refine EvK.pure (v := .bool false) (w_none rfl) rfl rfl (f_move rfl rfl) ?_
                refine EvK.not (w_not rfl rfl rfl) rfl rfl ?_
                refine EvK.not (w_not rfl rfl rfl) rfl rfl ?_
                refine EvK.not (w_not rfl rfl rfl) rfl rfl ?_
                refine EvK.pure (v := .bool false) (w_none rfl) rfl rfl (f_pickF rfl rfl rfl rfl) ?_
                refine EvK.pure (v := .bool false) (w_none rfl) rfl rfl (f_move rfl rfl) ?_
                refine EvK.not (w_not rfl rfl rfl) rfl rfl ?_
                refine EvK.not (w_not rfl rfl rfl) rfl rfl ?_
                refine EvK.not (w_not rfl rfl rfl) rfl rfl ?_
                refine EvK.not (w_not rfl rfl rfl) rfl rfl ?_
                refine EvK.pure (v := .bool false) (w_none rfl) rfl rfl (f_pickF rfl rfl rfl rfl) ?_
                refine EvK.pure (v := .bool false) (w_none rfl) rfl rfl (f_move rfl rfl) ?_
                refine EvK.not (w_not rfl rfl rfl) rfl rfl ?_
                refine EvK.not (w_not rfl rfl rfl) rfl rfl ?_
                refine EvK.not (w_not rfl rfl rfl) rfl rfl ?_
                refine EvK.pure (v := .bool false) (w_none rfl) rfl rfl (f_pickF rfl rfl rfl rfl) ?_
                refine EvK.pure (v := .bool false) (w_none rfl) rfl rfl (f_assign rfl rfl) ?_
                refine EvK.nil ?_
                exact KE.mk false ⟨rfl, trivial⟩ hF
            · refine EvK.not (w_not rfl rfl c4) rfl rfl ?_
              refine EvK.not (w_not rfl rfl c4) rfl rfl ?_
              refine EvK.pure (v := .bool false) (w_none rfl) rfl rfl (f_pickF rfl rfl c4 rfl) ?_
              refine EvK.pure (v := .bool false) (w_none rfl) rfl rfl (f_move rfl rfl) ?_
              refine EvK.not (w_not rfl rfl rfl) rfl rfl ?_
              refine EvK.not (w_not rfl rfl rfl) rfl rfl ?_
              refine EvK.pure (v := .bool false) (w_none rfl) rfl rfl (f_pickF rfl rfl rfl rfl) ?_
              refine EvK.pure (v := .bool false) (w_none rfl) rfl rfl (f_move rfl rfl) ?_
              refine EvK.not (w_not rfl rfl rfl) rfl rfl ?_
              refine EvK.not (w_not rfl rfl rfl) rfl rfl ?_
              refine EvK.not (w_not rfl rfl rfl) rfl rfl ?_
              refine EvK.pure (v := .bool false) (w_none rfl) rfl rfl (f_pickF rfl rfl rfl rfl) ?_
              refine EvK.pure (v := .bool false) (w_none rfl) rfl rfl (f_move rfl rfl) ?_
              refine EvK.not (w_not rfl rfl rfl) rfl rfl ?_
              refine EvK.not (w_not rfl rfl rfl) rfl rfl ?_
              refine EvK.not (w_not rfl rfl rfl) rfl rfl ?_
              refine EvK.not (w_not rfl rfl rfl) rfl rfl ?_
              refine EvK.pure (v := .bool false) (w_none rfl) rfl rfl (f_pickF rfl rfl rfl rfl) ?_
              refine EvK.pure (v := .bool false) (w_none rfl) rfl rfl (f_move rfl rfl) ?_
              refine EvK.not (w_not rfl rfl rfl) rfl rfl ?_
              refine EvK.not (w_not rfl rfl rfl) rfl rfl ?_
              refine EvK.not (w_not rfl rfl rfl) rfl rfl ?_
              refine EvK.pure (v := .bool false) (w_none rfl) rfl rfl (f_pickF rfl rfl rfl rfl) ?_
              refine EvK.pure (v := .bool false) (w_none rfl) rfl rfl (f_assign rfl rfl) ?_
              refine EvK.nil ?_
              exact KE.mk false ⟨rfl, trivial⟩ hF
          · refine EvK.not (w_not rfl rfl c3) rfl rfl ?_
            refine EvK.not (w_not rfl rfl c3) rfl rfl ?_
            refine EvK.pure (v := .bool false) (w_none rfl) rfl rfl (f_pickF rfl rfl c3 rfl) ?_
            refine EvK.pure (v := .bool false) (w_none rfl) rfl rfl (f_move rfl rfl) ?_
            refine EvK.not (w_not rfl rfl rfl) rfl rfl ?_
            refine EvK.not (w_not rfl rfl rfl) rfl rfl ?_
            refine EvK.pure (v := .bool false) (w_none rfl) rfl rfl (f_pickF rfl rfl rfl rfl) ?_
            refine EvK.pure (v := .bool false) (w_none rfl) rfl rfl (f_move rfl rfl) ?_
            refine EvK.not (w_not rfl rfl rfl) rfl rfl ?_
            refine EvK.not (w_not rfl rfl rfl) rfl rfl ?_
            refine EvK.pure (v := .bool false) (w_none rfl) rfl rfl (f_pickF rfl rfl rfl rfl) ?_
            refine EvK.pure (v := .bool false) (w_none rfl) rfl rfl (f_move rfl rfl) ?_
            refine EvK.not (w_not rfl rfl rfl) rfl rfl ?_
            refine EvK.not (w_not rfl rfl rfl) rfl rfl ?_
            refine EvK.not (w_not rfl rfl rfl) rfl rfl ?_
            refine EvK.pure (v := .bool false) (w_none rfl) rfl rfl (f_pickF rfl rfl rfl rfl) ?_
            refine EvK.pure (v := .bool false) (w_none rfl) rfl rfl (f_move rfl rfl) ?_
            refine EvK.not (w_not rfl rfl rfl) rfl rfl ?_
            refine EvK.not (w_not rfl rfl rfl) rfl rfl ?_
            refine EvK.not (w_not rfl rfl rfl) rfl rfl ?_
            refine EvK.not (w_not rfl rfl rfl) rfl rfl ?_
            refine EvK.pure (v := .bool false) (w_none rfl) rfl rfl (f_pickF rfl rfl rfl rfl) ?_
            refine EvK.pure (v := .bool false) (w_none rfl) rfl rfl (f_move rfl rfl) ?_
            refine EvK.not (w_not rfl rfl rfl) rfl rfl ?_
            refine EvK.not (w_not rfl rfl rfl) rfl rfl ?_
            refine EvK.not (w_not rfl rfl rfl) rfl rfl ?_
            refine EvK.pure (v := .bool false) (w_none rfl) rfl rfl (f_pickF rfl rfl rfl rfl) ?_
            refine EvK.pure (v := .bool false) (w_none rfl) rfl rfl (f_assign rfl rfl) ?_
            refine EvK.nil ?_
            exact KE.mk false ⟨rfl, trivial⟩ hF
        · refine EvK.not (w_not rfl rfl c2) rfl rfl ?_
          refine EvK.not (w_not rfl rfl c2) rfl rfl ?_
          refine EvK.pure (v := .bool false) (w_none rfl) rfl rfl (f_pickF rfl rfl c2 rfl) ?_
          refine EvK.pure (v := .bool false) (w_none rfl) rfl rfl (f_move rfl rfl) ?_
          refine EvK.not (w_not rfl rfl rfl) rfl rfl ?_
          refine EvK.not (w_not rfl rfl rfl) rfl rfl ?_
          refine EvK.pure (v := .bool false) (w_none rfl) rfl rfl (f_pickF rfl rfl rfl rfl) ?_
          refine EvK.pure (v := .bool false) (w_none rfl) rfl rfl (f_move rfl rfl) ?_
          refine EvK.not (w_not rfl rfl rfl) rfl rfl ?_
          refine EvK.not (w_not rfl rfl rfl) rfl rfl ?_
          refine EvK.pure (v := .bool false) (w_none rfl) rfl rfl (f_pickF rfl rfl rfl rfl) ?_
          refine EvK.pure (v := .bool false) (w_none rfl) rfl rfl (f_move rfl rfl) ?_
          refine EvK.not (w_not rfl rfl rfl) rfl rfl ?_
          refine EvK.not (w_not rfl rfl rfl) rfl rfl ?_
          refine EvK.pure (v := .bool false) (w_none rfl) rfl rfl (f_pickF rfl rfl rfl rfl) ?_
          refine EvK.pure (v := .bool false) (w_none rfl) rfl rfl (f_move rfl rfl) ?_
          refine EvK.not (w_not rfl rfl rfl) rfl rfl ?_
          refine EvK.not (w_not rfl rfl rfl) rfl rfl ?_
          refine EvK.not (w_not rfl rfl rfl) rfl rfl ?_
          refine EvK.pure (v := .bool false) (w_none rfl) rfl rfl (f_pickF rfl rfl rfl rfl) ?_
          refine EvK.pure (v := .bool false) (w_none rfl) rfl rfl (f_move rfl rfl) ?_
          refine EvK.not (w_not rfl rfl rfl) rfl rfl ?_
          refine EvK.not (w_not rfl rfl rfl) rfl rfl ?_
          refine EvK.not (w_not rfl rfl rfl) rfl rfl ?_
          refine EvK.not (w_not rfl rfl rfl) rfl rfl ?_
          refine EvK.pure (v := .bool false) (w_none rfl) rfl rfl (f_pickF rfl rfl rfl rfl) ?_
          refine EvK.pure (v := .bool false) (w_none rfl) rfl rfl (f_move rfl rfl) ?_
          refine EvK.not (w_not rfl rfl rfl) rfl rfl ?_
          refine EvK.not (w_not rfl rfl rfl) rfl rfl ?_
          refine EvK.not (w_not rfl rfl rfl) rfl rfl ?_
          refine EvK.pure (v := .bool false) (w_none rfl) rfl rfl (f_pickF rfl rfl rfl rfl) ?_
          refine EvK.pure (v := .bool false) (w_none rfl) rfl rfl (f_assign rfl rfl) ?_
          refine EvK.nil ?_
          exact KE.mk false ⟨rfl, trivial⟩ hF
  · intro k1 hF
    refine WP.region ?_
    refine EvK.pure (v := .int .i64 r1.2) (w_none rfl) rfl rfl (f_move rfl rfl) ?_
    refine EvK.pure (v := .bool (r1.2 != 0)) (w_none rfl) rfl rfl (f_neq rfl rfl rfl) ?_
    refine EvK.pure (v := .bool (r1.2 != 0)) (w_none rfl) rfl rfl (f_move rfl rfl) ?_
    rcases ite_inv hF with ⟨c9, hF⟩ | ⟨c9, hF⟩
    · refine EvK.not (w_not rfl rfl c9) rfl rfl ?_
      refine EvK.not (w_not rfl rfl c9) rfl rfl ?_
      refine EvK.pure (v := .bool true) (w_none rfl) rfl rfl (f_pickT rfl rfl c9 rfl) ?_
      refine EvK.nil ?_
      exact KE.mk true ⟨rfl, rfl, trivial⟩ hF
    · refine EvK.pure (v := .pointer r1.1) (w_some rfl rfl c9) rfl rfl (f_move rfl rfl) ?_
      refine EvK.pure (v := .bool r1.1.isNone) (w_some rfl rfl c9) rfl rfl (f_peqln Try.underlying25 rfl rfl rfl) ?_
      refine EvK.pure (v := .bool r1.1.isNone) (w_none rfl) rfl rfl (f_pickF rfl rfl c9 rfl) ?_
      refine EvK.nil ?_
      exact KE.mk r1.1.isNone ⟨rfl, rfl, trivial⟩ hF
end Go.Proofs.Ytgmihbchcmjmdaa

namespace Go.Proofs.Ytgmihbchcmjmdaa
open Go Go.Tr
set_option linter.unusedVariables false
set_option maxRecDepth 100000
set_option maxHeartbeats 400000
/-- spate/spatelaw11.within -/
def spatelaw11_within (a0 : Int) (a1 : Int) (h : H) (Q : Int → H → Prop) : Prop :=
  rd (remI a0 a1) fun x1 =>
  jn (fun (k1 : Int → H → Prop) =>
    if (decide (x1 < 0)) = true then
      k1 (IntKind.i64.wrap (x1 + a1)) h
    else
      k1 x1 h) fun s1 h1 =>
  Q s1 h1
theorem spatelaw11_within.sound {a0 : Int} {a1 : Int} {h : H} {Q : Int → H → Prop} (hF : spatelaw11_within a0 a1 h Q) :
    CallsH Try.prog 11 (List.toArray (α := Value) [.int .i64 a0, .int .i64 a1]) h fun v h' => ∃ x : Int, v = .int .i64 x ∧ Q x h' := by
  refine CallsH.of_body Try.func11 rfl 15 rfl rfl ?_
  refine WP.seq ?_
  refine WP.region ?_
  refine EvK.pure (v := .int .i64 0) (w_none rfl) rfl rfl (f_assign rfl rfl) ?_
  refine EvK.nil ?_
  refine WP.seq ?_
  refine WP.region ?_
  refine EvK.pure (v := .int .i64 a0) (w_none rfl) rfl rfl (f_move rfl rfl) ?_
  refine EvK.pure (v := .int .i64 a1) (w_none rfl) rfl rfl (f_move rfl rfl) ?_
  obtain ⟨x1, hx1, hF⟩ := hF
  refine EvK.pure (v := .int .i64 x1) (w_none rfl) rfl rfl (f_rem rfl rfl rfl hx1) ?_
  refine EvK.pure (v := .int .i64 x1) (w_none rfl) rfl rfl (f_assign rfl rfl) ?_
  refine EvK.nil ?_
  refine WP.joinF (fun (s1 : Int) => [(5, .int .i64 s1)]) hF ?_ ?_
  · intro s1 E0 h1 hF
    refine WP.seq ?_
    refine WP.region ?_
    refine EvK.pure (v := .int .i64 s1) (w_none rfl) rfl rfl (f_move rfl rfl) ?_
    refine EvK.pure (v := .int .i64 s1) (w_none rfl) rfl rfl (f_assign rfl rfl) ?_
    refine EvK.nil ?_
    refine WP.ret ?_
    exact Ret.mk (vs := [.int .i64 s1]) s1 ⟨rfl, trivial⟩ rfl hF
  · intro k1 hF
    refine WP.seq ?_
    refine WP.region ?_
    refine EvK.pure (v := .int .i64 x1) (w_none rfl) rfl rfl (f_move rfl rfl) ?_
    refine EvK.pure (v := .bool (decide (x1 < 0))) (w_none rfl) rfl rfl (f_lss rfl rfl rfl) ?_
    refine EvK.nil ?_
    rcases ite_inv hF with ⟨c1, hF⟩ | ⟨c1, hF⟩
    · refine WP.cond_true _ rfl c1 ?_
      refine WP.region ?_
      refine EvK.pure (v := .int .i64 x1) (w_none rfl) rfl rfl (f_move rfl rfl) ?_
      refine EvK.pure (v := .int .i64 a1) (w_none rfl) rfl rfl (f_move rfl rfl) ?_
      refine EvK.pure (v := .int .i64 (IntKind.i64.wrap (x1 + a1))) (w_none rfl) rfl rfl (f_add rfl rfl rfl) ?_
      refine EvK.pure (v := .int .i64 (IntKind.i64.wrap (x1 + a1))) (w_none rfl) rfl rfl (f_assign rfl rfl) ?_
      refine EvK.nil ?_
      exact KE.mk (IntKind.i64.wrap (x1 + a1)) ⟨rfl, trivial⟩ hF
    · refine WP.cond_false _ rfl c1 ?_
      refine WP.skip ?_
      exact KE.mk x1 ⟨rfl, trivial⟩ hF
end Go.Proofs.Ytgmihbchcmjmdaa

namespace Go.Proofs.Ytgmihbchcmjmdaa
open Go Go.Tr
set_option linter.unusedVariables false
set_option maxRecDepth 100000
set_option maxHeartbeats 400000
def spatelaw11_meets.b1 (p0 : Sl) (p1 : Sl) (s : Int × Int) (h : H) (K : (Int × Int) ⊕ (Unit ⊕ Bool) → H → Prop) : Prop :=
  jn (fun (k2 : Bool → H → Prop) =>
    if (decide (s.1 < (p0.len : Int))) = true then
      k2 (decide (s.2 < (p1.len : Int))) h
    else
      k2 false h) fun s2 h2 =>
  if s2 = true then
    rd (ixA 2 p0 s.1) fun q1 =>
    rd (ld (kI .i64) (q1.add 0) h2) fun x1 =>
    rd (ixA 2 p1 s.2) fun q2 =>
    rd (ld (kI .i64) (q2.add 0) h2) fun x2 =>
    if (decide (x1 < x2)) = true then
      K (.inl (IntKind.i64.wrap (s.1 + 1), s.2)) h2
    else
      rd (ixA 2 p1 s.2) fun q3 =>
      rd (ld (kI .i64) (q3.add 0) h2) fun x3 =>
      rd (ixA 2 p0 s.1) fun q4 =>
      rd (ld (kI .i64) (q4.add 0) h2) fun x4 =>
      if (decide (x3 < x4)) = true then
        K (.inl (s.1, IntKind.i64.wrap (s.2 + 1))) h2
      else
        jn (fun (k3 : Bool → H → Prop) =>
          rd (ixA 2 p0 s.1) fun q5 =>
          rd (ld kB (q5.add 1) h2) fun x5 =>
          if x5 = true then
            rd (ixA 2 p1 s.2) fun q6 =>
            rd (ld kB (q6.add 1) h2) fun x6 =>
            k3 (!x6) h2
          else
            k3 (!false) h2) fun s3 h3 =>
        if s3 = true then
          K (.inr (.inr true)) h3
        else
          K (.inl (IntKind.i64.wrap (s.1 + 1), IntKind.i64.wrap (s.2 + 1))) h3
  else
    K (.inr (.inl ())) h2
/-- spate/spatelaw11.meets -/
def spatelaw11_meets (a0 : Sl) (a1 : Sl) (h : H) (Q : Bool → H → Prop) : Prop :=
  jn (fun (k1 : Unit → H → Prop) =>
    loopE (spatelaw11_meets.b1 a0 a1) (0, 0) h (sumK (fun r1 hh => k1 r1 hh) (fun r2 hh => Q r2 hh))) fun s1 h1 =>
  Q false h1
theorem spatelaw11_meets.sound {a0 : Sl} {a1 : Sl} {h : H} {Q : Bool → H → Prop} (hF : spatelaw11_meets a0 a1 h Q) :
    CallsH Try.prog 13 (List.toArray (α := Value) [Sl.val a0, Sl.val a1]) h fun v h' => ∃ x : Bool, v = .bool x ∧ Q x h' := by
  refine CallsH.of_body Try.func13 rfl 62 rfl rfl ?_
  refine WP.seq ?_
  refine WP.region ?_
  refine EvK.pure (v := .bool false) (w_none rfl) rfl rfl (f_assign rfl rfl) ?_
  refine EvK.nil ?_
  refine WP.seq ?_
  refine WP.region ?_
  refine EvK.pure (v := .int .i64 0) (w_none rfl) rfl rfl (f_assign rfl rfl) ?_
  refine EvK.nil ?_
  refine WP.seq ?_
  refine WP.region ?_
  refine EvK.pure (v := .int .i64 0) (w_none rfl) rfl rfl (f_assign rfl rfl) ?_
  refine EvK.nil ?_
  refine WP.joinF (fun (s1 : Unit) => []) hF ?_ ?_
  · intro s1 E0 h1 hF
    refine WP.seq ?_
    refine WP.region ?_
    refine EvK.pure (v := .bool false) (w_none rfl) rfl rfl (f_assign rfl rfl) ?_
    refine EvK.nil ?_
    refine WP.ret ?_
    exact Ret.mk (vs := [.bool false]) false ⟨rfl, trivial⟩ rfl hF
  · intro k1 hF
    refine WP.block ?_
    refine WP.loopF (fun (s2 : Int × Int) => [(5, .int .i64 s2.1), (6, .int .i64 s2.2), (0, Sl.val a0), (1, Sl.val a1)]) hF ⟨rfl, rfl, rfl, rfl, trivial⟩ ?_
    intro k2 s2 E0 h2 hF
    refine WP.seq ?_
    refine WP.joinF (fun (s3 : Bool) => [(16, .bool s3), (0, Sl.val a0), (1, Sl.val a1), (5, .int .i64 s2.1), (6, .int .i64 s2.2)]) hF ?_ ?_
    · intro s3 E0 h3 hF
      rcases ite_inv hF with ⟨c1, hF⟩ | ⟨c1, hF⟩
      · refine WP.cond_true _ rfl c1 ?_
        refine WP.skip ?_
        refine WP.block ?_
        refine WP.block ?_
        refine WP.seq ?_
        refine WP.draw mixed [.pure, .pure, .pure, .pure, .read, .pure, .pure, .pure, .pure, .read, .pure, .pure] [[], [], [0, 1], [0, 1, 2], [0, 1, 2, 3], [], [], [5, 6], [5, 6, 7], [5, 6, 7, 8], [0, 1, 2, 3, 4, 5, 6, 7, 8, 9], [0, 1, 2, 3, 4, 5, 6, 7, 8, 9, 10]] [0, 1, 2, 3, 4, 5, 6, 7, 8, 9, 10, 11] (by kernel_rfl) (by kernel_rfl) ?_
        refine EvI.pure (v := Sl.val a0) rfl rfl (w_none rfl) rfl (f_move rfl rfl) ?_
        refine EvI.pure (v := .int .i64 s2.1) rfl rfl (w_none rfl) rfl (f_move rfl rfl) ?_
        obtain ⟨q1, hq1, hF⟩ := hF
        refine EvI.pure (v := .pointer (some q1)) rfl rfl (w_none rfl) rfl (f_indexAddr (s := a0) Try.underlying30 ty32.size rfl rfl rfl hq1) ?_
        refine EvI.pure (v := .pointer (some (q1.add 0))) rfl rfl (w_none rfl) rfl (f_fieldAddr fd32_0 rfl rfl) ?_
        obtain ⟨x1, hx1, hF⟩ := hF
        refine EvI.read (v := .int .i64 x1) rfl rfl (w_none rfl) rfl (f_load (kI .i64) ty3 rfl rfl hx1 rfl) ?_
        refine EvI.pure (v := Sl.val a1) rfl rfl (w_none rfl) rfl (f_move rfl rfl) ?_
        refine EvI.pure (v := .int .i64 s2.2) rfl rfl (w_none rfl) rfl (f_move rfl rfl) ?_
        obtain ⟨q2, hq2, hF⟩ := hF
        refine EvI.pure (v := .pointer (some q2)) rfl rfl (w_none rfl) rfl (f_indexAddr (s := a1) Try.underlying30 ty32.size rfl rfl rfl hq2) ?_
        refine EvI.pure (v := .pointer (some (q2.add 0))) rfl rfl (w_none rfl) rfl (f_fieldAddr fd32_0 rfl rfl) ?_
        obtain ⟨x2, hx2, hF⟩ := hF
        refine EvI.read (v := .int .i64 x2) rfl rfl (w_none rfl) rfl (f_load (kI .i64) ty3 rfl rfl hx2 rfl) ?_
        refine EvI.pure (v := .bool (decide (x1 < x2))) rfl rfl (w_none rfl) rfl (f_lss rfl rfl rfl) ?_
        refine EvI.pure (v := .bool (decide (x1 < x2))) rfl rfl (w_none rfl) rfl (f_assign rfl rfl) ?_
        refine EvI.nil ?_
        rcases ite_inv hF with ⟨c2, hF⟩ | ⟨c2, hF⟩
        · refine WP.cond_true _ rfl c2 ?_
          refine WP.region ?_
          refine EvK.pure (v := .int .i64 s2.1) (w_none rfl) rfl rfl (f_move rfl rfl) ?_
          refine EvK.pure (v := .int .i64 (IntKind.i64.wrap (s2.1 + 1))) (w_none rfl) rfl rfl (f_add rfl rfl rfl) ?_
          refine EvK.pure (v := .int .i64 (IntKind.i64.wrap (s2.1 + 1))) (w_none rfl) rfl rfl (f_assign rfl rfl) ?_
          refine EvK.nil ?_
          exact KE.mk (IntKind.i64.wrap (s2.1 + 1), s2.2) ⟨rfl, rfl, rfl, rfl, trivial⟩ hF
        · refine WP.cond_false _ rfl c2 ?_
          refine WP.seq ?_
          refine WP.draw mixed [.pure, .pure, .pure, .pure, .read, .pure, .pure, .pure, .pure, .read, .pure, .pure] [[], [], [0, 1], [0, 1, 2], [0, 1, 2, 3], [], [], [5, 6], [5, 6, 7], [5, 6, 7, 8], [0, 1, 2, 3, 4, 5, 6, 7, 8, 9], [0, 1, 2, 3, 4, 5, 6, 7, 8, 9, 10]] [0, 1, 2, 3, 4, 5, 6, 7, 8, 9, 10, 11] (by kernel_rfl) (by kernel_rfl) ?_
          refine EvI.pure (v := Sl.val a1) rfl rfl (w_none rfl) rfl (f_move rfl rfl) ?_
          refine EvI.pure (v := .int .i64 s2.2) rfl rfl (w_none rfl) rfl (f_move rfl rfl) ?_
          obtain ⟨q3, hq3, hF⟩ := hF
          refine EvI.pure (v := .pointer (some q3)) rfl rfl (w_none rfl) rfl (f_indexAddr (s := a1) Try.underlying30 ty32.size rfl rfl rfl hq3) ?_
          refine EvI.pure (v := .pointer (some (q3.add 0))) rfl rfl (w_none rfl) rfl (f_fieldAddr fd32_0 rfl rfl) ?_
          obtain ⟨x3, hx3, hF⟩ := hF
          refine EvI.read (v := .int .i64 x3) rfl rfl (w_none rfl) rfl (f_load (kI .i64) ty3 rfl rfl hx3 rfl) ?_
          refine EvI.pure (v := Sl.val a0) rfl rfl (w_none rfl) rfl (f_move rfl rfl) ?_
          refine EvI.pure (v := .int .i64 s2.1) rfl rfl (w_none rfl) rfl (f_move rfl rfl) ?_
          obtain ⟨q4, hq4, hF⟩ := hF
          refine EvI.pure (v := .pointer (some q4)) rfl rfl (w_none rfl) rfl (f_indexAddr (s := a0) Try.underlying30 ty32.size rfl rfl rfl hq4) ?_
          refine EvI.pure (v := .pointer (some (q4.add 0))) rfl rfl (w_none rfl) rfl (f_fieldAddr fd32_0 rfl rfl) ?_
          obtain ⟨x4, hx4, hF⟩ := hF
          refine EvI.read (v := .int .i64 x4) rfl rfl (w_none rfl) rfl (f_load (kI .i64) ty3 rfl rfl hx4 rfl) ?_
          refine EvI.pure (v := .bool (decide (x3 < x4))) rfl rfl (w_none rfl) rfl (f_lss rfl rfl rfl) ?_
          refine EvI.pure (v := .bool (decide (x3 < x4))) rfl rfl (w_none rfl) rfl (f_assign rfl rfl) ?_
          refine EvI.nil ?_
          rcases ite_inv hF with ⟨c3, hF⟩ | ⟨c3, hF⟩
          · refine WP.cond_true _ rfl c3 ?_
            refine WP.region ?_
            refine EvK.pure (v := .int .i64 s2.2) (w_none rfl) rfl rfl (f_move rfl rfl) ?_
            refine EvK.pure (v := .int .i64 (IntKind.i64.wrap (s2.2 + 1))) (w_none rfl) rfl rfl (f_add rfl rfl rfl) ?_
            refine EvK.pure (v := .int .i64 (IntKind.i64.wrap (s2.2 + 1))) (w_none rfl) rfl rfl (f_assign rfl rfl) ?_
            refine EvK.nil ?_
            exact KE.mk (s2.1, IntKind.i64.wrap (s2.2 + 1)) ⟨rfl, rfl, rfl, rfl, trivial⟩ hF
          · refine WP.cond_false _ rfl c3 ?_
            refine WP.seq ?_
            refine WP.joinF (fun (s4 : Bool) => [(29, .bool s4), (0, Sl.val a0), (1, Sl.val a1), (5, .int .i64 s2.1), (6, .int .i64 s2.2)]) hF ?_ ?_
            · intro s4 E0 h4 hF
              rcases ite_inv hF with ⟨c4, hF⟩ | ⟨c4, hF⟩
              · refine WP.cond_true _ rfl c4 ?_
                refine WP.seq ?_
                refine WP.region ?_
                refine EvK.pure (v := .bool true) (w_none rfl) rfl rfl (f_assign rfl rfl) ?_
                refine EvK.nil ?_
                refine WP.ret ?_
                exact Ret.mk (vs := [.bool true]) true ⟨rfl, trivial⟩ rfl hF
              · refine WP.cond_false _ rfl c4 ?_
                refine WP.skip ?_
                refine WP.seq ?_
                refine WP.region ?_
                refine EvK.pure (v := .int .i64 s2.1) (w_none rfl) rfl rfl (f_move rfl rfl) ?_
                refine EvK.pure (v := .int .i64 (IntKind.i64.wrap (s2.1 + 1))) (w_none rfl) rfl rfl (f_add rfl rfl rfl) ?_
                refine EvK.pure (v := .int .i64 (IntKind.i64.wrap (s2.1 + 1))) (w_none rfl) rfl rfl (f_assign rfl rfl) ?_
                refine EvK.nil ?_
                refine WP.region ?_
                refine EvK.pure (v := .int .i64 s2.2) (w_none rfl) rfl rfl (f_move rfl rfl) ?_
                refine EvK.pure (v := .int .i64 (IntKind.i64.wrap (s2.2 + 1))) (w_none rfl) rfl rfl (f_add rfl rfl rfl) ?_
                refine EvK.pure (v := .int .i64 (IntKind.i64.wrap (s2.2 + 1))) (w_none rfl) rfl rfl (f_assign rfl rfl) ?_
                refine EvK.nil ?_
                exact KE.mk (IntKind.i64.wrap (s2.1 + 1), IntKind.i64.wrap (s2.2 + 1)) ⟨rfl, rfl, rfl, rfl, trivial⟩ hF
            · intro k4 hF
              refine WP.region ?_
              refine EvK.pure (v := Sl.val a0) (w_none rfl) rfl rfl (f_move rfl rfl) ?_
              refine EvK.pure (v := .int .i64 s2.1) (w_none rfl) rfl rfl (f_move rfl rfl) ?_
              obtain ⟨q5, hq5, hF⟩ := hF
              refine EvK.pure (v := .pointer (some q5)) (w_none rfl) rfl rfl (f_indexAddr (s := a0) Try.underlying30 ty32.size rfl rfl rfl hq5) ?_
              refine EvK.pure (v := .pointer (some (q5.add 1))) (w_none rfl) rfl rfl (f_fieldAddr fd32_1 rfl rfl) ?_
              obtain ⟨x5, hx5, hF⟩ := hF
              refine EvK.read (v := .bool x5) (w_none rfl) rfl rfl (f_load kB ty4 rfl rfl hx5 rfl) ?_
              refine EvK.pure (v := .bool x5) (w_none rfl) rfl rfl (f_move rfl rfl) ?_
              rcases ite_inv hF with ⟨c5, hF⟩ | ⟨c5, hF⟩
              · refine EvK.pure (v := Sl.val a1) (w_some rfl rfl c5) rfl rfl (f_move rfl rfl) ?_
                refine EvK.pure (v := .int .i64 s2.2) (w_some rfl rfl c5) rfl rfl (f_move rfl rfl) ?_
                obtain ⟨q6, hq6, hF⟩ := hF
                refine EvK.pure (v := .pointer (some q6)) (w_some rfl rfl c5) rfl rfl (f_indexAddr (s := a1) Try.underlying30 ty32.size rfl rfl rfl hq6) ?_
                refine EvK.pure (v := .pointer (some (q6.add 1))) (w_some rfl rfl c5) rfl rfl (f_fieldAddr fd32_1 rfl rfl) ?_
                obtain ⟨x6, hx6, hF⟩ := hF
                refine EvK.read (v := .bool x6) (w_some rfl rfl c5) rfl rfl (f_load kB ty4 rfl rfl hx6 rfl) ?_
                refine EvK.pure (v := .bool x6) (w_none rfl) rfl rfl (f_pickT rfl rfl c5 rfl) ?_
                refine EvK.pure (v := .bool (!x6)) (w_none rfl) rfl rfl (f_not rfl rfl) ?_
                refine EvK.nil ?_
                exact KE.mk (!x6) ⟨rfl, rfl, rfl, rfl, rfl, trivial⟩ hF
              · refine EvK.not (w_not rfl rfl c5) rfl rfl ?_
                refine EvK.not (w_not rfl rfl c5) rfl rfl ?_
                refine EvK.not (w_not rfl rfl c5) rfl rfl ?_
                refine EvK.not (w_not rfl rfl c5) rfl rfl ?_
                refine EvK.not (w_not rfl rfl c5) rfl rfl ?_
                refine EvK.pure (v := .bool false) (w_none rfl) rfl rfl (f_pickF rfl rfl c5 rfl) ?_
                refine EvK.pure (v := .bool (!false)) (w_none rfl) rfl rfl (f_not rfl rfl) ?_
                refine EvK.nil ?_
                exact KE.mk (!false) ⟨rfl, rfl, rfl, rfl, rfl, trivial⟩ hF
      · refine WP.cond_false _ rfl c1 ?_
        refine WP.exit ?_
        exact KE.mk () trivial hF
    · intro k3 hF
      refine WP.region ?_
      refine EvK.pure (v := .int .i64 s2.1) (w_none rfl) rfl rfl (f_move rfl rfl) ?_
      refine EvK.pure (v := Sl.val a0) (w_none rfl) rfl rfl (f_move rfl rfl) ?_
      refine EvK.pure (v := .int .i64 (a0.len : Int)) (w_none rfl) rfl rfl (f_lenL (s := a0) Try.underlying30 rfl rfl) ?_
      refine EvK.pure (v := .bool (decide (s2.1 < (a0.len : Int)))) (w_none rfl) rfl rfl (f_lss rfl rfl rfl) ?_
      refine EvK.pure (v := .bool (decide (s2.1 < (a0.len : Int)))) (w_none rfl) rfl rfl (f_move rfl rfl) ?_
      rcases ite_inv hF with ⟨c6, hF⟩ | ⟨c6, hF⟩
      · refine EvK.pure (v := .int .i64 s2.2) (w_some rfl rfl c6) rfl rfl (f_move rfl rfl) ?_
        refine EvK.pure (v := Sl.val a1) (w_some rfl rfl c6) rfl rfl (f_move rfl rfl) ?_
        refine EvK.pure (v := .int .i64 (a1.len : Int)) (w_some rfl rfl c6) rfl rfl (f_lenL (s := a1) Try.underlying30 rfl rfl) ?_
        refine EvK.pure (v := .bool (decide (s2.2 < (a1.len : Int)))) (w_some rfl rfl c6) rfl rfl (f_lss rfl rfl rfl) ?_
        refine EvK.pure (v := .bool (decide (s2.2 < (a1.len : Int)))) (w_none rfl) rfl rfl (f_pickT rfl rfl c6 rfl) ?_
        refine EvK.nil ?_
        exact KE.mk (decide (s2.2 < (a1.len : Int))) ⟨rfl, rfl, rfl, rfl, rfl, trivial⟩ hF
      · refine EvK.not (w_not rfl rfl c6) rfl rfl ?_
        refine EvK.not (w_not rfl rfl c6) rfl rfl ?_
        refine EvK.not (w_not rfl rfl c6) rfl rfl ?_
        refine EvK.not (w_not rfl rfl c6) rfl rfl ?_
        refine EvK.pure (v := .bool false) (w_none rfl) rfl rfl (f_pickF rfl rfl c6 rfl) ?_
        refine EvK.nil ?_
        exact KE.mk false ⟨rfl, rfl, rfl, rfl, rfl, trivial⟩ hF
end Go.Proofs.Ytgmihbchcmjmdaa

namespace Go.Proofs.Ytgmihbchcmjmdaa
open Go Go.Tr
set_option linter.unusedVariables false
set_option maxRecDepth 100000
set_option maxHeartbeats 400000
def spatelaw11_SameLocks.b1 (p0 : Sl) (p1 : Sl) (s : Int) (h : H) (K : Int ⊕ (Unit ⊕ Bool) → H → Prop) : Prop :=
  if (decide (s < (p0.len : Int))) = true then
    rd (ixA 2 p0 s) fun q1 =>
    rd (ld k31 q1 h) fun x1 =>
    rd (ixA 2 p1 s) fun q2 =>
    rd (ld k31 q2 h) fun x2 =>
    if (!(eq32 x1 x2)) = true then
      K (.inr (.inr false)) h
    else
      K (.inl (IntKind.i64.wrap (s + 1))) h
  else
    K (.inr (.inl ())) h
/-- spate/spatelaw11.SameLocks -/
def spatelaw11_SameLocks (a0 : Sl) (a1 : Sl) (h : H) (Q : Bool → H → Prop) : Prop :=
  if ((a0.len : Int) != (a1.len : Int)) = true then
    Q false h
  else
    jn (fun (k1 : Unit → H → Prop) =>
      loopE (spatelaw11_SameLocks.b1 a0 a1) 0 h (sumK (fun r1 hh => k1 r1 hh) (fun r2 hh => Q r2 hh))) fun s1 h1 =>
    Q true h1
theorem spatelaw11_SameLocks.sound {a0 : Sl} {a1 : Sl} {h : H} {Q : Bool → H → Prop} (hF : spatelaw11_SameLocks a0 a1 h Q) :
    CallsH Try.prog 15 (List.toArray (α := Value) [Sl.val a0, Sl.val a1]) h fun v h' => ∃ x : Bool, v = .bool x ∧ Q x h' := by
  refine CallsH.of_body Try.func15 rfl 26 rfl rfl ?_
  refine WP.seq ?_
  refine WP.region ?_
  refine EvK.pure (v := .bool false) (w_none rfl) rfl rfl (f_assign rfl rfl) ?_
  refine EvK.nil ?_
  refine WP.seq ?_
  refine WP.seq ?_
  refine WP.region ?_
  refine EvK.pure (v := Sl.val a0) (w_none rfl) rfl rfl (f_move rfl rfl) ?_
  refine EvK.pure (v := .int .i64 (a0.len : Int)) (w_none rfl) rfl rfl (f_lenL (s := a0) Try.underlying30 rfl rfl) ?_
  refine EvK.pure (v := Sl.val a1) (w_none rfl) rfl rfl (f_move rfl rfl) ?_
  refine EvK.pure (v := .int .i64 (a1.len : Int)) (w_none rfl) rfl rfl (f_lenL (s := a1) Try.underlying30 rfl rfl) ?_
  refine EvK.pure (v := .bool ((a0.len : Int) != (a1.len : Int))) (w_none rfl) rfl rfl (f_neq rfl rfl rfl) ?_
  refine EvK.nil ?_
  rcases ite_inv hF with ⟨c1, hF⟩ | ⟨c1, hF⟩
  · refine WP.cond_true _ rfl c1 ?_
    refine WP.seq ?_
    refine WP.region ?_
    refine EvK.pure (v := .bool false) (w_none rfl) rfl rfl (f_assign rfl rfl) ?_
    refine EvK.nil ?_
    refine WP.ret ?_
    exact Ret.mk (vs := [.bool false]) false ⟨rfl, trivial⟩ rfl hF
  · refine WP.cond_false _ rfl c1 ?_
    refine WP.skip ?_
    refine WP.joinF (fun (s1 : Unit) => []) hF ?_ ?_
    · intro s1 E0 h1 hF
      refine WP.seq ?_
      refine WP.region ?_
      refine EvK.pure (v := .bool true) (w_none rfl) rfl rfl (f_assign rfl rfl) ?_
      refine EvK.nil ?_
      refine WP.ret ?_
      exact Ret.mk (vs := [.bool true]) true ⟨rfl, trivial⟩ rfl hF
    · intro k1 hF
      refine WP.seq ?_
      refine WP.region ?_
      refine EvK.pure (v := .int .i64 0) (w_none rfl) rfl rfl (f_assign rfl rfl) ?_
      refine EvK.nil ?_
      refine WP.block ?_
      refine WP.loopF (fun (s2 : Int) => [(5, .int .i64 s2), (0, Sl.val a0), (1, Sl.val a1)]) hF ⟨rfl, rfl, rfl, trivial⟩ ?_
      intro k2 s2 E0 h2 hF
      refine WP.seq ?_
      refine WP.seq ?_
      refine WP.region ?_
      refine EvK.pure (v := .int .i64 s2) (w_none rfl) rfl rfl (f_move rfl rfl) ?_
      refine EvK.pure (v := Sl.val a0) (w_none rfl) rfl rfl (f_move rfl rfl) ?_
      refine EvK.pure (v := .int .i64 (a0.len : Int)) (w_none rfl) rfl rfl (f_lenL (s := a0) Try.underlying30 rfl rfl) ?_
      refine EvK.pure (v := .bool (decide (s2 < (a0.len : Int)))) (w_none rfl) rfl rfl (f_lss rfl rfl rfl) ?_
      refine EvK.nil ?_
      rcases ite_inv hF with ⟨c2, hF⟩ | ⟨c2, hF⟩
      · refine WP.cond_true _ rfl c2 ?_
        refine WP.skip ?_
        refine WP.seq ?_
        refine WP.block ?_
        refine WP.seq ?_
        refine WP.draw mixed [.pure, .pure, .pure, .read, .pure, .pure, .pure, .read, .pure] [[], [], [0, 1], [0, 1, 2], [], [], [4, 5], [4, 5, 6], [0, 1, 2, 3, 4, 5, 6, 7]] [0, 1, 2, 3, 4, 5, 6, 7, 8] (by kernel_rfl) (by kernel_rfl) ?_
        refine EvI.pure (v := Sl.val a0) rfl rfl (w_none rfl) rfl (f_move rfl rfl) ?_
        refine EvI.pure (v := .int .i64 s2) rfl rfl (w_none rfl) rfl (f_move rfl rfl) ?_
        obtain ⟨q1, hq1, hF⟩ := hF
        refine EvI.pure (v := .pointer (some q1)) rfl rfl (w_none rfl) rfl (f_indexAddr (s := a0) Try.underlying30 ty32.size rfl rfl rfl hq1) ?_
        obtain ⟨x1, hx1, hF⟩ := hF
        refine EvI.read (v := k31.val x1) rfl rfl (w_none rfl) rfl (f_load k31 ty32 rfl rfl hx1 rfl) ?_
        refine EvI.pure (v := Sl.val a1) rfl rfl (w_none rfl) rfl (f_move rfl rfl) ?_
        refine EvI.pure (v := .int .i64 s2) rfl rfl (w_none rfl) rfl (f_move rfl rfl) ?_
        obtain ⟨q2, hq2, hF⟩ := hF
        refine EvI.pure (v := .pointer (some q2)) rfl rfl (w_none rfl) rfl (f_indexAddr (s := a1) Try.underlying30 ty32.size rfl rfl rfl hq2) ?_
        obtain ⟨x2, hx2, hF⟩ := hF
        refine EvI.read (v := k31.val x2) rfl rfl (w_none rfl) rfl (f_load k31 ty32 rfl rfl hx2 rfl) ?_
        refine EvI.pure (v := .bool (!(eq32 x1 x2))) rfl rfl (w_none rfl) rfl (f_neqOf rfl rfl rfl (guard32 _ _) rfl (eqIn32 _ _)) ?_
        refine EvI.nil ?_
        rcases ite_inv hF with ⟨c3, hF⟩ | ⟨c3, hF⟩
        · refine WP.cond_true _ rfl c3 ?_
          refine WP.seq ?_
          refine WP.region ?_
          refine EvK.pure (v := .bool false) (w_none rfl) rfl rfl (f_assign rfl rfl) ?_
          refine EvK.nil ?_
          refine WP.ret ?_
          exact Ret.mk (vs := [.bool false]) false ⟨rfl, trivial⟩ rfl hF
        · refine WP.cond_false _ rfl c3 ?_
          refine WP.skip ?_
          refine WP.region ?_
          refine EvK.pure (v := .int .i64 s2) (w_none rfl) rfl rfl (f_move rfl rfl) ?_
          refine EvK.pure (v := .int .i64 (IntKind.i64.wrap (s2 + 1))) (w_none rfl) rfl rfl (f_add rfl rfl rfl) ?_
          refine EvK.pure (v := .int .i64 (IntKind.i64.wrap (s2 + 1))) (w_none rfl) rfl rfl (f_assign rfl rfl) ?_
          refine EvK.nil ?_
          exact KE.mk (IntKind.i64.wrap (s2 + 1)) ⟨rfl, rfl, rfl, trivial⟩ hF
      · refine WP.cond_false _ rfl c2 ?_
        refine WP.exit ?_
        exact KE.mk () trivial hF
end Go.Proofs.Ytgmihbchcmjmdaa

namespace Go.Proofs.Ytgmihbchcmjmdaa
open Go Go.Tr
set_option linter.unusedVariables false
set_option maxRecDepth 100000
set_option maxHeartbeats 400000
def locks_Manager_Has.b1 (p0 : Option Addr) (p5 : Int) (p20 : Int) (s : Sl × Int) (h : H) (K : (Sl × Int) ⊕ Sl → H → Prop) : Prop :=
  if (decide (s.2 < p20)) = true then
    jn (fun (k2 : Sl → H → Prop) =>
      rd p0 fun q3 =>
      rd (ld kL (q3.add 1) h) fun x3 =>
      rd (ixA 2 x3 p5) fun q4 =>
      rd (ld kM (q4.add 1) h) fun x4 =>
      rd (mlk (kI .i64) 0 .i64 x4 s.2 h) fun x5 =>
      if (x5.1 != 0) = true then
        bs 32 1 (k31.enc (S31.mk s.2 (x5.1 == 1))) h fun x6 h4 =>
        ap k31.n 16 32 (k31.enc z31) s.1 x6 h4 fun x7 h5 =>
        k2 x7 h5
      else
        k2 s.1 h) fun s2 h3 =>
    K (.inl (s2, IntKind.i64.wrap (s.2 + 1))) h3
  else
    K (.inr s.1) h
/-- (*spate/locks.Manager).Has -/
def locks_Manager_Has (a0 : Option Addr) (a1 : Int) (h : H) (Q : Sl → H → Prop) : Prop :=
  rd a0 fun q1 =>
  rd (ld kL (q1.add 1) h) fun x1 =>
  locks_find x1 a1 h fun r1 h1 =>
  if (decide (r1 < 0)) = true then
    Q Sl.nil h1
  else
    jn (fun (k1 : Sl → H → Prop) =>
      rd a0 fun q2 =>
      rd (ld (kI .i64) (q2.add 0) h1) fun x2 =>
      loopE (locks_Manager_Has.b1 a0 r1 x2) (Sl.nil, 0) h1 (fun r2 hh => k1 r2 hh)) fun s1 h2 =>
    Q s1 h2
theorem locks_Manager_Has.sound {a0 : Option Addr} {a1 : Int} {h : H} {Q : Sl → H → Prop} (hF : locks_Manager_Has a0 a1 h Q) :
    CallsH Try.prog 16 (List.toArray (α := Value) [.pointer a0, .int .i64 a1]) h fun v h' => ∃ x : Sl, v = Sl.val x ∧ Q x h' := by
  refine CallsH.of_body Try.func16 rfl 45 rfl rfl ?_
  refine WP.seq ?_
  refine WP.region ?_
  refine EvK.pure (v := Sl.val Sl.nil) (w_none rfl) rfl rfl (f_assign rfl rfl) ?_
  refine EvK.nil ?_
  refine WP.seq ?_
  refine WP.region ?_
  refine EvK.pure (v := .pointer a0) (w_none rfl) rfl rfl (f_move rfl rfl) ?_
  obtain ⟨q1, hq1, hF⟩ := hF
  refine EvK.pure (v := .pointer (some q1)) (w_none rfl) rfl rfl (f_nilCheck rfl (congrArg Value.pointer hq1)) ?_
  refine EvK.pure (v := .pointer (some (q1.add 1))) (w_none rfl) rfl rfl (f_fieldAddr fd77_1 rfl rfl) ?_
  obtain ⟨x1, hx1, hF⟩ := hF
  refine EvK.read (v := Sl.val x1) (w_none rfl) rfl rfl (f_load kL ty75 rfl rfl hx1 rfl) ?_
  refine EvK.pure (v := .int .i64 a1) (w_none rfl) rfl rfl (f_move rfl rfl) ?_
  refine EvK.call (w_none rfl) rfl rfl (enterH Try.func43 rfl rfl rfl rfl (locks_find.sound hF)) ?_
  rintro _ h1 ⟨r1, rfl, hF⟩
  refine EvK.pure (v := .int .i64 r1) (w_none rfl) rfl rfl (f_assign rfl rfl) ?_
  refine EvK.nil ?_
  refine WP.seq ?_
  refine WP.seq ?_
  refine WP.region ?_
  refine EvK.pure (v := .int .i64 r1) (w_none rfl) rfl rfl (f_move rfl rfl) ?_
  refine EvK.pure (v := .bool (decide (r1 < 0))) (w_none rfl) rfl rfl (f_lss rfl rfl rfl) ?_
  refine EvK.nil ?_
  rcases ite_inv hF with ⟨c1, hF⟩ | ⟨c1, hF⟩
  · refine WP.cond_true _ rfl c1 ?_
    refine WP.seq ?_
    refine WP.region ?_
    refine EvK.pure (v := Sl.val Sl.nil) (w_none rfl) rfl rfl (f_assign rfl rfl) ?_
    refine EvK.nil ?_
    refine WP.ret ?_
    exact Ret.mk (vs := [Sl.val Sl.nil]) Sl.nil ⟨rfl, trivial⟩ rfl hF
  · refine WP.cond_false _ rfl c1 ?_
    refine WP.skip ?_
    refine WP.seq ?_
    refine WP.region ?_
    refine EvK.pure (v := Sl.val Sl.nil) (w_none rfl) rfl rfl (f_assign rfl rfl) ?_
    refine EvK.nil ?_
    refine WP.joinF (fun (s1 : Sl) => [(6, Sl.val s1)]) hF ?_ ?_
    · intro s1 E0 h2 hF
      refine WP.seq ?_
      refine WP.region ?_
      refine EvK.pure (v := Sl.val s1) (w_none rfl) rfl rfl (f_move rfl rfl) ?_
      refine EvK.pure (v := Sl.val s1) (w_none rfl) rfl rfl (f_assign rfl rfl) ?_
      refine EvK.nil ?_
      refine WP.ret ?_
      exact Ret.mk (vs := [Sl.val s1]) s1 ⟨rfl, trivial⟩ rfl hF
    · intro k1 hF
      refine WP.seq ?_
      refine WP.region ?_
      refine EvK.pure (v := .pointer a0) (w_none rfl) rfl rfl (f_move rfl rfl) ?_
      obtain ⟨q2, hq2, hF⟩ := hF
      refine EvK.pure (v := .pointer (some q2)) (w_none rfl) rfl rfl (f_nilCheck rfl (congrArg Value.pointer hq2)) ?_
      refine EvK.pure (v := .pointer (some (q2.add 0))) (w_none rfl) rfl rfl (f_fieldAddr fd77_0 rfl rfl) ?_
      obtain ⟨x2, hx2, hF⟩ := hF
      refine EvK.read (v := .int .i64 x2) (w_none rfl) rfl rfl (f_load (kI .i64) ty3 rfl rfl hx2 rfl) ?_
      refine EvK.pure (v := .int .i64 0) (w_none rfl) rfl rfl (f_move rfl rfl) ?_
      refine EvK.nil ?_
      refine WP.block ?_
      refine WP.loopF (fun (s2 : Sl × Int) => [(6, Sl.val s2.1), (21, .int .i64 s2.2), (0, .pointer a0), (5, .int .i64 r1), (20, .int .i64 x2)]) hF ⟨rfl, rfl, rfl, rfl, rfl, trivial⟩ ?_
      intro k2 s2 E0 h3 hF
      refine WP.seq ?_
      refine WP.region ?_
      refine EvK.pure (v := .bool (decide (s2.2 < x2))) (w_none rfl) rfl rfl (f_lss rfl rfl rfl) ?_
      refine EvK.nil ?_
      refine WP.seq ?_
      rcases ite_inv hF with ⟨c2, hF⟩ | ⟨c2, hF⟩
      · refine WP.cond_true _ rfl c2 ?_
        refine WP.skip ?_
        refine WP.joinF (fun (s3 : Sl) => [(6, Sl.val s3), (0, .pointer a0), (5, .int .i64 r1), (20, .int .i64 x2), (21, .int .i64 s2.2)]) hF ?_ ?_
        · intro s3 E0 h4 hF
          refine WP.region ?_
          refine EvK.pure (v := .int .i64 (IntKind.i64.wrap (s2.2 + 1))) (w_none rfl) rfl rfl (f_add rfl rfl rfl) ?_
          refine EvK.pure (v := .int .i64 (IntKind.i64.wrap (s2.2 + 1))) (w_none rfl) rfl rfl (f_move rfl rfl) ?_
          refine EvK.nil ?_
          exact KE.mk (s3, IntKind.i64.wrap (s2.2 + 1)) ⟨rfl, rfl, rfl, rfl, rfl, trivial⟩ hF
        · intro k3 hF
          refine WP.block ?_
          refine WP.seq ?_
          refine WP.region ?_
          refine EvK.pure (v := .int .i64 s2.2) (w_none rfl) rfl rfl (f_move rfl rfl) ?_
          refine EvK.pure (v := .int .i64 s2.2) (w_none rfl) rfl rfl (f_assign rfl rfl) ?_
          refine EvK.nil ?_
          refine WP.seq ?_
          refine WP.region ?_
          refine EvK.pure (v := .pointer a0) (w_none rfl) rfl rfl (f_move rfl rfl) ?_
          obtain ⟨q3, hq3, hF⟩ := hF
          refine EvK.pure (v := .pointer (some q3)) (w_none rfl) rfl rfl (f_nilCheck rfl (congrArg Value.pointer hq3)) ?_
          refine EvK.pure (v := .pointer (some (q3.add 1))) (w_none rfl) rfl rfl (f_fieldAddr fd77_1 rfl rfl) ?_
          obtain ⟨x3, hx3, hF⟩ := hF
          refine EvK.read (v := Sl.val x3) (w_none rfl) rfl rfl (f_load kL ty75 rfl rfl hx3 rfl) ?_
          refine EvK.pure (v := .int .i64 r1) (w_none rfl) rfl rfl (f_move rfl rfl) ?_
          obtain ⟨q4, hq4, hF⟩ := hF
          refine EvK.pure (v := .pointer (some q4)) (w_none rfl) rfl rfl (f_indexAddr (s := x3) Try.underlying75 ty86.size rfl rfl rfl hq4) ?_
          refine EvK.pure (v := .pointer (some (q4.add 1))) (w_none rfl) rfl rfl (f_fieldAddr fd86_1 rfl rfl) ?_
          obtain ⟨x4, hx4, hF⟩ := hF
          refine EvK.read (v := .map x4) (w_none rfl) rfl rfl (f_load kM ty78 rfl rfl hx4 rfl) ?_
          refine EvK.pure (v := .int .i64 s2.2) (w_none rfl) rfl rfl (f_move rfl rfl) ?_
          obtain ⟨x5, hx5, hF⟩ := hF
          refine EvK.read (v := .int .i64 x5.1) (w_none rfl) rfl rfl (f_lookup (K := (kI .i64)) (z := 0) rfl mt78 zero3 rfl rfl rfl hx5) ?_
          refine EvK.pure (v := .int .i64 x5.1) (w_none rfl) rfl rfl (f_assign rfl rfl) ?_
          refine EvK.nil ?_
          refine WP.seq ?_
          refine WP.region ?_
          refine EvK.pure (v := .int .i64 x5.1) (w_none rfl) rfl rfl (f_move rfl rfl) ?_
          refine EvK.pure (v := .bool (x5.1 != 0)) (w_none rfl) rfl rfl (f_neq rfl rfl rfl) ?_
          refine EvK.nil ?_
          rcases ite_inv hF with ⟨c3, hF⟩ | ⟨c3, hF⟩
          · refine WP.cond_true _ rfl c3 ?_
            refine WP.region ?_
            refine EvK.pure (v := Sl.val s2.1) (w_none rfl) rfl rfl (f_move rfl rfl) ?_
            refine EvK.pure (v := .int .i64 s2.2) (w_none rfl) rfl rfl (f_move rfl rfl) ?_
            refine EvK.pure (v := .int .i64 x5.1) (w_none rfl) rfl rfl (f_move rfl rfl) ?_
            refine EvK.pure (v := .bool (x5.1 == 1)) (w_none rfl) rfl rfl (f_eql rfl rfl rfl) ?_
            refine EvK.pure (v := k31.val (S31.mk s2.2 (x5.1 == 1))) (w_none rfl) rfl rfl (f_build (cells := k31.enc (S31.mk s2.2 (x5.1 == 1))) st32 rfl rfl rfl) ?_
            refine EvK.alloc (w_none rfl) rfl rfl (f_buildSliceF Try.underlying30 el32 (by decide) rfl rfl rfl hF) ?_
            rintro _ h5 ⟨x6, rfl, hF⟩
            refine EvK.run (w_none rfl) rfl rfl (f_appendE (s := s2.1) (x := x6) Try.underlying30 el32 rfl rfl rfl hF) ?_
            rintro _ h6 ⟨x7, rfl, hF⟩
            refine EvK.pure (v := Sl.val x7) (w_none rfl) rfl rfl (f_assign rfl rfl) ?_
            refine EvK.nil ?_
            exact KE.mk x7 ⟨rfl, rfl, rfl, rfl, rfl, trivial⟩ hF
          · refine WP.cond_false _ rfl c3 ?_
            refine WP.skip ?_
            exact KE.mk s2.1 ⟨rfl, rfl, rfl, rfl, rfl, trivial⟩ hF
      · refine WP.cond_false _ rfl c2 ?_
        refine WP.exit ?_
        exact KE.mk s2.1 ⟨rfl, trivial⟩ hF
end Go.Proofs.Ytgmihbchcmjmdaa

namespace Go.Proofs.Ytgmihbchcmjmdaa
open Go Go.Tr
set_option linter.unusedVariables false
set_option maxRecDepth 100000
set_option maxHeartbeats 400000
/-- spate/spatelaw11.without -/
def spatelaw11_without (a0 : Sl) (a1 : Int) (h : H) (Q : Sl → H → Prop) : Prop :=
  rd (slx 3 a0 none (some a1) none) fun x1 =>
  ap k34.n 40 35 (k34.enc z34) Sl.nil x1 h fun x2 h1 =>
  rd (slx 3 a0 (some (IntKind.i64.wrap (a1 + 1))) none none) fun x3 =>
  ap k34.n 40 35 (k34.enc z34) x2 x3 h1 fun x4 h2 =>
  Q x4 h2
theorem spatelaw11_without.sound {a0 : Sl} {a1 : Int} {h : H} {Q : Sl → H → Prop} (hF : spatelaw11_without a0 a1 h Q) :
    CallsH Try.prog 18 (List.toArray (α := Value) [Sl.val a0, .int .i64 a1]) h fun v h' => ∃ x : Sl, v = Sl.val x ∧ Q x h' := by
  refine CallsH.of_body Try.func18 rfl 17 rfl rfl ?_
  refine WP.seq ?_
  refine WP.region ?_
  refine EvK.pure (v := Sl.val Sl.nil) (w_none rfl) rfl rfl (f_assign rfl rfl) ?_
  refine EvK.nil ?_
  refine WP.seq ?_
  refine WP.region ?_
  refine EvK.pure (v := Sl.val Sl.nil) (w_none rfl) rfl rfl (f_assign rfl rfl) ?_
  refine EvK.nil ?_
  refine WP.seq ?_
  refine WP.region ?_
  refine EvK.pure (v := Sl.val Sl.nil) (w_none rfl) rfl rfl (f_move rfl rfl) ?_
  refine EvK.pure (v := Sl.val a0) (w_none rfl) rfl rfl (f_move rfl rfl) ?_
  refine EvK.pure (v := .int .i64 a1) (w_none rfl) rfl rfl (f_move rfl rfl) ?_
  obtain ⟨x1, hx1, hF⟩ := hF
  refine EvK.pure (v := Sl.val x1) (w_none rfl) rfl rfl (f_slice Try.underlying29 ty35.size rfl rfl bndV_none (bndV_some rfl) bndV_none hx1) ?_
  refine EvK.run (w_none rfl) rfl rfl (f_appendE (s := Sl.nil) (x := x1) Try.underlying29 el35 rfl rfl rfl hF) ?_
  rintro _ h1 ⟨x2, rfl, hF⟩
  refine EvK.pure (v := Sl.val x2) (w_none rfl) rfl rfl (f_assign rfl rfl) ?_
  refine EvK.nil ?_
  refine WP.seq ?_
  refine WP.region ?_
  refine EvK.pure (v := Sl.val x2) (w_none rfl) rfl rfl (f_move rfl rfl) ?_
  refine EvK.pure (v := Sl.val a0) (w_none rfl) rfl rfl (f_move rfl rfl) ?_
  refine EvK.pure (v := .int .i64 a1) (w_none rfl) rfl rfl (f_move rfl rfl) ?_
  refine EvK.pure (v := .int .i64 (IntKind.i64.wrap (a1 + 1))) (w_none rfl) rfl rfl (f_add rfl rfl rfl) ?_
  obtain ⟨x3, hx2, hF⟩ := hF
  refine EvK.pure (v := Sl.val x3) (w_none rfl) rfl rfl (f_slice Try.underlying29 ty35.size rfl rfl (bndV_some rfl) bndV_none bndV_none hx2) ?_
  refine EvK.run (w_none rfl) rfl rfl (f_appendE (s := x2) (x := x3) Try.underlying29 el35 rfl rfl rfl hF) ?_
  rintro _ h2 ⟨x4, rfl, hF⟩
  refine EvK.pure (v := Sl.val x4) (w_none rfl) rfl rfl (f_assign rfl rfl) ?_
  refine EvK.nil ?_
  refine WP.ret ?_
  exact Ret.mk (vs := [Sl.val x4]) x4 ⟨rfl, trivial⟩ rfl hF
end Go.Proofs.Ytgmihbchcmjmdaa
