/- spate/spateref15.Hash, as a predicate over the heap, and that the code comes to it. Printed by gen.py. -/
import Derived.Test.YtanpaamamfabkaaTy
namespace Go.Proofs.Ytanpaamamfabkaa
open Go Go.Tr
set_option linter.unusedVariables false
set_option maxRecDepth 100000
set_option maxHeartbeats 400000
def spateref15_Hash.b1 (p0 : ByteArray) (s : Int × Int) (h : H) (K : (Int × Int) ⊕ Int → H → Prop) : Prop :=
  if (decide (s.2 < (p0.size : Int))) = true then
    rd (ixS p0 s.2) fun x1 =>
    K (.inl (IntKind.u64.wrap ((bitI .xor .u64 s.1 (IntKind.u64.wrap x1)) * 1099511628211), IntKind.i64.wrap (s.2 + 1))) h
  else
    K (.inr s.1) h
/-- spate/spateref15.Hash -/
def spateref15_Hash (a0 : ByteArray) (h : H) (Q : Int → H → Prop) : Prop :=
  jn (fun (k1 : Int → H → Prop) =>
    loopE (spateref15_Hash.b1 a0) (14695981039346656037, 0) h (fun r1 hh => k1 r1 hh)) fun s1 h1 =>
  Q s1 h1
theorem spateref15_Hash.sound {a0 : ByteArray} {h : H} {Q : Int → H → Prop} (hF : spateref15_Hash a0 h Q) :
    CallsH Try.prog 32 (List.toArray (α := Value) [.string a0]) h fun v h' => ∃ x : Int, v = .int .u64 x ∧ Q x h' := by
  refine CallsH.of_body Try.func32 rfl 19 rfl rfl ?_
  refine WP.seq ?_
  refine WP.region ?_
  refine EvK.pure (v := .int .u64 0) (w_none rfl) rfl rfl (f_assign rfl rfl) ?_
  refine EvK.nil ?_
  refine WP.seq ?_
  refine WP.region ?_
  refine EvK.pure (v := .int .u64 14695981039346656037) (w_none rfl) rfl rfl (f_assign rfl rfl) ?_
  refine EvK.nil ?_
  refine WP.joinF (fun (s1 : Int) => [(3, .int .u64 s1)]) hF ?_ ?_
  · intro s1 E0 h1 hF
    refine WP.seq ?_
    refine WP.region ?_
    refine EvK.pure (v := .int .u64 s1) (w_none rfl) rfl rfl (f_move rfl rfl) ?_
    refine EvK.pure (v := .int .u64 s1) (w_none rfl) rfl rfl (f_assign rfl rfl) ?_
    refine EvK.nil ?_
    refine WP.ret ?_
    exact Ret.mk (vs := [.int .u64 s1]) s1 ⟨rfl, trivial⟩ rfl hF
  · intro k1 hF
    refine WP.seq ?_
    refine WP.region ?_
    refine EvK.pure (v := .int .i64 0) (w_none rfl) rfl rfl (f_assign rfl rfl) ?_
    refine EvK.nil ?_
    refine WP.block ?_
    refine WP.loopF (fun (s2 : Int × Int) => [(3, .int .u64 s2.1), (4, .int .i64 s2.2), (0, .string a0)]) hF ⟨rfl, rfl, rfl, trivial⟩ ?_
    intro k2 s2 E0 h2 hF
    refine WP.seq ?_
    refine WP.seq ?_
    refine WP.region ?_
    refine EvK.pure (v := .int .i64 s2.2) (w_none rfl) rfl rfl (f_move rfl rfl) ?_
    refine EvK.pure (v := .string a0) (w_none rfl) rfl rfl (f_move rfl rfl) ?_
    refine EvK.pure (v := .int .i64 (a0.size : Int)) (w_none rfl) rfl rfl (f_lenS Try.underlying9 rfl rfl) ?_
    refine EvK.pure (v := .bool (decide (s2.2 < (a0.size : Int)))) (w_none rfl) rfl rfl (f_lss rfl rfl rfl) ?_
    refine EvK.nil ?_
    rcases ite_inv hF with ⟨c1, hF⟩ | ⟨c1, hF⟩
    · refine WP.cond_true _ rfl c1 ?_
      refine WP.skip ?_
      refine WP.seq ?_
      refine WP.block ?_
      refine WP.region ?_
      refine EvK.pure (v := .int .u64 s2.1) (w_none rfl) rfl rfl (f_move rfl rfl) ?_
      refine EvK.pure (v := .string a0) (w_none rfl) rfl rfl (f_move rfl rfl) ?_
      refine EvK.pure (v := .int .i64 s2.2) (w_none rfl) rfl rfl (f_move rfl rfl) ?_
      obtain ⟨x1, hx1, hF⟩ := hF
      refine EvK.pure (v := .int .u8 x1) (w_none rfl) rfl rfl (f_indexS Try.underlying9 rfl rfl rfl hx1) ?_
      refine EvK.pure (v := .int .u64 (IntKind.u64.wrap x1)) (w_none rfl) rfl rfl (f_convI Try.underlying5 Try.underlying72 rfl rfl) ?_
      refine EvK.pure (v := .int .u64 (bitI .xor .u64 s2.1 (IntKind.u64.wrap x1))) (w_none rfl) rfl rfl (f_xor rfl rfl rfl) ?_
      refine EvK.pure (v := .int .u64 (IntKind.u64.wrap ((bitI .xor .u64 s2.1 (IntKind.u64.wrap x1)) * 1099511628211))) (w_none rfl) rfl rfl (f_mul rfl rfl rfl) ?_
      refine EvK.pure (v := .int .u64 (IntKind.u64.wrap ((bitI .xor .u64 s2.1 (IntKind.u64.wrap x1)) * 1099511628211))) (w_none rfl) rfl rfl (f_assign rfl rfl) ?_
      refine EvK.nil ?_
      refine WP.region ?_
      refine EvK.pure (v := .int .i64 s2.2) (w_none rfl) rfl rfl (f_move rfl rfl) ?_
      refine EvK.pure (v := .int .i64 (IntKind.i64.wrap (s2.2 + 1))) (w_none rfl) rfl rfl (f_add rfl rfl rfl) ?_
      refine EvK.pure (v := .int .i64 (IntKind.i64.wrap (s2.2 + 1))) (w_none rfl) rfl rfl (f_assign rfl rfl) ?_
      refine EvK.nil ?_
      exact KE.mk (IntKind.u64.wrap ((bitI .xor .u64 s2.1 (IntKind.u64.wrap x1)) * 1099511628211), IntKind.i64.wrap (s2.2 + 1)) ⟨rfl, rfl, rfl, trivial⟩ hF
    · refine WP.cond_false _ rfl c1 ?_
      refine WP.exit ?_
      exact KE.mk s2.1 ⟨rfl, trivial⟩ hF
end Go.Proofs.Ytanpaamamfabkaa
