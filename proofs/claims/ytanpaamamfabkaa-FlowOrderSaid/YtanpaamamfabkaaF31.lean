/- spate/table.Hash, as a predicate over the heap, and that the code comes to it. Printed by gen.py. -/
import Derived.Test.YtanpaamamfabkaaTy
namespace Go.Proofs.Ytanpaamamfabkaa
open Go Go.Tr
set_option linter.unusedVariables false
set_option maxRecDepth 100000
set_option maxHeartbeats 400000
def table_Hash.b1 (p7 : Sl) (p8 : Int) (s : Int × Int) (h : H) (K : (Int × Int) ⊕ Int → H → Prop) : Prop :=
  if (decide (s.2 < p8)) = true then
    rd (ixA 1 p7 s.2) fun q1 =>
    rd (ld (kI .u8) q1 h) fun x2 =>
    K (.inl (IntKind.u64.wrap ((bitI .xor .u64 s.1 (IntKind.u64.wrap x2)) * 1099511628211), IntKind.i64.wrap (s.2 + 1))) h
  else
    K (.inr s.1) h
/-- spate/table.Hash -/
def table_Hash (a0 : ByteArray) (h : H) (Q : Int → H → Prop) : Prop :=
  jn (fun (k1 : Int → H → Prop) =>
    s2b 5 a0 h fun x1 h2 =>
    loopE (table_Hash.b1 x1 (x1.len : Int)) (14695981039346656037, 0) h2 (fun r1 hh => k1 r1 hh)) fun s1 h1 =>
  Q s1 h1
theorem table_Hash.sound {a0 : ByteArray} {h : H} {Q : Int → H → Prop} (hF : table_Hash a0 h Q) :
    CallsH Try.prog 31 (List.toArray (α := Value) [.string a0]) h fun v h' => ∃ x : Int, v = .int .u64 x ∧ Q x h' := by
  refine CallsH.of_body Try.func31 rfl 20 rfl rfl ?_
  refine WP.seq ?_
  refine WP.region ?_
  refine EvK.pure (v := .int .u64 0) (w_none rfl) rfl rfl (f_assign rfl rfl) ?_
  refine EvK.nil ?_
  refine WP.seq ?_
  refine WP.region ?_
  refine EvK.pure (v := .int .u64 14695981039346656037) (w_none rfl) rfl rfl (f_assign rfl rfl) ?_
  refine EvK.nil ?_
  refine WP.joinF (fun (s1 : Int) => [(3, .int .u64 s1)]) hF ?_ ?_
  · intro s1 E0 h1 hF
    refine WP.seq ?_
    refine WP.region ?_
    refine EvK.pure (v := .int .u64 s1) (w_none rfl) rfl rfl (f_move rfl rfl) ?_
    refine EvK.pure (v := .int .u64 s1) (w_none rfl) rfl rfl (f_assign rfl rfl) ?_
    refine EvK.nil ?_
    refine WP.ret ?_
    exact Ret.mk (vs := [.int .u64 s1]) s1 ⟨rfl, trivial⟩ rfl hF
  · intro k1 hF
    refine WP.seq ?_
    refine WP.region ?_
    refine EvK.pure (v := .string a0) (w_none rfl) rfl rfl (f_move rfl rfl) ?_
    refine EvK.alloc (w_none rfl) rfl rfl (f_s2b Try.underlying9 Try.underlying88 Try.underlying5 rfl rfl hF) ?_
    rintro _ h2 ⟨x1, rfl, hF⟩
    refine EvK.pure (v := .int .i64 (x1.len : Int)) (w_none rfl) rfl rfl (f_lenL (s := x1) Try.underlying88 rfl rfl) ?_
    refine EvK.pure (v := .int .i64 0) (w_none rfl) rfl rfl (f_move rfl rfl) ?_
    refine EvK.nil ?_
    refine WP.block ?_
    refine WP.loopF (fun (s2 : Int × Int) => [(3, .int .u64 s2.1), (9, .int .i64 s2.2), (7, Sl.val x1), (8, .int .i64 (x1.len : Int))]) hF ⟨rfl, rfl, rfl, rfl, trivial⟩ ?_
    intro k2 s2 E0 h3 hF
    refine WP.seq ?_
    refine WP.region ?_
    refine EvK.pure (v := .bool (decide (s2.2 < (x1.len : Int)))) (w_none rfl) rfl rfl (f_lss rfl rfl rfl) ?_
    refine EvK.nil ?_
    refine WP.seq ?_
    rcases ite_inv hF with ⟨c1, hF⟩ | ⟨c1, hF⟩
    · refine WP.cond_true _ rfl c1 ?_
      refine WP.skip ?_
      refine WP.seq ?_
      refine WP.block ?_
      refine WP.seq ?_
      refine WP.region ?_
      obtain ⟨q1, hq1, hF⟩ := hF
      refine EvK.pure (v := .pointer (some q1)) (w_none rfl) rfl rfl (f_indexAddr (s := x1) Try.underlying88 ty5.size rfl rfl rfl hq1) ?_
      obtain ⟨x2, hx1, hF⟩ := hF
      refine EvK.read (v := .int .u8 x2) (w_none rfl) rfl rfl (f_load (kI .u8) ty5 rfl rfl hx1 rfl) ?_
      refine EvK.pure (v := .int .u8 x2) (w_none rfl) rfl rfl (f_assign rfl rfl) ?_
      refine EvK.nil ?_
      refine WP.region ?_
      refine EvK.pure (v := .int .u64 s2.1) (w_none rfl) rfl rfl (f_move rfl rfl) ?_
      refine EvK.pure (v := .int .u8 x2) (w_none rfl) rfl rfl (f_move rfl rfl) ?_
      refine EvK.pure (v := .int .u64 (IntKind.u64.wrap x2)) (w_none rfl) rfl rfl (f_convI Try.underlying5 Try.underlying72 rfl rfl) ?_
      refine EvK.pure (v := .int .u64 (bitI .xor .u64 s2.1 (IntKind.u64.wrap x2))) (w_none rfl) rfl rfl (f_xor rfl rfl rfl) ?_
      refine EvK.pure (v := .int .u64 (IntKind.u64.wrap ((bitI .xor .u64 s2.1 (IntKind.u64.wrap x2)) * 1099511628211))) (w_none rfl) rfl rfl (f_mul rfl rfl rfl) ?_
      refine EvK.pure (v := .int .u64 (IntKind.u64.wrap ((bitI .xor .u64 s2.1 (IntKind.u64.wrap x2)) * 1099511628211))) (w_none rfl) rfl rfl (f_assign rfl rfl) ?_
      refine EvK.nil ?_
      refine WP.region ?_
      refine EvK.pure (v := .int .i64 (IntKind.i64.wrap (s2.2 + 1))) (w_none rfl) rfl rfl (f_add rfl rfl rfl) ?_
      refine EvK.pure (v := .int .i64 (IntKind.i64.wrap (s2.2 + 1))) (w_none rfl) rfl rfl (f_move rfl rfl) ?_
      refine EvK.nil ?_
      exact KE.mk (IntKind.u64.wrap ((bitI .xor .u64 s2.1 (IntKind.u64.wrap x2)) * 1099511628211), IntKind.i64.wrap (s2.2 + 1)) ⟨rfl, rfl, rfl, rfl, trivial⟩ hF
    · refine WP.cond_false _ rfl c1 ?_
      refine WP.exit ?_
      exact KE.mk s2.1 ⟨rfl, trivial⟩ hF
end Go.Proofs.Ytanpaamamfabkaa
